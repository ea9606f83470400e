/- The search of a ramp gives the best jerks to rest; there always are some, twelve at most. -/
import Derived.Test.YthmddbffhbfmeaaXSearch
import Derived.Test.YthmddbffhbfmeaaXRamp
import Derived.KernelRfl
namespace Go.Proofs.Ythmddbffhbfmeaa.Pure
set_option linter.unusedSimpArgs false
set_option linter.unusedVariables false
open Go Go.RowKit Go.Proofs.Ythmddbffhbfmeaa.Ramp Go.Proofs.Ythmddbffhbfmeaa.Motion Go.Proofs.Ythmddbffhbfmeaa.Search

abbrev Va := Int × Int
def tk (s : Va) (j : Int) : Va := (s.1 + (s.2 + j), s.2 + j)
def okA (A : Int) (s : Va) : Prop := -A ≤ s.2 ∧ s.2 ≤ A
instance (A : Int) (s : Va) : Decidable (okA A s) := by unfold okA; infer_instance
def okL (A J : Int) : Prop := 1 ≤ A ∧ A ≤ 4 ∧ 1 ≤ J ∧ J ≤ 2
/-- Ways within the limits. -/
abbrev VPath (A J : Int) (s : Va) (l : List Int) (s' : Va) : Prop := GPath J tk (okA A) s l s'
theorem r64 {x : Int} (h0 : -9223372036854775808 ≤ x) (h1 : x ≤ 9223372036854775807) : wrap64 x = x := by unfold wrap64; omega

/-! ### There is a way of at most twelve ticks: a table, looked through by the kernel -/
def tab : List Nat := [0, 0, 0, 436911, 109227, 109226, 0, 0, 0, 0, 0, 0, 109231, 27307, 27306, 0, 0, 0, 0, 0, 0, 27311, 6827, 6826, 0, 0, 0, 0, 0, 0, 6831, 1707, 1706, 0, 0, 0, 0, 0, 0, 1711, 427, 426, 0, 0, 0, 0, 0, 0, 431, 107, 106, 0, 0, 0, 0, 0, 0, 111, 27, 26, 0, 0, 0, 0, 0, 0, 31, 7, 6, 0, 0, 0, 0, 0, 0, 3, 0, 1, 0, 0, 0, 0, 0, 0, 14, 13, 53, 0, 0, 0, 0, 0, 0, 58, 57, 229, 0, 0, 0, 0, 0, 0, 234, 233, 933, 0, 0, 0, 0, 0, 0, 938, 937, 3749, 0, 0, 0, 0, 0, 0, 3754, 3753, 15013, 0, 0, 0, 0, 0, 0, 15018, 15017, 60069, 0, 0, 0, 0, 0, 0, 60074, 60073, 240293, 0, 0, 0, 0, 0, 0, 240298, 240297, 961189, 0, 0, 0, 0, 0, 93119, 5823, 1455, 1454, 1453, 0, 0, 0, 0, 23295, 5871, 1467, 363, 362, 0, 0, 0, 0, 23487, 1471, 367, 366, 365, 0, 0, 0, 0, 5887, 1519, 379, 91, 90, 0, 0, 0, 0, 6079, 383, 95, 94, 93, 0, 0, 0, 0, 1535, 431, 107, 23, 22, 0, 0, 0, 0, 1727, 111, 27, 26, 25, 0, 0, 0, 0, 447, 31, 7, 6, 5, 0, 0, 0, 0, 127, 3, 0, 1, 213, 0, 0, 0, 0, 15, 14, 13, 53, 917, 0, 0, 0, 0, 59, 58, 57, 229, 3733, 0, 0, 0, 0, 62, 61, 233, 933, 3925, 0, 0, 0, 0, 238, 237, 245, 981, 15189, 0, 0, 0, 0, 250, 249, 949, 3797, 15957, 0, 0, 0, 0, 954, 953, 997, 3989, 61013, 0, 0, 0, 0, 1002, 1001, 3813, 15253, 64085, 0, 0, 0, 0, 3818, 3817, 4005, 16021, 244309, 0, 0, 0, 359423, 22527, 5823, 1455, 351, 350, 349, 0, 0, 360191, 23295, 5871, 1467, 363, 362, 361, 0, 0, 90111, 23487, 1471, 367, 366, 87, 86, 0, 0, 93183, 5887, 1519, 379, 91, 90, 89, 0, 0, 93951, 6079, 383, 95, 94, 93, 101, 0, 0, 23551, 1535, 431, 107, 23, 22, 21, 0, 0, 24319, 1727, 111, 27, 26, 25, 853, 0, 0, 6143, 447, 31, 7, 6, 5, 3669, 0, 0, 6911, 127, 3, 0, 1, 213, 14933, 0, 0, 1791, 15, 14, 13, 53, 917, 15701, 0, 0, 511, 59, 58, 57, 229, 3733, 60757, 0, 0, 63, 62, 61, 233, 933, 3925, 63829, 0, 0, 239, 238, 237, 245, 981, 15189, 244053, 0, 0, 251, 250, 249, 949, 3797, 15957, 256341, 0, 0, 254, 253, 953, 997, 3989, 61013, 259413, 0, 0, 958, 957, 1001, 3813, 15253, 64085, 980309, 0, 0, 1006, 1005, 1013, 4005, 16021, 64853, 1029461, 0, 5697535, 359423, 22527, 5823, 1455, 351, 350, 349, 357, 5700607, 360191, 23295, 5871, 1467, 363, 362, 361, 405, 1425407, 90111, 23487, 1471, 367, 366, 87, 86, 85, 1437695, 93183, 5887, 1519, 379, 91, 90, 89, 3413, 1440767, 93951, 6079, 383, 95, 94, 93, 101, 14677, 360447, 23551, 1535, 431, 107, 23, 22, 21, 59733, 372735, 24319, 1727, 111, 27, 26, 25, 853, 62805, 375807, 6143, 447, 31, 7, 6, 5, 3669, 243029, 94207, 6911, 127, 3, 0, 1, 213, 14933, 255317, 97279, 1791, 15, 14, 13, 53, 917, 15701, 976213, 24575, 511, 59, 58, 57, 229, 3733, 60757, 1025365, 27647, 63, 62, 61, 233, 933, 3925, 63829, 1037653, 7167, 239, 238, 237, 245, 981, 15189, 244053, 3921237, 2047, 251, 250, 249, 949, 3797, 15957, 256341, 4117845, 255, 254, 253, 953, 997, 3989, 61013, 259413, 4166997, 959, 958, 957, 1001, 3813, 15253, 64085, 980309, 15701333, 1007, 1006, 1005, 1013, 4005, 16021, 64853, 1029461, 16487765]
def unpack : Nat → Nat → List Int
  | 0, _ => []
  | k + 1, n => if n = 0 then [] else (((n % 4 : Nat) : Int) - 2) :: unpack k (n / 4)
def goes (A : Int) : List Int → Va → Bool
  | [], s => s.1 == 0 && s.2 == 0
  | j :: l, s => (decide (-1 ≤ j) && decide (j ≤ 1)) && ((decide (-A ≤ s.2 + j) && decide (s.2 + j ≤ A)) && goes A l (s.1 + (s.2 + j), s.2 + j))
def chk (i : Nat) : Bool :=
  let A : Int := ((i / 9 / 17 : Nat) : Int) + 1
  let v : Int := ((i / 9 % 17 : Nat) : Int) - 8
  let a : Int := ((i % 9 : Nat) : Int) - 4
  (decide (a < -A) || decide (A < a)) || goes A (unpack 12 (tab.getD i 0)) (v, a)
theorem chk_all : (List.range 612).all chk = true := by kernel_rfl
theorem unpack_length : ∀ k n, (unpack k n).length ≤ k
  | 0, _ => Nat.le_refl _
  | k + 1, n => by
    rw [unpack]
    split
    · exact Nat.zero_le _
    · have := unpack_length k (n / 4)
      simp
      exact this
theorem goes_path {A J : Int} (hJ : 1 ≤ J) {l : List Int} : ∀ {s : Va}, goes A l s = true → VPath A J s l (0, 0) := by
  induction l with
  | nil =>
    intro s h
    simp only [goes, Bool.and_eq_true, beq_iff_eq] at h
    exact Prod.ext h.1 h.2
  | cons j l ih =>
    intro s h
    simp only [goes, Bool.and_eq_true, decide_eq_true_eq] at h
    exact ⟨by omega, by omega, ⟨h.2.1.1, h.2.1.2⟩, ih h.2.2⟩
theorem way12 {A J : Int} (h : okL A J) {v a : Int} (hv : -8 ≤ v ∧ v ≤ 8) (ha : -A ≤ a ∧ a ≤ A) : ∃ l, l.length ≤ 12 ∧ VPath A J (v, a) l (0, 0) := by
  obtain ⟨h1, h2, h3, h4⟩ := h
  obtain ⟨i, hi⟩ : ∃ i : Nat, (i : Int) = ((A - 1) * 17 + (v + 8)) * 9 + (a + 4) := ⟨(((A - 1) * 17 + (v + 8)) * 9 + (a + 4)).toNat, by omega⟩
  have hlt : i < 612 := by omega
  have hc := List.all_eq_true.1 chk_all i (List.mem_range.2 hlt)
  have e1 : ((i / 9 / 17 : Nat) : Int) + 1 = A := by omega
  have e2 : ((i / 9 % 17 : Nat) : Int) - 8 = v := by omega
  have e3 : ((i % 9 : Nat) : Int) - 4 = a := by omega
  unfold chk at hc
  simp only [e1, e2, e3] at hc
  rw [decide_eq_false (by omega), decide_eq_false (by omega)] at hc
  exact ⟨_, unpack_length _ _, goes_path h3 (by simpa using hc)⟩

/-! ### Bounds -/
theorem vpath_bound {A J : Int} (hA : A ≤ 4) {l : List Int} : ∀ {s s' : Va}, VPath A J s l s' → okA A s → okA A s' ∧ -(4 * (l.length : Int)) ≤ s'.1 - s.1 ∧ s'.1 - s.1 ≤ 4 * (l.length : Int) := by
  induction l with
  | nil => intro s s' h hs; cases h; exact ⟨hs, by simp⟩
  | cons j l ih =>
    intro s s' h hs
    obtain ⟨h1, h2, h3⟩ := ih h.2.2.2 h.2.2.1
    have := h.2.2.1
    unfold okA at this
    simp only [tk] at h2 h3 this
    refine ⟨h1, ?_, ?_⟩ <;> (simp only [List.length_cons, Int.natCast_add, Int.natCast_one]; omega)
def bnd : Nat → Int
  | 0 => 1
  | n + 1 => bnd n * 8 + 5
theorem code_le_bnd (n : Nat) : ∀ l : List Int, l.length = n → small l → code 1 l ≤ bnd n := by
  induction n with
  | zero =>
    intro l h _
    rw [List.length_eq_zero_iff.1 h]
    exact Int.le_refl _
  | succ n ih =>
    intro l h hs
    have hne : l ≠ [] := fun e => by rw [e] at h; simp at h
    obtain ⟨k, j, rfl⟩ : ∃ k j, l = k ++ [j] := ⟨l.dropLast, l.getLast hne, (List.dropLast_concat_getLast hne).symm⟩
    have hj := hs j (by simp)
    have := ih k (by simpa using h) (fun x hx => hs x (by simp [hx]))
    rw [code_snoc]
    show _ ≤ bnd n * 8 + 5
    omega
theorem bnd_mono : ∀ n m, n ≤ m → bnd n ≤ bnd m ∧ 1 ≤ bnd n
  | 0, 0, _ => ⟨Int.le_refl _, Int.le_refl _⟩
  | 0, m + 1, _ => by
    have h := bnd_mono 0 m (by omega)
    have h1 : bnd (m + 1) = bnd m * 8 + 5 := rfl
    have h0 : bnd 0 = 1 := rfl
    omega
  | n + 1, 0, h => by omega
  | n + 1, m + 1, h => by
    have h := bnd_mono n m (by omega)
    have h1 : bnd (m + 1) = bnd m * 8 + 5 := rfl
    have h0 : bnd (n + 1) = bnd n * 8 + 5 := rfl
    omega
theorem bnd12 : bnd 12 = 117804817261 := by decide
/-- The nodes as the program has them. -/
abbrev Nv := Nd Va
def rw_ (z : Nv) : Rw := ⟨z.m.1, z.m.2, z.fr, z.jk⟩
theorem rw_at {Z : List Nv} {i : Nat} {z : Nv} (h : Z[i]? = some z) : rdR (Z.map rw_) (i : Int) = rw_ z := by
  rw [rdR, Int.toNat_natCast, List.getD_eq_getElem?_getD, List.getElem?_map, h]
  rfl
theorem lt_at {Z : List Nv} {i : Nat} {z : Nv} (h : Z[i]? = some z) : i < Z.length := by
  apply Decidable.byContradiction
  intro hc
  rw [List.getElem?_eq_none (by omega)] at h
  cases h
section
variable {A J : Int} {s0 : Va} {Z : List Nv} {i : Nat} {b : Int}
abbrev RInv (A J : Int) (s0 : Va) (Z : List Nv) (i : Nat) (b : Int) : Prop := Inv J tk (okA A) s0 Z i b
theorem code_index (h : RInv A J s0 Z i b) (hJ : J ≤ 2) : ∀ (t : Nat) (z : Nv), Z[t]? = some z → (t : Int) + 1 ≤ code 1 z.seq
  | 0, z, hz => by
    have := (code_ge ((h.path 0 z hz).small hJ) (c := 1) (Int.le_refl 1)).1
    simpa using this
  | t + 1, z, hz => by
    have hlt := lt_at hz
    obtain ⟨y, hy⟩ : ∃ y : Nv, Z[t]? = some y := ⟨Z[t], List.getElem?_eq_getElem (by omega)⟩
    have h1 := code_index h hJ t y hy
    have h2 := h.ord t (t + 1) y z (by omega) hy hz
    omega
theorem seq_index (h : RInv A J s0 Z i b) : ∀ (n t : Nat) (z : Nv), t < n → Z[t]? = some z → z.seq.length ≤ t
  | 0, t, z, h0, _ => by omega
  | n + 1, t, z, h0, hz => by
    rcases h.back hz with ⟨_, rfl, e⟩ | ⟨u, y, hu, _, hy, e⟩
    · rw [e]; exact Nat.le_refl _
    · have := seq_index h n u y (by omega) hy
      rw [e]
      simp
      omega
theorem back_seq (h : RInv A J s0 Z i b) (hZ : Z.length ≤ 1000000000000) : ∀ (n t : Nat) (z : Nv) (acc : List Int) (k : Nat), t < n → Z[t]? = some z → t < k → acc.length + z.seq.length ≤ 999999999999 →
    backL k (Z.map rw_) (t : Int) acc = some (z.seq ++ acc.reverse)
  | 0, t, z, acc, k, h0, _, _, _ => by omega
  | n + 1, t, z, acc, k, h0, hz, hk, hl => by
    obtain ⟨k, rfl⟩ : ∃ k', k = k' + 1 := ⟨k - 1, by omega⟩
    have hlt := lt_at hz
    have c0 : 0 ≤ (t : Int) ∧ (t : Int) < ((Z.map rw_).length : Int) := ⟨by omega, by rw [List.length_map]; omega⟩
    rw [backL, if_pos c0, rw_at hz]
    rcases h.back hz with ⟨hf, rfl, e⟩ | ⟨u, y, hu, hf, hy, e⟩
    · rw [if_neg (show ¬ (rw_ z).fr ≥ 0 from by show ¬ z.fr ≥ 0; omega), e]
      rfl
    · have el : z.seq.length = y.seq.length + 1 := by rw [e]; simp
      rw [if_pos (show (rw_ z).fr ≥ 0 from by show z.fr ≥ 0; omega), if_pos (by omega), show (rw_ z).fr = (u : Int) from hf, show (rw_ z).jk = z.jk from rfl]
      rw [back_seq h hZ n u y (acc ++ [z.jk]) k (by omega) hy (by omega) (by simp; omega), e]
      simp
/-- All jerks of a node tried. -/
theorem step_seq (hL : okL A J) {G : Int} (hG : G ≤ 117804817261) (h0 : -8 ≤ s0.1 ∧ s0.1 ≤ 8) (ha0 : okA A s0) {x : Nv} (hxl : x.seq.length ≤ 12) (hcx : code 1 x.seq ≤ G) : ∀ (r : Nat) (Z : List Nv) (b : Int) (k : Nat), RInv A J s0 Z i b → Z[i]? = some x → b + r = J + 1 → -J ≤ b → r < k →
    ∃ Z', stepL A J (i : Int) k (Z.map rw_) b = some (Z'.map rw_) ∧ RInv A J s0 Z' i (J + 1) ∧ (∀ (t : Nat) (z : Nv), Z[t]? = some z → Z'[t]? = some z)
  | 0, Z, b, k, h, hx, hr, hb, hk => by
    obtain ⟨k, rfl⟩ : ∃ k', k = k' + 1 := ⟨k - 1, by omega⟩
    have e : b = J + 1 := by omega
    exact ⟨Z, by rw [stepL, if_neg (by omega)], by rw [← e]; exact h, fun t z hz => hz⟩
  | r + 1, Z, b, k, h, hx, hr, hb, hk => by
    obtain ⟨k, rfl⟩ : ∃ k', k = k' + 1 := ⟨k - 1, by omega⟩
    obtain ⟨l1, l2, l3, l4⟩ := id hL
    have hlt := lt_at hx
    have hbJ : b ≤ J := by omega
    obtain ⟨m1, m2, m3⟩ := vpath_bound (by omega) (h.path i x hx) ha0
    unfold okA at m1
    have hzl : (Z.length : Int) ≤ 1000000000000 - 1 := by
      obtain ⟨y, hy⟩ : ∃ y : Nv, Z[Z.length - 1]? = some y := ⟨Z[Z.length - 1], List.getElem?_eq_getElem (by omega)⟩
      have h1 := code_index h l4 _ y hy
      have h2 := h.below l4 hx hb hy
      omega
    have ea : wrap64 (x.m.2 + b) = x.m.2 + b := r64 (by omega) (by omega)
    have ev : wrap64 (x.m.1 + (x.m.2 + b)) = x.m.1 + (x.m.2 + b) := by clear ea; exact r64 (by omega) (by omega)
    have eA : wrap64 (-A) = -A := by clear ea ev; exact r64 (by omega) (by omega)
    have eb : wrap64 (b + 1) = b + 1 := by clear ea ev eA; exact r64 (by omega) (by omega)
    have hrow : rdR (Z.map rw_) (i : Int) = rw_ x := rw_at hx
    have hmem : (x.m.1 + (x.m.2 + b), x.m.2 + b) ∈ (Z.map rw_).map stOf ↔ ∃ (t : Nat) (z : Nv), Z[t]? = some z ∧ z.m = tk x.m b := by
      rw [List.map_map]
      constructor
      · intro hm
        obtain ⟨z, hz, e⟩ := List.mem_map.1 hm
        obtain ⟨t, ht, rfl⟩ := List.getElem_of_mem hz
        exact ⟨t, Z[t], List.getElem?_eq_getElem ht, e⟩
      · rintro ⟨t, z, hz, e⟩
        exact List.mem_map.2 ⟨z, List.mem_of_getElem? hz, e⟩
    rw [stepL, if_pos hbJ, hrow, show (rw_ x).a = x.m.2 from rfl, show (rw_ x).v = x.m.1 from rfl, ea, ev, eA, eb]
    clear ea ev eA eb
    by_cases hp : okA A (tk x.m b)
    · by_cases hn : ∃ (t : Nat) (z : Nv), Z[t]? = some z ∧ z.m = tk x.m b
      · rw [if_neg (fun hc => hc.2.2 (hmem.2 hn))]
        exact step_seq hL hG h0 ha0 hxl hcx r Z (b + 1) k (h.skip l4 hx hb (fun _ => hn)) hx (by omega) (by omega) (by omega)
      · rw [if_pos ⟨hp.1, hp.2, fun hm => hn (hmem.1 hm)⟩, if_pos (by rw [List.length_map]; omega)]
        have h' := h.push l4 hx hb hbJ hp (fun t z hz e => hn ⟨t, z, hz, e⟩)
        obtain ⟨Z', e1, e2, e3⟩ := step_seq hL hG h0 ha0 hxl hcx r (Z ++ [⟨tk x.m b, i, b, x.seq ++ [b]⟩]) (b + 1) k h' (by rw [List.getElem?_append_left hlt]; exact hx) (by omega) (by omega) (by omega)
        refine ⟨Z', ?_, e2, fun t z hz => e3 t z (by rw [List.getElem?_append_left (lt_at hz)]; exact hz)⟩
        rw [← e1, List.map_append]
        rfl
    · rw [if_neg (fun hc => hp ⟨hc.1, hc.2.1⟩)]
      exact step_seq hL hG h0 ha0 hxl hcx r Z (b + 1) k (h.skip l4 hx hb (fun hq => absurd hq hp)) hx (by omega) (by omega) (by omega)
end
/-- What the search gives. -/
def BestV (A J : Int) (s0 : Va) (l : List Int) : Prop := VPath A J s0 l (0, 0) ∧ ∀ k, VPath A J s0 k (0, 0) → l.length ≤ k.length ∧ (k.length = l.length → ¬ lexLt k l)
theorem ramp_loop {A J : Int} (hL : okL A J) {s0 : Va} (h0 : -8 ≤ s0.1 ∧ s0.1 ≤ 8) (ha0 : okA A s0) {g : List Int} (hg : VPath A J s0 g (0, 0)) (hgl : g.length ≤ 12) : ∀ (n : Nat) (Z : List Nv) (i k : Nat), (code 1 g) - i ≤ n → n < k → RInv A J s0 Z i (-J) → (∀ (t : Nat) (z : Nv), t < i → Z[t]? = some z → z.m ≠ (0, 0)) →
    ∃ l, rampL A J k (Z.map rw_) (i : Int) = some l ∧ BestV A J s0 l := by
  obtain ⟨l1, l2, l3, l4⟩ := id hL
  have hG : code 1 g ≤ 117804817261 := by
    have h1 := code_le_bnd g.length g rfl (hg.small l4)
    have h2 := (bnd_mono g.length 12 hgl).1
    rw [bnd12] at h2
    omega
  intro n
  induction n with
  | zero =>
    intro Z i k hi hk h ng
    exfalso
    rcases h.rival l4 _ g _ rfl hg with ⟨t, z, hz, e, hc⟩ | ⟨t, z, ht, hz, hc⟩
    · have := code_index h l4 t z hz
      by_cases c : t < i
      · exact ng t z c hz e
      · omega
    · have := code_index h l4 t z hz
      omega
  | succ n ih =>
    intro Z i k hi hk h ng
    obtain ⟨k, rfl⟩ : ∃ k', k = k' + 1 := ⟨k - 1, by omega⟩
    obtain ⟨t, y, ht, hy, hcy⟩ : ∃ (t : Nat) (y : Nv), i ≤ t ∧ Z[t]? = some y ∧ code 1 y.seq ≤ code 1 g := by
      rcases h.rival l4 _ g _ rfl hg with ⟨t, z, hz, e, hc⟩ | ⟨t, z, ht, hz, hc⟩
      · by_cases c : t < i
        · exact absurd e (ng t z c hz)
        · exact ⟨t, z, by omega, hz, hc⟩
      · exact ⟨t, z, ht, hz, hc⟩
    have hlt : i < Z.length := by have := lt_at hy; omega
    obtain ⟨x, hx⟩ : ∃ x : Nv, Z[i]? = some x := ⟨Z[i], List.getElem?_eq_getElem hlt⟩
    have hcx : code 1 x.seq ≤ code 1 g := by
      by_cases c : t = i
      · subst c; rw [hx] at hy; cases hy; exact hcy
      · have := h.ord i t x y (by omega) hx hy; omega
    have hxl : x.seq.length ≤ 12 := by
      have := (best_of_code ((h.path i x hx).small l4) (hg.small l4) hcx).1
      omega
    have hix := code_index h l4 i x hx
    have c0 : (i : Int) < ((Z.map rw_).length : Int) := by rw [List.length_map]; omega
    rw [rampL, if_pos c0, rw_at hx]
    by_cases cg : stOf (rw_ x) = (0, 0)
    · have cg' : x.m = (0, 0) := cg
      rw [if_pos cg]
      have hzl : Z.length ≤ 1000000000000 := by
        obtain ⟨y, hy⟩ : ∃ y : Nv, Z[Z.length - 1]? = some y := ⟨Z[Z.length - 1], List.getElem?_eq_getElem (by omega)⟩
        have h1 := code_index h l4 _ y hy
        have h2 := h.below l4 hx (Int.le_refl _) hy
        omega
      have hb := back_seq h hzl (i + 1) i x [] FUEL (by omega) hx (by unfold FUEL; omega) (by simp; omega)
      refine ⟨x.seq, by simpa using hb, ?_, fun q hq => ?_⟩
      · have := h.path i x hx
        rw [cg'] at this
        exact this
      · rw [← cg'] at hq
        exact h.best l4 hx hq
    · have cg' : x.m ≠ (0, 0) := cg
      rw [if_neg cg]
      obtain ⟨r, hr⟩ : ∃ r : Nat, -J + (r : Int) = J + 1 := ⟨(2 * J + 1).toNat, by omega⟩
      obtain ⟨Z', e1, e2, e3⟩ := step_seq hL hG h0 ha0 hxl hcx r Z (-J) FUEL h hx hr (Int.le_refl _) (by unfold FUEL; omega)
      obtain ⟨l, hl, hB⟩ := ih Z' (i + 1) k (by omega) (by omega) (e2.next (by omega)) (fun t z ht hz => by
        by_cases c : t = i
        · subst c
          have := e3 t x hx
          rw [hz] at this
          cases this
          exact cg'
        · have hlt' : t < Z.length := by omega
          have := e3 t Z[t] (List.getElem?_eq_getElem hlt')
          rw [hz] at this
          have e : z = Z[t] := Option.some.inj this
          rw [e]
          exact ng t Z[t] (by omega) (List.getElem?_eq_getElem hlt'))
      refine ⟨l, ?_, hB⟩
      have eJ : wrap64 (-J) = -J := r64 (by omega) (by omega)
      have ei : wrap64 ((i : Int) + 1) = ((i + 1 : Nat) : Int) := by clear eJ; rw [r64 (by omega) (by omega)]; rfl
      rw [eJ, e1, Option.bind_some, ei]
      exact hl
theorem ramp_ok {A J v a : Int} (hL : okL A J) (hv : -8 ≤ v ∧ v ≤ 8) (ha : -A ≤ a ∧ a ≤ A) : ∃ l, rampL A J FUEL [⟨v, a, -1, 0⟩] 0 = some l ∧ BestV A J (v, a) l ∧ l.length ≤ 12 := by
  obtain ⟨g, hgl, hg⟩ := way12 hL hv ha
  have hG : code 1 g ≤ 117804817261 := by
    have h1 := code_le_bnd g.length g rfl (hg.small hL.2.2.2)
    have h2 := (bnd_mono g.length 12 hgl).1
    rw [bnd12] at h2
    omega
  have hg1 := (code_ge (hg.small hL.2.2.2) (c := 1) (Int.le_refl 1)).1
  obtain ⟨l, hl, hB⟩ := ramp_loop hL (s0 := (v, a)) hv ha hg hgl (code 1 g).toNat [⟨(v, a), -1, 0, []⟩] 0 FUEL (by omega) (by unfold FUEL; omega) (Inv.start _ _ _ _ _) (fun t z ht _ => by omega)
  exact ⟨l, hl, hB, by have := (hB.2 g hg).1; omega⟩
theorem BestV.unique {A J : Int} {s0 : Va} {l k : List Int} (h : BestV A J s0 l) (h' : BestV A J s0 k) : l = k := by
  have h1 := h.2 k h'.1
  have h2 := h'.2 l h.1
  have e : l.length = k.length := by omega
  rcases lexLt_total e with x | x | x
  · exact absurd x (h2.2 e)
  · exact x
  · exact absurd x (h1.2 e.symm)
end Go.Proofs.Ythmddbffhbfmeaa.Pure
