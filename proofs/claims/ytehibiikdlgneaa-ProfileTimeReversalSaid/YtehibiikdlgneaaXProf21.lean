/- Plain laws of the profile: what the iterator hands over, without wraps; its end; two profiles one after the other; shifted starts; mirrored and reversed profiles. -/
import Derived.Test.YtehibiikdlgneaaXProfile
namespace Go.Proofs.Ytehibiikdlgneaa.Pure
open Go Go.RowKit Go.Proofs.Ytehibiikdlgneaa.Ticks
set_option linter.unusedSimpArgs false

theorem w64 {x : Int} (h0 : -9223372036854775808 ≤ x) (h1 : x ≤ 9223372036854775807) : wrap64 x = x := by unfold wrap64; omega
theorem wadd (x y : Int) : wrap64 (wrap64 x + y) = wrap64 (x + y) := by unfold wrap64; omega
theorem addw (x y : Int) : wrap64 (x + wrap64 y) = wrap64 (x + y) := by unfold wrap64; omega

def ps : Int → Int → Int → List Int → List (Int × Int × Int × Int)
  | _, _, _, [] => []
  | p, v, a, j :: l => (j, p + (v + (a + j)), v + (a + j), a + j) :: ps (p + (v + (a + j))) (v + (a + j)) (a + j) l
def fin : Int → Int → Int → List Int → Int × Int × Int
  | p, v, a, [] => (p, v, a)
  | p, v, a, j :: l => fin (p + (v + (a + j))) (v + (a + j)) (a + j) l
/-- Small enough that nothing wraps. -/
def Sm (p v a : Int) (l : List Int) : Prop := (∀ j ∈ l, -4096 ≤ j ∧ j ≤ 4096) ∧ (a.natAbs : Int) + 4096 * l.length ≤ 4294967296 ∧ (v.natAbs : Int) + 4294967296 * l.length ≤ 17592186044416 ∧ (p.natAbs : Int) + 17592186044416 * l.length ≤ 1152921504606846976
theorem Sm.next {p v a j : Int} {l : List Int} (h : Sm p v a (j :: l)) : -4096 ≤ j ∧ j ≤ 4096 ∧ Sm (p + (v + (a + j))) (v + (a + j)) (a + j) l ∧ wrap64 (a + j) = a + j ∧ wrap64 (v + (a + j)) = v + (a + j) ∧ wrap64 (p + (v + (a + j))) = p + (v + (a + j)) := by
  obtain ⟨h1, h2, h3, h4⟩ := h
  have hj := h1 j (by simp)
  simp only [List.length_cons, Int.natCast_add, Int.natCast_one] at h2 h3 h4
  have hl : (0 : Int) ≤ l.length := by omega
  refine ⟨hj.1, hj.2, ⟨fun x hx => h1 x (by simp [hx]), by omega, by omega, by omega⟩, w64 (by omega) (by omega), w64 (by omega) (by omega), w64 (by omega) (by omega)⟩
theorem tr_ps : ∀ {l : List Int} {p v a : Int}, Sm p v a l → tr p v a l = ps p v a l
  | [], _, _, _, _ => rfl
  | j :: l, p, v, a, h => by
    obtain ⟨_, _, h1, e1, e2, e3⟩ := h.next
    simp only [tr, ps, e1, e2, e3, tr_ps h1]
theorem lastOf_cons (p v a : Int) (x : Int × Int × Int × Int) (l : List (Int × Int × Int × Int)) : lastOf p v a (x :: l) = lastOf x.2.1 x.2.2.1 x.2.2.2 l := by
  cases l with
  | nil => rfl
  | cons y l => simp [lastOf, List.getLast?_cons]
theorem lastOf_ps : ∀ (l : List Int) (p v a : Int), lastOf p v a (ps p v a l) = fin p v a l
  | [], _, _, _ => rfl
  | j :: l, p, v, a => by
    rw [ps, lastOf_cons, fin]
    exact lastOf_ps l _ _ _
theorem lastOf_tr {l : List Int} {p v a : Int} (h : Sm p v a l) : lastOf p v a (tr p v a l) = fin p v a l := by rw [tr_ps h, lastOf_ps]
theorem ps_length : ∀ (l : List Int) (p v a : Int), (ps p v a l).length = l.length
  | [], _, _, _ => rfl
  | j :: l, p, v, a => by simp [ps, ps_length l]
theorem fin_bound : ∀ {l : List Int} {p v a : Int}, Sm p v a l → ((fin p v a l).1.natAbs : Int) ≤ 1152921504606846976 ∧ ((fin p v a l).2.1.natAbs : Int) ≤ 17592186044416 ∧ ((fin p v a l).2.2.natAbs : Int) ≤ 4294967296
  | [], p, v, a, h => by
    obtain ⟨_, h2, h3, h4⟩ := h
    simp only [fin, List.length_nil] at *
    omega
  | j :: l, p, v, a, h => by
    rw [fin]
    exact fin_bound h.next.2.2.1
/-- What each state of a small profile keeps to. -/
theorem ps_bound : ∀ {l : List Int} {p v a : Int}, Sm p v a l → ∀ q ∈ ps p v a l, (q.1.natAbs : Int) ≤ 4096 ∧ (q.2.1.natAbs : Int) ≤ 1152921504606846976 ∧ (q.2.2.1.natAbs : Int) ≤ 17592186044416 ∧ (q.2.2.2.natAbs : Int) ≤ 4294967296
  | [], _, _, _, _, q, hq => by simp [ps] at hq
  | j :: l, p, v, a, h, q, hq => by
    obtain ⟨h1, h2, h3, _⟩ := h.next
    rcases List.mem_cons.1 hq with rfl | hq
    · obtain ⟨_, k2, k3, k4⟩ := h3
      have : (0 : Int) ≤ l.length := by omega
      dsimp only
      omega
    · exact ps_bound h3 q hq

/-- One after the other (with the wraps). -/
theorem tr_append : ∀ (l k : List Int) (p v a : Int), tr p v a (l ++ k) = tr p v a l ++ tr (lastOf p v a (tr p v a l)).1 (lastOf p v a (tr p v a l)).2.1 (lastOf p v a (tr p v a l)).2.2 k
  | [], k, p, v, a => rfl
  | j :: l, k, p, v, a => by
    rw [List.cons_append, tr, tr, List.cons_append, lastOf_cons, tr_append l k]
theorem fin_append : ∀ (l k : List Int) (p v a : Int), fin p v a (l ++ k) = fin (fin p v a l).1 (fin p v a l).2.1 (fin p v a l).2.2 k
  | [], k, p, v, a => rfl
  | j :: l, k, p, v, a => by rw [List.cons_append, fin, fin, fin_append l k]

/-- 1 + 2 + .. + n. -/
def T : Nat → Int
  | 0 => 0
  | n + 1 => T n + (n + 1)
theorem T_le : ∀ n : Nat, 0 ≤ T n ∧ T n ≤ n * n
  | 0 => by simp [T]
  | n + 1 => by
    obtain ⟨h0, h1⟩ := T_le n
    simp only [T]
    have e : ((n + 1 : Nat) : Int) * ((n + 1 : Nat) : Int) = n * n + 2 * n + 1 := by
      rw [Int.natCast_add, Int.add_mul, Int.mul_add]
      omega
    rw [e]
    omega
/-- Another start. -/
theorem fin_shift : ∀ (l : List Int) (p v a q u b : Int), fin (p + q) (v + u) (a + b) l = ((fin p v a l).1 + (q + l.length * u + T l.length * b), (fin p v a l).2.1 + (u + l.length * b), (fin p v a l).2.2 + b)
  | [], p, v, a, q, u, b => by simp [fin, T]
  | j :: l, p, v, a, q, u, b => by
    have e1 : p + q + (v + u + (a + b + j)) = (p + (v + (a + j))) + (q + (u + b)) := by omega
    have e2 : v + u + (a + b + j) = (v + (a + j)) + (u + b) := by omega
    have e3 : a + b + j = a + j + b := by omega
    rw [fin, fin, e1, e2, e3, fin_shift l]
    simp only [List.length_cons, Int.natCast_add, Int.natCast_one, T, Int.add_mul, Int.mul_add, Int.one_mul]
    congr 1
    · omega
    · congr 1
      omega
theorem fin_neg : ∀ (l : List Int) (p v a : Int), fin (-p) (-v) (-a) (l.map (- ·)) = (-(fin p v a l).1, -(fin p v a l).2.1, -(fin p v a l).2.2)
  | [], p, v, a => rfl
  | j :: l, p, v, a => by
    have e1 : -p + (-v + (-a + -j)) = -(p + (v + (a + j))) := by omega
    have e2 : -v + (-a + -j) = -(v + (a + j)) := by omega
    have e3 : -a + -j = -(a + j) := by omega
    rw [List.map_cons, fin, fin, e1, e2, e3, fin_neg l]
theorem ps_neg : ∀ (l : List Int) (p v a : Int), ps (-p) (-v) (-a) (l.map (- ·)) = (ps p v a l).map fun x => (-x.1, -x.2.1, -x.2.2.1, -x.2.2.2)
  | [], p, v, a => rfl
  | j :: l, p, v, a => by
    have e1 : -p + (-v + (-a + -j)) = -(p + (v + (a + j))) := by omega
    have e2 : -v + (-a + -j) = -(v + (a + j)) := by omega
    have e3 : -a + -j = -(a + j) := by omega
    rw [List.map_cons, ps, ps, e1, e2, e3, ps_neg l]
    rfl
theorem fin_add : ∀ (l k : List Int) (p v a q u b : Int), l.length = k.length → fin (p + q) (v + u) (a + b) (List.zipWith (· + ·) l k) = ((fin p v a l).1 + (fin q u b k).1, (fin p v a l).2.1 + (fin q u b k).2.1, (fin p v a l).2.2 + (fin q u b k).2.2)
  | [], [], p, v, a, q, u, b, _ => rfl
  | [], _ :: _, _, _, _, _, _, _, h => by simp at h
  | _ :: _, [], _, _, _, _, _, _, h => by simp at h
  | i :: l, j :: k, p, v, a, q, u, b, h => by
    have e1 : p + q + (v + u + (a + b + (i + j))) = (p + (v + (a + i))) + (q + (u + (b + j))) := by omega
    have e2 : v + u + (a + b + (i + j)) = (v + (a + i)) + (u + (b + j)) := by omega
    have e3 : a + b + (i + j) = a + i + (b + j) := by omega
    rw [List.zipWith_cons_cons, fin, fin, fin, e1, e2, e3, fin_add l k _ _ _ _ _ _ (by simpa using h)]
theorem ps_append : ∀ (l k : List Int) (p v a : Int), ps p v a (l ++ k) = ps p v a l ++ ps (fin p v a l).1 (fin p v a l).2.1 (fin p v a l).2.2 k
  | [], k, p, v, a => rfl
  | j :: l, k, p, v, a => by rw [List.cons_append, ps, fin, ps, List.cons_append, ps_append l k]
/-- The states ahead of each jerk. -/
def pre : Int → Int → Int → List Int → List (Int × Int × Int × Int)
  | _, _, _, [] => []
  | p, v, a, j :: l => (j, p, v, a) :: pre (p + (v + (a + j))) (v + (a + j)) (a + j) l
/-- Backwards: from the mirrored end to the mirrored start. -/
theorem ps_rev (P : Int) : ∀ (l : List Int) (p v a : Int),
    ps (P - ((fin p v a l).1 - 2 * (fin p v a l).2.1 + (fin p v a l).2.2)) ((fin p v a l).2.1 - (fin p v a l).2.2) (-(fin p v a l).2.2) l.reverse = ((pre p v a l).map fun q => (q.1, P - (q.2.1 - 2 * q.2.2.1 + q.2.2.2), q.2.2.1 - q.2.2.2, -q.2.2.2)).reverse ∧
    fin (P - ((fin p v a l).1 - 2 * (fin p v a l).2.1 + (fin p v a l).2.2)) ((fin p v a l).2.1 - (fin p v a l).2.2) (-(fin p v a l).2.2) l.reverse = (P - (p - 2 * v + a), v - a, -a)
  | [], p, v, a => ⟨rfl, rfl⟩
  | j :: l, p, v, a => by
    obtain ⟨h1, h2⟩ := ps_rev P l (p + (v + (a + j))) (v + (a + j)) (a + j)
    rw [fin, List.reverse_cons, ps_append, fin_append, h1, h2]
    have e1 : P - (p + (v + (a + j)) - 2 * (v + (a + j)) + (a + j)) + (v - a) = P - (p - 2 * v + a) := by omega
    have e2 : v + (a + j) - (a + j) + -a = v - a := by omega
    have e3 : -(a + j) + j = -a := by omega
    simp only [ps, fin, pre, List.map_cons, List.reverse_cons, e3, e2, e1, and_self]
/-- The same limits hold backwards. -/
theorem within_rev (Ja Va Aa : Int → Prop) : ∀ (l : List Int) (p v a : Int),
    ((∀ q ∈ pre p v a l, Ja q.1 ∧ Va (q.2.2.1 - q.2.2.2) ∧ Aa q.2.2.2) ∧ (Va ((fin p v a l).2.1 - (fin p v a l).2.2) ∧ Aa (fin p v a l).2.2) ∧ Va (fin p v a l).2.1) ↔
    ((Va (v - a) ∧ Aa a) ∧ Va v ∧ ∀ q ∈ ps p v a l, Ja q.1 ∧ Va q.2.2.1 ∧ Aa q.2.2.2)
  | [], p, v, a => by simp [pre, ps, fin]
  | j :: l, p, v, a => by
    have ih := within_rev Ja Va Aa l (p + (v + (a + j))) (v + (a + j)) (a + j)
    have e : v + (a + j) - (a + j) = v := by omega
    rw [e] at ih
    simp only [pre, ps, fin, List.mem_cons, forall_eq_or_imp]
    constructor
    · rintro ⟨⟨⟨h1, h2, h3⟩, h4⟩, h5, h6⟩
      obtain ⟨⟨k1, k2⟩, k3, k4⟩ := ih.1 ⟨h4, h5, h6⟩
      exact ⟨⟨h2, h3⟩, k1, ⟨h1, k3, k2⟩, k4⟩
    · rintro ⟨⟨h2, h3⟩, k1, ⟨h1, k3, k2⟩, k4⟩
      obtain ⟨h4, h5, h6⟩ := ih.2 ⟨⟨k1, k2⟩, k3, k4⟩
      exact ⟨⟨⟨h1, h2, h3⟩, h4⟩, h5, h6⟩
end Go.Proofs.Ytehibiikdlgneaa.Pure
