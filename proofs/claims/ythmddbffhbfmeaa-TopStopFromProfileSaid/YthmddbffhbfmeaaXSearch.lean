/- A search in breadth, told plainly: the nodes stand in the order of the jerks that lead to them (shorter first, then lexicographically), so the first one at the goal has the best jerks. No program in sight. -/
import Derived.Test.YthmddbffhbfmeaaXMotion
namespace Go.Proofs.Ythmddbffhbfmeaa.Search
open Go.Proofs.Ythmddbffhbfmeaa.Motion

/-- Jerks as one number: shorter sequences have smaller numbers, among equally long ones the lexicographically smaller. -/
def code (c : Int) : List Int → Int
  | [] => c
  | j :: l => code (c * 8 + (j + 3)) l
theorem code_append (c : Int) (l k : List Int) : code c (l ++ k) = code (code c l) k := by
  induction l generalizing c with
  | nil => rfl
  | cons j l ih => exact ih _
theorem code_snoc (c : Int) (l : List Int) (j : Int) : code c (l ++ [j]) = code c l * 8 + (j + 3) := code_append c l [j]
def small (l : List Int) : Prop := ∀ j ∈ l, -2 ≤ j ∧ j ≤ 2
theorem small_snoc {l : List Int} {j : Int} (h : small l) (h0 : -2 ≤ j) (h1 : j ≤ 2) : small (l ++ [j]) := by
  intro x hx
  rcases List.mem_append.1 hx with hx | hx
  · exact h x hx
  · rw [List.mem_singleton.1 hx]; exact ⟨h0, h1⟩
theorem code_lt {l k : List Int} (hl : small l) (hk : small k) (e : l.length = k.length) : ∀ {c c' : Int}, c < c' → code c l < code c' k := by
  induction l generalizing k with
  | nil =>
    intro c c' h
    cases k with
    | nil => exact h
    | cons => simp at e
  | cons a l ih =>
    intro c c' h
    cases k with
    | nil => simp at e
    | cons b k =>
      have ha := hl a List.mem_cons_self
      have hb := hk b List.mem_cons_self
      exact ih (fun x hx => hl x (List.mem_cons_of_mem _ hx)) (fun x hx => hk x (List.mem_cons_of_mem _ hx)) (by simpa using e) (by omega)
theorem code_lex {l k : List Int} (hl : small l) (hk : small k) (e : l.length = k.length) (h : lexLt l k) : ∀ (c : Int), code c l < code c k := by
  induction l generalizing k with
  | nil => exact absurd h (by cases k <;> simp [lexLt])
  | cons a l ih =>
    intro c
    cases k with
    | nil => simp at e
    | cons b k =>
      have e' : l.length = k.length := by simpa using e
      have hl' : small l := fun x hx => hl x (List.mem_cons_of_mem _ hx)
      have hk' : small k := fun x hx => hk x (List.mem_cons_of_mem _ hx)
      rcases h with h | ⟨rfl, h⟩
      · exact code_lt hl' hk' e' (by omega)
      · exact ih hl' hk' e' h _
theorem code_ge {l : List Int} (hl : small l) : ∀ {c : Int}, 1 ≤ c → c ≤ code c l ∧ (l ≠ [] → c < code c l) := by
  induction l with
  | nil => intro c h; exact ⟨Int.le_refl _, fun h => absurd rfl h⟩
  | cons a l ih =>
    intro c h
    have ha := hl a List.mem_cons_self
    have := (ih (fun x hx => hl x (List.mem_cons_of_mem _ hx)) (c := c * 8 + (a + 3)) (by omega)).1
    show c ≤ code (c * 8 + (a + 3)) l ∧ _
    refine ⟨by omega, fun _ => ?_⟩
    show c < code (c * 8 + (a + 3)) l
    omega
theorem code_shorter {l k : List Int} (hl : small l) (hk : small k) (e : l.length < k.length) : code 1 l < code 1 k := by
  have h1 : k = k.take (k.length - l.length) ++ k.drop (k.length - l.length) := (List.take_append_drop _ _).symm
  have s1 : small (k.take (k.length - l.length)) := fun x hx => hk x (List.mem_of_mem_take hx)
  have s2 : small (k.drop (k.length - l.length)) := fun x hx => hk x (List.mem_of_mem_drop hx)
  rw [h1, code_append]
  refine code_lt hl s2 (by simp; omega) ((code_ge s1 (Int.le_refl 1)).2 ?_)
  intro h
  have := congrArg List.length h
  simp at this
  omega
theorem best_of_code {l k : List Int} (hl : small l) (hk : small k) (h : code 1 l ≤ code 1 k) : l.length ≤ k.length ∧ (k.length = l.length → ¬ lexLt k l) := by
  constructor
  · apply Decidable.byContradiction
    intro hn
    have := code_shorter hk hl (by omega)
    omega
  · intro e hx
    have := code_lex hk hl e hx 1
    omega

/-! ### The search -/
variable {σ α : Type}

/-- Jerks within J lead from a state to another one, each state on the way as p allows. -/
def GPath (J : Int) (tick : σ → Int → σ) (p : σ → Prop) : σ → List Int → σ → Prop
  | m, [], m' => m = m'
  | m, j :: l, m' => -J ≤ j ∧ j ≤ J ∧ p (tick m j) ∧ GPath J tick p (tick m j) l m'
theorem GPath.snoc {J : Int} {tick : σ → Int → σ} {p : σ → Prop} {l : List Int} {j : Int} (h0 : -J ≤ j) (h1 : j ≤ J) : ∀ {m m' : σ}, GPath J tick p m l m' → p (tick m' j) → GPath J tick p m (l ++ [j]) (tick m' j) := by
  induction l with
  | nil => intro m m' h hp; cases h; exact ⟨h0, h1, hp, rfl⟩
  | cons a l ih => intro m m' h hp; exact ⟨h.1, h.2.1, h.2.2.1, ih h.2.2.2 hp⟩
theorem GPath.small {J : Int} {tick : σ → Int → σ} {p : σ → Prop} (hJ : J ≤ 2) {l : List Int} : ∀ {m m' : σ}, GPath J tick p m l m' → small l := by
  induction l with
  | nil => intro _ _ _ x hx; cases hx
  | cons a l ih =>
    intro m m' h x hx
    rcases List.mem_cons.1 hx with rfl | hx
    · have := h.1; have := h.2.1; omega
    · exact ih h.2.2.2 x hx
theorem GPath.last {J : Int} {tick : σ → Int → σ} {p : σ → Prop} {l : List Int} {j : Int} : ∀ {m m' : σ}, GPath J tick p m (l ++ [j]) m' → ∃ m1, GPath J tick p m l m1 ∧ -J ≤ j ∧ j ≤ J ∧ p (tick m1 j) ∧ m' = tick m1 j := by
  induction l with
  | nil => intro m m' h; exact ⟨m, rfl, h.1, h.2.1, h.2.2.1, h.2.2.2.symm⟩
  | cons a l ih =>
    intro m m' h
    obtain ⟨m1, h1, h2⟩ := ih h.2.2.2
    exact ⟨m1, ⟨h.1, h.2.1, h.2.2.1, h1⟩, h2⟩

/-- A node: a state, the index of the one ahead (-1: none), the jerk; beside it, unseen by the program, the jerks from the start. -/
structure Nd (σ : Type) where
  m : σ
  fr : Int
  jk : Int
  seq : List Int

/-- What holds while node i is being opened and all jerks below b have been tried. -/
structure Inv (J : Int) (tick : σ → Int → σ) (p : σ → Prop) (s0 : σ) (Z : List (Nd σ)) (i : Nat) (b : Int) : Prop where
  root : ∃ z, Z[0]? = some z ∧ z.m = s0 ∧ z.fr = -1 ∧ z.seq = []
  node : ∀ (t : Nat) (z : Nd σ), Z[t + 1]? = some z → ∃ (u : Nat) (y : Nd σ), u < t + 1 ∧ Z[u]? = some y ∧ z.fr = (u : Int) ∧ -J ≤ z.jk ∧ z.jk ≤ J ∧ z.seq = y.seq ++ [z.jk] ∧ z.m = tick y.m z.jk ∧ p z.m ∧ (u < i ∨ (u = i ∧ z.jk < b))
  path : ∀ (t : Nat) (z : Nd σ), Z[t]? = some z → GPath J tick p s0 z.seq z.m
  ord : ∀ (t t' : Nat) (z z' : Nd σ), t < t' → Z[t]? = some z → Z[t']? = some z' → code 1 z.seq < code 1 z'.seq
  dist : ∀ (t t' : Nat) (z z' : Nd σ), Z[t]? = some z → Z[t']? = some z' → z.m = z'.m → t = t'
  done : ∀ (t : Nat) (z : Nd σ) (j : Int), Z[t]? = some z → -J ≤ j → j ≤ J → (t < i ∨ (t = i ∧ j < b)) → p (tick z.m j) → ∃ (t' : Nat) (z' : Nd σ), Z[t']? = some z' ∧ z'.m = tick z.m j ∧ code 1 z'.seq ≤ code 1 z.seq * 8 + (j + 3)

theorem Inv.start (J : Int) (tick : σ → Int → σ) (p : σ → Prop) (s0 : σ) (jk : Int) : Inv J tick p s0 [⟨s0, -1, jk, []⟩] 0 (-J) where
  root := ⟨_, rfl, rfl, rfl, rfl⟩
  node t z h := by simp at h
  path t z h := by
    cases t with
    | zero => cases h; rfl
    | succ t => simp at h
  ord t t' z z' h h1 h2 := by
    cases t' with
    | zero => omega
    | succ t => simp at h2
  dist t t' z z' h h' _ := by
    cases t with
    | succ t => simp at h
    | zero =>
      cases t' with
      | zero => rfl
      | succ t => simp at h'
  done t z j h h0 h1 h2 := by omega

section
variable {J : Int} {tick : σ → Int → σ} {p : σ → Prop} {s0 : σ} {Z : List (Nd σ)} {i : Nat} {b : Int}
/-- A node's jerks as a number lie below what node i gives with jerk b. -/
theorem Inv.below (h : Inv J tick p s0 Z i b) (hJ : J ≤ 2) {x : Nd σ} (hx : Z[i]? = some x) (hb : -J ≤ b) {t : Nat} {z : Nd σ} (hz : Z[t]? = some z) : code 1 z.seq < code 1 x.seq * 8 + (b + 3) := by
  have hxs := (code_ge ((h.path i x hx).small hJ) (c := 1) (Int.le_refl 1)).1
  cases t with
  | zero =>
    obtain ⟨z0, e0, _, _, es⟩ := h.root
    rw [hz] at e0
    cases e0
    rw [es]
    show (1 : Int) < _
    omega
  | succ t =>
    obtain ⟨u, y, hu, hy, _, j0, j1, es, _, _, hc⟩ := h.node t z hz
    rw [es, code_snoc]
    rcases hc with hc | ⟨rfl, hc⟩
    · have := h.ord u i y x hc hy hx
      omega
    · rw [hy] at hx
      cases hx
      omega
theorem Inv.skip (h : Inv J tick p s0 Z i b) (hJ : J ≤ 2) {x : Nd σ} (hx : Z[i]? = some x) (hb : -J ≤ b) (hm : p (tick x.m b) → ∃ (t : Nat) (z : Nd σ), Z[t]? = some z ∧ z.m = tick x.m b) : Inv J tick p s0 Z i (b + 1) where
  root := h.root
  node t z hz := by
    obtain ⟨u, y, hu, hy, hf, j0, j1, es, e1, e2, hc⟩ := h.node t z hz
    exact ⟨u, y, hu, hy, hf, j0, j1, es, e1, e2, by omega⟩
  path := h.path
  ord := h.ord
  dist := h.dist
  done t z j hz h0 h1 h2 hp := by
    by_cases c : t = i ∧ j = b
    · obtain ⟨rfl, rfl⟩ := c
      rw [hx] at hz
      cases hz
      obtain ⟨t', z', hz', e⟩ := hm hp
      have := h.below hJ hx hb hz'
      exact ⟨t', z', hz', e, by omega⟩
    · exact h.done t z j hz h0 h1 (by omega) hp
theorem Inv.push (h : Inv J tick p s0 Z i b) (hJ : J ≤ 2) {x : Nd σ} (hx : Z[i]? = some x) (hb : -J ≤ b) (hb1 : b ≤ J) (hp : p (tick x.m b)) (hn : ∀ (t : Nat) (z : Nd σ), Z[t]? = some z → z.m ≠ tick x.m b) :
    Inv J tick p s0 (Z ++ [⟨tick x.m b, i, b, x.seq ++ [b]⟩]) i (b + 1) := by
  have hi : i < Z.length := by
    apply Decidable.byContradiction
    intro hc
    rw [List.getElem?_eq_none (by omega)] at hx
    cases hx
  have old : ∀ {t : Nat} {z : Nd σ}, (Z ++ [(⟨tick x.m b, i, b, x.seq ++ [b]⟩ : Nd σ)])[t]? = some z → Z[t]? = some z ∨ (t = Z.length ∧ z = ⟨tick x.m b, i, b, x.seq ++ [b]⟩) := by
    intro t z hz
    by_cases c : t < Z.length
    · rw [List.getElem?_append_left c] at hz; exact .inl hz
    · rw [List.getElem?_append_right (by omega)] at hz
      have ht : t - Z.length = 0 := by
        apply Decidable.byContradiction
        intro hc
        rw [List.getElem?_eq_none (by simp; omega)] at hz
        cases hz
      rw [ht] at hz
      exact .inr ⟨by omega, (Option.some.inj hz).symm⟩
  have new : ∀ {t : Nat} {z : Nd σ}, Z[t]? = some z → (Z ++ [(⟨tick x.m b, i, b, x.seq ++ [b]⟩ : Nd σ)])[t]? = some z := by
    intro t z hz
    have c : t < Z.length := by
      apply Decidable.byContradiction
      intro hc
      rw [List.getElem?_eq_none (by omega)] at hz
      cases hz
    rw [List.getElem?_append_left c]; exact hz
  have lt : ∀ {t : Nat} {z : Nd σ}, Z[t]? = some z → t < Z.length := by
    intro t z hz
    apply Decidable.byContradiction
    intro hc
    rw [List.getElem?_eq_none (by omega)] at hz
    cases hz
  constructor
  · obtain ⟨z, hz, r⟩ := h.root
    exact ⟨z, new hz, r⟩
  · intro t z hz
    rcases old hz with hz | ⟨ht, rfl⟩
    · obtain ⟨u, y, hu, hy, hf, j0, j1, es, e1, e2, hc⟩ := h.node t z hz
      exact ⟨u, y, hu, new hy, hf, j0, j1, es, e1, e2, by omega⟩
    · exact ⟨i, x, by omega, new hx, rfl, hb, hb1, rfl, rfl, hp, .inr ⟨rfl, by show b < b + 1; omega⟩⟩
  · intro t z hz
    rcases old hz with hz | ⟨ht, rfl⟩
    · exact h.path t z hz
    · exact (h.path i x hx).snoc hb hb1 hp
  · intro t t' z z' hlt hz hz'
    rcases old hz' with hz' | ⟨ht', rfl⟩
    · rcases old hz with hz | ⟨ht, rfl⟩
      · exact h.ord t t' z z' hlt hz hz'
      · have := lt hz'; omega
    · rcases old hz with hz | ⟨ht, rfl⟩
      · show code 1 z.seq < code 1 (x.seq ++ [b])
        rw [code_snoc]
        exact h.below hJ hx hb hz
      · omega
  · intro t t' z z' hz hz' e
    rcases old hz with hz | ⟨ht, rfl⟩
    · rcases old hz' with hz' | ⟨ht', rfl⟩
      · exact h.dist t t' z z' hz hz' e
      · exact absurd e (hn t z hz)
    · rcases old hz' with hz' | ⟨ht', rfl⟩
      · exact absurd e.symm (hn t' z' hz')
      · omega
  · intro t z j hz0 h0 h1 h2 hp'
    rcases old hz0 with hz | ⟨ht, rfl⟩
    · by_cases c : t = i ∧ j = b
      · obtain ⟨rfl, rfl⟩ := c
        rw [hx] at hz
        cases hz
        refine ⟨Z.length, ⟨tick x.m j, t, j, x.seq ++ [j]⟩, by simp, rfl, ?_⟩
        show code 1 (x.seq ++ [j]) ≤ _
        rw [code_snoc]
        exact Int.le_refl _
      · obtain ⟨t', z', hz', e, hc⟩ := h.done t z j hz h0 h1 (by omega) hp'
        exact ⟨t', z', new hz', e, hc⟩
    · omega
theorem Inv.next (h : Inv J tick p s0 Z i b) (hb : J < b) : Inv J tick p s0 Z (i + 1) (-J) where
  root := h.root
  node t z hz := by
    obtain ⟨u, y, hu, hy, hf, j0, j1, es, e1, e2, hc⟩ := h.node t z hz
    exact ⟨u, y, hu, hy, hf, j0, j1, es, e1, e2, by omega⟩
  path := h.path
  ord := h.ord
  dist := h.dist
  done t z j hz h0 h1 h2 hp := h.done t z j hz h0 h1 (by omega) hp
/-- Any way to a state: either its node is there and no later, or a node that is still to be opened comes no later. -/
theorem Inv.rival (h : Inv J tick p s0 Z i (-J)) (hJ : J ≤ 2) : ∀ (n : Nat) (l : List Int) (m : σ), l.length = n → GPath J tick p s0 l m →
    (∃ (t : Nat) (z : Nd σ), Z[t]? = some z ∧ z.m = m ∧ code 1 z.seq ≤ code 1 l) ∨ (∃ (t : Nat) (z : Nd σ), i ≤ t ∧ Z[t]? = some z ∧ code 1 z.seq ≤ code 1 l) := by
  intro n
  induction n with
  | zero =>
    intro l m hl hp
    obtain rfl : l = [] := List.length_eq_zero_iff.1 hl
    obtain ⟨z, hz, hm, _, es⟩ := h.root
    cases hp
    exact .inl ⟨0, z, hz, hm, by rw [es]; exact Int.le_refl _⟩
  | succ n ih =>
    intro l m hl hp
    have hne : l ≠ [] := fun e => by rw [e] at hl; simp at hl
    obtain ⟨k, j, rfl⟩ : ∃ k j, l = k ++ [j] := ⟨l.dropLast, l.getLast hne, (List.dropLast_concat_getLast hne).symm⟩
    obtain ⟨m1, h1, j0, j1, hm, rfl⟩ := hp.last
    have hk := (code_ge (h1.small hJ) (c := 1) (Int.le_refl 1)).1
    rw [code_snoc]
    rcases ih k m1 (by simpa using hl) h1 with ⟨t, z, hz, rfl, hc⟩ | ⟨t, z, ht, hz, hc⟩
    · by_cases c : t < i
      · obtain ⟨t', z', hz', e, hc'⟩ := h.done t z j hz j0 j1 (.inl c) hm
        exact .inl ⟨t', z', hz', e, by omega⟩
      · exact .inr ⟨t, z, by omega, hz, by omega⟩
    · exact .inr ⟨t, z, ht, hz, by omega⟩
/-- The node that is to be opened next has the best jerks to its state. -/
theorem Inv.best (h : Inv J tick p s0 Z i (-J)) (hJ : J ≤ 2) {x : Nd σ} (hx : Z[i]? = some x) {l : List Int} (hl : GPath J tick p s0 l x.m) : x.seq.length ≤ l.length ∧ (l.length = x.seq.length → ¬ lexLt l x.seq) := by
  refine best_of_code ((h.path i x hx).small hJ) (hl.small hJ) ?_
  rcases h.rival hJ _ l _ rfl hl with ⟨t, z, hz, e, hc⟩ | ⟨t, z, ht, hz, hc⟩
  · have := h.dist t i z x hz hx e
    subst this
    rw [hx] at hz
    cases hz
    exact hc
  · by_cases c : t = i
    · subst c
      rw [hx] at hz
      cases hz
      exact hc
    · have := h.ord i t x z (by omega) hx hz
      omega
/-- All nodes opened: whoever can be reached has a node. -/
theorem Inv.full (h : Inv J tick p s0 Z i (-J)) (hJ : J ≤ 2) (hi : Z.length ≤ i) {l : List Int} {m : σ} (hl : GPath J tick p s0 l m) : ∃ (t : Nat) (z : Nd σ), Z[t]? = some z ∧ z.m = m := by
  rcases h.rival hJ _ l _ rfl hl with ⟨t, z, hz, e, hc⟩ | ⟨t, z, ht, hz, hc⟩
  · exact ⟨t, z, hz, e⟩
  · rw [List.getElem?_eq_none (by omega)] at hz
    cases hz
/-- The way back from a node, by the indices: its jerks, the last one first. -/
theorem Inv.back (h : Inv J tick p s0 Z i b) {t : Nat} {z : Nd σ} (hz : Z[t]? = some z) : (z.fr < 0 ∧ t = 0 ∧ z.seq = []) ∨ (∃ (u : Nat) (y : Nd σ), u < t ∧ z.fr = (u : Int) ∧ Z[u]? = some y ∧ z.seq = y.seq ++ [z.jk]) := by
  cases t with
  | zero =>
    obtain ⟨z0, e0, _, e1, e2⟩ := h.root
    rw [hz] at e0
    cases e0
    exact .inl ⟨by omega, rfl, e2⟩
  | succ t =>
    obtain ⟨u, y, hu, hy, hf, j0, j1, es, e1, e2, hc⟩ := h.node t z hz
    exact .inr ⟨u, y, hu, hf, hy, es⟩
end
theorem path_gpath {L : Lm} {d : Int} {l : List Int} : ∀ {m m' : Mo}, Path L d m l m' ↔ GPath L.j Motion.tick (may L d) m l m' := by
  induction l with
  | nil => intro m m'; exact Iff.rfl
  | cons j l ih =>
    intro m m'
    constructor
    · intro h; exact ⟨h.1, h.2.1, h.2.2.1, ih.1 h.2.2.2⟩
    · intro h; exact ⟨h.1, h.2.1, h.2.2.1, ih.2 h.2.2.2⟩
end Go.Proofs.Ythmddbffhbfmeaa.Search
