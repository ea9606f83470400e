/- Plain laws of jerk-limited motion: a tick, a run of jerks, paths within limits, and what a best path is. No program in sight. -/
namespace Go.Proofs.Ytmmaodlngnjmlaa.Motion

/-- Position, speed, acceleration. -/
structure Mo where
  p : Int
  v : Int
  a : Int
deriving DecidableEq

def tick (m : Mo) (j : Int) : Mo := ⟨m.p + (m.v + (m.a + j)), m.v + (m.a + j), m.a + j⟩
def run (m : Mo) : List Int → Mo
  | [] => m
  | j :: l => run (tick m j) l
theorem run_append (m : Mo) (l k : List Int) : run m (l ++ k) = run (run m l) k := by
  induction l generalizing m with
  | nil => rfl
  | cons j l ih => exact ih (tick m j)
theorem run_snoc (m : Mo) (l : List Int) (j : Int) : run m (l ++ [j]) = tick (run m l) j := run_append m l [j]

structure Lm where
  v : Int
  a : Int
  j : Int

def may (L : Lm) (d : Int) (m : Mo) : Prop := 0 ≤ m.p ∧ m.p ≤ d ∧ -L.v ≤ m.v ∧ m.v ≤ L.v ∧ -L.a ≤ m.a ∧ m.a ≤ L.a
instance (L : Lm) (d : Int) (m : Mo) : Decidable (may L d m) := by unfold may; infer_instance

/-- The jerks l lead from m to m', each jerk within its limit, each motion on the way within the limits. -/
def Path (L : Lm) (d : Int) : Mo → List Int → Mo → Prop
  | m, [], m' => m = m'
  | m, j :: l, m' => -L.j ≤ j ∧ j ≤ L.j ∧ may L d (tick m j) ∧ Path L d (tick m j) l m'

theorem Path.run {L : Lm} {d : Int} {l : List Int} : ∀ {m m' : Mo}, Path L d m l m' → Motion.run m l = m' := by
  induction l with
  | nil => intro m m' h; exact h
  | cons j l ih => intro m m' h; exact ih h.2.2.2
theorem Path.trans {L : Lm} {d : Int} {l k : List Int} : ∀ {m m' m'' : Mo}, Path L d m l m' → Path L d m' k m'' → Path L d m (l ++ k) m'' := by
  induction l with
  | nil => intro m m' m'' h hk; cases h; exact hk
  | cons j l ih => intro m m' m'' h hk; exact ⟨h.1, h.2.1, h.2.2.1, ih h.2.2.2 hk⟩
theorem Path.split {L : Lm} {d : Int} {l k : List Int} : ∀ {m m'' : Mo}, Path L d m (l ++ k) m'' → Path L d m l (Motion.run m l) ∧ Path L d (Motion.run m l) k m'' := by
  induction l with
  | nil => intro m m'' h; exact ⟨rfl, h⟩
  | cons j l ih => intro m m'' h; obtain ⟨h1, h2⟩ := ih h.2.2.2; exact ⟨⟨h.1, h.2.1, h.2.2.1, h1⟩, h2⟩
theorem Path.may_end {L : Lm} {d : Int} {l : List Int} : ∀ {m m' : Mo}, may L d m → Path L d m l m' → may L d m' := by
  induction l with
  | nil => intro m m' h0 h; cases h; exact h0
  | cons j l ih => intro m m' h0 h; exact ih h.2.2.1 h.2.2.2

/-- Lexicographically smaller (of two lists of equal length; as the reference has it). -/
def lexLt : List Int → List Int → Prop
  | a :: l, b :: k => a < b ∨ (a = b ∧ lexLt l k)
  | _, _ => False
theorem lexLt_irrefl : ∀ l, ¬ lexLt l l
  | [] => id
  | a :: l => fun h => by
    rcases h with h | ⟨_, h⟩
    · omega
    · exact lexLt_irrefl l h
theorem lexLt_trans : ∀ {a b c : List Int}, a.length = b.length → b.length = c.length → lexLt a b → lexLt b c → lexLt a c
  | [], _, _, _, _, h, _ => h.elim
  | _ :: _, [], _, h, _, _, _ => by simp at h
  | _ :: _, _ :: _, [], _, h, _, _ => by simp at h
  | x :: a, y :: b, z :: c, h1, h2, h, k => by
    simp at h1 h2
    rcases h with h | ⟨rfl, h⟩
    · rcases k with k | ⟨rfl, k⟩
      · exact .inl (by omega)
      · exact .inl h
    · rcases k with k | ⟨rfl, k⟩
      · exact .inl k
      · exact .inr ⟨rfl, lexLt_trans h1 h2 h k⟩
theorem lexLt_total : ∀ {a b : List Int}, a.length = b.length → lexLt a b ∨ a = b ∨ lexLt b a
  | [], [], _ => .inr (.inl rfl)
  | [], _ :: _, h => by simp at h
  | _ :: _, [], h => by simp at h
  | x :: a, y :: b, h => by
    simp at h
    rcases Int.lt_trichotomy x y with hx | rfl | hx
    · exact .inl (.inl hx)
    · rcases lexLt_total h with k | rfl | k
      · exact .inl (.inr ⟨rfl, k⟩)
      · exact .inr (.inl rfl)
      · exact .inr (.inr (.inr ⟨rfl, k⟩))
    · exact .inr (.inr (.inl hx))

def goal (d : Int) : Mo := ⟨d, 0, 0⟩
def zero : Mo := ⟨0, 0, 0⟩

/-- A best path from m to the goal: none is shorter, none equally long is smaller. -/
def Best (L : Lm) (d : Int) (l : List Int) : Prop :=
  Path L d zero l (goal d) ∧ ∀ k, Path L d zero k (goal d) → l.length ≤ k.length ∧ (k.length = l.length → ¬ lexLt k l)
theorem Best.unique {L : Lm} {d : Int} {l k : List Int} (h : Best L d l) (h' : Best L d k) : l = k := by
  have h1 := h.2 k h'.1
  have h2 := h'.2 l h.1
  have e : l.length = k.length := by omega
  rcases lexLt_total e with x | x | x
  · exact absurd x (h2.2 e)
  · exact x
  · exact absurd x (h1.2 e.symm)

/-! ### Existence -/
/-- Limits as the program takes them. -/
def ok (L : Lm) : Prop := 1 ≤ L.v ∧ L.v ≤ 8 ∧ 1 ≤ L.a ∧ L.a ≤ 4 ∧ 1 ≤ L.j ∧ L.j ≤ 2

theorem path_coast (L : Lm) (d : Int) (h : ok L) : ∀ (n : Nat) (p : Int), 0 ≤ p → p + n ≤ d → Path L d ⟨p, 1, 0⟩ (List.replicate n 0) ⟨p + n, 1, 0⟩
  | 0, p, _, _ => by simp [Path]
  | n + 1, p, h0, h1 => by
    obtain ⟨a1, a2, a3, a4, a5, a6⟩ := h
    have ih := path_coast L d ⟨a1, a2, a3, a4, a5, a6⟩ n (p + 1) (by omega) (by omega)
    refine ⟨by omega, by omega, ?_, ?_⟩
    · simp only [may, tick]; omega
    · have e : tick ⟨p, 1, 0⟩ 0 = ⟨p + 1, 1, 0⟩ := by simp [tick]
      rw [e]
      have e2 : (⟨p + 1 + (n : Int), 1, 0⟩ : Mo) = ⟨p + ((n + 1 : Nat) : Int), 1, 0⟩ := by
        congr 1
        omega
      rw [← e2]
      exact ih
theorem path_exists (L : Lm) (d : Int) (h : ok L) (hd : 0 ≤ d) (h1 : d = 1 → 2 ≤ L.j) : ∃ l, Path L d zero l (goal d) := by
  obtain ⟨a1, a2, a3, a4, a5, a6⟩ := h
  rcases Int.lt_trichotomy d 1 with hlt | rfl | hgt
  · obtain rfl : d = 0 := by omega
    exact ⟨[], rfl⟩
  · have := h1 rfl
    exact ⟨[1, -2, 1], by simp [Path, may, tick, zero, goal]; omega⟩
  · obtain ⟨n, rfl⟩ : ∃ n : Nat, d = n + 2 := ⟨(d - 2).toNat, by omega⟩
    refine ⟨[1, -1] ++ (List.replicate n 0 ++ [-1, 1]), Path.trans (m' := ⟨2, 1, 0⟩) ?_ (Path.trans (path_coast L _ ⟨a1, a2, a3, a4, a5, a6⟩ n 2 (by omega) (by omega)) ?_)⟩
    · simp [Path, may, tick, zero]; omega
    · simp [Path, may, tick, goal]; omega
theorem no_path_one (L : Lm) (hj : L.j ≤ 1) : ¬ ∃ l, Path L 1 zero l (goal 1) := by
  have key : ∀ (l : List Int) (m : Mo), (m = zero ∨ m = ⟨1, 1, 1⟩) → ¬ Path L 1 m l (goal 1) := by
    intro l
    induction l with
    | nil =>
      rintro m (rfl | rfl) h
      · simp [Path, zero, goal] at h
      · simp [Path, goal] at h
    | cons j l ih =>
      rintro m (rfl | rfl) ⟨h1, h2, h3, h4⟩
      · have : j = 0 ∨ j = 1 := by
          simp only [may, tick, zero] at h3
          omega
        rcases this with rfl | rfl
        · exact ih _ (.inl (by simp [tick, zero])) h4
        · exact ih _ (.inr (by simp [tick, zero])) h4
      · simp only [may, tick] at h3
        omega
  rintro ⟨l, h⟩
  exact key l zero (.inl rfl) h

/-! ### Reversal -/
/-- The motions after each jerk. -/
def trace (m : Mo) : List Int → List Mo
  | [] => []
  | j :: l => tick m j :: trace (tick m j) l
theorem path_iff {L : Lm} {d : Int} {l : List Int} : ∀ {m m' : Mo}, Path L d m l m' ↔ (∀ j ∈ l, -L.j ≤ j ∧ j ≤ L.j) ∧ (∀ x ∈ trace m l, may L d x) ∧ run m l = m' := by
  induction l with
  | nil => intro m m'; simp [Path, trace, run]
  | cons j l ih =>
    intro m m'
    simp only [Path, ih, trace, run, List.mem_cons, forall_eq_or_imp]
    constructor
    · rintro ⟨a, b, c, e, f, g⟩; exact ⟨⟨⟨a, b⟩, e⟩, ⟨c, f⟩, g⟩
    · rintro ⟨⟨⟨a, b⟩, e⟩, ⟨c, f⟩, g⟩; exact ⟨a, b, c, e, f, g⟩
end Go.Proofs.Ytmmaodlngnjmlaa.Motion
namespace Go.Proofs.Ytmmaodlngnjmlaa.Motion
/-! ### Reversal: the jerks played backwards -/
def inv (L : Lm) (d : Int) (m : Mo) : Prop := may L d m ∧ 0 ≤ m.p - m.v ∧ m.p - m.v ≤ d ∧ 0 ≤ m.p - 2 * m.v + m.a ∧ m.p - 2 * m.v + m.a ≤ d ∧ -L.v ≤ m.v - m.a ∧ m.v - m.a ≤ L.v
def mirror (d : Int) (m : Mo) : Mo := ⟨d - (m.p - 2 * m.v + m.a), m.v - m.a, -m.a⟩
theorem inv_tick {L : Lm} {d : Int} {m : Mo} {j : Int} (h : inv L d m) (h' : may L d (tick m j)) : inv L d (tick m j) := by
  dsimp only [inv, may, tick] at h h' ⊢
  omega
theorem mirror_tick {L : Lm} {d : Int} {m : Mo} {j : Int} (h : inv L d m) : tick (mirror d (tick m j)) j = mirror d m ∧ may L d (mirror d m) := by
  constructor
  · simp only [mirror, tick, Mo.mk.injEq]
    omega
  · simp only [inv, may, mirror] at *
    omega
theorem Path.reverse {L : Lm} {d : Int} {l : List Int} : ∀ {m m' : Mo}, inv L d m → Path L d m l m' → Path L d (mirror d m') l.reverse (mirror d m) := by
  induction l with
  | nil => intro m m' _ h; cases h; rfl
  | cons j l ih =>
    intro m m' hi h
    rw [List.reverse_cons]
    refine Path.trans (ih (inv_tick hi h.2.2.1) h.2.2.2) ?_
    obtain ⟨e, k⟩ := mirror_tick (j := j) hi
    exact ⟨h.1, h.2.1, by rw [e]; exact k, by rw [e]; rfl⟩
theorem Path.reverse_goal {L : Lm} {d : Int} {l : List Int} (hd : 0 ≤ d) (hL : ok L) (h : Path L d zero l (goal d)) : Path L d zero l.reverse (goal d) := by
  have hi : inv L d zero := by
    simp only [inv, may, zero, ok] at *
    omega
  have := Path.reverse hi h
  have e1 : mirror d (goal d) = zero := by simp [mirror, goal, zero]
  have e2 : mirror d zero = goal d := by simp [mirror, goal, zero]
  rw [e1, e2] at this
  exact this

/-! ### Other limits; one tick more -/
theorem Path.wider {L L' : Lm} {d : Int} (hv : L.v ≤ L'.v) (ha : L.a ≤ L'.a) (hj : L.j ≤ L'.j) {l : List Int} : ∀ {m m' : Mo}, Path L d m l m' → Path L' d m l m' := by
  induction l with
  | nil => intro m m' h; exact h
  | cons j l ih =>
    intro m m' h
    refine ⟨by have := h.1; omega, by have := h.2.1; omega, ?_, ih h.2.2.2⟩
    have := h.2.2.1
    simp only [may] at *
    omega
def shift (s : Int) (m : Mo) : Mo := ⟨m.p + s, m.v, m.a⟩
theorem tick_shift (s : Int) (m : Mo) (j : Int) : tick (shift s m) j = shift s (tick m j) := by
  simp only [tick, shift, Mo.mk.injEq, and_true]
  omega
theorem Path.shift {L : Lm} {d s : Int} (hs : 0 ≤ s) {l : List Int} : ∀ {m m' : Mo}, Path L d m l m' → Path L (d + s) (Motion.shift s m) l (Motion.shift s m') := by
  induction l with
  | nil => intro m m' h; cases h; rfl
  | cons j l ih =>
    intro m m' h
    refine ⟨h.1, h.2.1, ?_, ?_⟩
    · rw [tick_shift]
      have := h.2.2.1
      simp only [may, Motion.shift] at *
      omega
    · rw [tick_shift]
      exact ih h.2.2.2
theorem Path.longer {L : Lm} {d s : Int} (hs : 0 ≤ s) {l : List Int} : ∀ {m m' : Mo}, Path L d m l m' → Path L (d + s) m l m' := by
  induction l with
  | nil => intro m m' h; exact h
  | cons j l ih =>
    intro m m' h
    refine ⟨h.1, h.2.1, ?_, ih h.2.2.2⟩
    have := h.2.2.1
    simp only [may] at *
    omega
/-- Each tick covers at most the speed limit. -/
theorem Path.speed {L : Lm} {d : Int} {l : List Int} : ∀ {m m' : Mo}, Path L d m l m' → m'.p - m.p ≤ l.length * L.v := by
  induction l with
  | nil => intro m m' h; cases h; simp
  | cons j l ih =>
    intro m m' h
    have h1 := ih h.2.2.2
    have h2 := h.2.2.1
    simp only [may, tick] at h1 h2
    have e : ((l.length + 1 : Nat) : Int) * L.v = l.length * L.v + L.v := by rw [Int.natCast_add, Int.add_mul]; omega
    rw [List.length_cons, e]
    omega
end Go.Proofs.Ytmmaodlngnjmlaa.Motion
