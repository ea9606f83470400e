/- The reference's table: the least numbers of ticks to rest, of the ways that stay in the table. -/
import Derived.Test.YtjcefdockfbnaaaXLaw28
import Derived.Test.YtjcefdockfbnaaaP3
import Derived.Test.YtjcefdockfbnaaaP4
namespace Go.Proofs.Ytjcefdockfbnaaa.Pure
set_option linter.unusedSimpArgs false
set_option linter.unusedVariables false
open Go Go.RowKit Go.Proofs.Ytjcefdockfbnaaa.P Go.Proofs.YtjcefdockfbnaaaW.PrintWords Go.Proofs.YtjcefdockfbnaaaW.PrintLast Go.Proofs.YtjcefdockfbnaaaW.PrintMore Go.Proofs.Ytjcefdockfbnaaa.Ramp Go.Proofs.Ytjcefdockfbnaaa.Motion Go.Proofs.Ytjcefdockfbnaaa.Search
def inB (s : Va) : Prop := -30 ≤ s.1 ∧ s.1 ≤ 30 ∧ -4 ≤ s.2 ∧ s.2 ≤ 4
def okB (A : Int) (s : Va) : Prop := (-A ≤ s.2 ∧ s.2 ≤ A) ∧ -30 ≤ s.1 ∧ s.1 ≤ 30
abbrev BPath (A J : Int) (s : Va) (l : List Int) (s' : Va) : Prop := GPath J tk (okB A) s l s'
def Dist (A J : Int) (n : Nat) (s : Va) : Prop := (∃ l, BPath A J s l (0, 0) ∧ l.length = n) ∧ ∀ l, BPath A J s l (0, 0) → n ≤ l.length
def ix (s : Va) : Int := (s.1 + 30) * 9 + s.2 + 4
theorem dist_uniq {A J : Int} {m n : Nat} {s : Va} (h : Dist A J m s) (k : Dist A J n s) : m = n := by
  obtain ⟨⟨l, h1, rfl⟩, h2⟩ := h
  obtain ⟨⟨l', k1, rfl⟩, k2⟩ := k
  have := h2 _ k1
  have := k2 _ h1
  omega
theorem dist_of_path {A J : Int} {s : Va} : ∀ (n : Nat) (l : List Int), l.length ≤ n → BPath A J s l (0, 0) → ∃ m, m ≤ l.length ∧ Dist A J m s
  | n, l, hn, h => by
    by_cases c : ∃ l', BPath A J s l' (0, 0) ∧ l'.length < l.length
    · obtain ⟨l', h1, h2⟩ := c
      match n, hn with
      | 0, hn => omega
      | n + 1, hn =>
        obtain ⟨m, k1, k2⟩ := dist_of_path n l' (by omega) h1
        exact ⟨m, by omega, k2⟩
    · refine ⟨l.length, Nat.le_refl _, ⟨l, h, rfl⟩, fun l' h' => ?_⟩
      by_cases c2 : l'.length < l.length
      · exact absurd ⟨l', h', c2⟩ c
      · omega
theorem dist_zero {A J : Int} {s : Va} (h : Dist A J 0 s) : s = (0, 0) := by
  obtain ⟨⟨l, h1, h2⟩, _⟩ := h
  rw [List.length_eq_zero_iff.1 h2] at h1
  exact h1
theorem zero_dist {A J : Int} : Dist A J 0 ((0, 0) : Va) := ⟨⟨[], rfl, rfl⟩, fun _ _ => Nat.zero_le _⟩
/-- A step towards rest. -/
theorem dist_succ {A J : Int} {n : Nat} {s : Va} (h : Dist A J (n + 1) s) : ∃ b, -J ≤ b ∧ b ≤ J ∧ okB A (tk s b) ∧ Dist A J n (tk s b) := by
  obtain ⟨⟨l, h1, h2⟩, h3⟩ := h
  cases l with
  | nil => cases h2
  | cons b l =>
    obtain ⟨b0, b1, ok, hr⟩ := h1
    refine ⟨b, b0, b1, ok, ⟨l, hr, by simpa using h2⟩, fun k hk => ?_⟩
    have := h3 (b :: k) ⟨b0, b1, ok, hk⟩
    simp only [List.length_cons] at this h2
    omega
theorem succ_dist {A J : Int} {n : Nat} {s : Va} {b : Int} (b0 : -J ≤ b) (b1 : b ≤ J) (ok : okB A (tk s b)) (h : Dist A J n (tk s b)) : ∃ m, m ≤ n + 1 ∧ Dist A J m s := by
  obtain ⟨⟨l, h1, h2⟩, _⟩ := h
  obtain ⟨m, k1, k2⟩ := dist_of_path (A := A) (J := J) (s := s) _ (b :: l) (Nat.le_refl _) ⟨b0, b1, ok, h1⟩
  simp only [List.length_cons] at k1
  exact ⟨m, by omega, k2⟩
def bd (n i : Nat) (s : Va) : Nat := if ix s < (i : Int) then n + 1 else n
def TMix (A J : Int) (n i : Nat) (t : List Int) : Prop := t.length = 549 ∧ ∀ s, inB s → (0 ≤ rd t (ix s) → ∃ m : Nat, rd t (ix s) = m ∧ Dist A J m s ∧ m ≤ bd n i s) ∧ ∀ m : Nat, Dist A J m s → m ≤ bd n i s → rd t (ix s) = m
open Classical in
noncomputable def fr (A : Int) (t : List Int) (s : Va) : Int := if okB A s then rd t (ix s) else -1
theorem from_eq {A : Int} (V J : Int) {t : List Int} (ht : t.length = 549) (hA : 1 ≤ A ∧ A ≤ 4) {v a : Int} (hv : -100 ≤ v ∧ v ≤ 100) (ha : -100 ≤ a ∧ a ≤ 100) : ambidexterref28_from.f V A J t v a = some (fr A t (v, a)) := by
  unfold ambidexterref28_from.f fr okB ix
  dsimp only
  rw [r64 (x := -A) (by omega) (by omega)]
  by_cases c1 : a < -A
  · rw [if_pos c1, if_neg (by omega)]
  rw [if_neg c1]
  by_cases c2 : a > A
  · rw [if_pos c2, if_neg (by omega)]
  rw [if_neg c2]
  by_cases c3 : v < -30
  · rw [if_pos c3, if_neg (by omega)]
  rw [if_neg c3]
  by_cases c4 : v > 30
  · rw [if_pos c4, if_neg (by omega)]
  rw [if_neg c4, r64 (x := v + 30) (by omega) (by omega), r64 (x := (v + 30) * 9) (by omega) (by omega), r64 (x := (v + 30) * 9 + a) (by omega) (by omega), r64 (x := (v + 30) * 9 + a + 4) (by omega) (by omega), if_pos (by omega), if_pos (by omega), if_pos (by omega)]
theorem least_eq {A J : Int} (V : Int) (hL : okL A J) {t : List Int} (ht : t.length = 549) {v a : Int} (hv : -30 ≤ v ∧ v ≤ 30) (ha : -4 ≤ a ∧ a ≤ 4) : ∀ (r : Nat) (b best : Int), b + r = J + 1 → -J ≤ b →
    ∃ res, ambidexterref28_least.l0 (r + 1) t v a best b V A J = some res ∧ (res = best ∨ ∃ c, -J ≤ c ∧ c ≤ J ∧ fr A t (tk (v, a) c) = res ∧ 0 ≤ res) ∧ (∀ c, b ≤ c → c ≤ J → 0 ≤ fr A t (tk (v, a) c) → 0 ≤ res ∧ res ≤ fr A t (tk (v, a) c)) ∧ (0 ≤ best → 0 ≤ res ∧ res ≤ best)
  | 0, b, best, h, hb => by
    refine ⟨best, ?_, .inl rfl, fun c h1 h2 => by omega, fun h => ⟨h, Int.le_refl _⟩⟩
    rw [ambidexterref28_least.l0, if_neg (by omega)]
  | r + 1, b, best, h, hb => by
    obtain ⟨l1, l2, l3, l4⟩ := id hL
    have e1 : wrap64 (v + a) = v + a := r64 (by omega) (by omega)
    have e2 : wrap64 (v + a + b) = v + (a + b) := by clear e1; rw [r64 (by omega) (by omega)]; omega
    have e3 : wrap64 (a + b) = a + b := by clear e1 e2; exact r64 (by omega) (by omega)
    have e4 : wrap64 (b + 1) = b + 1 := by clear e1 e2 e3; exact r64 (by omega) (by omega)
    have ef := from_eq V J ht ⟨l1, l2⟩ (v := v + (a + b)) (a := a + b) (by clear e1 e2 e3 e4; omega) (by clear e1 e2 e3 e4; omega)
    rw [ambidexterref28_least.l0, if_pos (by omega), e1, e2, e3, ef, Option.bind_some, e4]
    clear e1 e2 e3 e4 ef
    have key : ∀ nb : Int, (nb = best ∨ (nb = fr A t (tk (v, a) b) ∧ 0 ≤ nb)) → (0 ≤ fr A t (tk (v, a) b) → 0 ≤ nb ∧ nb ≤ fr A t (tk (v, a) b)) → (0 ≤ best → 0 ≤ nb ∧ nb ≤ best) →
        ∃ res, ambidexterref28_least.l0 (r + 1) t v a nb (b + 1) V A J = some res ∧ (res = best ∨ ∃ c, -J ≤ c ∧ c ≤ J ∧ fr A t (tk (v, a) c) = res ∧ 0 ≤ res) ∧ (∀ c, b ≤ c → c ≤ J → 0 ≤ fr A t (tk (v, a) c) → 0 ≤ res ∧ res ≤ fr A t (tk (v, a) c)) ∧ (0 ≤ best → 0 ≤ res ∧ res ≤ best) := by
      intro nb k1 k2 k3
      obtain ⟨res, g1, g2, g3, g4⟩ := least_eq V hL ht hv ha r (b + 1) nb (by omega) (by omega)
      refine ⟨res, g1, ?_, fun c h1 h2 h3 => ?_, fun h => ?_⟩
      · rcases g2 with rfl | g2
        · rcases k1 with k1 | ⟨k1, k0⟩
          · exact .inl k1
          · exact .inr ⟨b, hb, by omega, k1.symm, k0⟩
        · exact .inr g2
      · by_cases c0 : c = b
        · subst c0
          have q := k2 h3
          have q2 := g4 q.1
          omega
        · exact g3 c (by omega) h2 h3
      · have q := k3 h
        have q2 := g4 q.1
        omega
    have et : fr A t (v + (a + b), a + b) = fr A t (tk (v, a) b) := rfl
    rw [et]
    generalize fr A t (tk (v, a) b) = x at key ⊢
    by_cases c1 : x ≥ 0
    · rw [if_pos c1]
      by_cases c2 : best < 0
      · rw [if_pos c2]
        exact key x (.inr ⟨rfl, c1⟩) (fun _ => ⟨c1, Int.le_refl _⟩) (fun h => by omega)
      · rw [if_neg c2]
        by_cases c3 : x < best
        · rw [if_pos c3]
          exact key x (.inr ⟨rfl, c1⟩) (fun _ => ⟨c1, Int.le_refl _⟩) (fun h => by omega)
        · rw [if_neg c3]
          exact key best (.inl rfl) (fun _ => by omega) (fun h => ⟨h, Int.le_refl _⟩)
    · rw [if_neg c1]
      exact key best (.inl rfl) (fun h => absurd h c1) (fun h => ⟨h, Int.le_refl _⟩)
theorem okB_inB {A : Int} (hA : A ≤ 4) {s : Va} (h : okB A s) : inB s := ⟨h.2.1, h.2.2, by have := h.1.1; omega, by have := h.1.2; omega⟩
/-- What the smallest known number among the successors says. -/
theorem least_dist {A J : Int} (hL : okL A J) {n i : Nat} {t : List Int} (hT : TMix A J n i t) {s : Va} (hs : inB s) (hno : ∀ m : Nat, m ≤ n → ¬ Dist A J m s) {res : Int}
    (h1 : res = -1 ∨ ∃ c, -J ≤ c ∧ c ≤ J ∧ fr A t (tk s c) = res ∧ 0 ≤ res) (h2 : ∀ c, -J ≤ c → c ≤ J → 0 ≤ fr A t (tk s c) → 0 ≤ res ∧ res ≤ fr A t (tk s c)) : res = n ↔ Dist A J (n + 1) s := by
  obtain ⟨l1, l2, l3, l4⟩ := id hL
  obtain ⟨hl, hT⟩ := hT
  constructor
  · intro e
    rcases h1 with h1 | ⟨c, c0, c1, hf, h0⟩
    · omega
    · by_cases ok : okB A (tk s c)
      · rw [fr, if_pos ok] at hf
        obtain ⟨m, q1, q2, _⟩ := (hT _ (okB_inB l2 ok)).1 (by omega)
        have : m = n := by omega
        subst this
        obtain ⟨m', k1, k2⟩ := succ_dist c0 c1 ok q2
        by_cases c2 : m' = m + 1
        · rw [← c2]; exact k2
        · exact absurd k2 (hno m' (by omega))
      · rw [fr, if_neg ok] at hf
        omega
  · intro hd
    obtain ⟨b, b0, b1, ok, hdb⟩ := dist_succ hd
    have e := (hT _ (okB_inB l2 ok)).2 n hdb (by unfold bd; split <;> omega)
    have ef : fr A t (tk s b) = n := by rw [fr, if_pos ok, e]
    have q := h2 b b0 b1 (by omega)
    rcases h1 with h1 | ⟨c, c0, c1, hf, h0⟩
    · omega
    · by_cases okc : okB A (tk s c)
      · rw [fr, if_pos okc] at hf
        obtain ⟨m, q1, q2, _⟩ := (hT _ (okB_inB l2 okc)).1 (by omega)
        obtain ⟨m', k1, k2⟩ := succ_dist c0 c1 okc q2
        have := dist_uniq hd k2
        omega
      · rw [fr, if_neg okc] at hf
        omega
/-! ### The rounds -/
theorem rd_set {t : List Int} {i : Nat} {x j : Int} (hi : i < t.length) (hj : 0 ≤ j) : rd (t.set i x) j = if j = (i : Int) then x else rd t j := by
  unfold rd
  rw [List.getD_eq_getElem?_getD, List.getD_eq_getElem?_getD, List.getElem?_set]
  by_cases c : i = j.toNat
  · rw [if_pos c, if_pos (by omega), if_pos (by omega)]; rfl
  · rw [if_neg c, if_neg (by omega)]
theorem ix_inj {s s' : Va} (h : inB s) (h' : inB s') (e : ix s = ix s') : s = s' := by
  unfold ix at e
  obtain ⟨h1, h2, h3, h4⟩ := h
  obtain ⟨k1, k2, k3, k4⟩ := h'
  exact Prod.ext (by omega) (by omega)
theorem ix_bound {s : Va} (h : inB s) : 0 ≤ ix s ∧ ix s < 549 := by
  unfold ix
  obtain ⟨h1, h2, h3, h4⟩ := h
  omega
theorem ix_of {i : Nat} (hi : i < 549) : inB ((((i : Int) / 9 - 30, (i : Int) % 9 - 4)) : Va) ∧ ix (((i : Int) / 9 - 30, (i : Int) % 9 - 4) : Va) = i := by
  unfold inB ix
  dsimp only
  omega
theorem mix_step {A J : Int} {n i : Nat} {t : List Int} (hT : TMix A J n i t) {s : Va} (hs : inB s) (hi : ix s = (i : Int)) (h1 : rd t (ix s) < 0 → ¬ Dist A J (n + 1) s) : TMix A J n (i + 1) t := by
  refine ⟨hT.1, fun q hq => ?_⟩
  obtain ⟨a1, a2⟩ := hT.2 q hq
  by_cases c : ix q = (i : Int)
  · have e := ix_inj hq hs (c.trans hi.symm)
    subst e
    have e1 : bd n i q = n := by unfold bd; rw [if_neg (by omega)]
    have e2 : bd n (i + 1) q = n + 1 := by unfold bd; rw [if_pos (by omega)]
    rw [e1] at a1 a2
    rw [e2]
    refine ⟨fun h => ?_, fun m hm hle => ?_⟩
    · obtain ⟨m, b1, b2, b3⟩ := a1 h
      exact ⟨m, b1, b2, by omega⟩
    · by_cases c2 : m = n + 1
      · by_cases c3 : rd t (ix q) < 0
        · rw [c2] at hm
          exact absurd hm (h1 c3)
        · obtain ⟨m', b1, b2, b3⟩ := a1 (by omega)
          rw [dist_uniq hm b2]
          exact b1
      · exact a2 m hm (by omega)
  · have e : bd n (i + 1) q = bd n i q := by
      unfold bd
      by_cases c2 : ix q < (i : Int)
      · rw [if_pos c2, if_pos (by omega)]
      · rw [if_neg c2, if_neg (by omega)]
    rw [e]
    exact ⟨a1, a2⟩
theorem mix_set {A J : Int} {n i : Nat} {t : List Int} (hT : TMix A J n i t) {s : Va} (hs : inB s) (hi : ix s = (i : Int)) (hd : Dist A J (n + 1) s) : TMix A J n (i + 1) (t.set i ((n : Int) + 1)) := by
  have hib := ix_bound hs
  refine ⟨by rw [List.length_set]; exact hT.1, fun q hq => ?_⟩
  obtain ⟨a1, a2⟩ := hT.2 q hq
  have hqb := ix_bound hq
  rw [rd_set (by have := hT.1; omega) hqb.1]
  by_cases c : ix q = (i : Int)
  · have e := ix_inj hq hs (c.trans hi.symm)
    subst e
    have e2 : bd n (i + 1) q = n + 1 := by unfold bd; rw [if_pos (by omega)]
    rw [e2, if_pos c]
    refine ⟨fun _ => ⟨n + 1, by omega, hd, Nat.le_refl _⟩, fun m hm _ => ?_⟩
    have := dist_uniq hm hd
    omega
  · have e : bd n (i + 1) q = bd n i q := by
      unfold bd
      by_cases c2 : ix q < (i : Int)
      · rw [if_pos c2, if_pos (by omega)]
      · rw [if_neg c2, if_neg (by omega)]
    rw [e, if_neg c]
    exact ⟨a1, a2⟩
theorem lay_l2 {A J : Int} (V : Int) (hL : okL A J) {n : Nat} (hn : n < 40) {K : Nat} (hK : 7 ≤ K) : ∀ (r i : Nat) (t : List Int), i + r = 549 → TMix A J n i t →
    ∃ t', TMix A J n 549 t' ∧ ambidexterref28_lay.l2 (r + 1 + K) t (n : Int) (i : Int) V A J = ambidexterref28_lay.l1 K t' ((n + 1 : Nat) : Int) V A J
  | 0, i, t, h, hT => by
    have e : i = 549 := by omega
    subst e
    refine ⟨t, hT, ?_⟩
    rw [show 0 + 1 + K = K + 1 by omega, ambidexterref28_lay.l2, if_neg (by have := hT.1; omega), wi28 (n := 1000) (by omega) (by omega)]
  | r + 1, i, t, h, hT => by
    obtain ⟨l1, l2, l3, l4⟩ := id hL
    have hl := hT.1
    have hw := wi28 (n := 1000) (i := i) (by omega) (by omega)
    obtain ⟨hs, hx⟩ := ix_of (i := i) (by omega)
    rw [show r + 1 + 1 + K = r + 1 + K + 1 by omega, ambidexterref28_lay.l2, if_pos (by clear hw; omega), if_pos (Int.natCast_nonneg i), hw]
    clear hw
    by_cases c : rd t (i : Int) ≥ 0
    · rw [if_pos c]
      exact lay_l2 V hL hn hK r (i + 1) t (by omega) (mix_step hT hs hx (fun h => by rw [hx] at h; omega))
    · rw [if_neg c]
      have e1 : wrap64 (wrap64 (Int.tdiv (i : Int) 9) - 30) = (i : Int) / 9 - 30 := by
        rw [Int.tdiv_eq_ediv_of_nonneg (by omega), r64 (x := (i : Int) / 9) (by omega) (by omega)]
        exact r64 (by omega) (by omega)
      have e2 : wrap64 (Int.tmod (i : Int) 9 - 4) = (i : Int) % 9 - 4 := by
        clear e1
        rw [Int.tmod_eq_emod_of_nonneg (by omega)]
        exact r64 (by omega) (by omega)
      have e3 : wrap64 (-J) = -J := by clear e1 e2; exact r64 (by omega) (by omega)
      have e4 : wrap64 ((n : Int) + 1) = (n : Int) + 1 := by clear e1 e2 e3; exact r64 (by omega) (by omega)
      rw [e1, e2, e4]
      clear e1 e2 e4
      obtain ⟨res, g1, g2, g3, _⟩ := least_eq V hL hl (v := (i : Int) / 9 - 30) (a := (i : Int) % 9 - 4) (by clear e3; have := hs.1; have := hs.2.1; dsimp only at *; omega) (by clear e3; omega) (J + J + 1).toNat (-J) (-1) (by clear e3; omega) (Int.le_refl _)
      have gf : ambidexterref28_least.f (r + 1 + K) V A J t ((i : Int) / 9 - 30) ((i : Int) % 9 - 4) = some res := by
        unfold ambidexterref28_least.f
        rw [e3]
        clear e3
        exact at_rounds (fun k' => ambidexterref28_least.mono_l k' _ _ _ _ _ _ _ _) (by omega) g1
      rw [gf, Option.bind_some]
      clear e3 gf g1
      have hno : ∀ m : Nat, m ≤ n → ¬ Dist A J m ((i : Int) / 9 - 30, (i : Int) % 9 - 4) := fun m hm hd => by
        have := (hT.2 _ hs).2 m hd (by unfold bd; split <;> omega)
        rw [hx] at this
        omega
      have hiff := least_dist hL hT hs hno g2 g3
      by_cases c2 : res = (n : Int)
      · rw [if_pos c2]
        exact lay_l2 V hL hn hK r (i + 1) _ (by omega) (mix_set hT hs hx (hiff.1 c2))
      · rw [if_neg c2]
        exact lay_l2 V hL hn hK r (i + 1) t (by omega) (mix_step hT hs hx (fun _ hd => c2 (hiff.2 hd)))
theorem mix_next {A J : Int} {n : Nat} {t : List Int} (hT : TMix A J n 549 t) : TMix A J (n + 1) 0 t := by
  refine ⟨hT.1, fun s hs => ?_⟩
  have hb := ix_bound hs
  have e : bd (n + 1) 0 s = bd n 549 s := by unfold bd; rw [if_neg (by omega), if_pos (by omega)]
  rw [e]
  exact hT.2 s hs
theorem lay_l1 {A J : Int} (V : Int) (hL : okL A J) : ∀ (r n : Nat) (t : List Int), n + r = 40 → TMix A J n 0 t → ∃ t', TMix A J 40 0 t' ∧ ambidexterref28_lay.l1 (551 * r + 8) t (n : Int) V A J = some t'
  | 0, n, t, h, hT => by
    have e : n = 40 := by omega
    subst e
    refine ⟨t, hT, ?_⟩
    rw [ambidexterref28_lay.l1, if_neg (by omega)]
  | r + 1, n, t, h, hT => by
    obtain ⟨t', k1, k2⟩ := lay_l2 V hL (n := n) (by omega) (K := 551 * r + 8) (by omega) 549 0 t (by omega) hT
    obtain ⟨t2, q1, q2⟩ := lay_l1 V hL r (n + 1) t' (by omega) (mix_next k1)
    refine ⟨t2, q1, ?_⟩
    rw [show 551 * (r + 1) + 8 = 549 + 1 + (551 * r + 8) + 1 by omega, ambidexterref28_lay.l1, if_pos (by omega)]
    exact k2.trans q2
theorem set_fill (i r : Nat) : (List.replicate i (-1 : Int) ++ List.replicate (r + 1) 0).set i (-1) = List.replicate (i + 1) (-1) ++ List.replicate r 0 := by
  apply List.ext_getElem?
  intro j
  rw [List.getElem?_set]
  by_cases c : i = j
  · subst c
    rw [if_pos rfl, if_pos (by simp), List.getElem?_append_left (by simp), List.getElem?_replicate, if_pos (by omega)]
  · rw [if_neg c]
    by_cases c2 : j < i
    · rw [List.getElem?_append_left (by simpa using c2), List.getElem?_append_left (by simp; omega), List.getElem?_replicate, List.getElem?_replicate, if_pos c2, if_pos (by omega)]
    · rw [List.getElem?_append_right (by simp; omega), List.getElem?_append_right (by simp; omega), List.getElem?_replicate, List.getElem?_replicate]
      simp only [List.length_replicate]
      by_cases c3 : j - i < r + 1
      · rw [if_pos c3, if_pos (by omega)]
      · rw [if_neg c3, if_neg (by omega)]
theorem lay_l0 (V A J : Int) (K : Nat) : ∀ (r i : Nat), i + r = 549 → ambidexterref28_lay.l0 (r + 1 + K) (List.replicate i (-1) ++ List.replicate r 0) (i : Int) V A J = ambidexterref28_lay.l1 K ((List.replicate 549 (-1)).set 274 0) 0 V A J
  | 0, i, h => by
    have e : i = 549 := by omega
    subst e
    rw [show 0 + 1 + K = K + 1 by omega, List.replicate_zero, List.append_nil, ambidexterref28_lay.l0, if_neg (by rw [List.length_replicate]; omega), if_pos (by rw [List.length_replicate]; omega)]
    rfl
  | r + 1, i, h => by
    have hw := wi28 (n := 1000) (i := i) (by omega) (by omega)
    rw [show r + 1 + 1 + K = r + 1 + K + 1 by omega, ambidexterref28_lay.l0, if_pos (by simp; omega), if_pos (Int.natCast_nonneg i), hw, Int.toNat_natCast, set_fill]
    exact lay_l0 V A J K r (i + 1) (by omega)
theorem mix_start (A J : Int) : TMix A J 0 0 ((List.replicate 549 (-1)).set 274 0) := by
  refine ⟨by rw [List.length_set, List.length_replicate], fun s hs => ?_⟩
  have hb := ix_bound hs
  have e : bd 0 0 s = 0 := by unfold bd; rw [if_neg (by omega)]
  have hz : ix ((0, 0) : Va) = 274 := by unfold ix; omega
  have hzb : inB ((0, 0) : Va) := by unfold inB; dsimp only; omega
  rw [e, rd_set (by rw [List.length_replicate]; omega) hb.1]
  by_cases c : ix s = ((274 : Nat) : Int)
  · have es : s = (0, 0) := ix_inj hs hzb (c.trans hz.symm)
    subst es
    rw [if_pos c]
    exact ⟨fun _ => ⟨0, rfl, zero_dist, Nat.le_refl _⟩, fun m _ hm => by omega⟩
  · have er : rd (List.replicate 549 (-1)) (ix s) = -1 := by
      unfold rd
      rw [List.getD_eq_getElem?_getD, List.getElem?_replicate, if_pos (by omega)]
      rfl
    rw [if_neg c, er]
    refine ⟨fun h => by omega, fun m hm hle => ?_⟩
    have hm0 : m = 0 := by omega
    subst hm0
    have := dist_zero hm
    subst this
    exact absurd hz c
theorem lay_ok {A J : Int} (V : Int) (hL : okL A J) : ∃ t, TMix A J 40 0 t ∧ ∀ k, 23000 ≤ k → ambidexterref28_lay.f k V A J = some t := by
  obtain ⟨t, h1, h2⟩ := lay_l1 V hL 40 0 _ (by omega) (mix_start A J)
  refine ⟨t, h1, fun k hk => ?_⟩
  refine at_rounds (ambidexterref28_lay.mono V A J) hk ?_
  unfold ambidexterref28_lay.f
  rw [if_pos (by omega)]
  refine at_rounds (fun k' => (ambidexterref28_lay.mono_l k').1 _ _ _ _ _) (show 549 + 1 + (551 * 40 + 8) ≤ 23000 by omega) ?_
  exact (lay_l0 V A J (551 * 40 + 8) 549 0 (by omega)).trans h2
end Go.Proofs.Ytjcefdockfbnaaa.Pure
