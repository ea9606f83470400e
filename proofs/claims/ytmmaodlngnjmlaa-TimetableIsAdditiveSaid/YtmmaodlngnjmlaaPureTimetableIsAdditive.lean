/- The timetable of a concatenation extends the first one and takes as long as both. -/
import Derived.Test.YtmmaodlngnjmlaaXHead23
import Derived.Test.YtmmaodlngnjmlaaXTime23
import Derived.Test.YtmmaodlngnjmlaaP9
import Derived.Test.YtmmaodlngnjmlaaP11
namespace Go.Proofs.Ytmmaodlngnjmlaa.Pure
set_option linter.unusedSimpArgs false
set_option linter.unusedVariables false
open Go Go.RowKit Go.Proofs.Ytmmaodlngnjmlaa.P Go.Proofs.YtmmaodlngnjmlaaW.PrintWords Go.Proofs.YtmmaodlngnjmlaaW.PrintLast Go.Proofs.YtmmaodlngnjmlaaW.PrintMore Go.Proofs.Ytmmaodlngnjmlaa.Motion
theorem same22_l0 {l : List Int} (hl : l.length ≤ 1000000) (k : Nat) : ∀ (m i : Nat), i + m = l.length → ambidexterref22_Same.l0 (k + m + 1) l l (i : Int) = some true
  | 0, i, h => by rw [ambidexterref22_Same.l0, if_neg (by omega)]
  | m + 1, i, h => by
    have ew := kn1 (i := i) (n := l.length) (by omega) (by omega)
    show ambidexterref22_Same.l0 (k + m + 1 + 1) l l (i : Int) = _
    rw [ambidexterref22_Same.l0, if_pos (by omega), if_pos (by omega), if_pos (by omega), if_pos rfl, ew]
    exact same22_l0 hl k m (i + 1) (by omega)
theorem same22 {l : List Int} (hl : l.length ≤ 1000000) {k : Nat} (hk : l.length + 1 ≤ k) : ambidexterref22_Same.f k l l = some true := by
  obtain ⟨j, rfl⟩ : ∃ j, k = j + l.length + 1 := ⟨k - l.length - 1, by omega⟩
  unfold ambidexterref22_Same.f
  rw [if_pos rfl]
  exact same22_l0 hl j l.length 0 (by omega)
theorem same23_l0 {t : List Sg} (ht : t.length ≤ 1000000) (hs : ∀ s ∈ t, s.f2.length ≤ 2000) {k : Nat} (hk : 3000 ≤ k) : ∀ (m i : Nat), i + m = t.length → ambidexterref23_Same.l0 (k + m + 1) t t (i : Int) = some true
  | 0, i, h => by rw [ambidexterref23_Same.l0, if_neg (by omega)]
  | m + 1, i, h => by
    have hi : i < t.length := by omega
    have h1 := hs t[i] (List.getElem_mem hi)
    have ew := kn1 (i := i) (n := t.length) (by omega) hi
    show ambidexterref23_Same.l0 (k + m + 1 + 1) t t (i : Int) = _
    rw [ambidexterref23_Same.l0, if_pos (by omega), if_pos (by omega), if_pos (by omega), rds_at hi, if_neg (by simp), if_pos rfl, same22 (by omega) (by omega), Option.bind_some, if_pos rfl, ew]
    exact same23_l0 ht hs hk m (i + 1) (by omega)
theorem same23 {t : List Sg} (ht : t.length ≤ 1000000) (hs : ∀ s ∈ t, s.f2.length ≤ 2000) {k : Nat} (hk : t.length + 3001 ≤ k) : ambidexterref23_Same.f k t t = some true := by
  obtain ⟨j, rfl⟩ : ∃ j, k = j + t.length + 1 := ⟨k - t.length - 1, by omega⟩
  unfold ambidexterref23_Same.f
  rw [if_pos rfl]
  exact same23_l0 ht hs (by omega) t.length 0 (by omega)
theorem expR_ne (b : List Mv) (h : b ≠ []) : runsL b ≠ [] := by
  have e : b = b.dropLast ++ [b.getLast h] := (List.dropLast_concat_getLast h).symm
  rw [e]
  exact runs_ne _ _
theorem add_j1 {L : Lm} {K : Nat} (hL : ok L) (hK : ∀ n : Int, 1 ≤ n → n ≤ 35 → Fuel L K n) {a b : List Mv} (ha : a.length ≤ 60) (hb : b.length ≤ 60) (hr : runsL (a ++ b) = runsL a ++ runsL b) (hna : runsL a ≠ []) (hnb : runsL b ≠ []) {k : Nat} (hk : K + 4000 ≤ k) :
    ((timetable_Sequential.f (k + 1) L.v L.a L.j a).bind fun s => ((timetable_Sequential.f (k + 1) L.v L.a L.j b).bind fun r => ((timetable_Sequential.f (k + 1) L.v L.a L.j (a ++ b)).bind fun u => (if s.2 = 1 then ambidexterlaw23_TimetableIsAdditive.j1 (k + 1) true s.1 s.2 r.1 r.2 u.1 u.2 true else ambidexterlaw23_TimetableIsAdditive.j1 (k + 1) true s.1 s.2 r.1 r.2 u.1 u.2 (r.2 == 1))))) = some true := by
  have e1 := seq_ok hL hK (l := a) (by omega) (k := k + 1) (by omega)
  have e2 := seq_ok hL hK (l := b) (by omega) (k := k + 1) (by omega)
  have e3 := seq_ok hL hK (l := a ++ b) (by simp; omega) (k := k + 1) (by simp; omega)
  have la := runs_length a []
  have la2 : (runsL a).length ≤ a.length := by simpa [runsL] using la
  have lb := runs_length b []
  have lb2 : (runsL b).length ≤ b.length := by simpa [runsL] using lb
  rw [hr, List.all_append] at e3
  rw [e1, e2, e3]
  by_cases ca : a.all mayB = true
  · by_cases cb : b.all mayB = true
    · rw [if_pos ca, if_pos cb, if_pos (by rw [ca, cb]; rfl)]
      have i1 := tab_iff L (runsL a) 0
      have i2 := tab_iff L (runsL b) 0
      have i3 := tab_iff L (runsL a ++ runsL b) 0
      have ea := end_app L (runsL a) (runsL b) 0
      have eb := end_add L (runsL b) (endOf L 0 (runsL a)) 0
      rw [Int.add_zero] at eb
      have gb := end_ge L (runsL b) 0
      have ga := end_ge L (runsL a) 0
      cases t3 : tab L 0 (runsL a ++ runsL b) with
      | none =>
        cases t1 : tab L 0 (runsL a) with
        | none =>
          cases t2 : tab L 0 (runsL b) with
          | none => rfl
          | some r => rfl
        | some s =>
          cases t2 : tab L 0 (runsL b) with
          | none => rfl
          | some r =>
            rw [t1] at i1
            rw [t2] at i2
            rw [t3] at i3
            obtain ⟨j1, j2⟩ := i1.1 rfl
            obtain ⟨k1, k2⟩ := i2.1 rfl
            have d1 := dur_ok t1 (by omega) (k := k) (by omega)
            have d2 := dur_ok t2 (by omega) (k := k) (by omega)
            have hbig : ¬ endOf L 0 (runsL a) + endOf L 0 (runsL b) ≤ 2000 := by
              intro hle
              have h := i3.2 ⟨fun q hq => by
                rcases List.mem_append.1 hq with hq | hq
                · exact j1 q hq
                · exact k1 q hq, Or.inr (by omega)⟩
              cases h
            have b1 : endOf L 0 (runsL a) ≤ 2000 := j2.resolve_left hna
            have b2 : endOf L 0 (runsL b) ≤ 2000 := k2.resolve_left hnb
            dsimp only
            rw [Option.bind_some, Option.bind_some, Option.bind_some]
            dsimp only
            rw [if_neg (by decide), ambidexterlaw23_TimetableIsAdditive.j1, if_neg (by decide), if_neg (by decide), if_pos rfl, if_pos rfl, if_pos rfl, if_pos rfl, d1, Option.bind_some, d2, Option.bind_some, k64 (by omega) (by omega), decide_eq_true (by omega)]
      | some u =>
        rw [t3] at i3
        obtain ⟨j1, j2⟩ := i3.1 rfl
        have j3 : endOf L 0 (runsL a ++ runsL b) ≤ 2000 := j2.resolve_left (fun e => hna (List.append_eq_nil_iff.1 e).1)
        have s1 : (tab L 0 (runsL a)).isSome = true := i1.2 ⟨fun q hq => j1 q (List.mem_append_left _ hq), Or.inr (by omega)⟩
        have s2 : (tab L 0 (runsL b)).isSome = true := i2.2 ⟨fun q hq => j1 q (List.mem_append_right _ hq), Or.inr (by omega)⟩
        obtain ⟨s, t1⟩ := Option.isSome_iff_exists.1 s1
        obtain ⟨r, t2⟩ := Option.isSome_iff_exists.1 s2
        have ta := tab_app L (runsL a) (runsL b) 0 s t1
        rw [t3] at ta
        obtain ⟨v, _, hv⟩ := Option.map_eq_some_iff.1 ta.symm
        have d1 := dur_ok t1 (by omega) (k := k) (by omega)
        have d2 := dur_ok t2 (by omega) (k := k) (by omega)
        have d3 := dur_ok t3 (by simp; omega) (k := k) (by simp; omega)
        have n1 := tab_len L _ 0 _ t1
        have n2 := tab_len L _ 0 _ t2
        have n3 := tab_len L _ 0 _ t3
        rw [List.length_append] at n3
        have htake : u.take ((s.length : Int)).toNat = s := by
          rw [Int.toNat_natCast, ← hv]
          simp
        have hsame := same23 (t := s) (by omega) (fun q hq => by
          have h := (tab_dur L (runsL a) 0 0 s t1 (Int.le_refl _) (Int.le_refl _)).1 q hq
          omega) (k := k) (by omega)
        rw [t1, t2]
        dsimp only
        rw [Option.bind_some, Option.bind_some, Option.bind_some]
        dsimp only
        rw [if_neg (by decide), ambidexterlaw23_TimetableIsAdditive.j1, if_neg (by decide), if_pos rfl, if_pos rfl, if_pos rfl, if_pos rfl, if_pos (by rw [k64 (by omega) (by omega)]; omega), if_pos (by omega), if_pos (by omega), htake, hsame, Option.bind_some, if_pos rfl, d3, Option.bind_some, d1, Option.bind_some, d2, Option.bind_some, k64 (by omega) (by omega), ea, eb]
        simp
    · have hab : ¬ (a.all mayB && b.all mayB) = true := fun h => cb (Bool.and_eq_true _ _ ▸ h).2
      rw [if_pos ca, if_neg cb, if_neg hab]
      cases tab L 0 (runsL a) with
      | none => rfl
      | some s => rfl
  · have hab : ¬ (a.all mayB && b.all mayB) = true := fun h => ca (Bool.and_eq_true _ _ ▸ h).1
    by_cases cb : b.all mayB = true
    · rw [if_neg ca, if_pos cb, if_neg hab]
      cases tab L 0 (runsL b) with
      | none => rfl
      | some s => rfl
    · rw [if_neg ca, if_neg cb, if_neg hab]
      rfl
theorem TimetableIsAdditive : ∀ (x0 : S51) (l1 : List (S63)) (l2 : List (S63)), ok51 x0 → (l1.length ≤ maxLen ∧ ∀ y0_ ∈ l1, ok63 y0_) → (l2.length ≤ maxLen ∧ ∀ y0_ ∈ l2, ok63 y0_) → ∃ k, ambidexterlaw23_TimetableIsAdditive.f k x0.f0 x0.f1 x0.f2 l1 l2 = some true := by
  intro x a b hx ha hb
  obtain ⟨K0, hK0⟩ := head23
  obtain ⟨L, hL, l0, l1, l2⟩ := lim_ok hx
  obtain ⟨K1, hK1⟩ := pr_all hL
  obtain ⟨k, k0, k1⟩ : ∃ k, K0 ≤ k ∧ K1 + 4000 ≤ k := ⟨K0 + K1 + 4000, by omega, by omega⟩
  refine ⟨k + 1 + 1, ?_⟩
  have e0 : ambidexterlaw23_head.f (k + 1 + 1) = some true := at_rounds ambidexterlaw23_head.mono (by omega) hK0
  unfold ambidexterlaw23_TimetableIsAdditive.f
  rw [e0, Option.bind_some]
  have up : ∀ v0 v1 v2, ambidexterlaw23_TimetableIsAdditive.j0 (k + 1 + 1) a b true true v0 v1 v2 = some true := fun v0 v1 v2 => by
    rw [ambidexterlaw23_TimetableIsAdditive.j0, if_pos rfl]
  by_cases c1 : (a.length : Int) > 60
  · rw [if_pos c1, up]
  rw [if_neg c1]
  by_cases c2 : (b.length : Int) > 60
  · rw [if_pos c2, up]
  rw [if_neg c2]
  by_cases c3 : (a.length : Int) = 0
  · rw [if_pos c3, up]
  rw [if_neg c3]
  by_cases c4 : (b.length : Int) = 0
  · rw [if_pos c4, up]
  have e1 : wrap64 ((a.length : Int) - 1) = ((a.length - 1 : Nat) : Int) := by rw [k64 (by omega) (by omega)]; omega
  rw [if_neg c4, e1, if_pos (by omega), if_pos (by omega), if_pos (by omega), rdm_at (l := a) (i := a.length - 1) (by omega), show (0 : Int) = ((0 : Nat) : Int) from rfl, rdm_at (l := b) (i := 0) (by omega)]
  cases h : (a[a.length - 1].f0 == b[0].f0 && (a[a.length - 1].f1 == b[0].f1 && a[a.length - 1].f2 == b[0].f2)) with
  | true => exact up _ _ _
  | false =>
    have hne : a[a.length - 1] ≠ b[0] := fun e => by
      have h5 := eqm_iff.2 e
      unfold eqm at h5
      rw [h5] at h
      cases h
    have hane : a ≠ [] := fun e => c3 (by rw [e]; rfl)
    have ea : a = a.dropLast ++ [a[a.length - 1]] := by
      rw [← List.getLast_eq_getElem hane]
      exact (List.dropLast_concat_getLast hane).symm
    have eb : b = b[0] :: b.tail := by
      cases b with
      | nil => exact absurd rfl c4
      | cons m b => rfl
    have hr : runsL (a ++ b) = runsL a ++ runsL b := by
      have h6 := runs_app a.dropLast a[a.length - 1] b[0] b.tail hne
      rwa [← ea, ← eb] at h6
    have hna : runsL a ≠ [] := by
      have h7 := runs_ne a.dropLast a[a.length - 1]
      rwa [← ea] at h7
    have hnb : runsL b ≠ [] := by
      intro e
      have h8 := expR_ne b (fun e2 => c4 (by rw [e2]; rfl))
      exact h8 e
    have hj := add_j1 hL hK1 (a := a) (b := b) (by omega) (by omega) hr hna hnb (k := k) k1
    rw [ambidexterlaw23_TimetableIsAdditive.j0, if_neg (by decide)]
    unfold ambidexterlaw23_lim.f
    rw [Option.bind_some]
    dsimp only
    rw [l0, l1, l2]
    have e9 : ([] ++ a ++ b : List Mv) = a ++ b := rfl
    rw [← hj]
    congr 1
    funext s
    congr 1
    funext r
    rw [Option.bind_some, if_pos (by simp; omega), Option.bind_some, if_pos (by simp; omega), e9]
end Go.Proofs.Ytmmaodlngnjmlaa.Pure
