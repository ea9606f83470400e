/- GroupMoves, Sequential and Duration, told in plain lists. Sequential and Duration, told in plain lists. A profile played along a path: the states, the end, the limits; how long a best path is at most. When a timetable of runs exists, when it ends; runs of a concatenation. Limits out of arbitrary numbers. -/
import Derived.Test.YtmmaodlngnjmlaaXBase22
import Derived.Test.YtmmaodlngnjmlaaXLen22
import Derived.Test.YtmmaodlngnjmlaaP4
import Derived.Test.YtmmaodlngnjmlaaP1
import Derived.Test.YtmmaodlngnjmlaaPK
import Derived.OpenShut
import Derived.IntWalk
namespace Go.Proofs.Ytmmaodlngnjmlaa.Pure
set_option linter.unusedSimpArgs false
set_option linter.unusedVariables false
open Go Go.RowKit Go.Proofs.Ytmmaodlngnjmlaa.P Go.Proofs.YtmmaodlngnjmlaaW.PrintWords Go.Proofs.YtmmaodlngnjmlaaW.PrintLast Go.Proofs.YtmmaodlngnjmlaaW.PrintMore Go.Proofs.Ytmmaodlngnjmlaa.Motion
abbrev Mv := S63
abbrev Rn := S65
abbrev Sg := S67
theorem k64 {x : Int} (h0 : -9223372036854775808 ≤ x) (h1 : x ≤ 9223372036854775807) : wrap64 x = x := by unfold wrap64; omega
theorem kn1 {i n : Nat} (hn : n ≤ 10000000000000) (h : i < n) : wrap64 ((i : Int) + 1) = ((i + 1 : Nat) : Int) := by rw [k64 (by omega) (by omega)]; rfl
def eqm (a b : Mv) : Bool := a.f0 == b.f0 && (a.f1 == b.f1 && (a.f2 == b.f2))
theorem eqm_iff {a b : Mv} : eqm a b = true ↔ a = b := by
  cases a; cases b
  simp [eqm]
def pushR : List Rn → Mv → List Rn
  | [], m => [⟨m, 1⟩]
  | r :: y, m => if eqm r.f0 m = true then ⟨r.f0, r.f1 + 1⟩ :: y else ⟨m, 1⟩ :: r :: y
theorem rdm_at {l : List Mv} {i : Nat} (hi : i < l.length) : rd_T63 l (i : Int) = l[i] := by
  unfold rd_T63
  rw [Int.toNat_natCast, List.getD_eq_getElem?_getD, List.getElem?_eq_getElem hi]
  rfl
theorem rdr_at {l : List Rn} {i : Nat} (hi : i < l.length) : rd_T65 l (i : Int) = l[i] := by
  unfold rd_T65
  rw [Int.toNat_natCast, List.getD_eq_getElem?_getD, List.getElem?_eq_getElem hi]
  rfl
theorem rds_at {l : List Sg} {i : Nat} (hi : i < l.length) : rd_T67 l (i : Int) = l[i] := by
  unfold rd_T67
  rw [Int.toNat_natCast, List.getD_eq_getElem?_getD, List.getElem?_eq_getElem hi]
  rfl
theorem rd_last (y : List Rn) (r : Rn) : rd_T65 (r :: y).reverse (y.length : Int) = r := by
  unfold rd_T65
  rw [Int.toNat_natCast, List.reverse_cons, List.getD_eq_getElem?_getD, List.getElem?_append_right (by simp)]
  simp
theorem set_last (y : List Rn) (r r' : Rn) : (r :: y).reverse.set y.length r' = (r' :: y).reverse := by
  rw [List.reverse_cons, List.reverse_cons, List.set_append_right _ _ (by simp)]
  simp
theorem last_w (y : List Rn) (r : Rn) (h : y.length ≤ 10000000000000) : wrap64 (((r :: y).reverse.length : Int) - 1) = (y.length : Int) := by
  have e : (((r :: y).reverse.length : Nat) : Int) - 1 = (y.length : Int) := by simp
  rw [e, k64 (by omega) (by omega)]
theorem pushR_cons (r : Rn) (y : List Rn) (m : Mv) : pushR (r :: y) m = if eqm r.f0 m = true then ⟨r.f0, r.f1 + 1⟩ :: y else ⟨m, 1⟩ :: r :: y := rfl
theorem pushR_length (y : List Rn) (m : Mv) : (pushR y m).length ≤ y.length + 1 := by
  cases y with
  | nil => simp [pushR]
  | cons r y =>
    rw [pushR_cons]
    split <;> simp
theorem pushR_n (y : List Rn) (m : Mv) {i : Nat} (h : ∀ r ∈ y, 1 ≤ r.f1 ∧ r.f1 ≤ (i : Int)) : ∀ r ∈ pushR y m, 1 ≤ r.f1 ∧ r.f1 ≤ ((i + 1 : Nat) : Int) := by
  cases y with
  | nil =>
    intro r hr
    simp only [pushR, List.mem_singleton] at hr
    subst hr
    show (1 : Int) ≤ 1 ∧ (1 : Int) ≤ _
    omega
  | cons q y =>
    intro r hr
    rw [pushR_cons] at hr
    split at hr
    · rcases List.mem_cons.1 hr with rfl | hr
      · obtain ⟨h1, h2⟩ := h q (by simp)
        show (1 : Int) ≤ q.f1 + 1 ∧ q.f1 + 1 ≤ _
        omega
      · obtain ⟨h1, h2⟩ := h r (by simp [hr])
        exact ⟨h1, by omega⟩
    · rcases List.mem_cons.1 hr with rfl | hr
      · show (1 : Int) ≤ 1 ∧ (1 : Int) ≤ _
        omega
      · obtain ⟨h1, h2⟩ := h r hr
        exact ⟨h1, by omega⟩
theorem group_l0 {l : List Mv} (hl : l.length ≤ 5864062014800) (k : Nat) : ∀ (m i : Nat) (y : List Rn), i + m = l.length → y.length ≤ i → (∀ r ∈ y, 1 ≤ r.f1 ∧ r.f1 ≤ (i : Int)) →
    timetable_GroupMoves.l0 (k + m + 1) y.reverse l (l.length : Int) (i : Int) = some (((l.drop i).foldl pushR y).reverse)
  | 0, i, y, h, h1, h2 => by
    rw [timetable_GroupMoves.l0, if_neg (by omega), List.drop_of_length_le (by omega)]
    rfl
  | m + 1, i, y, h, h1, h2 => by
    have hi : i < l.length := by omega
    have ih := group_l0 hl k m (i + 1) (pushR y l[i]) (by omega) (Nat.le_trans (pushR_length y l[i]) (by omega)) (pushR_n y l[i] h2)
    have ew := kn1 (i := i) (n := l.length) (by omega) hi
    rw [List.drop_eq_getElem_cons hi, List.foldl_cons, ← ih]
    show timetable_GroupMoves.l0 (k + m + 1 + 1) y.reverse l (l.length : Int) (i : Int) = _
    rw [timetable_GroupMoves.l0, if_pos (by omega), if_pos (by omega), if_pos (by omega), ew, rdm_at hi]
    cases y with
    | nil =>
      rw [if_neg (by simp), if_pos (by simp)]
      rfl
    | cons r y =>
      have hy : y.length + 1 ≤ i := h1
      rw [if_pos (by simp), last_w y r (by omega), if_pos (by omega), if_pos (by simp; omega), rd_last]
      obtain ⟨g1, g2⟩ := h2 r (by simp)
      by_cases c : eqm r.f0 l[i] = true
      · have c' : (r.f0.f0 == l[i].f0 && (r.f0.f1 == l[i].f1 && r.f0.f2 == l[i].f2)) = true := c
        rw [if_pos c', Int.toNat_natCast, set_last, k64 (by omega) (by omega)]
        show _ = timetable_GroupMoves.l0 (k + m + 1) (pushR (r :: y) l[i]).reverse l (l.length : Int) ((i + 1 : Nat) : Int)
        rw [pushR_cons, if_pos c]
      · have c' : ¬ (r.f0.f0 == l[i].f0 && (r.f0.f1 == l[i].f1 && r.f0.f2 == l[i].f2)) = true := c
        have e2 : ((⟨l[i], 1⟩ : Rn) :: r :: y).reverse = (r :: y).reverse ++ [⟨l[i], 1⟩] := List.reverse_cons
        rw [if_neg c', if_pos (by simp; omega)]
        show _ = timetable_GroupMoves.l0 (k + m + 1) (pushR (r :: y) l[i]).reverse l (l.length : Int) ((i + 1 : Nat) : Int)
        rw [pushR_cons, if_neg c, e2]
def runsL (l : List Mv) : List Rn := (l.foldl pushR []).reverse
theorem group_ok {l : List Mv} (hl : l.length ≤ 5864062014800) {k : Nat} (hk : l.length + 1 ≤ k) : timetable_GroupMoves.f k l = some (runsL l) := by
  obtain ⟨j, rfl⟩ : ∃ j, k = j + l.length + 1 := ⟨k - l.length - 1, by omega⟩
  have h := group_l0 hl j l.length 0 [] (by omega) (Nat.le_refl _) (fun r hr => by cases hr)
  exact h
end Go.Proofs.Ytmmaodlngnjmlaa.Pure
namespace Go.Proofs.Ytmmaodlngnjmlaa.Pure
set_option linter.unusedSimpArgs false
set_option linter.unusedVariables false
open Go Go.RowKit Go.Proofs.Ytmmaodlngnjmlaa.P Go.Proofs.YtmmaodlngnjmlaaW.PrintWords Go.Proofs.YtmmaodlngnjmlaaW.PrintLast Go.Proofs.YtmmaodlngnjmlaaW.PrintMore Go.Proofs.Ytmmaodlngnjmlaa.Motion
open Classical in
noncomputable def pr (L : Lm) (n : Int) : List Int := if h : ∃ l, Best L (12 * n) l then Classical.choose h else []
theorem pr_of {L : Lm} {n : Int} {l : List Int} (h : Best L (12 * n) l) : pr L n = l := by
  unfold pr
  rw [dif_pos ⟨l, h⟩]
  exact (Classical.choose_spec (p := fun l => Best L (12 * n) l) ⟨l, h⟩).unique h
def Fuel (L : Lm) (K : Nat) (n : Int) : Prop := (∀ k, K ≤ k → mintime_Profile.f k L.v L.a L.j (12 * n) = some (pr L n, true)) ∧ Best L (12 * n) (pr L n) ∧ (pr L n).length ≤ 100000
theorem pr_one {L : Lm} (hL : ok L) {n : Int} (h1 : 0 ≤ n) (h2 : n ≤ 35) : ∃ K, Fuel L K n := by
  rcases profile_ok hL (d := 12 * n) (by omega) (by omega) with ⟨l, K, hK, hB⟩ | ⟨_, hno⟩
  · refine ⟨K, ?_⟩
    unfold Fuel
    rw [pr_of hB]
    exact ⟨hK, hB, best_len hL (by omega) (by omega) hB⟩
  · exact absurd (path_exists L (12 * n) hL (by omega) (fun e => by omega)) hno
theorem pr_all {L : Lm} (hL : ok L) : ∃ K, ∀ n : Int, 1 ≤ n → n ≤ 35 → Fuel L K n := by
  have key : ∀ b : Nat, b ≤ 35 → ∃ K, ∀ n : Int, 1 ≤ n → n ≤ b → Fuel L K n := by
    intro b
    induction b with
    | zero => exact fun _ => ⟨0, fun n h1 h2 => by omega⟩
    | succ b ih =>
      intro hb
      obtain ⟨K, hK⟩ := ih (by omega)
      obtain ⟨K', hK'⟩ := pr_one hL (n := ((b + 1 : Nat) : Int)) (by omega) (by omega)
      refine ⟨max K K', fun n h1 h2 => ?_⟩
      by_cases c : n ≤ b
      · obtain ⟨p1, p2⟩ := hK n h1 c
        exact ⟨fun k hk => p1 k (by omega), p2⟩
      · have e : n = ((b + 1 : Nat) : Int) := by omega
        subst e
        obtain ⟨p1, p2⟩ := hK'
        exact ⟨fun k hk => p1 k (by omega), p2⟩
  obtain ⟨K, hK⟩ := key 35 (Nat.le_refl _)
  exact ⟨K, fun n h1 h2 => hK n h1 (by omega)⟩
def mayB (m : Mv) : Bool := decide ((m.f0 = 0 ∨ m.f0 = 1) ∧ (0 ≤ m.f1 ∧ m.f1 ≤ 2) ∧ (m.f2 = 1 ∨ m.f2 = -1))
theorem may_ok (m : Mv) : timetable_may.f m.f0 m.f1 m.f2 = some (mayB m) := by
  have key : ∀ q : Bool, (q = true ↔ (m.f0 = 0 ∨ m.f0 = 1) ∧ (0 ≤ m.f1 ∧ m.f1 ≤ 2) ∧ (m.f2 = 1 ∨ m.f2 = -1)) → some q = some (mayB m) := fun q h => by
    unfold mayB
    cases q with
    | true => rw [decide_eq_true (h.1 rfl)]
    | false => rw [decide_eq_false (fun h' => Bool.noConfusion (h.2 h'))]
  unfold timetable_may.f
  repeat' split
  all_goals
    refine key _ ?_
    simp
    omega
noncomputable def tab (L : Lm) : Int → List Rn → Option (List Sg)
  | _, [] => some []
  | at_, r :: rs => if r.f1 ≤ 35 ∧ at_ + ((pr L r.f1).length : Int) ≤ 2000 then (tab L (at_ + ((pr L r.f1).length : Int)) rs).map (fun t => (⟨r, at_, pr L r.f1⟩ : Sg) :: t) else none
theorem slot_ok {L : Lm} {K : Nat} (hK : ∀ n : Int, 1 ≤ n → n ≤ 35 → Fuel L K n) (r : Rn) (h1 : 1 ≤ r.f1) (h2 : r.f1 ≤ 10000000000000) {a : Int} (a0 : 0 ≤ a) (a1 : a ≤ 2000) {k : Nat} (hk : K ≤ k) :
    (r.f1 ≤ 35 ∧ a + ((pr L r.f1).length : Int) ≤ 2000 → timetable_slot.f k L.v L.a L.j r.f0.f0 r.f0.f1 r.f0.f2 r.f1 a = some (r.f0.f0, r.f0.f1, r.f0.f2, r.f1, a, pr L r.f1, true)) ∧
    (¬ (r.f1 ≤ 35 ∧ a + ((pr L r.f1).length : Int) ≤ 2000) → ∃ x0 x1 x2 x3 x4 x5, timetable_slot.f k L.v L.a L.j r.f0.f0 r.f0.f1 r.f0.f2 r.f1 a = some (x0, x1, x2, x3, x4, x5, false)) := by
  unfold timetable_slot.f
  by_cases c : r.f1 ≤ 35
  · obtain ⟨p1, p2, p3⟩ := hK r.f1 h1 c
    have e : wrap64 (r.f1 * 12) = 12 * r.f1 := by rw [k64 (by omega) (by omega)]; omega
    have e2 : wrap64 (a + ((pr L r.f1).length : Int)) = a + ((pr L r.f1).length : Int) := k64 (by omega) (by omega)
    rw [if_neg (by omega), e, p1 k hk, Option.bind_some, if_pos rfl, e2]
    constructor
    · intro h
      rw [decide_eq_true h.2]
    · intro h
      rw [decide_eq_false (fun h' => h ⟨c, h'⟩)]
      exact ⟨_, _, _, _, _, _, rfl⟩
  · rw [if_pos (by omega)]
    exact ⟨fun h => absurd h.1 c, fun _ => ⟨_, _, _, _, _, _, rfl⟩⟩
theorem pr_pos {L : Lm} {K : Nat} {n : Int} (h1 : 1 ≤ n) (h : Fuel L K n) : 1 ≤ (pr L n).length := by
  obtain ⟨_, h2, _⟩ := h
  cases e : pr L n with
  | nil =>
    rw [e] at h2
    have h3 : zero = goal (12 * n) := h2.1
    have h4 : (0 : Int) = 12 * n := congrArg Mo.p h3
    omega
  | cons x l => simp
theorem seq_l1 {L : Lm} {K : Nat} (hK : ∀ n : Int, 1 ≤ n → n ≤ 35 → Fuel L K n) {R : List Rn} (hR : R.length ≤ 10000000000000) (hN : ∀ r ∈ R, 1 ≤ r.f1 ∧ r.f1 ≤ 10000000000000) {k : Nat} (hk : K ≤ k) : ∀ (m i : Nat) (acc : List Sg) (a : Int), i + m = R.length → (acc.length : Int) ≤ a → 0 ≤ a → a ≤ 2000 →
    timetable_Sequential.l1 (k + m + 1) acc a R (R.length : Int) (i : Int) L.v L.a L.j = (match tab L a (R.drop i) with | some t => some (acc ++ t, 0) | none => some ([], 2))
  | 0, i, acc, a, h, h1, h2, h3 => by
    rw [timetable_Sequential.l1, if_neg (by omega), List.drop_of_length_le (by omega)]
    simp [tab]
  | m + 1, i, acc, a, h, h1, h2, h3 => by
    have hi : i < R.length := by omega
    obtain ⟨n1, n2⟩ := hN R[i] (List.getElem_mem hi)
    obtain ⟨s1, s2⟩ := slot_ok hK R[i] n1 n2 h2 h3 (k := k + m + 1) (by omega)
    have ew := kn1 (i := i) (n := R.length) (by omega) hi
    show timetable_Sequential.l1 (k + m + 1 + 1) acc a R (R.length : Int) (i : Int) L.v L.a L.j = _
    rw [List.drop_eq_getElem_cons hi, timetable_Sequential.l1, if_pos (by omega), if_pos (by omega), if_pos (by omega), rdr_at hi, ew, tab]
    by_cases c : R[i].f1 ≤ 35 ∧ a + ((pr L R[i].f1).length : Int) ≤ 2000
    · have ih := seq_l1 hK hR hN hk m (i + 1) (acc ++ [(⟨R[i], a, pr L R[i].f1⟩ : Sg)]) (a + ((pr L R[i].f1).length : Int)) (by omega) (by have := pr_pos n1 (hK R[i].f1 n1 c.1); simp; omega) (by omega) c.2
      have ee : timetable_ends.f R[i].f0.f0 R[i].f0.f1 R[i].f0.f2 R[i].f1 a (pr L R[i].f1) = some (a + ((pr L R[i].f1).length : Int)) := by
        unfold timetable_ends.f
        rw [k64 (by omega) (by omega)]
      rw [s1 c, Option.bind_some, if_pos rfl, if_pos (by omega), ee, Option.bind_some, if_pos c]
      rw [show (⟨(⟨(⟨R[i].f0.f0, R[i].f0.f1, R[i].f0.f2⟩ : Mv), R[i].f1⟩ : Rn), a, pr L R[i].f1⟩ : Sg) = ⟨R[i], a, pr L R[i].f1⟩ from rfl, ih]
      cases tab L (a + ((pr L R[i].f1).length : Int)) (R.drop (i + 1)) with
      | none => rfl
      | some t => simp
    · obtain ⟨x0, x1, x2, x3, x4, x5, hx⟩ := s2 c
      rw [hx, Option.bind_some, if_neg (by simp), if_neg c]
theorem seq_l0 {L : Lm} {l : List Mv} (hl : l.length ≤ 5864062014800) (k : Nat) : ∀ (m i : Nat), i + m = l.length →
    timetable_Sequential.l0 (k + m + 1) l l (l.length : Int) (i : Int) L.v L.a L.j = if (l.drop i).all mayB = true then (timetable_GroupMoves.f k l).bind (fun t => timetable_Sequential.l1 k [] 0 t (t.length : Int) 0 L.v L.a L.j) else some ([], 1)
  | 0, i, h => by
    rw [timetable_Sequential.l0, if_neg (by omega), List.drop_of_length_le (by omega)]
    rfl
  | m + 1, i, h => by
    have hi : i < l.length := by omega
    have ew := kn1 (i := i) (n := l.length) (by omega) hi
    show timetable_Sequential.l0 (k + m + 1 + 1) l l (l.length : Int) (i : Int) L.v L.a L.j = _
    rw [List.drop_eq_getElem_cons hi, timetable_Sequential.l0, if_pos (by omega), if_pos (by omega), if_pos (by omega), rdm_at hi, ew, may_ok, Option.bind_some, List.all_cons]
    cases mayB l[i] with
    | true => rw [if_pos rfl, seq_l0 hl k m (i + 1) (by omega), Bool.true_and]
    | false => rw [if_neg (by decide), Bool.false_and, if_neg (by decide)]
theorem runs_n (l : List Mv) : ∀ (y : List Rn) (i : Nat), (∀ r ∈ y, 1 ≤ r.f1 ∧ r.f1 ≤ (i : Int)) → ∀ r ∈ l.foldl pushR y, 1 ≤ r.f1 ∧ r.f1 ≤ ((i + l.length : Nat) : Int) := by
  induction l with
  | nil => exact fun y i h => h
  | cons m l ih =>
    intro y i h r hr
    have h2 := ih (pushR y m) (i + 1) (pushR_n y m h) r hr
    rw [List.length_cons]
    omega
theorem runs_length (l : List Mv) : ∀ (y : List Rn), (l.foldl pushR y).length ≤ y.length + l.length := by
  induction l with
  | nil => exact fun y => Nat.le_refl _
  | cons m l ih =>
    intro y
    have h1 := ih (pushR y m)
    have h2 := pushR_length y m
    rw [List.foldl_cons, List.length_cons]
    omega
theorem seq_ok {L : Lm} (hL : ok L) {K : Nat} (hK : ∀ n : Int, 1 ≤ n → n ≤ 35 → Fuel L K n) {l : List Mv} (hl : l.length ≤ 5864062014800) {k : Nat} (hk : K + 2 * l.length + 4 ≤ k) :
    timetable_Sequential.f k L.v L.a L.j l = if l.all mayB = true then (match tab L 0 (runsL l) with | some t => some (t, (0 : Int)) | none => some ([], (2 : Int))) else some ([], (1 : Int)) := by
  unfold timetable_Sequential.f
  rw [valid_ok hL, Option.bind_some, if_pos rfl]
  obtain ⟨j, rfl⟩ : ∃ j, k = (j + (runsL l).length + 1) + l.length + 1 := by
    have h := runs_length l []
    have h2 : (runsL l).length ≤ l.length := by simpa [runsL] using h
    exact ⟨k - (runsL l).length - l.length - 2, by omega⟩
  have hr := runs_length l []
  have hr2 : (runsL l).length ≤ l.length := by simpa [runsL] using hr
  have h0 := seq_l0 (L := L) (l := l) (by omega) (j + (runsL l).length + 1) l.length 0 (by omega)
  rw [show ((0 : Nat) : Int) = 0 from rfl, List.drop_zero] at h0
  rw [h0]
  by_cases c : l.all mayB = true
  · rw [if_pos c, if_pos c, group_ok (by omega) (by omega), Option.bind_some]
    have h1 := seq_l1 hK (R := runsL l) (by omega) (fun r hr => by
      have h := runs_n l [] 0 (fun r hr => by cases hr) r (by simpa [runsL] using hr)
      omega) (k := j) (by omega) (runsL l).length 0 [] 0 (by omega) (Int.le_refl _) (Int.le_refl _) (by omega)
    rw [show ((0 : Nat) : Int) = 0 from rfl, List.drop_zero] at h1
    rw [h1]
    cases tab L 0 (runsL l) with
    | none => rfl
    | some t => simp
  · rw [if_neg c, if_neg c]
end Go.Proofs.Ytmmaodlngnjmlaa.Pure
namespace Go.Proofs.Ytmmaodlngnjmlaa.Pure
set_option linter.unusedSimpArgs false
set_option linter.unusedVariables false
open Go.RowKit Go.Proofs.Ytmmaodlngnjmlaa.P Go.Proofs.YtmmaodlngnjmlaaW.PrintWords Go.Proofs.YtmmaodlngnjmlaaW.PrintLast Go.Proofs.YtmmaodlngnjmlaaW.PrintMore Go.Proofs.Ytmmaodlngnjmlaa.Motion
/-- The states behind each jerk, with the jerk. -/
def pz : Mo → List Int → List (Int × Int × Int × Int)
  | _, [] => []
  | m, j :: l => (j, (tick m j).p, (tick m j).v, (tick m j).a) :: pz (tick m j) l
theorem tr_path {L : Lm} (hL : ok L) {d : Int} (d1 : d ≤ 420) {l : List Int} : ∀ {m m' : Mo}, may L d m → Path L d m l m' → Ticks.tr m.p m.v m.a l = pz m l := by
  have hb := hL
  unfold ok at hb
  induction l with
  | nil => intro m m' _ _; rfl
  | cons j l ih =>
    intro m m' hm h
    have h1 := h.2.2.1
    have e := ih h1 h.2.2.2
    have j0 := h.1
    have j1 := h.2.1
    unfold may at hm
    rw [Ticks.tr, w64 (x := m.a + j) (by omega) (by omega), w64 (x := m.v + (m.a + j)) (by omega) (by omega), w64 (x := m.p + (m.v + (m.a + j))) (by omega) (by omega)]
    exact congrArg (List.cons _) e
theorem pz_last (l : List Int) : ∀ m : Mo, Ticks.lastOf m.p m.v m.a (pz m l) = ((run m l).p, (run m l).v, (run m l).a) := by
  induction l with
  | nil => intro m; rfl
  | cons j l ih =>
    intro m
    have e : Ticks.lastOf m.p m.v m.a (pz m (j :: l)) = Ticks.lastOf (tick m j).p (tick m j).v (tick m j).a (pz (tick m j) l) := by
      rw [pz]
      cases pz (tick m j) l with
      | nil => rfl
      | cons y l => simp [Ticks.lastOf, List.getLast?_cons]
    rw [e, ih]
    rfl
end Go.Proofs.Ytmmaodlngnjmlaa.Pure
namespace Go.Proofs.Ytmmaodlngnjmlaa.Pure
set_option linter.unusedSimpArgs false
set_option linter.unusedVariables false
open Go Go.RowKit Go.Proofs.Ytmmaodlngnjmlaa.P Go.Proofs.YtmmaodlngnjmlaaW.PrintWords Go.Proofs.YtmmaodlngnjmlaaW.PrintLast Go.Proofs.YtmmaodlngnjmlaaW.PrintMore Go.Proofs.Ytmmaodlngnjmlaa.Motion
noncomputable def endOf (L : Lm) : Int → List Rn → Int
  | at_, [] => at_
  | at_, r :: rs => endOf L (at_ + ((pr L r.f1).length : Int)) rs
theorem end_ge (L : Lm) (R : List Rn) : ∀ a : Int, a ≤ endOf L a R := by
  induction R with
  | nil => exact fun a => Int.le_refl _
  | cons r rs ih =>
    intro a
    have h := ih (a + ((pr L r.f1).length : Int))
    show a ≤ endOf L (a + ((pr L r.f1).length : Int)) rs
    omega
theorem end_add (L : Lm) (R : List Rn) : ∀ a b : Int, endOf L (a + b) R = a + endOf L b R := by
  induction R with
  | nil => exact fun a b => rfl
  | cons r rs ih =>
    intro a b
    show endOf L (a + b + ((pr L r.f1).length : Int)) rs = a + endOf L (b + ((pr L r.f1).length : Int)) rs
    rw [Int.add_assoc, ih]
theorem end_app (L : Lm) (R Q : List Rn) : ∀ a : Int, endOf L a (R ++ Q) = endOf L (endOf L a R) Q := by
  induction R with
  | nil => exact fun a => rfl
  | cons r rs ih => exact fun a => ih _
theorem tab_iff (L : Lm) (R : List Rn) : ∀ a : Int, ((tab L a R).isSome = true ↔ (∀ r ∈ R, r.f1 ≤ 35) ∧ (R = [] ∨ endOf L a R ≤ 2000)) := by
  induction R with
  | nil => intro a; simp [tab]
  | cons r rs ih =>
    intro a
    have h := ih (a + ((pr L r.f1).length : Int))
    have g := end_ge L rs (a + ((pr L r.f1).length : Int))
    rw [tab]
    have e : endOf L a (r :: rs) = endOf L (a + ((pr L r.f1).length : Int)) rs := rfl
    by_cases c : r.f1 ≤ 35 ∧ a + ((pr L r.f1).length : Int) ≤ 2000
    · rw [if_pos c, Option.isSome_map, h, e]
      constructor
      · rintro ⟨h1, h2⟩
        refine ⟨fun q hq => ?_, Or.inr ?_⟩
        · rcases List.mem_cons.1 hq with rfl | hq
          · exact c.1
          · exact h1 q hq
        · rcases h2 with rfl | h2
          · exact c.2
          · exact h2
      · rintro ⟨h1, h2⟩
        refine ⟨fun q hq => h1 q (List.mem_cons_of_mem _ hq), Or.inr ?_⟩
        rcases h2 with h2 | h2
        · cases h2
        · exact h2
    · rw [if_neg c, e]
      constructor
      · intro h2
        cases h2
      · rintro ⟨h1, h2⟩
        have h3 := h1 r (by simp)
        rcases h2 with h2 | h2
        · cases h2
        · exact absurd ⟨h3, by omega⟩ c
theorem tab_app (L : Lm) (R Q : List Rn) : ∀ (a : Int) (t : List Sg), tab L a R = some t → tab L a (R ++ Q) = (tab L (endOf L a R) Q).map (fun u => t ++ u) := by
  induction R with
  | nil =>
    intro a t h
    have e : t = [] := (Option.some.inj h).symm
    subst e
    show tab L a Q = (tab L a Q).map (fun u => [] ++ u)
    cases tab L a Q <;> rfl
  | cons r rs ih =>
    intro a t h
    rw [tab] at h
    by_cases c : r.f1 ≤ 35 ∧ a + ((pr L r.f1).length : Int) ≤ 2000
    · rw [if_pos c] at h
      obtain ⟨t1, h1, h2⟩ := Option.map_eq_some_iff.1 h
      subst h2
      rw [List.cons_append, tab, if_pos c, ih _ t1 h1]
      show Option.map _ (Option.map _ (tab L (endOf L (a + ((pr L r.f1).length : Int)) rs) Q)) = _
      rw [Option.map_map]
      rfl
    · rw [if_neg c] at h
      cases h
theorem tab_len (L : Lm) (R : List Rn) : ∀ (a : Int) (t : List Sg), tab L a R = some t → t.length = R.length := by
  induction R with
  | nil =>
    intro a t h
    have e : t = [] := (Option.some.inj h).symm
    subst e
    rfl
  | cons r rs ih =>
    intro a t h
    rw [tab] at h
    by_cases c : r.f1 ≤ 35 ∧ a + ((pr L r.f1).length : Int) ≤ 2000
    · rw [if_pos c] at h
      obtain ⟨t1, h1, h2⟩ := Option.map_eq_some_iff.1 h
      subst h2
      rw [List.length_cons, List.length_cons, ih _ t1 h1]
    · rw [if_neg c] at h
      cases h
def upd23 (n : Int) (s : Sg) : Int := mx n (s.f1 + (s.f2.length : Int))
theorem tab_dur (L : Lm) (R : List Rn) : ∀ (a n : Int) (t : List Sg), tab L a R = some t → 0 ≤ a → n ≤ a → (∀ s ∈ t, 0 ≤ s.f1 ∧ s.f1 + (s.f2.length : Int) ≤ 2000) ∧ t.foldl upd23 n = if R = [] then n else endOf L a R := by
  induction R with
  | nil =>
    intro a n t h h0 h1
    have e : t = [] := (Option.some.inj h).symm
    subst e
    exact ⟨fun s hs => (by cases hs), rfl⟩
  | cons r rs ih =>
    intro a n t h h0 h1
    rw [tab] at h
    by_cases c : r.f1 ≤ 35 ∧ a + ((pr L r.f1).length : Int) ≤ 2000
    · rw [if_pos c] at h
      obtain ⟨t1, h2, h3⟩ := Option.map_eq_some_iff.1 h
      subst h3
      have em : mx n (a + ((pr L r.f1).length : Int)) = a + ((pr L r.f1).length : Int) := by
        unfold mx
        split <;> omega
      obtain ⟨i1, i2⟩ := ih (a + ((pr L r.f1).length : Int)) (a + ((pr L r.f1).length : Int)) t1 h2 (by omega) (Int.le_refl _)
      constructor
      · intro s hs
        rcases List.mem_cons.1 hs with rfl | hs
        · exact ⟨h0, c.2⟩
        · exact i1 s hs
      · rw [List.foldl_cons]
        show t1.foldl upd23 (mx n (a + ((pr L r.f1).length : Int))) = _
        rw [em, i2, show (if r :: rs = [] then n else endOf L a (r :: rs)) = endOf L (a + ((pr L r.f1).length : Int)) rs from if_neg (List.cons_ne_nil _ _)]
        by_cases e : rs = []
        · rw [if_pos e, e]
          rfl
        · rw [if_neg e]
    · rw [if_neg c] at h
      cases h
theorem dur_l0 {t : List Sg} (ht : t.length ≤ 1000000) (hs : ∀ s ∈ t, 0 ≤ s.f1 ∧ s.f1 + (s.f2.length : Int) ≤ 2000) (k : Nat) : ∀ (m i : Nat) (n : Int), i + m = t.length → timetable_Duration.l0 (k + m + 1) n t (t.length : Int) (i : Int) = some ((t.drop i).foldl upd23 n)
  | 0, i, n, h => by
    rw [timetable_Duration.l0, if_neg (by omega), List.drop_of_length_le (by omega)]
    rfl
  | m + 1, i, n, h => by
    have hi : i < t.length := by omega
    obtain ⟨h1, h2⟩ := hs t[i] (List.getElem_mem hi)
    have ew := kn1 (i := i) (n := t.length) (by omega) hi
    have ee : timetable_ends.f t[i].f0.f0.f0 t[i].f0.f0.f1 t[i].f0.f0.f2 t[i].f0.f1 t[i].f1 t[i].f2 = some (t[i].f1 + (t[i].f2.length : Int)) := by
      unfold timetable_ends.f
      rw [k64 (by omega) (by omega)]
    show timetable_Duration.l0 (k + m + 1 + 1) n t (t.length : Int) (i : Int) = _
    rw [List.drop_eq_getElem_cons hi, List.foldl_cons, timetable_Duration.l0, if_pos (by omega), if_pos (by omega), if_pos (by omega), rds_at hi, ee, Option.bind_some, ew]
    exact dur_l0 ht hs k m (i + 1) _ (by omega)
theorem dur_ok {L : Lm} {R : List Rn} {t : List Sg} (h : tab L 0 R = some t) (hR : R.length ≤ 1000000) {k : Nat} (hk : R.length + 1 ≤ k) : timetable_Duration.f k t = some (endOf L 0 R) := by
  obtain ⟨h1, h2⟩ := tab_dur L R 0 0 t h (Int.le_refl _) (Int.le_refl _)
  have hl := tab_len L R 0 t h
  obtain ⟨j, rfl⟩ : ∃ j, k = j + t.length + 1 := ⟨k - t.length - 1, by omega⟩
  have h3 := dur_l0 (by omega) h1 j t.length 0 0 (by omega)
  rw [List.drop_zero, h2] at h3
  unfold timetable_Duration.f
  rw [show ((0 : Nat) : Int) = 0 from rfl] at h3
  rw [h3]
  by_cases e : R = []
  · rw [if_pos e, e]
    rfl
  · rw [if_neg e]
theorem push_app (m : Mv) (r : Rn) (z q : List Rn) : pushR (r :: z ++ q) m = pushR (r :: z) m ++ q := by
  rw [List.cons_append, pushR_cons, pushR_cons]
  split <;> rfl
theorem push_ne (y : List Rn) (m : Mv) : ∃ r z, pushR y m = r :: z ∧ r.f0 = m := by
  cases y with
  | nil => exact ⟨_, _, rfl, rfl⟩
  | cons r y =>
    rw [pushR_cons]
    by_cases c : eqm r.f0 m = true
    · rw [if_pos c]
      exact ⟨_, _, rfl, eqm_iff.1 c⟩
    · rw [if_neg c]
      exact ⟨_, _, rfl, rfl⟩
theorem fold_app (b : List Mv) (q : List Rn) : ∀ (r : Rn) (z : List Rn), b.foldl pushR (r :: z ++ q) = b.foldl pushR (r :: z) ++ q := by
  induction b with
  | nil => exact fun _ _ => rfl
  | cons m b ih =>
    intro r z
    rw [List.foldl_cons, List.foldl_cons, push_app]
    obtain ⟨r', z', e, _⟩ := push_ne (r :: z) m
    rw [e]
    exact ih r' z'
theorem runs_app (a : List Mv) (x y : Mv) (b : List Mv) (h : x ≠ y) : runsL ((a ++ [x]) ++ y :: b) = runsL (a ++ [x]) ++ runsL (y :: b) := by
  obtain ⟨r, z, e, e2⟩ := push_ne (a.foldl pushR []) x
  have h1 : (a ++ [x]).foldl pushR [] = r :: z := by rw [List.foldl_append]; exact e
  have h2 : pushR (r :: z) y = (⟨y, 1⟩ : Rn) :: [] ++ (r :: z) := by
    rw [pushR_cons, if_neg (fun c => h (by rw [← e2]; exact eqm_iff.1 c))]
    rfl
  unfold runsL
  rw [List.foldl_append, h1, List.foldl_cons, h2, fold_app, List.reverse_append]
  rfl
theorem runs_ne (a : List Mv) (x : Mv) : runsL (a ++ [x]) ≠ [] := by
  obtain ⟨r, z, e, e2⟩ := push_ne (a.foldl pushR []) x
  have h1 : (a ++ [x]).foldl pushR [] = r :: z := by rw [List.foldl_append]; exact e
  unfold runsL
  rw [h1]
  simp
end Go.Proofs.Ytmmaodlngnjmlaa.Pure
