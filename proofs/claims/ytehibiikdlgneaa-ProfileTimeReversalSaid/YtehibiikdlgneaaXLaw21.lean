/- The profile's functions, their reference and the law's own helpers, told in plain lists. -/
import Derived.Test.YtehibiikdlgneaaXProf21
import Derived.Test.YtehibiikdlgneaaP4
import Derived.Test.YtehibiikdlgneaaP2
import Derived.Test.YtehibiikdlgneaaPK
import Derived.OpenShut
import Derived.IntWalk
namespace Go.Proofs.Ytehibiikdlgneaa.Pure
set_option linter.unusedSimpArgs false
set_option linter.unusedVariables false
open Go.RowKit Go.Proofs.Ytehibiikdlgneaa.P Go.Proofs.YtehibiikdlgneaaW.PrintWords Go.Proofs.YtehibiikdlgneaaW.PrintLast Go.Proofs.YtehibiikdlgneaaW.PrintMore Go.Proofs.Ytehibiikdlgneaa.Ticks

theorem rd_at {l : List Int} {i : Nat} (h : i < l.length) : rd l (i : Int) = l[i] := by simp [rd, List.getD_eq_getElem?_getD, List.getElem?_eq_getElem h]
theorem wi {i n : Nat} (hn : n ≤ 1000000000000) (h : i < n) : wrap64 ((i : Int) + 1) = ((i + 1 : Nat) : Int) := by rw [w64 (by omega) (by omega)]; rfl
theorem head21_ : ambidexterlaw21_head.f 20 = some true := by kernel_rfl
theorem head21 (k : Nat) : ambidexterlaw21_head.f (k + 20) = some true := at_rounds ambidexterlaw21_head.mono (by omega) head21_

/-- Jerks that the law covers. -/
def Good (l : List Int) : Prop := l.length ≤ 300 ∧ ∀ j ∈ l, -1024 ≤ j ∧ j ≤ 1024
theorem great_l0 {l : List Int} (hl : l.length ≤ 300) : ∀ n i : Nat, i + n = l.length → ∃ b, ambidexterlaw21_Great.l0 (n + 1) l i = some b ∧ (b = false → ∀ j ∈ l.drop i, -1024 ≤ j ∧ j ≤ 1024)
  | 0, i, h => ⟨false, by rw [ambidexterlaw21_Great.l0, if_neg (by omega)], fun _ j hj => by rw [List.drop_of_length_le (by omega)] at hj; simp at hj⟩
  | n + 1, i, h => by
    have hi : i < l.length := by omega
    rw [ambidexterlaw21_Great.l0, if_pos (by omega), if_pos (by omega), rd_at hi, wi (by omega) hi]
    by_cases c1 : l[i] > 1024
    · exact ⟨true, by rw [if_pos c1], fun e => by cases e⟩
    rw [if_neg c1]
    by_cases c2 : l[i] < -1024
    · exact ⟨true, by rw [if_pos c2], fun e => by cases e⟩
    rw [if_neg c2]
    obtain ⟨b, hb, hg⟩ := great_l0 hl n (i + 1) (by omega)
    refine ⟨b, hb, fun e j hj => ?_⟩
    rw [List.drop_eq_getElem_cons hi] at hj
    rcases List.mem_cons.1 hj with rfl | hj
    · omega
    · exact hg e j hj
theorem great (l : List Int) : ∃ b, (∀ k, 301 ≤ k → ambidexterlaw21_Great.f k l = some b) ∧ (b = false → Good l) := by
  by_cases h : l.length ≤ 300
  · obtain ⟨b, hb, hg⟩ := great_l0 h l.length 0 (by omega)
    have hf : ambidexterlaw21_Great.f (l.length + 1) l = some b := by rw [ambidexterlaw21_Great.f, if_neg (by omega)]; exact hb
    exact ⟨b, fun k hk => at_rounds (ambidexterlaw21_Great.mono l) (by omega) hf, fun e => ⟨h, fun j hj => hg e j (by simpa using hj)⟩⟩
  · exact ⟨true, fun k _ => by rw [ambidexterlaw21_Great.f, if_pos (by omega)], fun e => by cases e⟩
theorem motion {p v a : Int} (hp : -32768 ≤ p ∧ p ≤ 32767) (hv : -32768 ≤ v ∧ v ≤ 32767) (ha : -32768 ≤ a ∧ a ≤ 32767) : ambidexterlaw21_Motion.f p v a = some (p, v, a) := by
  rw [ambidexterlaw21_Motion.f, w64 (by omega) (by omega), w64 (by omega) (by omega), w64 (by omega) (by omega)]
theorem lim_ {n : Int} (h : 0 ≤ n ∧ n ≤ 255) : ∃ x y z : Int, ambidexterlaw21_Lim.f n = some (x, y, z) ∧ 1 ≤ x ∧ x ≤ 8 ∧ 1 ≤ y ∧ y ≤ 4 ∧ 1 ≤ z ∧ z ≤ 2 := by
  refine ⟨_, _, _, rfl, ?_⟩
  rw [w64 (x := n) (by omega) (by omega), Int.tmod_eq_emod_of_nonneg h.1, Int.tdiv_eq_ediv_of_nonneg h.1, Int.tdiv_eq_ediv_of_nonneg h.1, w64 (x := n / 8) (by omega) (by omega), w64 (x := n / 32) (by omega) (by omega), Int.tmod_eq_emod_of_nonneg (by omega), Int.tmod_eq_emod_of_nonneg (by omega), w64 (x := n % 8 + 1) (by omega) (by omega), w64 (x := n / 8 % 4 + 1) (by omega) (by omega), w64 (x := n / 32 % 2 + 1) (by omega) (by omega)]
  omega
theorem good_sm {l : List Int} (h : Good l) {p v a : Int} (hp : -32768 ≤ p ∧ p ≤ 32767) (hv : -32768 ≤ v ∧ v ≤ 32767) (ha : -32768 ≤ a ∧ a ≤ 32767) : Sm p v a l :=
  ⟨fun j hj => by have := h.2 j hj; omega, by have := h.1; omega, by have := h.1; omega, by have := h.1; omega⟩

theorem sim {l : List Int} (h : l.length ≤ 1000000000000) (p v a : Int) : profile_Simulate.f p v a l = some (statesOf (tr p v a l)) := by rw [profile_Simulate.f, if_pos h]
theorem final {l : List Int} (h : l.length ≤ 1000000000000) (p v a : Int) : profile_Final.f p v a l = some (lastOf p v a (tr p v a l)) := by rw [profile_Final.f, if_pos h]
theorem final_sm {l : List Int} {p v a : Int} (h : Sm p v a l) : profile_Final.f p v a l = some (fin p v a l) := by rw [final (by have := h.2.1; omega), lastOf_tr h]
theorem tick_ (p v a j : Int) : ambidexterref21_Tick.f p v a j = some (wrap64 (p + wrap64 (v + wrap64 (a + j))), wrap64 (v + wrap64 (a + j)), wrap64 (a + j)) := rfl
theorem drop_at {l : List Int} {i : Nat} (h : i < l.length) : l.drop i = l[i] :: l.drop (i + 1) := List.drop_eq_getElem_cons h

theorem plays_l0 {l : List Int} (hl : l.length ≤ 1000000) : ∀ (n i : Nat) (acc : List S29) (p v a : Int), i + n = l.length → acc.length = i → ambidexterref21_Plays.l0 (n + 1) l acc i p v a = some (acc ++ statesOf (tr p v a (l.drop i)))
  | 0, i, acc, p, v, a, h, _ => by rw [ambidexterref21_Plays.l0, if_neg (by omega), List.drop_of_length_le (by omega)]; simp [tr, statesOf]
  | n + 1, i, acc, p, v, a, h, ha => by
    have hi : i < l.length := by omega
    rw [ambidexterref21_Plays.l0, if_pos (by omega), if_pos (by omega), rd_at hi, wi (by omega) hi, tick_]
    simp only [Option.bind_some]
    rw [if_pos (by omega), plays_l0 hl n (i + 1) _ _ _ _ (by omega) (by simp [ha]), drop_at hi]
    simp [tr, statesOf]
theorem plays {l : List Int} (hl : l.length ≤ 1000000) (p v a : Int) {k : Nat} (hk : l.length + 1 ≤ k) : ambidexterref21_Plays.f k p v a l = some (statesOf (tr p v a l)) := by
  refine at_rounds (ambidexterref21_Plays.mono p v a l) hk ?_
  have := plays_l0 hl l.length 0 [] p v a (by omega) rfl
  simpa [ambidexterref21_Plays.f] using this
theorem end_l0 {l : List Int} (hl : l.length ≤ 1000000) : ∀ (n i : Nat) (p v a : Int), i + n = l.length → ambidexterref21_End.l0 (n + 1) l i p v a = some (lastOf p v a (tr p v a (l.drop i)))
  | 0, i, p, v, a, h => by rw [ambidexterref21_End.l0, if_neg (by omega), List.drop_of_length_le (by omega)]; rfl
  | n + 1, i, p, v, a, h => by
    have hi : i < l.length := by omega
    rw [ambidexterref21_End.l0, if_pos (by omega), if_pos (by omega), rd_at hi, wi (by omega) hi, tick_]
    simp only [Option.bind_some]
    rw [end_l0 hl n (i + 1) _ _ _ (by omega), drop_at hi, tr, lastOf_cons]
theorem end_ {l : List Int} (hl : l.length ≤ 1000000) (p v a : Int) {k : Nat} (hk : l.length + 1 ≤ k) : ambidexterref21_End.f k p v a l = some (lastOf p v a (tr p v a l)) := by
  refine at_rounds (ambidexterref21_End.mono p v a l) hk ?_
  have := end_l0 hl l.length 0 p v a (by omega)
  simpa [ambidexterref21_End.f] using this
theorem same_l0 {l : List S29} (hl : l.length ≤ 1000000) : ∀ (n i : Nat), i + n = l.length → ambidexterref21_Same.l0 (n + 1) l l i = some true
  | 0, i, h => by rw [ambidexterref21_Same.l0, if_neg (by omega)]
  | n + 1, i, h => by
    have hi : i < l.length := by omega
    rw [ambidexterref21_Same.l0, if_pos (by omega), if_pos (by omega), if_pos (by omega), wi (by omega) hi, if_neg (by simp), same_l0 hl n (i + 1) (by omega)]
theorem same {l : List S29} (hl : l.length ≤ 1000000) {k : Nat} (hk : l.length + 1 ≤ k) : ambidexterref21_Same.f k l l = some true := by
  refine at_rounds (ambidexterref21_Same.mono l l) hk ?_
  rw [ambidexterref21_Same.f, if_pos rfl]
  exact same_l0 hl l.length 0 (by omega)
/-- Within plus or minus the most. -/
def inB (n most : Int) : Bool := decide (-most ≤ n ∧ n ≤ most)
theorem within_eq {n m : Int} (h0 : -9223372036854775807 ≤ n) (h1 : n ≤ 9223372036854775807) : withinB n m = inB n m := by
  unfold withinB inB mx
  rw [w64 (by omega) (by omega), Bool.eq_iff_iff, decide_eq_true_eq, decide_eq_true_eq]
  split <;> omega
theorem in_eq {n m : Int} (h0 : 0 ≤ m) (h1 : m ≤ 1000000) : ambidexterref21_in.f n m = some (inB n m) := by
  unfold ambidexterref21_in.f inB
  rw [w64 (by omega) (by omega)]
  by_cases c : n ≥ -m
  · rw [if_pos c]
    congr 1
    rw [Bool.eq_iff_iff, decide_eq_true_eq, decide_eq_true_eq]
    omega
  · rw [if_neg c]
    congr 1
    rw [decide_eq_false (by omega)]
def allIn (x y z : Int) (l : List (Int × Int × Int × Int)) : Bool := l.all fun q => inB q.1 z && (inB q.2.2.1 x && inB q.2.2.2 y)
theorem within_sm {l : List Int} {x y z p v a : Int} (h : Sm p v a l) : profile_Within.f x y z p v a l = some (inB v x && inB a y && allIn x y z (ps p v a l)) := by
  have hb := ps_bound h
  have h' := h
  obtain ⟨_, h2, h3, h4⟩ := h'
  rw [profile_Within.f, if_pos (by omega), tr_ps h]
  congr 1
  unfold fitsB
  rw [within_eq (n := v) (by omega) (by omega), within_eq (n := a) (by omega) (by omega)]
  congr 1
  unfold allIn
  rw [Bool.eq_iff_iff, List.all_eq_true, List.all_eq_true]
  refine forall_congr' fun q => forall_congr' fun hq => ?_
  obtain ⟨b1, b2, b3, b4⟩ := hb q hq
  rw [within_eq (n := q.1) (by omega) (by omega), within_eq (n := q.2.2.1) (by omega) (by omega), within_eq (n := q.2.2.2) (by omega) (by omega)]
theorem right_l0 {l : List Int} (hl : l.length ≤ 1000000) {x y z : Int} (hx : 1 ≤ x ∧ x ≤ 8 ∧ 1 ≤ y ∧ y ≤ 4 ∧ 1 ≤ z ∧ z ≤ 2) : ∀ (n i : Nat) (p v a : Int), i + n = l.length → Sm p v a (l.drop i) → ambidexterref21_Right.l0 (n + 1) l i x y z p v a = some (allIn x y z (ps p v a (l.drop i)))
  | 0, i, p, v, a, h, _ => by rw [ambidexterref21_Right.l0, if_neg (by omega), List.drop_of_length_le (by omega)]; rfl
  | n + 1, i, p, v, a, h, hs => by
    have hi : i < l.length := by omega
    rw [drop_at hi] at hs ⊢
    obtain ⟨_, _, hs', e1, e2, e3⟩ := hs.next
    rw [ambidexterref21_Right.l0, if_pos (by omega), if_pos (by omega), rd_at hi, wi (by omega) hi, tick_, e1, e2, e3]
    simp only [Option.bind_some]
    rw [in_eq (by omega) (by omega), in_eq (by omega) (by omega), in_eq (by omega) (by omega), right_l0 hl hx n (i + 1) _ _ _ (by omega) hs']
    simp only [Option.bind_some, ps, allIn, List.all_cons]
    cases inB l[i] z <;> cases inB (v + (a + l[i])) x <;> cases inB (a + l[i]) y <;> simp
theorem right_ {l : List Int} (hl : l.length ≤ 1000000) {x y z p v a : Int} (hx : 1 ≤ x ∧ x ≤ 8 ∧ 1 ≤ y ∧ y ≤ 4 ∧ 1 ≤ z ∧ z ≤ 2) (h : Sm p v a l) {k : Nat} (hk : l.length + 2 ≤ k) : ambidexterref21_Right.f k x y z p v a l = some (inB v x && inB a y && allIn x y z (ps p v a l)) := by
  refine at_rounds (ambidexterref21_Right.mono x y z p v a l) hk ?_
  have h0 := right_l0 hl hx l.length 0 p v a (by omega) (by simpa using h)
  simp only [List.drop_zero] at h0
  rw [ambidexterref21_Right.f, in_eq (by omega) (by omega), in_eq (by omega) (by omega)]
  simp only [Option.bind_some, ambidexterref21_Right.j0]
  have h0' : ambidexterref21_Right.l0 (l.length + 1) l 0 x y z p v a = some (allIn x y z (ps p v a l)) := h0
  rw [h0']
  cases inB v x <;> cases inB a y <;> simp
end Go.Proofs.Ytehibiikdlgneaa.Pure
