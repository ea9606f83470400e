-- Written by this session's own program, for this seat. Lean checks it.
import Derived.Test.YtmmaodlngnjmlaaRows
import Derived.Test.YtmmaodlngnjmlaaP8
import Derived.Test.YtmmaodlngnjmlaaPK
import Derived.Test.YtmmaodlngnjmlaaPureTimetableCoordinatedLength
import Derived.WalkKit
import Derived.ProofKit
import Derived.OpenShut
import Derived.ShutString
import Derived.ChangeOld
import Derived.Below
import Derived.SizedLaws
namespace Go.Proofs.Ytmmaodlngnjmlaa.timetableCoordinatedLength
open Go.ChangeShapes Go.WideShapes Go.ChangeAt Go.RowKit
open Go.ChangeMaps (open_string shut_string)
set_option linter.unusedVariables false
theorem own : ownKnob Try.prog.godebug = none := by kernel_rfl
theorem laidOut : laidOutB Try.prog = true := by kernel_rfl
set_option maxRecDepth 100000 in
theorem lifted (os : Os) (started : os.Started) (H : Type) (enc : TypeId × Value → H) :
    ReturnsInHanded {} Try.checked os 10 .any (Rows.timetableCoordinatedLengthSpec.pre6 enc Try.prog Try.f10 Rows.timetableCoordinatedLengthRow.domain false) (Rows.timetableCoordinatedLengthSpec.post enc Try.prog Try.f10 false true false false) := by
  refine returnsInHanded_of_change_sized (C := Try.checked) own started (by kernel_rfl) Try.func10
    (ChangeSpec.witness6 (enc := enc) (C := Try.checked) false ⟨#[], #[.agg #[.int .u8 0, .int .u8 0, .int .u8 0, .int .u8 0, .int .u8 0, .int .u8 0], .slice none 0 0, .slice none 0 0, .slice none 0 0, .agg #[.int .i64 0, .int .i64 0, .int .i64 0, .int .i64 0, .int .i64 0, .int .i64 0]], []⟩ 8 (by kernel_rfl) (by kernel_rfl) (by kernel_rfl) (by kernel_rfl)) ?_
  intro W base args ds gs before hval0 hW hcnd hsz0 _
  have hval : ∀ (j : Nat) t v, Try.f10.params[j]? = some t → args[j]? = some v → Value.okWide Try.prog W .any base t v := hval0
  have hW' := hW
  obtain ⟨p, q, hA0, hV, rfl, hfz, hnd⟩ := hW
  have hA : DataW.TrodAll enc Try.prog W 0 (fun _ => true) true Try.f10.params.toList args.toList ds p := hA0
  rw [Try.params10] at hA hval
  obtain ⟨v0, vs0, d0, ds0, p0, q0, hargs, rfl, rfl, h0, r0⟩ := trodAll_cons hA
  obtain ⟨v1, vs1, d1, ds1, p1, q1, rfl, rfl, rfl, h1, r1⟩ := trodAll_cons r0
  obtain ⟨v2, vs2, d2, ds2, p2, q2, rfl, rfl, rfl, h2, r2⟩ := trodAll_cons r1
  obtain ⟨v3, vs3, d3, ds3, p3, q3, rfl, rfl, rfl, h3, r3⟩ := trodAll_cons r2
  obtain ⟨v4, vs4, d4, ds4, p4, q4, rfl, rfl, rfl, h4, r4⟩ := trodAll_cons r3
  obtain ⟨rfl, rfl, rfl⟩ := trodAll_nil r4
  obtain rfl : args = #[v0, v1, v2, v3, v4] := by cases args; simp_all
  obtain ⟨rfl, rfl⟩ := trodVars_none hV
  have k0 := h0
  have lt0 : ∀ x ∈ p0, x.block < W.heap.size := by obtain ⟨m, hm⟩ := k0; exact DataW.trod_lt m _ _ _ hm
  obtain ⟨x0, cs0, rfl, hk0, w0⟩ := Opn.open_arr Try.underlying89 P.opens89 (hval 0 89 v0 rfl rfl) h0
  obtain rfl := P.k89_open hk0
  have k1 := h1
  have lt1 : ∀ x ∈ p1, x.block < W.heap.size := by obtain ⟨m, hm⟩ := k1; exact DataW.trod_lt m _ _ _ hm
  obtain ⟨A1, l1, c1, rfl, hc1, hr1, w1⟩ := Opn.open_row Try.underlying50 (Opn.Opens.slice Try.underlying50 (by kernel_rfl) P.opens63) (hval 1 50 v1 rfl rfl) h1
  have k2 := h2
  have lt2 : ∀ x ∈ p2, x.block < W.heap.size := by obtain ⟨m, hm⟩ := k2; exact DataW.trod_lt m _ _ _ hm
  obtain ⟨A2, l2, c2, rfl, hc2, hr2, w2⟩ := Opn.open_row Try.underlying50 (Opn.Opens.slice Try.underlying50 (by kernel_rfl) P.opens63) (hval 2 50 v2 rfl rfl) h2
  have k3 := h3
  have lt3 : ∀ x ∈ p3, x.block < W.heap.size := by obtain ⟨m, hm⟩ := k3; exact DataW.trod_lt m _ _ _ hm
  obtain ⟨A3, l3, c3, rfl, hc3, hr3, w3⟩ := Opn.open_row Try.underlying73 (Opn.Opens.slice Try.underlying73 (by kernel_rfl) P.opens91) (hval 3 73 v3 rfl rfl) h3
  have k4 := h4
  have lt4 : ∀ x ∈ p4, x.block < W.heap.size := by obtain ⟨m, hm⟩ := k4; exact DataW.trod_lt m _ _ _ hm
  obtain ⟨x4, cs4, rfl, hk4, w4⟩ := Opn.open_arr Try.underlying59 P.opens59 (hval 4 59 v4 rfl rfl) h4
  obtain rfl := P.k59_open hk4
  have hsz : (DataW.weightsEach Try.prog (Try.f10.params.toList ++ Rows.timetableCoordinatedLengthSpec.plain.varTypes Try.prog) ([d0, d1, d2, d3, d4] ++ [])).all (· ≤ reachBytes) = true := hsz0
  rw [Try.params10] at hsz
  have z1 := P.reach_row (j := 1) Try.underlying50 k1 hsz rfl rfl
  rw [show Try.prog.bytesOf 63 = 24 from by kernel_rfl] at z1
  have z2 := P.reach_row (j := 2) Try.underlying50 k2 hsz rfl rfl
  rw [show Try.prog.bytesOf 63 = 24 from by kernel_rfl] at z2
  have z3 := P.reach_row (j := 3) Try.underlying73 k3 hsz rfl rfl
  rw [show Try.prog.bytesOf 91 = 2 from by kernel_rfl] at z3
  clear hA0 hval0 hsz0 hsz
  have h := Pure.TimetableCoordinatedLength x0 l1 l2 l3 x4 w0 w1 w2 w3 w4 (by omega) (by omega) (by omega)
  refine (P.ambidexterlaw23_TimetableCoordinatedLength.calls0 x0.f0 x0.f1 x0.f2 x0.f3 x0.f4 x0.f5 A1 c1 l1 A2 c2 l2 A3 c3 l3 x4.f0.f0 x4.f0.f1 x4.f0.f2 x4.f1.f0 x4.f1.f1 x4.f1.f2 true W hr1 hc1 hr2 hc2 hr3 hc3 h rfl).mono fun e W' ⟨he, hd⟩ => ?_
  subst he
  have bel : Below W.heap.size W W' := by first | exact hd | exact hd.below
  exact ⟨_, rfl, _, _, _, [], _, [], hW', trodAll_mk1 (shut_bool Try.underlying4 _), (trodAll_cons_mk (Below.trod laidOut (by kernel_rfl) (of_decide_eq_true (by kernel_rfl)) k0 bel lt0) (trodAll_cons_mk (Below.trod laidOut (by kernel_rfl) (of_decide_eq_true (by kernel_rfl)) k1 bel lt1) (trodAll_cons_mk (Below.trod laidOut (by kernel_rfl) (of_decide_eq_true (by kernel_rfl)) k2 bel lt2) (trodAll_cons_mk (Below.trod laidOut (by kernel_rfl) (of_decide_eq_true (by kernel_rfl)) k3 bel lt3) (trodAll_cons_mk (Below.trod laidOut (by kernel_rfl) (of_decide_eq_true (by kernel_rfl)) k4 bel lt4) trodAll_mk0))))), rfl, bel.frame _, fun h => by cases h⟩
theorem over : Rows.timetableCoordinatedLengthRow.holds Try.pinned (OpenSpec.ofChange Rows.timetableCoordinatedLengthSpec) :=
  OpenClaim.holds_of_wide 10 Try.f10 rfl rfl rfl rfl rfl rfl rfl ⟨rfl, rfl, rfl, rfl, rfl⟩ rfl rfl rfl rfl rfl (by kernel_rfl) Try.func10 (by kernel_rfl)
    (of_decide_eq_true (by kernel_rfl)) (by unfold Func.isWrapper; first | (rw [if_pos (by decide +kernel)]; kernel_rfl) | (rw [if_neg (by decide +kernel)]; exact ⟨rfl, rfl⟩))
    (fun os started H enc _ => lifted os started H enc)
theorem proved : Rows.TimetableCoordinatedLengthSaid := over
#print axioms proved
end Go.Proofs.Ytmmaodlngnjmlaa.timetableCoordinatedLength
namespace Go.Proofs.Ytmmaodlngnjmlaa
/-- The row, under a short name, for the claim. -/
theorem timetableCoordinatedLength_holds : Rows.TimetableCoordinatedLengthSaid := timetableCoordinatedLength.proved
end Go.Proofs.Ytmmaodlngnjmlaa
