/-
  No cell of these rows narrows 'for every input' (looked for: loops, veiled, ifaces, maps, wideKeys, modest, calm, conditions, laid).
  DERIVED. THE GIVEN ROWS OF THIS SEAT. 12 by the template 'for every input the law returns true; each argument reads behind the call as it read before'; 0 by the template 'total and deterministic' (their statements: YtehibiikdlgneaaTotals.lean).
  GIVEN WITH THE SEED: the statements are not yours to turn. If you find one false, say at which input.
  Laid BY PROGRAM, IN A SANDBOX (cutbox-rows.mjs): the forced cells as the released guide's own fill.sh prints them over the translation f0f8828d1518c0be… (all of the seat's roots in one cut). By AI agents, Wed Nov 11 2026. No macro, syntax, notation, axiom, sorry.
-/
import Derived.Test.YtehibiikdlgneaaChecked
import GoSem.Claim
import GoSem.ClaimJoined
import GoSem.ClaimMapViews
import Derived.JoinedTies
import Derived.KernelRfl
namespace Go.Proofs.Ytehibiikdlgneaa
/- THE CELL 'sum', in the pinned program and in every row, IS THE sha256 OF THE DUMP (.gsa) THAT YtehibiikdlgneaaProg.lean LOADS. Nothing in Lean hashes anything: it is a label: what it is worth is what the hold of that sum in a sandbox is worth. -/
noncomputable def Try.pinned : Pinned := { name := "ytehibiikdlgneaa", sum := "f0f8828d1518c0be2e2bc6debcad6616385281c1a4f33cdf3b47263c949ead3a", checked := Try.checked }
namespace Rows
def none {H : Type} : Left H := { results := [], args := [] }

/-- 'ambidexterlaw21.ProfileMatchesReference': WHATEVER THE INPUT: true; the input reads as it did. -/
def profileMatchesReferenceSpec : ChangeSpec := { name := "profileMatchesReference", fn := fun _ => fun
  | [d1, d2, d3, d4, d5, d6] => { results := [.lit (.bool true)], args := [d1, d2, d3, d4, d5, d6] }
  | _ => none }
def profileMatchesReferenceRow : OpenClaim := { program := "ytehibiikdlgneaa", sum := "f0f8828d1518c0be2e2bc6debcad6616385281c1a4f33cdf3b47263c949ead3a", func := "ambidexter/ambidexterlaw21.ProfileMatchesReference", spec := "profileMatchesReference", unfollowed := true, recurses := true, apart := false }
def ProfileMatchesReferenceSaid : Prop := profileMatchesReferenceRow.holds Try.pinned (OpenSpec.ofChange profileMatchesReferenceSpec)

/-- ITS FALSE NEIGHBOUR: 'it returns false'. Refute it at one input. -/
def profileMatchesReferenceWrong : ChangeSpec := { name := "profileMatchesReference", fn := fun _ => fun
  | [d1, d2, d3, d4, d5, d6] => { results := [.lit (.bool false)], args := [d1, d2, d3, d4, d5, d6] }
  | _ => none }
def ProfileMatchesReferenceWrongFalsely : Prop := profileMatchesReferenceRow.holds Try.pinned (OpenSpec.ofChange profileMatchesReferenceWrong)

/-- 'ambidexterlaw21.ProfileConcatenation': WHATEVER THE INPUT: true; the input reads as it did. -/
def profileConcatenationSpec : ChangeSpec := { name := "profileConcatenation", fn := fun _ => fun
  | [d1, d2, d3, d4, d5] => { results := [.lit (.bool true)], args := [d1, d2, d3, d4, d5] }
  | _ => none }
def profileConcatenationRow : OpenClaim := { program := "ytehibiikdlgneaa", sum := "f0f8828d1518c0be2e2bc6debcad6616385281c1a4f33cdf3b47263c949ead3a", func := "ambidexter/ambidexterlaw21.ProfileConcatenation", spec := "profileConcatenation", unfollowed := true, recurses := true, apart := false }
def ProfileConcatenationSaid : Prop := profileConcatenationRow.holds Try.pinned (OpenSpec.ofChange profileConcatenationSpec)

/-- ITS FALSE NEIGHBOUR: 'it returns false'. Refute it at one input. -/
def profileConcatenationWrong : ChangeSpec := { name := "profileConcatenation", fn := fun _ => fun
  | [d1, d2, d3, d4, d5] => { results := [.lit (.bool false)], args := [d1, d2, d3, d4, d5] }
  | _ => none }
def ProfileConcatenationWrongFalsely : Prop := profileConcatenationRow.holds Try.pinned (OpenSpec.ofChange profileConcatenationWrong)

/-- 'ambidexterlaw21.ProfileSuperposition': WHATEVER THE INPUT: true; the input reads as it did. -/
def profileSuperpositionSpec : ChangeSpec := { name := "profileSuperposition", fn := fun _ => fun
  | [d1, d2, d3, d4, d5, d6, d7, d8] => { results := [.lit (.bool true)], args := [d1, d2, d3, d4, d5, d6, d7, d8] }
  | _ => none }
def profileSuperpositionRow : OpenClaim := { program := "ytehibiikdlgneaa", sum := "f0f8828d1518c0be2e2bc6debcad6616385281c1a4f33cdf3b47263c949ead3a", func := "ambidexter/ambidexterlaw21.ProfileSuperposition", spec := "profileSuperposition", unfollowed := true, recurses := true, apart := false }
def ProfileSuperpositionSaid : Prop := profileSuperpositionRow.holds Try.pinned (OpenSpec.ofChange profileSuperpositionSpec)

/-- ITS FALSE NEIGHBOUR: 'it returns false'. Refute it at one input. -/
def profileSuperpositionWrong : ChangeSpec := { name := "profileSuperposition", fn := fun _ => fun
  | [d1, d2, d3, d4, d5, d6, d7, d8] => { results := [.lit (.bool false)], args := [d1, d2, d3, d4, d5, d6, d7, d8] }
  | _ => none }
def ProfileSuperpositionWrongFalsely : Prop := profileSuperpositionRow.holds Try.pinned (OpenSpec.ofChange profileSuperpositionWrong)

/-- 'ambidexterlaw21.ProfileClosedForm': WHATEVER THE INPUT: true; the input reads as it did. -/
def profileClosedFormSpec : ChangeSpec := { name := "profileClosedForm", fn := fun _ => fun
  | [d1, d2, d3, d4] => { results := [.lit (.bool true)], args := [d1, d2, d3, d4] }
  | _ => none }
def profileClosedFormRow : OpenClaim := { program := "ytehibiikdlgneaa", sum := "f0f8828d1518c0be2e2bc6debcad6616385281c1a4f33cdf3b47263c949ead3a", func := "ambidexter/ambidexterlaw21.ProfileClosedForm", spec := "profileClosedForm", unfollowed := true, recurses := true, apart := false }
def ProfileClosedFormSaid : Prop := profileClosedFormRow.holds Try.pinned (OpenSpec.ofChange profileClosedFormSpec)

/-- ITS FALSE NEIGHBOUR: 'it returns false'. Refute it at one input. -/
def profileClosedFormWrong : ChangeSpec := { name := "profileClosedForm", fn := fun _ => fun
  | [d1, d2, d3, d4] => { results := [.lit (.bool false)], args := [d1, d2, d3, d4] }
  | _ => none }
def ProfileClosedFormWrongFalsely : Prop := profileClosedFormRow.holds Try.pinned (OpenSpec.ofChange profileClosedFormWrong)

/-- 'ambidexterlaw21.ProfileMirror': WHATEVER THE INPUT: true; the input reads as it did. -/
def profileMirrorSpec : ChangeSpec := { name := "profileMirror", fn := fun _ => fun
  | [d1, d2, d3, d4, d5] => { results := [.lit (.bool true)], args := [d1, d2, d3, d4, d5] }
  | _ => none }
def profileMirrorRow : OpenClaim := { program := "ytehibiikdlgneaa", sum := "f0f8828d1518c0be2e2bc6debcad6616385281c1a4f33cdf3b47263c949ead3a", func := "ambidexter/ambidexterlaw21.ProfileMirror", spec := "profileMirror", unfollowed := true, recurses := true, apart := false }
def ProfileMirrorSaid : Prop := profileMirrorRow.holds Try.pinned (OpenSpec.ofChange profileMirrorSpec)

/-- ITS FALSE NEIGHBOUR: 'it returns false'. Refute it at one input. -/
def profileMirrorWrong : ChangeSpec := { name := "profileMirror", fn := fun _ => fun
  | [d1, d2, d3, d4, d5] => { results := [.lit (.bool false)], args := [d1, d2, d3, d4, d5] }
  | _ => none }
def ProfileMirrorWrongFalsely : Prop := profileMirrorRow.holds Try.pinned (OpenSpec.ofChange profileMirrorWrong)

/-- 'ambidexterlaw21.ProfileTimeReversal': WHATEVER THE INPUT: true; the input reads as it did. -/
def profileTimeReversalSpec : ChangeSpec := { name := "profileTimeReversal", fn := fun _ => fun
  | [d1, d2] => { results := [.lit (.bool true)], args := [d1, d2] }
  | _ => none }
def profileTimeReversalRow : OpenClaim := { program := "ytehibiikdlgneaa", sum := "f0f8828d1518c0be2e2bc6debcad6616385281c1a4f33cdf3b47263c949ead3a", func := "ambidexter/ambidexterlaw21.ProfileTimeReversal", spec := "profileTimeReversal", unfollowed := true, recurses := true, apart := false }
def ProfileTimeReversalSaid : Prop := profileTimeReversalRow.holds Try.pinned (OpenSpec.ofChange profileTimeReversalSpec)

/-- ITS FALSE NEIGHBOUR: 'it returns false'. Refute it at one input. -/
def profileTimeReversalWrong : ChangeSpec := { name := "profileTimeReversal", fn := fun _ => fun
  | [d1, d2] => { results := [.lit (.bool false)], args := [d1, d2] }
  | _ => none }
def ProfileTimeReversalWrongFalsely : Prop := profileTimeReversalRow.holds Try.pinned (OpenSpec.ofChange profileTimeReversalWrong)

/-- 'ambidexterlaw25.ServoMatchesReference': WHATEVER THE INPUT: true; the input reads as it did. -/
def servoMatchesReferenceSpec : ChangeSpec := { name := "servoMatchesReference", fn := fun _ => fun
  | [d1, d2] => { results := [.lit (.bool true)], args := [d1, d2] }
  | _ => none }
def servoMatchesReferenceRow : OpenClaim := { program := "ytehibiikdlgneaa", sum := "f0f8828d1518c0be2e2bc6debcad6616385281c1a4f33cdf3b47263c949ead3a", func := "ambidexter/ambidexterlaw25.ServoMatchesReference", spec := "servoMatchesReference", unfollowed := true, recurses := true, apart := false }
def ServoMatchesReferenceSaid : Prop := servoMatchesReferenceRow.holds Try.pinned (OpenSpec.ofChange servoMatchesReferenceSpec)

/-- ITS FALSE NEIGHBOUR: 'it returns false'. Refute it at one input. -/
def servoMatchesReferenceWrong : ChangeSpec := { name := "servoMatchesReference", fn := fun _ => fun
  | [d1, d2] => { results := [.lit (.bool false)], args := [d1, d2] }
  | _ => none }
def ServoMatchesReferenceWrongFalsely : Prop := servoMatchesReferenceRow.holds Try.pinned (OpenSpec.ofChange servoMatchesReferenceWrong)

/-- 'ambidexterlaw25.ServoTracksTarget': WHATEVER THE INPUT: true; the input reads as it did. -/
def servoTracksTargetSpec : ChangeSpec := { name := "servoTracksTarget", fn := fun _ => fun
  | [d1, d2] => { results := [.lit (.bool true)], args := [d1, d2] }
  | _ => none }
def servoTracksTargetRow : OpenClaim := { program := "ytehibiikdlgneaa", sum := "f0f8828d1518c0be2e2bc6debcad6616385281c1a4f33cdf3b47263c949ead3a", func := "ambidexter/ambidexterlaw25.ServoTracksTarget", spec := "servoTracksTarget", unfollowed := true, recurses := true, apart := false }
def ServoTracksTargetSaid : Prop := servoTracksTargetRow.holds Try.pinned (OpenSpec.ofChange servoTracksTargetSpec)

/-- ITS FALSE NEIGHBOUR: 'it returns false'. Refute it at one input. -/
def servoTracksTargetWrong : ChangeSpec := { name := "servoTracksTarget", fn := fun _ => fun
  | [d1, d2] => { results := [.lit (.bool false)], args := [d1, d2] }
  | _ => none }
def ServoTracksTargetWrongFalsely : Prop := servoTracksTargetRow.holds Try.pinned (OpenSpec.ofChange servoTracksTargetWrong)

/-- 'ambidexterlaw25.ServoConverges': WHATEVER THE INPUT: true; the input reads as it did. -/
def servoConvergesSpec : ChangeSpec := { name := "servoConverges", fn := fun _ => fun
  | [d1, d2, d3] => { results := [.lit (.bool true)], args := [d1, d2, d3] }
  | _ => none }
def servoConvergesRow : OpenClaim := { program := "ytehibiikdlgneaa", sum := "f0f8828d1518c0be2e2bc6debcad6616385281c1a4f33cdf3b47263c949ead3a", func := "ambidexter/ambidexterlaw25.ServoConverges", spec := "servoConverges", unfollowed := true, recurses := true, apart := false }
def ServoConvergesSaid : Prop := servoConvergesRow.holds Try.pinned (OpenSpec.ofChange servoConvergesSpec)

/-- ITS FALSE NEIGHBOUR: 'it returns false'. Refute it at one input. -/
def servoConvergesWrong : ChangeSpec := { name := "servoConverges", fn := fun _ => fun
  | [d1, d2, d3] => { results := [.lit (.bool false)], args := [d1, d2, d3] }
  | _ => none }
def ServoConvergesWrongFalsely : Prop := servoConvergesRow.holds Try.pinned (OpenSpec.ofChange servoConvergesWrong)

/-- 'ambidexterlaw25.ServoCommandClamped': WHATEVER THE INPUT: true; the input reads as it did. -/
def servoCommandClampedSpec : ChangeSpec := { name := "servoCommandClamped", fn := fun _ => fun
  | [d1, d2, d3] => { results := [.lit (.bool true)], args := [d1, d2, d3] }
  | _ => none }
def servoCommandClampedRow : OpenClaim := { program := "ytehibiikdlgneaa", sum := "f0f8828d1518c0be2e2bc6debcad6616385281c1a4f33cdf3b47263c949ead3a", func := "ambidexter/ambidexterlaw25.ServoCommandClamped", spec := "servoCommandClamped", unfollowed := true, recurses := true, apart := false }
def ServoCommandClampedSaid : Prop := servoCommandClampedRow.holds Try.pinned (OpenSpec.ofChange servoCommandClampedSpec)

/-- ITS FALSE NEIGHBOUR: 'it returns false'. Refute it at one input. -/
def servoCommandClampedWrong : ChangeSpec := { name := "servoCommandClamped", fn := fun _ => fun
  | [d1, d2, d3] => { results := [.lit (.bool false)], args := [d1, d2, d3] }
  | _ => none }
def ServoCommandClampedWrongFalsely : Prop := servoCommandClampedRow.holds Try.pinned (OpenSpec.ofChange servoCommandClampedWrong)

/-- 'ambidexterlaw25.ServoLost': WHATEVER THE INPUT: true; the input reads as it did. -/
def servoLostSpec : ChangeSpec := { name := "servoLost", fn := fun _ => fun
  | [d1, d2, d3] => { results := [.lit (.bool true)], args := [d1, d2, d3] }
  | _ => none }
def servoLostRow : OpenClaim := { program := "ytehibiikdlgneaa", sum := "f0f8828d1518c0be2e2bc6debcad6616385281c1a4f33cdf3b47263c949ead3a", func := "ambidexter/ambidexterlaw25.ServoLost", spec := "servoLost", unfollowed := true, recurses := true, apart := false }
def ServoLostSaid : Prop := servoLostRow.holds Try.pinned (OpenSpec.ofChange servoLostSpec)

/-- ITS FALSE NEIGHBOUR: 'it returns false'. Refute it at one input. -/
def servoLostWrong : ChangeSpec := { name := "servoLost", fn := fun _ => fun
  | [d1, d2, d3] => { results := [.lit (.bool false)], args := [d1, d2, d3] }
  | _ => none }
def ServoLostWrongFalsely : Prop := servoLostRow.holds Try.pinned (OpenSpec.ofChange servoLostWrong)

/-- 'ambidexterlaw25.ServoShiftInvariant': WHATEVER THE INPUT: true; the input reads as it did. -/
def servoShiftInvariantSpec : ChangeSpec := { name := "servoShiftInvariant", fn := fun _ => fun
  | [d1, d2, d3] => { results := [.lit (.bool true)], args := [d1, d2, d3] }
  | _ => none }
def servoShiftInvariantRow : OpenClaim := { program := "ytehibiikdlgneaa", sum := "f0f8828d1518c0be2e2bc6debcad6616385281c1a4f33cdf3b47263c949ead3a", func := "ambidexter/ambidexterlaw25.ServoShiftInvariant", spec := "servoShiftInvariant", unfollowed := true, recurses := true, apart := false }
def ServoShiftInvariantSaid : Prop := servoShiftInvariantRow.holds Try.pinned (OpenSpec.ofChange servoShiftInvariantSpec)

/-- ITS FALSE NEIGHBOUR: 'it returns false'. Refute it at one input. -/
def servoShiftInvariantWrong : ChangeSpec := { name := "servoShiftInvariant", fn := fun _ => fun
  | [d1, d2, d3] => { results := [.lit (.bool false)], args := [d1, d2, d3] }
  | _ => none }
def ServoShiftInvariantWrongFalsely : Prop := servoShiftInvariantRow.holds Try.pinned (OpenSpec.ofChange servoShiftInvariantWrong)

/- THE SECOND FORM. 'bulk': how many values and letters a reading holds, each counted each time it is reached (what is shared counts as often as it is met; a slice's spare places count too). A statement '..UptoSaid' is the law's where the arguments, and the package variables that the reading takes, are together of bulk at most 1048576: NARROWER than '..Said'. Prove '..Said' where nothing that the law and all that it calls make is longer than what came in: it says more and counts as full. Else prove '..UptoSaid'. A law counts once. -/
mutual
def uptoBulk {H : Type} : DataW H → Nat
  | .lit (.string bytes) => bytes.length + 1
  | .lit _ => 1
  | .nil => 1
  | .ptr d => uptoBulk d + 1
  | .slice elems spare => uptoBulkAll elems + uptoBulkAll spare + 1
  | .agg parts => uptoBulkAll parts + 1
  | .iface _ d => uptoBulk d + 1
  | .map entries => uptoBulkEntries entries + 1
  | .held _ => 1
def uptoBulkAll {H : Type} : List (DataW H) → Nat
  | [] => 0
  | d :: r => uptoBulk d + uptoBulkAll r
def uptoBulkEntries {H : Type} : List (Lit × DataW H) → Nat
  | [] => 0
  | x :: r => uptoBulkEntry x + uptoBulkEntries r
def uptoBulkEntry {H : Type} : Lit × DataW H → Nat
  | (.string bytes, d) => bytes.length + uptoBulk d + 1
  | (_, d) => uptoBulk d + 1
 end
def uptoSmall : (H : Type) → List (DataW H) → Bool := fun _ ds => decide (uptoBulkAll ds ≤ 1048576)
def OpenSpec.upto (s : _root_.Go.ChangeSpec) : _root_.Go.OpenSpec := { _root_.Go.OpenSpec.ofChange s with cond := some uptoSmall }

/-- 'ambidexterlaw21.ProfileMatchesReference', WHERE WHAT IT READS IS OF BULK AT MOST 1048576: true; the input reads as it did. -/
def profileMatchesReferenceUptoRow : OpenClaim := { program := "ytehibiikdlgneaa", sum := "f0f8828d1518c0be2e2bc6debcad6616385281c1a4f33cdf3b47263c949ead3a", func := "ambidexter/ambidexterlaw21.ProfileMatchesReference", spec := "profileMatchesReference", unfollowed := true, recurses := true, apart := false, narrowed := true }
def ProfileMatchesReferenceUptoSaid : Prop := profileMatchesReferenceUptoRow.holds Try.pinned (OpenSpec.upto profileMatchesReferenceSpec)

/-- 'ambidexterlaw21.ProfileConcatenation', WHERE WHAT IT READS IS OF BULK AT MOST 1048576: true; the input reads as it did. -/
def profileConcatenationUptoRow : OpenClaim := { program := "ytehibiikdlgneaa", sum := "f0f8828d1518c0be2e2bc6debcad6616385281c1a4f33cdf3b47263c949ead3a", func := "ambidexter/ambidexterlaw21.ProfileConcatenation", spec := "profileConcatenation", unfollowed := true, recurses := true, apart := false, narrowed := true }
def ProfileConcatenationUptoSaid : Prop := profileConcatenationUptoRow.holds Try.pinned (OpenSpec.upto profileConcatenationSpec)

/-- 'ambidexterlaw21.ProfileSuperposition', WHERE WHAT IT READS IS OF BULK AT MOST 1048576: true; the input reads as it did. -/
def profileSuperpositionUptoRow : OpenClaim := { program := "ytehibiikdlgneaa", sum := "f0f8828d1518c0be2e2bc6debcad6616385281c1a4f33cdf3b47263c949ead3a", func := "ambidexter/ambidexterlaw21.ProfileSuperposition", spec := "profileSuperposition", unfollowed := true, recurses := true, apart := false, narrowed := true }
def ProfileSuperpositionUptoSaid : Prop := profileSuperpositionUptoRow.holds Try.pinned (OpenSpec.upto profileSuperpositionSpec)

/-- 'ambidexterlaw21.ProfileClosedForm', WHERE WHAT IT READS IS OF BULK AT MOST 1048576: true; the input reads as it did. -/
def profileClosedFormUptoRow : OpenClaim := { program := "ytehibiikdlgneaa", sum := "f0f8828d1518c0be2e2bc6debcad6616385281c1a4f33cdf3b47263c949ead3a", func := "ambidexter/ambidexterlaw21.ProfileClosedForm", spec := "profileClosedForm", unfollowed := true, recurses := true, apart := false, narrowed := true }
def ProfileClosedFormUptoSaid : Prop := profileClosedFormUptoRow.holds Try.pinned (OpenSpec.upto profileClosedFormSpec)

/-- 'ambidexterlaw21.ProfileMirror', WHERE WHAT IT READS IS OF BULK AT MOST 1048576: true; the input reads as it did. -/
def profileMirrorUptoRow : OpenClaim := { program := "ytehibiikdlgneaa", sum := "f0f8828d1518c0be2e2bc6debcad6616385281c1a4f33cdf3b47263c949ead3a", func := "ambidexter/ambidexterlaw21.ProfileMirror", spec := "profileMirror", unfollowed := true, recurses := true, apart := false, narrowed := true }
def ProfileMirrorUptoSaid : Prop := profileMirrorUptoRow.holds Try.pinned (OpenSpec.upto profileMirrorSpec)

/-- 'ambidexterlaw21.ProfileTimeReversal', WHERE WHAT IT READS IS OF BULK AT MOST 1048576: true; the input reads as it did. -/
def profileTimeReversalUptoRow : OpenClaim := { program := "ytehibiikdlgneaa", sum := "f0f8828d1518c0be2e2bc6debcad6616385281c1a4f33cdf3b47263c949ead3a", func := "ambidexter/ambidexterlaw21.ProfileTimeReversal", spec := "profileTimeReversal", unfollowed := true, recurses := true, apart := false, narrowed := true }
def ProfileTimeReversalUptoSaid : Prop := profileTimeReversalUptoRow.holds Try.pinned (OpenSpec.upto profileTimeReversalSpec)

/-- 'ambidexterlaw25.ServoMatchesReference', WHERE WHAT IT READS IS OF BULK AT MOST 1048576: true; the input reads as it did. -/
def servoMatchesReferenceUptoRow : OpenClaim := { program := "ytehibiikdlgneaa", sum := "f0f8828d1518c0be2e2bc6debcad6616385281c1a4f33cdf3b47263c949ead3a", func := "ambidexter/ambidexterlaw25.ServoMatchesReference", spec := "servoMatchesReference", unfollowed := true, recurses := true, apart := false, narrowed := true }
def ServoMatchesReferenceUptoSaid : Prop := servoMatchesReferenceUptoRow.holds Try.pinned (OpenSpec.upto servoMatchesReferenceSpec)

/-- 'ambidexterlaw25.ServoTracksTarget', WHERE WHAT IT READS IS OF BULK AT MOST 1048576: true; the input reads as it did. -/
def servoTracksTargetUptoRow : OpenClaim := { program := "ytehibiikdlgneaa", sum := "f0f8828d1518c0be2e2bc6debcad6616385281c1a4f33cdf3b47263c949ead3a", func := "ambidexter/ambidexterlaw25.ServoTracksTarget", spec := "servoTracksTarget", unfollowed := true, recurses := true, apart := false, narrowed := true }
def ServoTracksTargetUptoSaid : Prop := servoTracksTargetUptoRow.holds Try.pinned (OpenSpec.upto servoTracksTargetSpec)

/-- 'ambidexterlaw25.ServoConverges', WHERE WHAT IT READS IS OF BULK AT MOST 1048576: true; the input reads as it did. -/
def servoConvergesUptoRow : OpenClaim := { program := "ytehibiikdlgneaa", sum := "f0f8828d1518c0be2e2bc6debcad6616385281c1a4f33cdf3b47263c949ead3a", func := "ambidexter/ambidexterlaw25.ServoConverges", spec := "servoConverges", unfollowed := true, recurses := true, apart := false, narrowed := true }
def ServoConvergesUptoSaid : Prop := servoConvergesUptoRow.holds Try.pinned (OpenSpec.upto servoConvergesSpec)

/-- 'ambidexterlaw25.ServoCommandClamped', WHERE WHAT IT READS IS OF BULK AT MOST 1048576: true; the input reads as it did. -/
def servoCommandClampedUptoRow : OpenClaim := { program := "ytehibiikdlgneaa", sum := "f0f8828d1518c0be2e2bc6debcad6616385281c1a4f33cdf3b47263c949ead3a", func := "ambidexter/ambidexterlaw25.ServoCommandClamped", spec := "servoCommandClamped", unfollowed := true, recurses := true, apart := false, narrowed := true }
def ServoCommandClampedUptoSaid : Prop := servoCommandClampedUptoRow.holds Try.pinned (OpenSpec.upto servoCommandClampedSpec)

/-- 'ambidexterlaw25.ServoLost', WHERE WHAT IT READS IS OF BULK AT MOST 1048576: true; the input reads as it did. -/
def servoLostUptoRow : OpenClaim := { program := "ytehibiikdlgneaa", sum := "f0f8828d1518c0be2e2bc6debcad6616385281c1a4f33cdf3b47263c949ead3a", func := "ambidexter/ambidexterlaw25.ServoLost", spec := "servoLost", unfollowed := true, recurses := true, apart := false, narrowed := true }
def ServoLostUptoSaid : Prop := servoLostUptoRow.holds Try.pinned (OpenSpec.upto servoLostSpec)

/-- 'ambidexterlaw25.ServoShiftInvariant', WHERE WHAT IT READS IS OF BULK AT MOST 1048576: true; the input reads as it did. -/
def servoShiftInvariantUptoRow : OpenClaim := { program := "ytehibiikdlgneaa", sum := "f0f8828d1518c0be2e2bc6debcad6616385281c1a4f33cdf3b47263c949ead3a", func := "ambidexter/ambidexterlaw25.ServoShiftInvariant", spec := "servoShiftInvariant", unfollowed := true, recurses := true, apart := false, narrowed := true }
def ServoShiftInvariantUptoSaid : Prop := servoShiftInvariantUptoRow.holds Try.pinned (OpenSpec.upto servoShiftInvariantSpec)

end Rows
end Go.Proofs.Ytehibiikdlgneaa
