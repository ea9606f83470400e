/-
  No cell of these rows narrows 'for every input' (looked for: loops, veiled, ifaces, maps, wideKeys, modest, calm, conditions, laid).
  DERIVED. THE GIVEN ROWS OF THIS SEAT. 11 by the template 'for every input the law returns true; each argument reads behind the call as it read before'; 0 by the template 'total and deterministic' (their statements: YtmmaodlngnjmlaaTotals.lean).
  GIVEN WITH THE SEED: the statements are not yours to turn. If you find one false, say at which input.
  Laid BY PROGRAM, IN A SANDBOX (cutbox-rows.mjs): the forced cells as the released guide's own fill.sh prints them over the translation d0ec060a0f75700a… (all of the seat's roots in one cut). By AI agents, Wed Nov 11 2026. No macro, syntax, notation, axiom, sorry.
-/
import Derived.Test.YtmmaodlngnjmlaaChecked
import GoSem.Claim
import GoSem.ClaimJoined
import GoSem.ClaimMapViews
import Derived.JoinedTies
import Derived.KernelRfl
namespace Go.Proofs.Ytmmaodlngnjmlaa
/- THE CELL 'sum', in the pinned program and in every row, IS THE sha256 OF THE DUMP (.gsa) THAT YtmmaodlngnjmlaaProg.lean LOADS. Nothing in Lean hashes anything: it is a label: what it is worth is what the hold of that sum in a sandbox is worth. -/
noncomputable def Try.pinned : Pinned := { name := "ytmmaodlngnjmlaa", sum := "d0ec060a0f75700a0efb64c35f9481cb05503e7c15f769134fd9ca6669062f99", checked := Try.checked }
namespace Rows
def none {H : Type} : Left H := { results := [], args := [] }

/-- 'ambidextertop.TopConcatenatedProfiles': WHATEVER THE INPUT: true; the input reads as it did. -/
def topConcatenatedProfilesSpec : ChangeSpec := { name := "topConcatenatedProfiles", fn := fun _ => fun
  | [d1, d2, d3, d4, d5, d6] => { results := [.lit (.bool true)], args := [d1, d2, d3, d4, d5, d6] }
  | _ => none }
def topConcatenatedProfilesRow : OpenClaim := { program := "ytmmaodlngnjmlaa", sum := "d0ec060a0f75700a0efb64c35f9481cb05503e7c15f769134fd9ca6669062f99", func := "ambidexter/ambidextertop.TopConcatenatedProfiles", spec := "topConcatenatedProfiles", unfollowed := true, recurses := true, apart := false }
def TopConcatenatedProfilesSaid : Prop := topConcatenatedProfilesRow.holds Try.pinned (OpenSpec.ofChange topConcatenatedProfilesSpec)

/-- ITS FALSE NEIGHBOUR: 'it returns false'. Refute it at one input. -/
def topConcatenatedProfilesWrong : ChangeSpec := { name := "topConcatenatedProfiles", fn := fun _ => fun
  | [d1, d2, d3, d4, d5, d6] => { results := [.lit (.bool false)], args := [d1, d2, d3, d4, d5, d6] }
  | _ => none }
def TopConcatenatedProfilesWrongFalsely : Prop := topConcatenatedProfilesRow.holds Try.pinned (OpenSpec.ofChange topConcatenatedProfilesWrong)

/-- 'ambidextertop.TopTracking': WHATEVER THE INPUT: true; the input reads as it did. -/
def topTrackingSpec : ChangeSpec := { name := "topTracking", fn := fun _ => fun
  | [d1, d2, d3, d4, d5, d6] => { results := [.lit (.bool true)], args := [d1, d2, d3, d4, d5, d6] }
  | _ => none }
def topTrackingRow : OpenClaim := { program := "ytmmaodlngnjmlaa", sum := "d0ec060a0f75700a0efb64c35f9481cb05503e7c15f769134fd9ca6669062f99", func := "ambidexter/ambidextertop.TopTracking", spec := "topTracking", unfollowed := true, recurses := true, apart := false }
def TopTrackingSaid : Prop := topTrackingRow.holds Try.pinned (OpenSpec.ofChange topTrackingSpec)

/-- ITS FALSE NEIGHBOUR: 'it returns false'. Refute it at one input. -/
def topTrackingWrong : ChangeSpec := { name := "topTracking", fn := fun _ => fun
  | [d1, d2, d3, d4, d5, d6] => { results := [.lit (.bool false)], args := [d1, d2, d3, d4, d5, d6] }
  | _ => none }
def TopTrackingWrongFalsely : Prop := topTrackingRow.holds Try.pinned (OpenSpec.ofChange topTrackingWrong)

/-- 'ambidextertop.TopTimetable': WHATEVER THE INPUT: true; the input reads as it did. -/
def topTimetableSpec : ChangeSpec := { name := "topTimetable", fn := fun _ => fun
  | [d1, d2, d3, d4, d5] => { results := [.lit (.bool true)], args := [d1, d2, d3, d4, d5] }
  | _ => none }
def topTimetableRow : OpenClaim := { program := "ytmmaodlngnjmlaa", sum := "d0ec060a0f75700a0efb64c35f9481cb05503e7c15f769134fd9ca6669062f99", func := "ambidexter/ambidextertop.TopTimetable", spec := "topTimetable", unfollowed := true, recurses := true, apart := false }
def TopTimetableSaid : Prop := topTimetableRow.holds Try.pinned (OpenSpec.ofChange topTimetableSpec)

/-- ITS FALSE NEIGHBOUR: 'it returns false'. Refute it at one input. -/
def topTimetableWrong : ChangeSpec := { name := "topTimetable", fn := fun _ => fun
  | [d1, d2, d3, d4, d5] => { results := [.lit (.bool false)], args := [d1, d2, d3, d4, d5] }
  | _ => none }
def TopTimetableWrongFalsely : Prop := topTimetableRow.holds Try.pinned (OpenSpec.ofChange topTimetableWrong)

/-- 'ambidexterlaw23.TimetableMatchesReference': WHATEVER THE INPUT: true; the input reads as it did. -/
def timetableMatchesReferenceSpec : ChangeSpec := { name := "timetableMatchesReference", fn := fun _ => fun
  | [d1, d2, d3, d4, d5, d6, d7] => { results := [.lit (.bool true)], args := [d1, d2, d3, d4, d5, d6, d7] }
  | _ => none }
def timetableMatchesReferenceRow : OpenClaim := { program := "ytmmaodlngnjmlaa", sum := "d0ec060a0f75700a0efb64c35f9481cb05503e7c15f769134fd9ca6669062f99", func := "ambidexter/ambidexterlaw23.TimetableMatchesReference", spec := "timetableMatchesReference", unfollowed := true, recurses := true, apart := false }
def TimetableMatchesReferenceSaid : Prop := timetableMatchesReferenceRow.holds Try.pinned (OpenSpec.ofChange timetableMatchesReferenceSpec)

/-- ITS FALSE NEIGHBOUR: 'it returns false'. Refute it at one input. -/
def timetableMatchesReferenceWrong : ChangeSpec := { name := "timetableMatchesReference", fn := fun _ => fun
  | [d1, d2, d3, d4, d5, d6, d7] => { results := [.lit (.bool false)], args := [d1, d2, d3, d4, d5, d6, d7] }
  | _ => none }
def TimetableMatchesReferenceWrongFalsely : Prop := timetableMatchesReferenceRow.holds Try.pinned (OpenSpec.ofChange timetableMatchesReferenceWrong)

/-- 'ambidexterlaw23.TimetableGroupsMoves': WHATEVER THE INPUT: true; the input reads as it did. -/
def timetableGroupsMovesSpec : ChangeSpec := { name := "timetableGroupsMoves", fn := fun _ => fun
  | [d] => { results := [.lit (.bool true)], args := [d] }
  | _ => none }
def timetableGroupsMovesRow : OpenClaim := { program := "ytmmaodlngnjmlaa", sum := "d0ec060a0f75700a0efb64c35f9481cb05503e7c15f769134fd9ca6669062f99", func := "ambidexter/ambidexterlaw23.TimetableGroupsMoves", spec := "timetableGroupsMoves", unfollowed := true, recurses := true, apart := false }
def TimetableGroupsMovesSaid : Prop := timetableGroupsMovesRow.holds Try.pinned (OpenSpec.ofChange timetableGroupsMovesSpec)

/-- ITS FALSE NEIGHBOUR: 'it returns false'. Refute it at one input. -/
def timetableGroupsMovesWrong : ChangeSpec := { name := "timetableGroupsMoves", fn := fun _ => fun
  | [d] => { results := [.lit (.bool false)], args := [d] }
  | _ => none }
def TimetableGroupsMovesWrongFalsely : Prop := timetableGroupsMovesRow.holds Try.pinned (OpenSpec.ofChange timetableGroupsMovesWrong)

/-- 'ambidexterlaw23.TimetableReachesTargets': WHATEVER THE INPUT: true; the input reads as it did. -/
def timetableReachesTargetsSpec : ChangeSpec := { name := "timetableReachesTargets", fn := fun _ => fun
  | [d1, d2, d3, d4] => { results := [.lit (.bool true)], args := [d1, d2, d3, d4] }
  | _ => none }
def timetableReachesTargetsRow : OpenClaim := { program := "ytmmaodlngnjmlaa", sum := "d0ec060a0f75700a0efb64c35f9481cb05503e7c15f769134fd9ca6669062f99", func := "ambidexter/ambidexterlaw23.TimetableReachesTargets", spec := "timetableReachesTargets", unfollowed := true, recurses := true, apart := false }
def TimetableReachesTargetsSaid : Prop := timetableReachesTargetsRow.holds Try.pinned (OpenSpec.ofChange timetableReachesTargetsSpec)

/-- ITS FALSE NEIGHBOUR: 'it returns false'. Refute it at one input. -/
def timetableReachesTargetsWrong : ChangeSpec := { name := "timetableReachesTargets", fn := fun _ => fun
  | [d1, d2, d3, d4] => { results := [.lit (.bool false)], args := [d1, d2, d3, d4] }
  | _ => none }
def TimetableReachesTargetsWrongFalsely : Prop := timetableReachesTargetsRow.holds Try.pinned (OpenSpec.ofChange timetableReachesTargetsWrong)

/-- 'ambidexterlaw23.TimetableRespectsLimits': WHATEVER THE INPUT: true; the input reads as it did. -/
def timetableRespectsLimitsSpec : ChangeSpec := { name := "timetableRespectsLimits", fn := fun _ => fun
  | [d1, d2] => { results := [.lit (.bool true)], args := [d1, d2] }
  | _ => none }
def timetableRespectsLimitsRow : OpenClaim := { program := "ytmmaodlngnjmlaa", sum := "d0ec060a0f75700a0efb64c35f9481cb05503e7c15f769134fd9ca6669062f99", func := "ambidexter/ambidexterlaw23.TimetableRespectsLimits", spec := "timetableRespectsLimits", unfollowed := true, recurses := true, apart := false }
def TimetableRespectsLimitsSaid : Prop := timetableRespectsLimitsRow.holds Try.pinned (OpenSpec.ofChange timetableRespectsLimitsSpec)

/-- ITS FALSE NEIGHBOUR: 'it returns false'. Refute it at one input. -/
def timetableRespectsLimitsWrong : ChangeSpec := { name := "timetableRespectsLimits", fn := fun _ => fun
  | [d1, d2] => { results := [.lit (.bool false)], args := [d1, d2] }
  | _ => none }
def TimetableRespectsLimitsWrongFalsely : Prop := timetableRespectsLimitsRow.holds Try.pinned (OpenSpec.ofChange timetableRespectsLimitsWrong)

/-- 'ambidexterlaw23.TimetableCoordinatedLength': WHATEVER THE INPUT: true; the input reads as it did. -/
def timetableCoordinatedLengthSpec : ChangeSpec := { name := "timetableCoordinatedLength", fn := fun _ => fun
  | [d1, d2, d3, d4, d5] => { results := [.lit (.bool true)], args := [d1, d2, d3, d4, d5] }
  | _ => none }
def timetableCoordinatedLengthRow : OpenClaim := { program := "ytmmaodlngnjmlaa", sum := "d0ec060a0f75700a0efb64c35f9481cb05503e7c15f769134fd9ca6669062f99", func := "ambidexter/ambidexterlaw23.TimetableCoordinatedLength", spec := "timetableCoordinatedLength", unfollowed := true, recurses := true, apart := false }
def TimetableCoordinatedLengthSaid : Prop := timetableCoordinatedLengthRow.holds Try.pinned (OpenSpec.ofChange timetableCoordinatedLengthSpec)

/-- ITS FALSE NEIGHBOUR: 'it returns false'. Refute it at one input. -/
def timetableCoordinatedLengthWrong : ChangeSpec := { name := "timetableCoordinatedLength", fn := fun _ => fun
  | [d1, d2, d3, d4, d5] => { results := [.lit (.bool false)], args := [d1, d2, d3, d4, d5] }
  | _ => none }
def TimetableCoordinatedLengthWrongFalsely : Prop := timetableCoordinatedLengthRow.holds Try.pinned (OpenSpec.ofChange timetableCoordinatedLengthWrong)

/-- 'ambidexterlaw23.TimetableIsAdditive': WHATEVER THE INPUT: true; the input reads as it did. -/
def timetableIsAdditiveSpec : ChangeSpec := { name := "timetableIsAdditive", fn := fun _ => fun
  | [d1, d2, d3] => { results := [.lit (.bool true)], args := [d1, d2, d3] }
  | _ => none }
def timetableIsAdditiveRow : OpenClaim := { program := "ytmmaodlngnjmlaa", sum := "d0ec060a0f75700a0efb64c35f9481cb05503e7c15f769134fd9ca6669062f99", func := "ambidexter/ambidexterlaw23.TimetableIsAdditive", spec := "timetableIsAdditive", unfollowed := true, recurses := true, apart := false }
def TimetableIsAdditiveSaid : Prop := timetableIsAdditiveRow.holds Try.pinned (OpenSpec.ofChange timetableIsAdditiveSpec)

/-- ITS FALSE NEIGHBOUR: 'it returns false'. Refute it at one input. -/
def timetableIsAdditiveWrong : ChangeSpec := { name := "timetableIsAdditive", fn := fun _ => fun
  | [d1, d2, d3] => { results := [.lit (.bool false)], args := [d1, d2, d3] }
  | _ => none }
def TimetableIsAdditiveWrongFalsely : Prop := timetableIsAdditiveRow.holds Try.pinned (OpenSpec.ofChange timetableIsAdditiveWrong)

/-- 'ambidexterlaw23.TimetableIsMonotonic': WHATEVER THE INPUT: true; the input reads as it did. -/
def timetableIsMonotonicSpec : ChangeSpec := { name := "timetableIsMonotonic", fn := fun _ => fun
  | [d1, d2, d3] => { results := [.lit (.bool true)], args := [d1, d2, d3] }
  | _ => none }
def timetableIsMonotonicRow : OpenClaim := { program := "ytmmaodlngnjmlaa", sum := "d0ec060a0f75700a0efb64c35f9481cb05503e7c15f769134fd9ca6669062f99", func := "ambidexter/ambidexterlaw23.TimetableIsMonotonic", spec := "timetableIsMonotonic", unfollowed := true, recurses := true, apart := false }
def TimetableIsMonotonicSaid : Prop := timetableIsMonotonicRow.holds Try.pinned (OpenSpec.ofChange timetableIsMonotonicSpec)

/-- ITS FALSE NEIGHBOUR: 'it returns false'. Refute it at one input. -/
def timetableIsMonotonicWrong : ChangeSpec := { name := "timetableIsMonotonic", fn := fun _ => fun
  | [d1, d2, d3] => { results := [.lit (.bool false)], args := [d1, d2, d3] }
  | _ => none }
def TimetableIsMonotonicWrongFalsely : Prop := timetableIsMonotonicRow.holds Try.pinned (OpenSpec.ofChange timetableIsMonotonicWrong)

/-- 'ambidextertop.TopSegments': WHATEVER THE INPUT: true; the input reads as it did. -/
def topSegmentsSpec : ChangeSpec := { name := "topSegments", fn := fun _ => fun
  | [d1, d2, d3, d4] => { results := [.lit (.bool true)], args := [d1, d2, d3, d4] }
  | _ => none }
def topSegmentsRow : OpenClaim := { program := "ytmmaodlngnjmlaa", sum := "d0ec060a0f75700a0efb64c35f9481cb05503e7c15f769134fd9ca6669062f99", func := "ambidexter/ambidextertop.TopSegments", spec := "topSegments", unfollowed := true, recurses := true, apart := false }
def TopSegmentsSaid : Prop := topSegmentsRow.holds Try.pinned (OpenSpec.ofChange topSegmentsSpec)

/-- ITS FALSE NEIGHBOUR: 'it returns false'. Refute it at one input. -/
def topSegmentsWrong : ChangeSpec := { name := "topSegments", fn := fun _ => fun
  | [d1, d2, d3, d4] => { results := [.lit (.bool false)], args := [d1, d2, d3, d4] }
  | _ => none }
def TopSegmentsWrongFalsely : Prop := topSegmentsRow.holds Try.pinned (OpenSpec.ofChange topSegmentsWrong)

/- THE SECOND FORM. 'bulk': how many values and letters a reading holds, each counted each time it is reached (what is shared counts as often as it is met; a slice's spare places count too). A statement '..UptoSaid' is the law's where the arguments, and the package variables that the reading takes, are together of bulk at most 1048576: NARROWER than '..Said'. Prove '..Said' where nothing that the law and all that it calls make is longer than what came in: it says more and counts as full. Else prove '..UptoSaid'. A law counts once. -/
mutual
def uptoBulk {H : Type} : DataW H → Nat
  | .lit (.string bytes) => bytes.length + 1
  | .lit _ => 1
  | .nil => 1
  | .ptr d => uptoBulk d + 1
  | .slice elems spare => uptoBulkAll elems + uptoBulkAll spare + 1
  | .agg parts => uptoBulkAll parts + 1
  | .iface _ d => uptoBulk d + 1
  | .map entries => uptoBulkEntries entries + 1
  | .held _ => 1
def uptoBulkAll {H : Type} : List (DataW H) → Nat
  | [] => 0
  | d :: r => uptoBulk d + uptoBulkAll r
def uptoBulkEntries {H : Type} : List (Lit × DataW H) → Nat
  | [] => 0
  | x :: r => uptoBulkEntry x + uptoBulkEntries r
def uptoBulkEntry {H : Type} : Lit × DataW H → Nat
  | (.string bytes, d) => bytes.length + uptoBulk d + 1
  | (_, d) => uptoBulk d + 1
 end
def uptoSmall : (H : Type) → List (DataW H) → Bool := fun _ ds => decide (uptoBulkAll ds ≤ 1048576)
def OpenSpec.upto (s : _root_.Go.ChangeSpec) : _root_.Go.OpenSpec := { _root_.Go.OpenSpec.ofChange s with cond := some uptoSmall }

/-- 'ambidextertop.TopConcatenatedProfiles', WHERE WHAT IT READS IS OF BULK AT MOST 1048576: true; the input reads as it did. -/
def topConcatenatedProfilesUptoRow : OpenClaim := { program := "ytmmaodlngnjmlaa", sum := "d0ec060a0f75700a0efb64c35f9481cb05503e7c15f769134fd9ca6669062f99", func := "ambidexter/ambidextertop.TopConcatenatedProfiles", spec := "topConcatenatedProfiles", unfollowed := true, recurses := true, apart := false, narrowed := true }
def TopConcatenatedProfilesUptoSaid : Prop := topConcatenatedProfilesUptoRow.holds Try.pinned (OpenSpec.upto topConcatenatedProfilesSpec)

/-- 'ambidextertop.TopTracking', WHERE WHAT IT READS IS OF BULK AT MOST 1048576: true; the input reads as it did. -/
def topTrackingUptoRow : OpenClaim := { program := "ytmmaodlngnjmlaa", sum := "d0ec060a0f75700a0efb64c35f9481cb05503e7c15f769134fd9ca6669062f99", func := "ambidexter/ambidextertop.TopTracking", spec := "topTracking", unfollowed := true, recurses := true, apart := false, narrowed := true }
def TopTrackingUptoSaid : Prop := topTrackingUptoRow.holds Try.pinned (OpenSpec.upto topTrackingSpec)

/-- 'ambidextertop.TopTimetable', WHERE WHAT IT READS IS OF BULK AT MOST 1048576: true; the input reads as it did. -/
def topTimetableUptoRow : OpenClaim := { program := "ytmmaodlngnjmlaa", sum := "d0ec060a0f75700a0efb64c35f9481cb05503e7c15f769134fd9ca6669062f99", func := "ambidexter/ambidextertop.TopTimetable", spec := "topTimetable", unfollowed := true, recurses := true, apart := false, narrowed := true }
def TopTimetableUptoSaid : Prop := topTimetableUptoRow.holds Try.pinned (OpenSpec.upto topTimetableSpec)

/-- 'ambidexterlaw23.TimetableMatchesReference', WHERE WHAT IT READS IS OF BULK AT MOST 1048576: true; the input reads as it did. -/
def timetableMatchesReferenceUptoRow : OpenClaim := { program := "ytmmaodlngnjmlaa", sum := "d0ec060a0f75700a0efb64c35f9481cb05503e7c15f769134fd9ca6669062f99", func := "ambidexter/ambidexterlaw23.TimetableMatchesReference", spec := "timetableMatchesReference", unfollowed := true, recurses := true, apart := false, narrowed := true }
def TimetableMatchesReferenceUptoSaid : Prop := timetableMatchesReferenceUptoRow.holds Try.pinned (OpenSpec.upto timetableMatchesReferenceSpec)

/-- 'ambidexterlaw23.TimetableGroupsMoves', WHERE WHAT IT READS IS OF BULK AT MOST 1048576: true; the input reads as it did. -/
def timetableGroupsMovesUptoRow : OpenClaim := { program := "ytmmaodlngnjmlaa", sum := "d0ec060a0f75700a0efb64c35f9481cb05503e7c15f769134fd9ca6669062f99", func := "ambidexter/ambidexterlaw23.TimetableGroupsMoves", spec := "timetableGroupsMoves", unfollowed := true, recurses := true, apart := false, narrowed := true }
def TimetableGroupsMovesUptoSaid : Prop := timetableGroupsMovesUptoRow.holds Try.pinned (OpenSpec.upto timetableGroupsMovesSpec)

/-- 'ambidexterlaw23.TimetableReachesTargets', WHERE WHAT IT READS IS OF BULK AT MOST 1048576: true; the input reads as it did. -/
def timetableReachesTargetsUptoRow : OpenClaim := { program := "ytmmaodlngnjmlaa", sum := "d0ec060a0f75700a0efb64c35f9481cb05503e7c15f769134fd9ca6669062f99", func := "ambidexter/ambidexterlaw23.TimetableReachesTargets", spec := "timetableReachesTargets", unfollowed := true, recurses := true, apart := false, narrowed := true }
def TimetableReachesTargetsUptoSaid : Prop := timetableReachesTargetsUptoRow.holds Try.pinned (OpenSpec.upto timetableReachesTargetsSpec)

/-- 'ambidexterlaw23.TimetableRespectsLimits', WHERE WHAT IT READS IS OF BULK AT MOST 1048576: true; the input reads as it did. -/
def timetableRespectsLimitsUptoRow : OpenClaim := { program := "ytmmaodlngnjmlaa", sum := "d0ec060a0f75700a0efb64c35f9481cb05503e7c15f769134fd9ca6669062f99", func := "ambidexter/ambidexterlaw23.TimetableRespectsLimits", spec := "timetableRespectsLimits", unfollowed := true, recurses := true, apart := false, narrowed := true }
def TimetableRespectsLimitsUptoSaid : Prop := timetableRespectsLimitsUptoRow.holds Try.pinned (OpenSpec.upto timetableRespectsLimitsSpec)

/-- 'ambidexterlaw23.TimetableCoordinatedLength', WHERE WHAT IT READS IS OF BULK AT MOST 1048576: true; the input reads as it did. -/
def timetableCoordinatedLengthUptoRow : OpenClaim := { program := "ytmmaodlngnjmlaa", sum := "d0ec060a0f75700a0efb64c35f9481cb05503e7c15f769134fd9ca6669062f99", func := "ambidexter/ambidexterlaw23.TimetableCoordinatedLength", spec := "timetableCoordinatedLength", unfollowed := true, recurses := true, apart := false, narrowed := true }
def TimetableCoordinatedLengthUptoSaid : Prop := timetableCoordinatedLengthUptoRow.holds Try.pinned (OpenSpec.upto timetableCoordinatedLengthSpec)

/-- 'ambidexterlaw23.TimetableIsAdditive', WHERE WHAT IT READS IS OF BULK AT MOST 1048576: true; the input reads as it did. -/
def timetableIsAdditiveUptoRow : OpenClaim := { program := "ytmmaodlngnjmlaa", sum := "d0ec060a0f75700a0efb64c35f9481cb05503e7c15f769134fd9ca6669062f99", func := "ambidexter/ambidexterlaw23.TimetableIsAdditive", spec := "timetableIsAdditive", unfollowed := true, recurses := true, apart := false, narrowed := true }
def TimetableIsAdditiveUptoSaid : Prop := timetableIsAdditiveUptoRow.holds Try.pinned (OpenSpec.upto timetableIsAdditiveSpec)

/-- 'ambidexterlaw23.TimetableIsMonotonic', WHERE WHAT IT READS IS OF BULK AT MOST 1048576: true; the input reads as it did. -/
def timetableIsMonotonicUptoRow : OpenClaim := { program := "ytmmaodlngnjmlaa", sum := "d0ec060a0f75700a0efb64c35f9481cb05503e7c15f769134fd9ca6669062f99", func := "ambidexter/ambidexterlaw23.TimetableIsMonotonic", spec := "timetableIsMonotonic", unfollowed := true, recurses := true, apart := false, narrowed := true }
def TimetableIsMonotonicUptoSaid : Prop := timetableIsMonotonicUptoRow.holds Try.pinned (OpenSpec.upto timetableIsMonotonicSpec)

/-- 'ambidextertop.TopSegments', WHERE WHAT IT READS IS OF BULK AT MOST 1048576: true; the input reads as it did. -/
def topSegmentsUptoRow : OpenClaim := { program := "ytmmaodlngnjmlaa", sum := "d0ec060a0f75700a0efb64c35f9481cb05503e7c15f769134fd9ca6669062f99", func := "ambidexter/ambidextertop.TopSegments", spec := "topSegments", unfollowed := true, recurses := true, apart := false, narrowed := true }
def TopSegmentsUptoSaid : Prop := topSegmentsUptoRow.holds Try.pinned (OpenSpec.upto topSegmentsSpec)

end Rows
end Go.Proofs.Ytmmaodlngnjmlaa
