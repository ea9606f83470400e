/-
  No cell of these rows narrows 'for every input' (looked for: loops, veiled, ifaces, maps, wideKeys, modest, calm, conditions, laid).
  DERIVED. THE GIVEN ROWS OF THIS SEAT. 12 by the template 'for every input the law returns true; each argument reads behind the call as it read before'; 0 by the template 'total and deterministic' (their statements: YthnbcedpdjingaaTotals.lean).
  GIVEN WITH THE SEED: the statements are not yours to turn. If you find one false, say at which input.
  Laid BY PROGRAM, IN A SANDBOX (cutbox-rows.mjs): the forced cells as the released guide's own fill.sh prints them over the translation 1681aed6fd13dba2… (all of the seat's roots in one cut). By AI agents, Wed Nov 11 2026. No macro, syntax, notation, axiom, sorry.
-/
import Derived.Test.YthnbcedpdjingaaChecked
import GoSem.Claim
import GoSem.ClaimJoined
import GoSem.ClaimMapViews
import Derived.JoinedTies
import Derived.KernelRfl
namespace Go.Proofs.Ythnbcedpdjingaa
/- THE CELL 'sum', in the pinned program and in every row, IS THE sha256 OF THE DUMP (.gsa) THAT YthnbcedpdjingaaProg.lean LOADS. Nothing in Lean hashes anything: it is a label: what it is worth is what the hold of that sum in a sandbox is worth. -/
noncomputable def Try.pinned : Pinned := { name := "ythnbcedpdjingaa", sum := "1681aed6fd13dba2fc679efb92ed9912d1efbc1b7a181fc97e29b62cba7d9017", checked := Try.checked }
namespace Rows
def none {H : Type} : Left H := { results := [], args := [] }

/-- 'ambidexterlaw24.EncoderMatchesReference': WHATEVER THE INPUT: true; the input reads as it did. -/
def encoderMatchesReferenceSpec : ChangeSpec := { name := "encoderMatchesReference", fn := fun _ => fun
  | [d1, d2, d3, d4, d5] => { results := [.lit (.bool true)], args := [d1, d2, d3, d4, d5] }
  | _ => none }
def encoderMatchesReferenceRow : OpenClaim := { program := "ythnbcedpdjingaa", sum := "1681aed6fd13dba2fc679efb92ed9912d1efbc1b7a181fc97e29b62cba7d9017", func := "ambidexter/ambidexterlaw24.EncoderMatchesReference", spec := "encoderMatchesReference", unfollowed := true, recurses := true, apart := false }
def EncoderMatchesReferenceSaid : Prop := encoderMatchesReferenceRow.holds Try.pinned (OpenSpec.ofChange encoderMatchesReferenceSpec)

/-- ITS FALSE NEIGHBOUR: 'it returns false'. Refute it at one input. -/
def encoderMatchesReferenceWrong : ChangeSpec := { name := "encoderMatchesReference", fn := fun _ => fun
  | [d1, d2, d3, d4, d5] => { results := [.lit (.bool false)], args := [d1, d2, d3, d4, d5] }
  | _ => none }
def EncoderMatchesReferenceWrongFalsely : Prop := encoderMatchesReferenceRow.holds Try.pinned (OpenSpec.ofChange encoderMatchesReferenceWrong)

/-- 'ambidexterlaw24.EncoderBoundedError': WHATEVER THE INPUT: true; the input reads as it did. -/
def encoderBoundedErrorSpec : ChangeSpec := { name := "encoderBoundedError", fn := fun _ => fun
  | [d1, d2] => { results := [.lit (.bool true)], args := [d1, d2] }
  | _ => none }
def encoderBoundedErrorRow : OpenClaim := { program := "ythnbcedpdjingaa", sum := "1681aed6fd13dba2fc679efb92ed9912d1efbc1b7a181fc97e29b62cba7d9017", func := "ambidexter/ambidexterlaw24.EncoderBoundedError", spec := "encoderBoundedError", unfollowed := true, recurses := true, apart := false }
def EncoderBoundedErrorSaid : Prop := encoderBoundedErrorRow.holds Try.pinned (OpenSpec.ofChange encoderBoundedErrorSpec)

/-- ITS FALSE NEIGHBOUR: 'it returns false'. Refute it at one input. -/
def encoderBoundedErrorWrong : ChangeSpec := { name := "encoderBoundedError", fn := fun _ => fun
  | [d1, d2] => { results := [.lit (.bool false)], args := [d1, d2] }
  | _ => none }
def EncoderBoundedErrorWrongFalsely : Prop := encoderBoundedErrorRow.holds Try.pinned (OpenSpec.ofChange encoderBoundedErrorWrong)

/-- 'ambidexterlaw24.EncoderAgeCounts': WHATEVER THE INPUT: true; the input reads as it did. -/
def encoderAgeCountsSpec : ChangeSpec := { name := "encoderAgeCounts", fn := fun _ => fun
  | [d1, d2, d3] => { results := [.lit (.bool true)], args := [d1, d2, d3] }
  | _ => none }
def encoderAgeCountsRow : OpenClaim := { program := "ythnbcedpdjingaa", sum := "1681aed6fd13dba2fc679efb92ed9912d1efbc1b7a181fc97e29b62cba7d9017", func := "ambidexter/ambidexterlaw24.EncoderAgeCounts", spec := "encoderAgeCounts", unfollowed := true, recurses := true, apart := false }
def EncoderAgeCountsSaid : Prop := encoderAgeCountsRow.holds Try.pinned (OpenSpec.ofChange encoderAgeCountsSpec)

/-- ITS FALSE NEIGHBOUR: 'it returns false'. Refute it at one input. -/
def encoderAgeCountsWrong : ChangeSpec := { name := "encoderAgeCounts", fn := fun _ => fun
  | [d1, d2, d3] => { results := [.lit (.bool false)], args := [d1, d2, d3] }
  | _ => none }
def EncoderAgeCountsWrongFalsely : Prop := encoderAgeCountsRow.holds Try.pinned (OpenSpec.ofChange encoderAgeCountsWrong)

/-- 'ambidexterlaw24.EncoderOrdersAdd': WHATEVER THE INPUT: true; the input reads as it did. -/
def encoderOrdersAddSpec : ChangeSpec := { name := "encoderOrdersAdd", fn := fun _ => fun
  | [d1, d2, d3, d4, d5] => { results := [.lit (.bool true)], args := [d1, d2, d3, d4, d5] }
  | _ => none }
def encoderOrdersAddRow : OpenClaim := { program := "ythnbcedpdjingaa", sum := "1681aed6fd13dba2fc679efb92ed9912d1efbc1b7a181fc97e29b62cba7d9017", func := "ambidexter/ambidexterlaw24.EncoderOrdersAdd", spec := "encoderOrdersAdd", unfollowed := true, recurses := true, apart := false }
def EncoderOrdersAddSaid : Prop := encoderOrdersAddRow.holds Try.pinned (OpenSpec.ofChange encoderOrdersAddSpec)

/-- ITS FALSE NEIGHBOUR: 'it returns false'. Refute it at one input. -/
def encoderOrdersAddWrong : ChangeSpec := { name := "encoderOrdersAdd", fn := fun _ => fun
  | [d1, d2, d3, d4, d5] => { results := [.lit (.bool false)], args := [d1, d2, d3, d4, d5] }
  | _ => none }
def EncoderOrdersAddWrongFalsely : Prop := encoderOrdersAddRow.holds Try.pinned (OpenSpec.ofChange encoderOrdersAddWrong)

/-- 'ambidexterlaw24.EncoderQuantization': WHATEVER THE INPUT: true; the input reads as it did. -/
def encoderQuantizationSpec : ChangeSpec := { name := "encoderQuantization", fn := fun _ => fun
  | [d1, d2] => { results := [.lit (.bool true)], args := [d1, d2] }
  | _ => none }
def encoderQuantizationRow : OpenClaim := { program := "ythnbcedpdjingaa", sum := "1681aed6fd13dba2fc679efb92ed9912d1efbc1b7a181fc97e29b62cba7d9017", func := "ambidexter/ambidexterlaw24.EncoderQuantization", spec := "encoderQuantization", unfollowed := true, recurses := true, apart := false }
def EncoderQuantizationSaid : Prop := encoderQuantizationRow.holds Try.pinned (OpenSpec.ofChange encoderQuantizationSpec)

/-- ITS FALSE NEIGHBOUR: 'it returns false'. Refute it at one input. -/
def encoderQuantizationWrong : ChangeSpec := { name := "encoderQuantization", fn := fun _ => fun
  | [d1, d2] => { results := [.lit (.bool false)], args := [d1, d2] }
  | _ => none }
def EncoderQuantizationWrongFalsely : Prop := encoderQuantizationRow.holds Try.pinned (OpenSpec.ofChange encoderQuantizationWrong)

/-- 'ambidexterlaw24.EncoderGoodReading': WHATEVER THE INPUT: true; the input reads as it did. -/
def encoderGoodReadingSpec : ChangeSpec := { name := "encoderGoodReading", fn := fun _ => fun
  | [d1, d2, d3] => { results := [.lit (.bool true)], args := [d1, d2, d3] }
  | _ => none }
def encoderGoodReadingRow : OpenClaim := { program := "ythnbcedpdjingaa", sum := "1681aed6fd13dba2fc679efb92ed9912d1efbc1b7a181fc97e29b62cba7d9017", func := "ambidexter/ambidexterlaw24.EncoderGoodReading", spec := "encoderGoodReading", unfollowed := true, recurses := true, apart := false }
def EncoderGoodReadingSaid : Prop := encoderGoodReadingRow.holds Try.pinned (OpenSpec.ofChange encoderGoodReadingSpec)

/-- ITS FALSE NEIGHBOUR: 'it returns false'. Refute it at one input. -/
def encoderGoodReadingWrong : ChangeSpec := { name := "encoderGoodReading", fn := fun _ => fun
  | [d1, d2, d3] => { results := [.lit (.bool false)], args := [d1, d2, d3] }
  | _ => none }
def EncoderGoodReadingWrongFalsely : Prop := encoderGoodReadingRow.holds Try.pinned (OpenSpec.ofChange encoderGoodReadingWrong)

/-- 'ambidexterlaw26.DualchannelMatchesReference': WHATEVER THE INPUT: true; the input reads as it did. -/
def dualchannelMatchesReferenceSpec : ChangeSpec := { name := "dualchannelMatchesReference", fn := fun _ => fun
  | [d] => { results := [.lit (.bool true)], args := [d] }
  | _ => none }
def dualchannelMatchesReferenceRow : OpenClaim := { program := "ythnbcedpdjingaa", sum := "1681aed6fd13dba2fc679efb92ed9912d1efbc1b7a181fc97e29b62cba7d9017", func := "ambidexter/ambidexterlaw26.DualchannelMatchesReference", spec := "dualchannelMatchesReference", apart := false }
def DualchannelMatchesReferenceSaid : Prop := dualchannelMatchesReferenceRow.holds Try.pinned (OpenSpec.ofChange dualchannelMatchesReferenceSpec)

/-- ITS FALSE NEIGHBOUR: 'it returns false'. Refute it at one input. -/
def dualchannelMatchesReferenceWrong : ChangeSpec := { name := "dualchannelMatchesReference", fn := fun _ => fun
  | [d] => { results := [.lit (.bool false)], args := [d] }
  | _ => none }
def DualchannelMatchesReferenceWrongFalsely : Prop := dualchannelMatchesReferenceRow.holds Try.pinned (OpenSpec.ofChange dualchannelMatchesReferenceWrong)

/-- 'ambidexterlaw26.DualchannelInvariant': WHATEVER THE INPUT: true; the input reads as it did. -/
def dualchannelInvariantSpec : ChangeSpec := { name := "dualchannelInvariant", fn := fun _ => fun
  | [d] => { results := [.lit (.bool true)], args := [d] }
  | _ => none }
def dualchannelInvariantRow : OpenClaim := { program := "ythnbcedpdjingaa", sum := "1681aed6fd13dba2fc679efb92ed9912d1efbc1b7a181fc97e29b62cba7d9017", func := "ambidexter/ambidexterlaw26.DualchannelInvariant", spec := "dualchannelInvariant", apart := false }
def DualchannelInvariantSaid : Prop := dualchannelInvariantRow.holds Try.pinned (OpenSpec.ofChange dualchannelInvariantSpec)

/-- ITS FALSE NEIGHBOUR: 'it returns false'. Refute it at one input. -/
def dualchannelInvariantWrong : ChangeSpec := { name := "dualchannelInvariant", fn := fun _ => fun
  | [d] => { results := [.lit (.bool false)], args := [d] }
  | _ => none }
def DualchannelInvariantWrongFalsely : Prop := dualchannelInvariantRow.holds Try.pinned (OpenSpec.ofChange dualchannelInvariantWrong)

/-- 'ambidexterlaw26.DualchannelBad': WHATEVER THE INPUT: true; the input reads as it did. -/
def dualchannelBadSpec : ChangeSpec := { name := "dualchannelBad", fn := fun _ => fun
  | [d] => { results := [.lit (.bool true)], args := [d] }
  | _ => none }
def dualchannelBadRow : OpenClaim := { program := "ythnbcedpdjingaa", sum := "1681aed6fd13dba2fc679efb92ed9912d1efbc1b7a181fc97e29b62cba7d9017", func := "ambidexter/ambidexterlaw26.DualchannelBad", spec := "dualchannelBad", apart := false }
def DualchannelBadSaid : Prop := dualchannelBadRow.holds Try.pinned (OpenSpec.ofChange dualchannelBadSpec)

/-- ITS FALSE NEIGHBOUR: 'it returns false'. Refute it at one input. -/
def dualchannelBadWrong : ChangeSpec := { name := "dualchannelBad", fn := fun _ => fun
  | [d] => { results := [.lit (.bool false)], args := [d] }
  | _ => none }
def DualchannelBadWrongFalsely : Prop := dualchannelBadRow.holds Try.pinned (OpenSpec.ofChange dualchannelBadWrong)

/-- 'ambidexterlaw26.DualchannelSafe': WHATEVER THE INPUT: true; the input reads as it did. -/
def dualchannelSafeSpec : ChangeSpec := { name := "dualchannelSafe", fn := fun _ => fun
  | [d1, d2] => { results := [.lit (.bool true)], args := [d1, d2] }
  | _ => none }
def dualchannelSafeRow : OpenClaim := { program := "ythnbcedpdjingaa", sum := "1681aed6fd13dba2fc679efb92ed9912d1efbc1b7a181fc97e29b62cba7d9017", func := "ambidexter/ambidexterlaw26.DualchannelSafe", spec := "dualchannelSafe", apart := false }
def DualchannelSafeSaid : Prop := dualchannelSafeRow.holds Try.pinned (OpenSpec.ofChange dualchannelSafeSpec)

/-- ITS FALSE NEIGHBOUR: 'it returns false'. Refute it at one input. -/
def dualchannelSafeWrong : ChangeSpec := { name := "dualchannelSafe", fn := fun _ => fun
  | [d1, d2] => { results := [.lit (.bool false)], args := [d1, d2] }
  | _ => none }
def DualchannelSafeWrongFalsely : Prop := dualchannelSafeRow.holds Try.pinned (OpenSpec.ofChange dualchannelSafeWrong)

/-- 'ambidexterlaw26.DualchannelSymmetric': WHATEVER THE INPUT: true; the input reads as it did. -/
def dualchannelSymmetricSpec : ChangeSpec := { name := "dualchannelSymmetric", fn := fun _ => fun
  | [d] => { results := [.lit (.bool true)], args := [d] }
  | _ => none }
def dualchannelSymmetricRow : OpenClaim := { program := "ythnbcedpdjingaa", sum := "1681aed6fd13dba2fc679efb92ed9912d1efbc1b7a181fc97e29b62cba7d9017", func := "ambidexter/ambidexterlaw26.DualchannelSymmetric", spec := "dualchannelSymmetric", apart := false }
def DualchannelSymmetricSaid : Prop := dualchannelSymmetricRow.holds Try.pinned (OpenSpec.ofChange dualchannelSymmetricSpec)

/-- ITS FALSE NEIGHBOUR: 'it returns false'. Refute it at one input. -/
def dualchannelSymmetricWrong : ChangeSpec := { name := "dualchannelSymmetric", fn := fun _ => fun
  | [d] => { results := [.lit (.bool false)], args := [d] }
  | _ => none }
def DualchannelSymmetricWrongFalsely : Prop := dualchannelSymmetricRow.holds Try.pinned (OpenSpec.ofChange dualchannelSymmetricWrong)

/-- 'ambidexterlaw26.DualchannelAgreement': WHATEVER THE INPUT: true; the input reads as it did. -/
def dualchannelAgreementSpec : ChangeSpec := { name := "dualchannelAgreement", fn := fun _ => fun
  | [d1, d2, d3] => { results := [.lit (.bool true)], args := [d1, d2, d3] }
  | _ => none }
def dualchannelAgreementRow : OpenClaim := { program := "ythnbcedpdjingaa", sum := "1681aed6fd13dba2fc679efb92ed9912d1efbc1b7a181fc97e29b62cba7d9017", func := "ambidexter/ambidexterlaw26.DualchannelAgreement", spec := "dualchannelAgreement", apart := false }
def DualchannelAgreementSaid : Prop := dualchannelAgreementRow.holds Try.pinned (OpenSpec.ofChange dualchannelAgreementSpec)

/-- ITS FALSE NEIGHBOUR: 'it returns false'. Refute it at one input. -/
def dualchannelAgreementWrong : ChangeSpec := { name := "dualchannelAgreement", fn := fun _ => fun
  | [d1, d2, d3] => { results := [.lit (.bool false)], args := [d1, d2, d3] }
  | _ => none }
def DualchannelAgreementWrongFalsely : Prop := dualchannelAgreementRow.holds Try.pinned (OpenSpec.ofChange dualchannelAgreementWrong)

/- THE SECOND FORM. 'bulk': how many values and letters a reading holds, each counted each time it is reached (what is shared counts as often as it is met; a slice's spare places count too). A statement '..UptoSaid' is the law's where the arguments, and the package variables that the reading takes, are together of bulk at most 1048576: NARROWER than '..Said'. Prove '..Said' where nothing that the law and all that it calls make is longer than what came in: it says more and counts as full. Else prove '..UptoSaid'. A law counts once. -/
mutual
def uptoBulk {H : Type} : DataW H → Nat
  | .lit (.string bytes) => bytes.length + 1
  | .lit _ => 1
  | .nil => 1
  | .ptr d => uptoBulk d + 1
  | .slice elems spare => uptoBulkAll elems + uptoBulkAll spare + 1
  | .agg parts => uptoBulkAll parts + 1
  | .iface _ d => uptoBulk d + 1
  | .map entries => uptoBulkEntries entries + 1
  | .held _ => 1
def uptoBulkAll {H : Type} : List (DataW H) → Nat
  | [] => 0
  | d :: r => uptoBulk d + uptoBulkAll r
def uptoBulkEntries {H : Type} : List (Lit × DataW H) → Nat
  | [] => 0
  | x :: r => uptoBulkEntry x + uptoBulkEntries r
def uptoBulkEntry {H : Type} : Lit × DataW H → Nat
  | (.string bytes, d) => bytes.length + uptoBulk d + 1
  | (_, d) => uptoBulk d + 1
 end
def uptoSmall : (H : Type) → List (DataW H) → Bool := fun _ ds => decide (uptoBulkAll ds ≤ 1048576)
def OpenSpec.upto (s : _root_.Go.ChangeSpec) : _root_.Go.OpenSpec := { _root_.Go.OpenSpec.ofChange s with cond := some uptoSmall }

/-- 'ambidexterlaw24.EncoderMatchesReference', WHERE WHAT IT READS IS OF BULK AT MOST 1048576: true; the input reads as it did. -/
def encoderMatchesReferenceUptoRow : OpenClaim := { program := "ythnbcedpdjingaa", sum := "1681aed6fd13dba2fc679efb92ed9912d1efbc1b7a181fc97e29b62cba7d9017", func := "ambidexter/ambidexterlaw24.EncoderMatchesReference", spec := "encoderMatchesReference", unfollowed := true, recurses := true, apart := false, narrowed := true }
def EncoderMatchesReferenceUptoSaid : Prop := encoderMatchesReferenceUptoRow.holds Try.pinned (OpenSpec.upto encoderMatchesReferenceSpec)

/-- 'ambidexterlaw24.EncoderBoundedError', WHERE WHAT IT READS IS OF BULK AT MOST 1048576: true; the input reads as it did. -/
def encoderBoundedErrorUptoRow : OpenClaim := { program := "ythnbcedpdjingaa", sum := "1681aed6fd13dba2fc679efb92ed9912d1efbc1b7a181fc97e29b62cba7d9017", func := "ambidexter/ambidexterlaw24.EncoderBoundedError", spec := "encoderBoundedError", unfollowed := true, recurses := true, apart := false, narrowed := true }
def EncoderBoundedErrorUptoSaid : Prop := encoderBoundedErrorUptoRow.holds Try.pinned (OpenSpec.upto encoderBoundedErrorSpec)

/-- 'ambidexterlaw24.EncoderAgeCounts', WHERE WHAT IT READS IS OF BULK AT MOST 1048576: true; the input reads as it did. -/
def encoderAgeCountsUptoRow : OpenClaim := { program := "ythnbcedpdjingaa", sum := "1681aed6fd13dba2fc679efb92ed9912d1efbc1b7a181fc97e29b62cba7d9017", func := "ambidexter/ambidexterlaw24.EncoderAgeCounts", spec := "encoderAgeCounts", unfollowed := true, recurses := true, apart := false, narrowed := true }
def EncoderAgeCountsUptoSaid : Prop := encoderAgeCountsUptoRow.holds Try.pinned (OpenSpec.upto encoderAgeCountsSpec)

/-- 'ambidexterlaw24.EncoderOrdersAdd', WHERE WHAT IT READS IS OF BULK AT MOST 1048576: true; the input reads as it did. -/
def encoderOrdersAddUptoRow : OpenClaim := { program := "ythnbcedpdjingaa", sum := "1681aed6fd13dba2fc679efb92ed9912d1efbc1b7a181fc97e29b62cba7d9017", func := "ambidexter/ambidexterlaw24.EncoderOrdersAdd", spec := "encoderOrdersAdd", unfollowed := true, recurses := true, apart := false, narrowed := true }
def EncoderOrdersAddUptoSaid : Prop := encoderOrdersAddUptoRow.holds Try.pinned (OpenSpec.upto encoderOrdersAddSpec)

/-- 'ambidexterlaw24.EncoderQuantization', WHERE WHAT IT READS IS OF BULK AT MOST 1048576: true; the input reads as it did. -/
def encoderQuantizationUptoRow : OpenClaim := { program := "ythnbcedpdjingaa", sum := "1681aed6fd13dba2fc679efb92ed9912d1efbc1b7a181fc97e29b62cba7d9017", func := "ambidexter/ambidexterlaw24.EncoderQuantization", spec := "encoderQuantization", unfollowed := true, recurses := true, apart := false, narrowed := true }
def EncoderQuantizationUptoSaid : Prop := encoderQuantizationUptoRow.holds Try.pinned (OpenSpec.upto encoderQuantizationSpec)

/-- 'ambidexterlaw24.EncoderGoodReading', WHERE WHAT IT READS IS OF BULK AT MOST 1048576: true; the input reads as it did. -/
def encoderGoodReadingUptoRow : OpenClaim := { program := "ythnbcedpdjingaa", sum := "1681aed6fd13dba2fc679efb92ed9912d1efbc1b7a181fc97e29b62cba7d9017", func := "ambidexter/ambidexterlaw24.EncoderGoodReading", spec := "encoderGoodReading", unfollowed := true, recurses := true, apart := false, narrowed := true }
def EncoderGoodReadingUptoSaid : Prop := encoderGoodReadingUptoRow.holds Try.pinned (OpenSpec.upto encoderGoodReadingSpec)

/-- 'ambidexterlaw26.DualchannelMatchesReference', WHERE WHAT IT READS IS OF BULK AT MOST 1048576: true; the input reads as it did. -/
def dualchannelMatchesReferenceUptoRow : OpenClaim := { program := "ythnbcedpdjingaa", sum := "1681aed6fd13dba2fc679efb92ed9912d1efbc1b7a181fc97e29b62cba7d9017", func := "ambidexter/ambidexterlaw26.DualchannelMatchesReference", spec := "dualchannelMatchesReference", apart := false, narrowed := true }
def DualchannelMatchesReferenceUptoSaid : Prop := dualchannelMatchesReferenceUptoRow.holds Try.pinned (OpenSpec.upto dualchannelMatchesReferenceSpec)

/-- 'ambidexterlaw26.DualchannelInvariant', WHERE WHAT IT READS IS OF BULK AT MOST 1048576: true; the input reads as it did. -/
def dualchannelInvariantUptoRow : OpenClaim := { program := "ythnbcedpdjingaa", sum := "1681aed6fd13dba2fc679efb92ed9912d1efbc1b7a181fc97e29b62cba7d9017", func := "ambidexter/ambidexterlaw26.DualchannelInvariant", spec := "dualchannelInvariant", apart := false, narrowed := true }
def DualchannelInvariantUptoSaid : Prop := dualchannelInvariantUptoRow.holds Try.pinned (OpenSpec.upto dualchannelInvariantSpec)

/-- 'ambidexterlaw26.DualchannelBad', WHERE WHAT IT READS IS OF BULK AT MOST 1048576: true; the input reads as it did. -/
def dualchannelBadUptoRow : OpenClaim := { program := "ythnbcedpdjingaa", sum := "1681aed6fd13dba2fc679efb92ed9912d1efbc1b7a181fc97e29b62cba7d9017", func := "ambidexter/ambidexterlaw26.DualchannelBad", spec := "dualchannelBad", apart := false, narrowed := true }
def DualchannelBadUptoSaid : Prop := dualchannelBadUptoRow.holds Try.pinned (OpenSpec.upto dualchannelBadSpec)

/-- 'ambidexterlaw26.DualchannelSafe', WHERE WHAT IT READS IS OF BULK AT MOST 1048576: true; the input reads as it did. -/
def dualchannelSafeUptoRow : OpenClaim := { program := "ythnbcedpdjingaa", sum := "1681aed6fd13dba2fc679efb92ed9912d1efbc1b7a181fc97e29b62cba7d9017", func := "ambidexter/ambidexterlaw26.DualchannelSafe", spec := "dualchannelSafe", apart := false, narrowed := true }
def DualchannelSafeUptoSaid : Prop := dualchannelSafeUptoRow.holds Try.pinned (OpenSpec.upto dualchannelSafeSpec)

/-- 'ambidexterlaw26.DualchannelSymmetric', WHERE WHAT IT READS IS OF BULK AT MOST 1048576: true; the input reads as it did. -/
def dualchannelSymmetricUptoRow : OpenClaim := { program := "ythnbcedpdjingaa", sum := "1681aed6fd13dba2fc679efb92ed9912d1efbc1b7a181fc97e29b62cba7d9017", func := "ambidexter/ambidexterlaw26.DualchannelSymmetric", spec := "dualchannelSymmetric", apart := false, narrowed := true }
def DualchannelSymmetricUptoSaid : Prop := dualchannelSymmetricUptoRow.holds Try.pinned (OpenSpec.upto dualchannelSymmetricSpec)

/-- 'ambidexterlaw26.DualchannelAgreement', WHERE WHAT IT READS IS OF BULK AT MOST 1048576: true; the input reads as it did. -/
def dualchannelAgreementUptoRow : OpenClaim := { program := "ythnbcedpdjingaa", sum := "1681aed6fd13dba2fc679efb92ed9912d1efbc1b7a181fc97e29b62cba7d9017", func := "ambidexter/ambidexterlaw26.DualchannelAgreement", spec := "dualchannelAgreement", apart := false, narrowed := true }
def DualchannelAgreementUptoSaid : Prop := dualchannelAgreementUptoRow.holds Try.pinned (OpenSpec.upto dualchannelAgreementSpec)

end Rows
end Go.Proofs.Ythnbcedpdjingaa
