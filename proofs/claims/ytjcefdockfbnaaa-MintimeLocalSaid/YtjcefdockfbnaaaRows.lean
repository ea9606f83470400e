/-
  No cell of these rows narrows 'for every input' (looked for: loops, veiled, ifaces, maps, wideKeys, modest, calm, conditions, laid).
  DERIVED. THE GIVEN ROWS OF THIS SEAT. 12 by the template 'for every input the law returns true; each argument reads behind the call as it read before'; 0 by the template 'total and deterministic' (their statements: YtjcefdockfbnaaaTotals.lean).
  GIVEN WITH THE SEED: the statements are not yours to turn. If you find one false, say at which input.
  Laid BY PROGRAM, IN A SANDBOX (cutbox-rows.mjs): the forced cells as the released guide's own fill.sh prints them over the translation 2820f2bf55588717… (all of the seat's roots in one cut). By AI agents, Wed Nov 11 2026. No macro, syntax, notation, axiom, sorry.
-/
import Derived.Test.YtjcefdockfbnaaaChecked
import GoSem.Claim
import GoSem.ClaimJoined
import GoSem.ClaimMapViews
import Derived.JoinedTies
import Derived.KernelRfl
namespace Go.Proofs.Ytjcefdockfbnaaa
/- THE CELL 'sum', in the pinned program and in every row, IS THE sha256 OF THE DUMP (.gsa) THAT YtjcefdockfbnaaaProg.lean LOADS. Nothing in Lean hashes anything: it is a label: what it is worth is what the hold of that sum in a sandbox is worth. -/
noncomputable def Try.pinned : Pinned := { name := "ytjcefdockfbnaaa", sum := "2820f2bf555887178d77b747984afd80a2eb36ba80bc2790384dc80892a6472f", checked := Try.checked }
namespace Rows
def none {H : Type} : Left H := { results := [], args := [] }

/-- 'ambidexterlaw22.MintimeMatchesReference': WHATEVER THE INPUT: true; the input reads as it did. -/
def mintimeMatchesReferenceSpec : ChangeSpec := { name := "mintimeMatchesReference", fn := fun _ => fun
  | [d1, d2] => { results := [.lit (.bool true)], args := [d1, d2] }
  | _ => none }
def mintimeMatchesReferenceRow : OpenClaim := { program := "ytjcefdockfbnaaa", sum := "2820f2bf555887178d77b747984afd80a2eb36ba80bc2790384dc80892a6472f", func := "ambidexter/ambidexterlaw22.MintimeMatchesReference", spec := "mintimeMatchesReference", unfollowed := true, recurses := true, plainKeys := false, apart := false }
def MintimeMatchesReferenceSaid : Prop := mintimeMatchesReferenceRow.holds Try.pinned (OpenSpec.ofChange mintimeMatchesReferenceSpec)

/-- ITS FALSE NEIGHBOUR: 'it returns false'. Refute it at one input. -/
def mintimeMatchesReferenceWrong : ChangeSpec := { name := "mintimeMatchesReference", fn := fun _ => fun
  | [d1, d2] => { results := [.lit (.bool false)], args := [d1, d2] }
  | _ => none }
def MintimeMatchesReferenceWrongFalsely : Prop := mintimeMatchesReferenceRow.holds Try.pinned (OpenSpec.ofChange mintimeMatchesReferenceWrong)

/-- 'ambidexterlaw22.MintimeFewest': WHATEVER THE INPUT: true; the input reads as it did. -/
def mintimeFewestSpec : ChangeSpec := { name := "mintimeFewest", fn := fun _ => fun
  | [d1, d2] => { results := [.lit (.bool true)], args := [d1, d2] }
  | _ => none }
def mintimeFewestRow : OpenClaim := { program := "ytjcefdockfbnaaa", sum := "2820f2bf555887178d77b747984afd80a2eb36ba80bc2790384dc80892a6472f", func := "ambidexter/ambidexterlaw22.MintimeFewest", spec := "mintimeFewest", unfollowed := true, recurses := true, plainKeys := false, apart := false }
def MintimeFewestSaid : Prop := mintimeFewestRow.holds Try.pinned (OpenSpec.ofChange mintimeFewestSpec)

/-- ITS FALSE NEIGHBOUR: 'it returns false'. Refute it at one input. -/
def mintimeFewestWrong : ChangeSpec := { name := "mintimeFewest", fn := fun _ => fun
  | [d1, d2] => { results := [.lit (.bool false)], args := [d1, d2] }
  | _ => none }
def MintimeFewestWrongFalsely : Prop := mintimeFewestRow.holds Try.pinned (OpenSpec.ofChange mintimeFewestWrong)

/-- 'ambidexterlaw22.MintimeLocal': WHATEVER THE INPUT: true; the input reads as it did. -/
def mintimeLocalSpec : ChangeSpec := { name := "mintimeLocal", fn := fun _ => fun
  | [d1, d2, d3, d4] => { results := [.lit (.bool true)], args := [d1, d2, d3, d4] }
  | _ => none }
def mintimeLocalRow : OpenClaim := { program := "ytjcefdockfbnaaa", sum := "2820f2bf555887178d77b747984afd80a2eb36ba80bc2790384dc80892a6472f", func := "ambidexter/ambidexterlaw22.MintimeLocal", spec := "mintimeLocal", unfollowed := true, recurses := true, plainKeys := false, apart := false }
def MintimeLocalSaid : Prop := mintimeLocalRow.holds Try.pinned (OpenSpec.ofChange mintimeLocalSpec)

/-- ITS FALSE NEIGHBOUR: 'it returns false'. Refute it at one input. -/
def mintimeLocalWrong : ChangeSpec := { name := "mintimeLocal", fn := fun _ => fun
  | [d1, d2, d3, d4] => { results := [.lit (.bool false)], args := [d1, d2, d3, d4] }
  | _ => none }
def MintimeLocalWrongFalsely : Prop := mintimeLocalRow.holds Try.pinned (OpenSpec.ofChange mintimeLocalWrong)

/-- 'ambidexterlaw22.MintimeMonotonic': WHATEVER THE INPUT: true; the input reads as it did. -/
def mintimeMonotonicSpec : ChangeSpec := { name := "mintimeMonotonic", fn := fun _ => fun
  | [d1, d2, d3] => { results := [.lit (.bool true)], args := [d1, d2, d3] }
  | _ => none }
def mintimeMonotonicRow : OpenClaim := { program := "ytjcefdockfbnaaa", sum := "2820f2bf555887178d77b747984afd80a2eb36ba80bc2790384dc80892a6472f", func := "ambidexter/ambidexterlaw22.MintimeMonotonic", spec := "mintimeMonotonic", unfollowed := true, recurses := true, plainKeys := false, apart := false }
def MintimeMonotonicSaid : Prop := mintimeMonotonicRow.holds Try.pinned (OpenSpec.ofChange mintimeMonotonicSpec)

/-- ITS FALSE NEIGHBOUR: 'it returns false'. Refute it at one input. -/
def mintimeMonotonicWrong : ChangeSpec := { name := "mintimeMonotonic", fn := fun _ => fun
  | [d1, d2, d3] => { results := [.lit (.bool false)], args := [d1, d2, d3] }
  | _ => none }
def MintimeMonotonicWrongFalsely : Prop := mintimeMonotonicRow.holds Try.pinned (OpenSpec.ofChange mintimeMonotonicWrong)

/-- 'ambidexterlaw22.MintimeReversed': WHATEVER THE INPUT: true; the input reads as it did. -/
def mintimeReversedSpec : ChangeSpec := { name := "mintimeReversed", fn := fun _ => fun
  | [d1, d2] => { results := [.lit (.bool true)], args := [d1, d2] }
  | _ => none }
def mintimeReversedRow : OpenClaim := { program := "ytjcefdockfbnaaa", sum := "2820f2bf555887178d77b747984afd80a2eb36ba80bc2790384dc80892a6472f", func := "ambidexter/ambidexterlaw22.MintimeReversed", spec := "mintimeReversed", unfollowed := true, recurses := true, plainKeys := false, apart := false }
def MintimeReversedSaid : Prop := mintimeReversedRow.holds Try.pinned (OpenSpec.ofChange mintimeReversedSpec)

/-- ITS FALSE NEIGHBOUR: 'it returns false'. Refute it at one input. -/
def mintimeReversedWrong : ChangeSpec := { name := "mintimeReversed", fn := fun _ => fun
  | [d1, d2] => { results := [.lit (.bool false)], args := [d1, d2] }
  | _ => none }
def MintimeReversedWrongFalsely : Prop := mintimeReversedRow.holds Try.pinned (OpenSpec.ofChange mintimeReversedWrong)

/-- 'ambidexterlaw28.BrakingMatchesReference': WHATEVER THE INPUT: true; the input reads as it did. -/
def brakingMatchesReferenceSpec : ChangeSpec := { name := "brakingMatchesReference", fn := fun _ => fun
  | [d1, d2, d3, d4] => { results := [.lit (.bool true)], args := [d1, d2, d3, d4] }
  | _ => none }
def brakingMatchesReferenceRow : OpenClaim := { program := "ytjcefdockfbnaaa", sum := "2820f2bf555887178d77b747984afd80a2eb36ba80bc2790384dc80892a6472f", func := "ambidexter/ambidexterlaw28.BrakingMatchesReference", spec := "brakingMatchesReference", unfollowed := true, recurses := true, plainKeys := false, apart := false }
def BrakingMatchesReferenceSaid : Prop := brakingMatchesReferenceRow.holds Try.pinned (OpenSpec.ofChange brakingMatchesReferenceSpec)

/-- ITS FALSE NEIGHBOUR: 'it returns false'. Refute it at one input. -/
def brakingMatchesReferenceWrong : ChangeSpec := { name := "brakingMatchesReference", fn := fun _ => fun
  | [d1, d2, d3, d4] => { results := [.lit (.bool false)], args := [d1, d2, d3, d4] }
  | _ => none }
def BrakingMatchesReferenceWrongFalsely : Prop := brakingMatchesReferenceRow.holds Try.pinned (OpenSpec.ofChange brakingMatchesReferenceWrong)

/-- 'ambidexterlaw28.BrakingTerminates': WHATEVER THE INPUT: true; the input reads as it did. -/
def brakingTerminatesSpec : ChangeSpec := { name := "brakingTerminates", fn := fun _ => fun
  | [d1, d2, d3] => { results := [.lit (.bool true)], args := [d1, d2, d3] }
  | _ => none }
def brakingTerminatesRow : OpenClaim := { program := "ytjcefdockfbnaaa", sum := "2820f2bf555887178d77b747984afd80a2eb36ba80bc2790384dc80892a6472f", func := "ambidexter/ambidexterlaw28.BrakingTerminates", spec := "brakingTerminates", unfollowed := true, recurses := true, plainKeys := false, apart := false }
def BrakingTerminatesSaid : Prop := brakingTerminatesRow.holds Try.pinned (OpenSpec.ofChange brakingTerminatesSpec)

/-- ITS FALSE NEIGHBOUR: 'it returns false'. Refute it at one input. -/
def brakingTerminatesWrong : ChangeSpec := { name := "brakingTerminates", fn := fun _ => fun
  | [d1, d2, d3] => { results := [.lit (.bool false)], args := [d1, d2, d3] }
  | _ => none }
def BrakingTerminatesWrongFalsely : Prop := brakingTerminatesRow.holds Try.pinned (OpenSpec.ofChange brakingTerminatesWrong)

/-- 'ambidexterlaw28.BrakingRampOptimal': WHATEVER THE INPUT: true; the input reads as it did. -/
def brakingRampOptimalSpec : ChangeSpec := { name := "brakingRampOptimal", fn := fun _ => fun
  | [d1, d2, d3] => { results := [.lit (.bool true)], args := [d1, d2, d3] }
  | _ => none }
def brakingRampOptimalRow : OpenClaim := { program := "ytjcefdockfbnaaa", sum := "2820f2bf555887178d77b747984afd80a2eb36ba80bc2790384dc80892a6472f", func := "ambidexter/ambidexterlaw28.BrakingRampOptimal", spec := "brakingRampOptimal", unfollowed := true, recurses := true, plainKeys := false, apart := false }
def BrakingRampOptimalSaid : Prop := brakingRampOptimalRow.holds Try.pinned (OpenSpec.ofChange brakingRampOptimalSpec)

/-- ITS FALSE NEIGHBOUR: 'it returns false'. Refute it at one input. -/
def brakingRampOptimalWrong : ChangeSpec := { name := "brakingRampOptimal", fn := fun _ => fun
  | [d1, d2, d3] => { results := [.lit (.bool false)], args := [d1, d2, d3] }
  | _ => none }
def BrakingRampOptimalWrongFalsely : Prop := brakingRampOptimalRow.holds Try.pinned (OpenSpec.ofChange brakingRampOptimalWrong)

/-- 'ambidexterlaw28.BrakingStoppingDistance': WHATEVER THE INPUT: true; the input reads as it did. -/
def brakingStoppingDistanceSpec : ChangeSpec := { name := "brakingStoppingDistance", fn := fun _ => fun
  | [d1, d2, d3, d4] => { results := [.lit (.bool true)], args := [d1, d2, d3, d4] }
  | _ => none }
def brakingStoppingDistanceRow : OpenClaim := { program := "ytjcefdockfbnaaa", sum := "2820f2bf555887178d77b747984afd80a2eb36ba80bc2790384dc80892a6472f", func := "ambidexter/ambidexterlaw28.BrakingStoppingDistance", spec := "brakingStoppingDistance", unfollowed := true, recurses := true, plainKeys := false, apart := false }
def BrakingStoppingDistanceSaid : Prop := brakingStoppingDistanceRow.holds Try.pinned (OpenSpec.ofChange brakingStoppingDistanceSpec)

/-- ITS FALSE NEIGHBOUR: 'it returns false'. Refute it at one input. -/
def brakingStoppingDistanceWrong : ChangeSpec := { name := "brakingStoppingDistance", fn := fun _ => fun
  | [d1, d2, d3, d4] => { results := [.lit (.bool false)], args := [d1, d2, d3, d4] }
  | _ => none }
def BrakingStoppingDistanceWrongFalsely : Prop := brakingStoppingDistanceRow.holds Try.pinned (OpenSpec.ofChange brakingStoppingDistanceWrong)

/-- 'ambidexterlaw28.BrakingCategoryZero': WHATEVER THE INPUT: true; the input reads as it did. -/
def brakingCategoryZeroSpec : ChangeSpec := { name := "brakingCategoryZero", fn := fun _ => fun
  | [d1, d2, d3] => { results := [.lit (.bool true)], args := [d1, d2, d3] }
  | _ => none }
def brakingCategoryZeroRow : OpenClaim := { program := "ytjcefdockfbnaaa", sum := "2820f2bf555887178d77b747984afd80a2eb36ba80bc2790384dc80892a6472f", func := "ambidexter/ambidexterlaw28.BrakingCategoryZero", spec := "brakingCategoryZero", unfollowed := true, recurses := true, plainKeys := false, apart := false }
def BrakingCategoryZeroSaid : Prop := brakingCategoryZeroRow.holds Try.pinned (OpenSpec.ofChange brakingCategoryZeroSpec)

/-- ITS FALSE NEIGHBOUR: 'it returns false'. Refute it at one input. -/
def brakingCategoryZeroWrong : ChangeSpec := { name := "brakingCategoryZero", fn := fun _ => fun
  | [d1, d2, d3] => { results := [.lit (.bool false)], args := [d1, d2, d3] }
  | _ => none }
def BrakingCategoryZeroWrongFalsely : Prop := brakingCategoryZeroRow.holds Try.pinned (OpenSpec.ofChange brakingCategoryZeroWrong)

/-- 'ambidexterlaw22.MintimeBound': WHATEVER THE INPUT: true; the input reads as it did. -/
def mintimeBoundSpec : ChangeSpec := { name := "mintimeBound", fn := fun _ => fun
  | [d1, d2] => { results := [.lit (.bool true)], args := [d1, d2] }
  | _ => none }
def mintimeBoundRow : OpenClaim := { program := "ytjcefdockfbnaaa", sum := "2820f2bf555887178d77b747984afd80a2eb36ba80bc2790384dc80892a6472f", func := "ambidexter/ambidexterlaw22.MintimeBound", spec := "mintimeBound", unfollowed := true, recurses := true, plainKeys := false, apart := false }
def MintimeBoundSaid : Prop := mintimeBoundRow.holds Try.pinned (OpenSpec.ofChange mintimeBoundSpec)

/-- ITS FALSE NEIGHBOUR: 'it returns false'. Refute it at one input. -/
def mintimeBoundWrong : ChangeSpec := { name := "mintimeBound", fn := fun _ => fun
  | [d1, d2] => { results := [.lit (.bool false)], args := [d1, d2] }
  | _ => none }
def MintimeBoundWrongFalsely : Prop := mintimeBoundRow.holds Try.pinned (OpenSpec.ofChange mintimeBoundWrong)

/-- 'ambidexterlaw22.MintimeReaches': WHATEVER THE INPUT: true; the input reads as it did. -/
def mintimeReachesSpec : ChangeSpec := { name := "mintimeReaches", fn := fun _ => fun
  | [d1, d2] => { results := [.lit (.bool true)], args := [d1, d2] }
  | _ => none }
def mintimeReachesRow : OpenClaim := { program := "ytjcefdockfbnaaa", sum := "2820f2bf555887178d77b747984afd80a2eb36ba80bc2790384dc80892a6472f", func := "ambidexter/ambidexterlaw22.MintimeReaches", spec := "mintimeReaches", unfollowed := true, recurses := true, plainKeys := false, apart := false }
def MintimeReachesSaid : Prop := mintimeReachesRow.holds Try.pinned (OpenSpec.ofChange mintimeReachesSpec)

/-- ITS FALSE NEIGHBOUR: 'it returns false'. Refute it at one input. -/
def mintimeReachesWrong : ChangeSpec := { name := "mintimeReaches", fn := fun _ => fun
  | [d1, d2] => { results := [.lit (.bool false)], args := [d1, d2] }
  | _ => none }
def MintimeReachesWrongFalsely : Prop := mintimeReachesRow.holds Try.pinned (OpenSpec.ofChange mintimeReachesWrong)

/- THE SECOND FORM. 'bulk': how many values and letters a reading holds, each counted each time it is reached (what is shared counts as often as it is met; a slice's spare places count too). A statement '..UptoSaid' is the law's where the arguments, and the package variables that the reading takes, are together of bulk at most 1048576: NARROWER than '..Said'. Prove '..Said' where nothing that the law and all that it calls make is longer than what came in: it says more and counts as full. Else prove '..UptoSaid'. A law counts once. -/
mutual
def uptoBulk {H : Type} : DataW H → Nat
  | .lit (.string bytes) => bytes.length + 1
  | .lit _ => 1
  | .nil => 1
  | .ptr d => uptoBulk d + 1
  | .slice elems spare => uptoBulkAll elems + uptoBulkAll spare + 1
  | .agg parts => uptoBulkAll parts + 1
  | .iface _ d => uptoBulk d + 1
  | .map entries => uptoBulkEntries entries + 1
  | .held _ => 1
def uptoBulkAll {H : Type} : List (DataW H) → Nat
  | [] => 0
  | d :: r => uptoBulk d + uptoBulkAll r
def uptoBulkEntries {H : Type} : List (Lit × DataW H) → Nat
  | [] => 0
  | x :: r => uptoBulkEntry x + uptoBulkEntries r
def uptoBulkEntry {H : Type} : Lit × DataW H → Nat
  | (.string bytes, d) => bytes.length + uptoBulk d + 1
  | (_, d) => uptoBulk d + 1
 end
def uptoSmall : (H : Type) → List (DataW H) → Bool := fun _ ds => decide (uptoBulkAll ds ≤ 1048576)
def OpenSpec.upto (s : _root_.Go.ChangeSpec) : _root_.Go.OpenSpec := { _root_.Go.OpenSpec.ofChange s with cond := some uptoSmall }

/-- 'ambidexterlaw22.MintimeMatchesReference', WHERE WHAT IT READS IS OF BULK AT MOST 1048576: true; the input reads as it did. -/
def mintimeMatchesReferenceUptoRow : OpenClaim := { program := "ytjcefdockfbnaaa", sum := "2820f2bf555887178d77b747984afd80a2eb36ba80bc2790384dc80892a6472f", func := "ambidexter/ambidexterlaw22.MintimeMatchesReference", spec := "mintimeMatchesReference", unfollowed := true, recurses := true, plainKeys := false, apart := false, narrowed := true }
def MintimeMatchesReferenceUptoSaid : Prop := mintimeMatchesReferenceUptoRow.holds Try.pinned (OpenSpec.upto mintimeMatchesReferenceSpec)

/-- 'ambidexterlaw22.MintimeFewest', WHERE WHAT IT READS IS OF BULK AT MOST 1048576: true; the input reads as it did. -/
def mintimeFewestUptoRow : OpenClaim := { program := "ytjcefdockfbnaaa", sum := "2820f2bf555887178d77b747984afd80a2eb36ba80bc2790384dc80892a6472f", func := "ambidexter/ambidexterlaw22.MintimeFewest", spec := "mintimeFewest", unfollowed := true, recurses := true, plainKeys := false, apart := false, narrowed := true }
def MintimeFewestUptoSaid : Prop := mintimeFewestUptoRow.holds Try.pinned (OpenSpec.upto mintimeFewestSpec)

/-- 'ambidexterlaw22.MintimeLocal', WHERE WHAT IT READS IS OF BULK AT MOST 1048576: true; the input reads as it did. -/
def mintimeLocalUptoRow : OpenClaim := { program := "ytjcefdockfbnaaa", sum := "2820f2bf555887178d77b747984afd80a2eb36ba80bc2790384dc80892a6472f", func := "ambidexter/ambidexterlaw22.MintimeLocal", spec := "mintimeLocal", unfollowed := true, recurses := true, plainKeys := false, apart := false, narrowed := true }
def MintimeLocalUptoSaid : Prop := mintimeLocalUptoRow.holds Try.pinned (OpenSpec.upto mintimeLocalSpec)

/-- 'ambidexterlaw22.MintimeMonotonic', WHERE WHAT IT READS IS OF BULK AT MOST 1048576: true; the input reads as it did. -/
def mintimeMonotonicUptoRow : OpenClaim := { program := "ytjcefdockfbnaaa", sum := "2820f2bf555887178d77b747984afd80a2eb36ba80bc2790384dc80892a6472f", func := "ambidexter/ambidexterlaw22.MintimeMonotonic", spec := "mintimeMonotonic", unfollowed := true, recurses := true, plainKeys := false, apart := false, narrowed := true }
def MintimeMonotonicUptoSaid : Prop := mintimeMonotonicUptoRow.holds Try.pinned (OpenSpec.upto mintimeMonotonicSpec)

/-- 'ambidexterlaw22.MintimeReversed', WHERE WHAT IT READS IS OF BULK AT MOST 1048576: true; the input reads as it did. -/
def mintimeReversedUptoRow : OpenClaim := { program := "ytjcefdockfbnaaa", sum := "2820f2bf555887178d77b747984afd80a2eb36ba80bc2790384dc80892a6472f", func := "ambidexter/ambidexterlaw22.MintimeReversed", spec := "mintimeReversed", unfollowed := true, recurses := true, plainKeys := false, apart := false, narrowed := true }
def MintimeReversedUptoSaid : Prop := mintimeReversedUptoRow.holds Try.pinned (OpenSpec.upto mintimeReversedSpec)

/-- 'ambidexterlaw28.BrakingMatchesReference', WHERE WHAT IT READS IS OF BULK AT MOST 1048576: true; the input reads as it did. -/
def brakingMatchesReferenceUptoRow : OpenClaim := { program := "ytjcefdockfbnaaa", sum := "2820f2bf555887178d77b747984afd80a2eb36ba80bc2790384dc80892a6472f", func := "ambidexter/ambidexterlaw28.BrakingMatchesReference", spec := "brakingMatchesReference", unfollowed := true, recurses := true, plainKeys := false, apart := false, narrowed := true }
def BrakingMatchesReferenceUptoSaid : Prop := brakingMatchesReferenceUptoRow.holds Try.pinned (OpenSpec.upto brakingMatchesReferenceSpec)

/-- 'ambidexterlaw28.BrakingTerminates', WHERE WHAT IT READS IS OF BULK AT MOST 1048576: true; the input reads as it did. -/
def brakingTerminatesUptoRow : OpenClaim := { program := "ytjcefdockfbnaaa", sum := "2820f2bf555887178d77b747984afd80a2eb36ba80bc2790384dc80892a6472f", func := "ambidexter/ambidexterlaw28.BrakingTerminates", spec := "brakingTerminates", unfollowed := true, recurses := true, plainKeys := false, apart := false, narrowed := true }
def BrakingTerminatesUptoSaid : Prop := brakingTerminatesUptoRow.holds Try.pinned (OpenSpec.upto brakingTerminatesSpec)

/-- 'ambidexterlaw28.BrakingRampOptimal', WHERE WHAT IT READS IS OF BULK AT MOST 1048576: true; the input reads as it did. -/
def brakingRampOptimalUptoRow : OpenClaim := { program := "ytjcefdockfbnaaa", sum := "2820f2bf555887178d77b747984afd80a2eb36ba80bc2790384dc80892a6472f", func := "ambidexter/ambidexterlaw28.BrakingRampOptimal", spec := "brakingRampOptimal", unfollowed := true, recurses := true, plainKeys := false, apart := false, narrowed := true }
def BrakingRampOptimalUptoSaid : Prop := brakingRampOptimalUptoRow.holds Try.pinned (OpenSpec.upto brakingRampOptimalSpec)

/-- 'ambidexterlaw28.BrakingStoppingDistance', WHERE WHAT IT READS IS OF BULK AT MOST 1048576: true; the input reads as it did. -/
def brakingStoppingDistanceUptoRow : OpenClaim := { program := "ytjcefdockfbnaaa", sum := "2820f2bf555887178d77b747984afd80a2eb36ba80bc2790384dc80892a6472f", func := "ambidexter/ambidexterlaw28.BrakingStoppingDistance", spec := "brakingStoppingDistance", unfollowed := true, recurses := true, plainKeys := false, apart := false, narrowed := true }
def BrakingStoppingDistanceUptoSaid : Prop := brakingStoppingDistanceUptoRow.holds Try.pinned (OpenSpec.upto brakingStoppingDistanceSpec)

/-- 'ambidexterlaw28.BrakingCategoryZero', WHERE WHAT IT READS IS OF BULK AT MOST 1048576: true; the input reads as it did. -/
def brakingCategoryZeroUptoRow : OpenClaim := { program := "ytjcefdockfbnaaa", sum := "2820f2bf555887178d77b747984afd80a2eb36ba80bc2790384dc80892a6472f", func := "ambidexter/ambidexterlaw28.BrakingCategoryZero", spec := "brakingCategoryZero", unfollowed := true, recurses := true, plainKeys := false, apart := false, narrowed := true }
def BrakingCategoryZeroUptoSaid : Prop := brakingCategoryZeroUptoRow.holds Try.pinned (OpenSpec.upto brakingCategoryZeroSpec)

/-- 'ambidexterlaw22.MintimeBound', WHERE WHAT IT READS IS OF BULK AT MOST 1048576: true; the input reads as it did. -/
def mintimeBoundUptoRow : OpenClaim := { program := "ytjcefdockfbnaaa", sum := "2820f2bf555887178d77b747984afd80a2eb36ba80bc2790384dc80892a6472f", func := "ambidexter/ambidexterlaw22.MintimeBound", spec := "mintimeBound", unfollowed := true, recurses := true, plainKeys := false, apart := false, narrowed := true }
def MintimeBoundUptoSaid : Prop := mintimeBoundUptoRow.holds Try.pinned (OpenSpec.upto mintimeBoundSpec)

/-- 'ambidexterlaw22.MintimeReaches', WHERE WHAT IT READS IS OF BULK AT MOST 1048576: true; the input reads as it did. -/
def mintimeReachesUptoRow : OpenClaim := { program := "ytjcefdockfbnaaa", sum := "2820f2bf555887178d77b747984afd80a2eb36ba80bc2790384dc80892a6472f", func := "ambidexter/ambidexterlaw22.MintimeReaches", spec := "mintimeReaches", unfollowed := true, recurses := true, plainKeys := false, apart := false, narrowed := true }
def MintimeReachesUptoSaid : Prop := mintimeReachesUptoRow.holds Try.pinned (OpenSpec.upto mintimeReachesSpec)

end Rows
end Go.Proofs.Ytjcefdockfbnaaa
