/-
  No cell of these rows narrows 'for every input' (looked for: loops, veiled, ifaces, maps, wideKeys, modest, calm, conditions, laid).
  DERIVED. THE GIVEN ROWS OF THIS SEAT. 4 by the template 'for every input the law returns true; each argument reads behind the call as it read before'; 0 by the template 'total and deterministic' (their statements: YthmddbffhbfmeaaTotals.lean).
  GIVEN WITH THE SEED: the statements are not yours to turn. If you find one false, say at which input.
  Laid BY PROGRAM, IN A SANDBOX (cutbox-rows.mjs): the forced cells as the released guide's own fill.sh prints them over the translation 918f3a3ae15abd02… (all of the seat's roots in one cut). By AI agents, Wed Nov 11 2026. No macro, syntax, notation, axiom, sorry.
-/
import Derived.Test.YthmddbffhbfmeaaChecked
import GoSem.Claim
import GoSem.ClaimJoined
import GoSem.ClaimMapViews
import Derived.JoinedTies
import Derived.KernelRfl
namespace Go.Proofs.Ythmddbffhbfmeaa
/- THE CELL 'sum', in the pinned program and in every row, IS THE sha256 OF THE DUMP (.gsa) THAT YthmddbffhbfmeaaProg.lean LOADS. Nothing in Lean hashes anything: it is a label: what it is worth is what the hold of that sum in a sandbox is worth. -/
noncomputable def Try.pinned : Pinned := { name := "ythmddbffhbfmeaa", sum := "918f3a3ae15abd02d6578d2e41a9f3e6af7988324a4ab4fcd6ba183c308e029e", checked := Try.checked }
namespace Rows
def none {H : Type} : Left H := { results := [], args := [] }

/-- 'ambidextertop.TopStopFromProfile': WHATEVER THE INPUT: true; the input reads as it did. -/
def topStopFromProfileSpec : ChangeSpec := { name := "topStopFromProfile", fn := fun _ => fun
  | [d1, d2, d3, d4, d5, d6] => { results := [.lit (.bool true)], args := [d1, d2, d3, d4, d5, d6] }
  | _ => none }
def topStopFromProfileRow : OpenClaim := { program := "ythmddbffhbfmeaa", sum := "918f3a3ae15abd02d6578d2e41a9f3e6af7988324a4ab4fcd6ba183c308e029e", func := "ambidexter/ambidextertop.TopStopFromProfile", spec := "topStopFromProfile", unfollowed := true, recurses := true, plainKeys := false, apart := false }
def TopStopFromProfileSaid : Prop := topStopFromProfileRow.holds Try.pinned (OpenSpec.ofChange topStopFromProfileSpec)

/-- ITS FALSE NEIGHBOUR: 'it returns false'. Refute it at one input. -/
def topStopFromProfileWrong : ChangeSpec := { name := "topStopFromProfile", fn := fun _ => fun
  | [d1, d2, d3, d4, d5, d6] => { results := [.lit (.bool false)], args := [d1, d2, d3, d4, d5, d6] }
  | _ => none }
def TopStopFromProfileWrongFalsely : Prop := topStopFromProfileRow.holds Try.pinned (OpenSpec.ofChange topStopFromProfileWrong)

/-- 'ambidextertop.TopSafeStop': WHATEVER THE INPUT: true; the input reads as it did. -/
def topSafeStopSpec : ChangeSpec := { name := "topSafeStop", fn := fun _ => fun
  | [d1, d2, d3, d4] => { results := [.lit (.bool true)], args := [d1, d2, d3, d4] }
  | _ => none }
def topSafeStopRow : OpenClaim := { program := "ythmddbffhbfmeaa", sum := "918f3a3ae15abd02d6578d2e41a9f3e6af7988324a4ab4fcd6ba183c308e029e", func := "ambidexter/ambidextertop.TopSafeStop", spec := "topSafeStop", unfollowed := true, recurses := true, plainKeys := false, apart := false }
def TopSafeStopSaid : Prop := topSafeStopRow.holds Try.pinned (OpenSpec.ofChange topSafeStopSpec)

/-- ITS FALSE NEIGHBOUR: 'it returns false'. Refute it at one input. -/
def topSafeStopWrong : ChangeSpec := { name := "topSafeStop", fn := fun _ => fun
  | [d1, d2, d3, d4] => { results := [.lit (.bool false)], args := [d1, d2, d3, d4] }
  | _ => none }
def TopSafeStopWrongFalsely : Prop := topSafeStopRow.holds Try.pinned (OpenSpec.ofChange topSafeStopWrong)

/-- 'ambidextertop.TopDualChannelInterlock': WHATEVER THE INPUT: true; the input reads as it did. -/
def topDualChannelInterlockSpec : ChangeSpec := { name := "topDualChannelInterlock", fn := fun _ => fun
  | [d1, d2] => { results := [.lit (.bool true)], args := [d1, d2] }
  | _ => none }
def topDualChannelInterlockRow : OpenClaim := { program := "ythmddbffhbfmeaa", sum := "918f3a3ae15abd02d6578d2e41a9f3e6af7988324a4ab4fcd6ba183c308e029e", func := "ambidexter/ambidextertop.TopDualChannelInterlock", spec := "topDualChannelInterlock", unfollowed := true, recurses := true, plainKeys := false, apart := false }
def TopDualChannelInterlockSaid : Prop := topDualChannelInterlockRow.holds Try.pinned (OpenSpec.ofChange topDualChannelInterlockSpec)

/-- ITS FALSE NEIGHBOUR: 'it returns false'. Refute it at one input. -/
def topDualChannelInterlockWrong : ChangeSpec := { name := "topDualChannelInterlock", fn := fun _ => fun
  | [d1, d2] => { results := [.lit (.bool false)], args := [d1, d2] }
  | _ => none }
def TopDualChannelInterlockWrongFalsely : Prop := topDualChannelInterlockRow.holds Try.pinned (OpenSpec.ofChange topDualChannelInterlockWrong)

/-- 'ambidextertop.TopStopTravel': WHATEVER THE INPUT: true; the input reads as it did. -/
def topStopTravelSpec : ChangeSpec := { name := "topStopTravel", fn := fun _ => fun
  | [d1, d2, d3] => { results := [.lit (.bool true)], args := [d1, d2, d3] }
  | _ => none }
def topStopTravelRow : OpenClaim := { program := "ythmddbffhbfmeaa", sum := "918f3a3ae15abd02d6578d2e41a9f3e6af7988324a4ab4fcd6ba183c308e029e", func := "ambidexter/ambidextertop.TopStopTravel", spec := "topStopTravel", unfollowed := true, recurses := true, plainKeys := false, apart := false }
def TopStopTravelSaid : Prop := topStopTravelRow.holds Try.pinned (OpenSpec.ofChange topStopTravelSpec)

/-- ITS FALSE NEIGHBOUR: 'it returns false'. Refute it at one input. -/
def topStopTravelWrong : ChangeSpec := { name := "topStopTravel", fn := fun _ => fun
  | [d1, d2, d3] => { results := [.lit (.bool false)], args := [d1, d2, d3] }
  | _ => none }
def TopStopTravelWrongFalsely : Prop := topStopTravelRow.holds Try.pinned (OpenSpec.ofChange topStopTravelWrong)

/- THE SECOND FORM. 'bulk': how many values and letters a reading holds, each counted each time it is reached (what is shared counts as often as it is met; a slice's spare places count too). A statement '..UptoSaid' is the law's where the arguments, and the package variables that the reading takes, are together of bulk at most 1048576: NARROWER than '..Said'. Prove '..Said' where nothing that the law and all that it calls make is longer than what came in: it says more and counts as full. Else prove '..UptoSaid'. A law counts once. -/
mutual
def uptoBulk {H : Type} : DataW H → Nat
  | .lit (.string bytes) => bytes.length + 1
  | .lit _ => 1
  | .nil => 1
  | .ptr d => uptoBulk d + 1
  | .slice elems spare => uptoBulkAll elems + uptoBulkAll spare + 1
  | .agg parts => uptoBulkAll parts + 1
  | .iface _ d => uptoBulk d + 1
  | .map entries => uptoBulkEntries entries + 1
  | .held _ => 1
def uptoBulkAll {H : Type} : List (DataW H) → Nat
  | [] => 0
  | d :: r => uptoBulk d + uptoBulkAll r
def uptoBulkEntries {H : Type} : List (Lit × DataW H) → Nat
  | [] => 0
  | x :: r => uptoBulkEntry x + uptoBulkEntries r
def uptoBulkEntry {H : Type} : Lit × DataW H → Nat
  | (.string bytes, d) => bytes.length + uptoBulk d + 1
  | (_, d) => uptoBulk d + 1
 end
def uptoSmall : (H : Type) → List (DataW H) → Bool := fun _ ds => decide (uptoBulkAll ds ≤ 1048576)
def OpenSpec.upto (s : _root_.Go.ChangeSpec) : _root_.Go.OpenSpec := { _root_.Go.OpenSpec.ofChange s with cond := some uptoSmall }

/-- 'ambidextertop.TopStopFromProfile', WHERE WHAT IT READS IS OF BULK AT MOST 1048576: true; the input reads as it did. -/
def topStopFromProfileUptoRow : OpenClaim := { program := "ythmddbffhbfmeaa", sum := "918f3a3ae15abd02d6578d2e41a9f3e6af7988324a4ab4fcd6ba183c308e029e", func := "ambidexter/ambidextertop.TopStopFromProfile", spec := "topStopFromProfile", unfollowed := true, recurses := true, plainKeys := false, apart := false, narrowed := true }
def TopStopFromProfileUptoSaid : Prop := topStopFromProfileUptoRow.holds Try.pinned (OpenSpec.upto topStopFromProfileSpec)

/-- 'ambidextertop.TopSafeStop', WHERE WHAT IT READS IS OF BULK AT MOST 1048576: true; the input reads as it did. -/
def topSafeStopUptoRow : OpenClaim := { program := "ythmddbffhbfmeaa", sum := "918f3a3ae15abd02d6578d2e41a9f3e6af7988324a4ab4fcd6ba183c308e029e", func := "ambidexter/ambidextertop.TopSafeStop", spec := "topSafeStop", unfollowed := true, recurses := true, plainKeys := false, apart := false, narrowed := true }
def TopSafeStopUptoSaid : Prop := topSafeStopUptoRow.holds Try.pinned (OpenSpec.upto topSafeStopSpec)

/-- 'ambidextertop.TopDualChannelInterlock', WHERE WHAT IT READS IS OF BULK AT MOST 1048576: true; the input reads as it did. -/
def topDualChannelInterlockUptoRow : OpenClaim := { program := "ythmddbffhbfmeaa", sum := "918f3a3ae15abd02d6578d2e41a9f3e6af7988324a4ab4fcd6ba183c308e029e", func := "ambidexter/ambidextertop.TopDualChannelInterlock", spec := "topDualChannelInterlock", unfollowed := true, recurses := true, plainKeys := false, apart := false, narrowed := true }
def TopDualChannelInterlockUptoSaid : Prop := topDualChannelInterlockUptoRow.holds Try.pinned (OpenSpec.upto topDualChannelInterlockSpec)

/-- 'ambidextertop.TopStopTravel', WHERE WHAT IT READS IS OF BULK AT MOST 1048576: true; the input reads as it did. -/
def topStopTravelUptoRow : OpenClaim := { program := "ythmddbffhbfmeaa", sum := "918f3a3ae15abd02d6578d2e41a9f3e6af7988324a4ab4fcd6ba183c308e029e", func := "ambidexter/ambidextertop.TopStopTravel", spec := "topStopTravel", unfollowed := true, recurses := true, plainKeys := false, apart := false, narrowed := true }
def TopStopTravelUptoSaid : Prop := topStopTravelUptoRow.holds Try.pinned (OpenSpec.upto topStopTravelSpec)

end Rows
end Go.Proofs.Ythmddbffhbfmeaa
