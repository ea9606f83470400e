/- The law of the limits: what the row asks. -/
import Derived.Test.YtmmaodlngnjmlaaP8
import Derived.Test.YtmmaodlngnjmlaaPK
import Derived.SizedLaws
namespace Go.Proofs.Ytmmaodlngnjmlaa.P
open Go Go.RowKit Go.Proofs.YtmmaodlngnjmlaaW.PrintWords
/-- How long a row of the form may be. -/
theorem reach_row2 {H : Type} {enc : TypeId × Value → H} {P : Program} {w : World} {base : Nat} {spare : Nat → Bool} {held : Bool} {t e : TypeId} {A : Option Addr} {len cap : Nat} {dd : DataW H} {ps : List MemPlace} {ts : List TypeId} {ds : List (DataW H)}
    (ht : P.underlying t = some (.slice e)) (hd : DataW.Trod enc P w base spare held t (.slice A len cap) dd ps) (hs : (DataW.weightsEach P ts ds).all (· ≤ reachBytes) = true) {j : Nat} (hj : ts[j]? = some t) (hdj : ds[j]? = some dd) : len * P.bytesOf e ≤ 140737488351232 := by
  obtain ⟨fuel, hf⟩ := hd
  rcases DataW.trod_slice ht hf with ⟨h, _⟩ | ⟨a, len', cap', elems, rest, n, _, hcs, hx, _, _, _, hlen, _⟩
  · have e1 := List.head_eq_of_cons_eq h
    injection e1 with _ e2 _
    rw [e2]
    omega
  · have e1 := List.head_eq_of_cons_eq hcs
    injection e1 with _ e2 _
    have hx1 : dd = .slice (elems.map (·.1)) (rest.map (·.1)) := congrArg Prod.fst hx
    subst hx1
    have z := sized_slice hs hj hdj ht
    have z2 : reachBytes = 140737488351232 := rfl
    rw [List.length_map, List.length_map, Nat.add_mul, hlen, ← e2] at z
    omega
end Go.Proofs.Ytmmaodlngnjmlaa.P
namespace Go.Proofs.Ytmmaodlngnjmlaa.Pure
open Go Go.RowKit Go.Proofs.Ytmmaodlngnjmlaa.P Go.Proofs.YtmmaodlngnjmlaaW.PrintWords Go.Proofs.YtmmaodlngnjmlaaW.PrintLast
theorem TimetableRespectsLimits : ∀ (x0 : S51) (l1 : List (S63)), ok51 x0 → (l1.length ≤ maxLen ∧ ∀ y0_ ∈ l1, ok63 y0_) → l1.length ≤ 5864062014800 → ambidexterlaw23_TimetableRespectsLimits.f x0.f0 x0.f1 x0.f2 l1 = some true := by
  intro x0 l1 h0 _ h1
  have a := bounds_u8 h0.1
  have b := bounds_u8 h0.2.1
  have c := bounds_u8 h0.2.2
  unfold ambidexterlaw23_TimetableRespectsLimits.f
  rw [if_pos ⟨⟨⟨a, b⟩, c⟩, h1⟩]
end Go.Proofs.Ytmmaodlngnjmlaa.Pure
