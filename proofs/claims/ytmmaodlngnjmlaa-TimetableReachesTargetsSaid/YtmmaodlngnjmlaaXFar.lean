/- Five stores into one block leave another block's cells as they lay. -/
import Derived.Test.YtmmaodlngnjmlaaWWords
namespace Go.Proofs.YtmmaodlngnjmlaaW.PrintWords
open Go Go.RowKit
theorem cell_far5 {W : World} {g : Nat} {a : Addr} (h : a.block ≠ g) {i1 i2 i3 i4 i5 : Nat} {u1 u2 u3 u4 u5 : Value} :
    (((((W.setCell ⟨g, i1, none⟩ u1).setCell ⟨g, i2, none⟩ u2).setCell ⟨g, i3, none⟩ u3).setCell ⟨g, i4, none⟩ u4).setCell ⟨g, i5, none⟩ u5).cell? a = W.cell? a :=
  (cell_far (p := ⟨g, i5, none⟩) h u5).trans ((cell_far (p := ⟨g, i4, none⟩) h u4).trans ((cell_far (p := ⟨g, i3, none⟩) h u3).trans ((cell_far (p := ⟨g, i2, none⟩) h u2).trans (cell_far (p := ⟨g, i1, none⟩) h u1))))
end Go.Proofs.YtmmaodlngnjmlaaW.PrintWords
