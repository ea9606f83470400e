/- Five stores into one block leave another block's cells as they lay. A region that draws its order, inside a fence (a round of a loop over a function, too): its operations but the last ones only read, the last ones come in a line, none of them is a call: one walk in the order of the text serves every order. No condition beyond these. -/
import Derived.Test.YtmmaodlngnjmlaaWWords
import Derived.StillTailTactics
import Derived.OrdersIn
import Derived.TacticsIn
import Derived.TacticsInMore
import Derived.RegionIn
namespace Go.Proofs.YtmmaodlngnjmlaaW.PrintWords
open Go Go.RowKit
theorem cell_far5 {W : World} {g : Nat} {a : Addr} (h : a.block ≠ g) {i1 i2 i3 i4 i5 : Nat} {u1 u2 u3 u4 u5 : Value} :
    (((((W.setCell ⟨g, i1, none⟩ u1).setCell ⟨g, i2, none⟩ u2).setCell ⟨g, i3, none⟩ u3).setCell ⟨g, i4, none⟩ u4).setCell ⟨g, i5, none⟩ u5).cell? a = W.cell? a :=
  (cell_far (p := ⟨g, i5, none⟩) h u5).trans ((cell_far (p := ⟨g, i4, none⟩) h u4).trans ((cell_far (p := ⟨g, i3, none⟩) h u3).trans ((cell_far (p := ⟨g, i2, none⟩) h u2).trans (cell_far (p := ⟨g, i1, none⟩) h u1))))
end Go.Proofs.YtmmaodlngnjmlaaW.PrintWords
namespace Go.Proofs.Ytmmaodlngnjmlaa.StillIn
open Go
section
variable {F : Fence} {m : Nat} {P : Program} {ops : Array Oper} {md : Region.Mode} {w : World}
/-- Operations that are no calls. -/
def plainOp : Op → Bool
  | .move _ | .assign _ | .load _ _ | .store _ _ _ | .fieldAddr _ _ _ | .field _ _ _ | .indexAddr _ _ _ | .index _ _ _ | .binOp _ _ _ _ _ | .unOp _ _ _ | .slice _ _ _ _ _ | .build _ _ | .alloc _ => true
  | _ => false
theorem plain_about {o : Oper} (h : plainOp o.op = true) (ρ : Operand → Value) (W : World) : o.about P W ρ = none := by
  unfold Oper.about
  cases ho : o.op <;> rw [ho] at h <;> first | rfl | (simp [plainOp] at h)
theorem plain_semAt {o : Oper} (h : plainOp o.op = true) (ro : Option Nat) (ρ : Operand → Value) : Oper.semAt ro ρ o = execOp ρ o := by
  unfold Oper.semAt
  cases ro with
  | none => rfl
  | some l => cases ho : o.op <;> rw [ho] at h <;> first | rfl | (simp [plainOp] at h)
theorem andThen_not_enter {α : Type} (r : Result α) (f : α → World → Result Next) (hf : ∀ a W g args W', f a W ≠ .ok (.enter g args) W') (g : FuncId) (args : Array Value) (W' : World) : r.andThen f ≠ .ok (.enter g args) W' := by
  cases r with
  | ok a W => exact hf a W g args W'
  | halt x W => intro h; cases h
theorem plain_not_enter {o : Oper} (h : plainOp o.op = true) (ρ : Operand → Value) (W : World) (g : FuncId) (args : Array Value) (W' : World) : (execOp ρ o).run P W ≠ .ok (.enter g args) W' := by
  unfold execOp
  cases ho : o.op <;> rw [ho] at h <;> first
    | (simp [plainOp] at h; done)
    | (simp only [Sem.run_pure]; intro e; cases e; done)
    | (simp only [Sem.run_bind, Sem.run_pure]; refine andThen_not_enter _ _ (fun a W g args W' e => ?_) g args W'; cases e)
theorem wpOpIn_of_stOp {i : Nat} {a : Act} {K : Act → Prop} {K' : Act → World → Prop} {Q' : Exit → Act → World → Prop} (hp : ∀ o, ops[i]? = some o → plainOp o.op = true) (h : ∀ a, K a → K' a w) (hh : stOp P ops w i K a) : wpOpIn F m P ops Q' i K' a w := by
  unfold stOp at hh
  unfold wpOpIn
  split
  · rename_i ho; simp only [ho] at hh; exact h _ hh
  · rename_i o ho
    simp only [ho] at hh
    have hpl := hp o ho
    split
    · rename_i hw
      simp only [hw, if_true] at hh
      refine ⟨fun f hf => (by rw [plain_about hpl] at hf; cases hf), ?_⟩
      rw [plain_semAt hpl]
      have hne := plain_not_enter (P := P) hpl a.eval w
      unfold Oper.still at hh
      generalize (execOp a.eval o).run P w = r at *
      cases r with
      | ok x w' =>
        cases x <;> simp only [Oper.stillUpon] at hh
        case value u =>
          obtain ⟨rfl, h1⟩ := hh
          exact h _ h1
        case skip =>
          obtain ⟨rfl, h1⟩ := hh
          exact h _ h1
        case enter f args => exact absurd rfl (hne f args w')
      | halt x w' => simp only [Oper.stillUpon] at hh
    · rename_i hw
      simp only [hw] at hh
      exact ⟨fun f hf => (by rw [plain_about hpl] at hf; cases hf), h _ hh⟩
theorem wpAnyIn_of_head {n g : Nat} {L : Array Bool → Act → Prop} {Q' : Exit → Act → World → Prop} (hp : ∀ i, i < n → ∀ o, ops[i]? = some o → plainOp o.op = true) (hL : ∀ listed a, L listed a → wpAnyIn F m P md ops Q' g listed a w) :
    ∀ (f : Nat) (listed : Array Bool) (a : Act), wpAnyL P md ops w n L f listed a → wpAnyIn F m P md ops Q' (f + g) listed a w
  | 0, listed, a, h => by rw [Nat.zero_add]; exact hL _ _ h
  | f + 1, listed, a, h => by
    rw [show f + 1 + g = (f + g) + 1 by omega]
    exact ⟨fun h0 => absurd h0 h.1, fun i hi => wpOpIn_of_stOp (hp i (h.2 i hi).1) (fun a' h' => wpAnyIn_of_head hp hL f _ a' h') (h.2 i hi).2⟩
theorem wpAnyIn_of_seq {Q' : Exit → Act → World → Prop} : ∀ (l : List Oper) (k : Nat) (listed : Array Bool) (a : Act) (w : World), (∀ j, l[j]? = ops[k + j]?) →
    Region.seqB md ops l.length k listed = true → wpListIn F m P ops Q' l a w → wpAnyIn F m P md ops Q' l.length listed a w
  | [], _, _, _, _, _, hB, h => ⟨by simpa [Region.seqB] using hB, h⟩
  | o :: l, k, listed, a, w, hl, hB, h => by
    have h0 : ops[k]? = some o := by simpa using (hl 0).symm
    simp only [List.length_cons, Region.seqB, Bool.and_eq_true, decide_eq_true_eq] at hB
    refine ⟨fun h1 => (by rw [hB.1] at h1; cases h1), fun i hi => ?_⟩
    rw [hB.1] at hi
    have hik : i = k := by simpa using hi
    subst hik
    have hw : wpOpIn F m P ops Q' i (wpListIn F m P ops Q' l) a w := by unfold wpOpIn; simp only [h0]; exact h
    exact wpOpIn_mono (fun a' w' h' => wpAnyIn_of_seq l (i + 1) _ a' w' (fun j => by have := hl (j + 1); simpa [Nat.add_assoc, Nat.add_comm 1 j] using this) hB.2 h') hw
theorem wpIn_region_still_tail {id : Nat} {Q : Exit → Act → World → Prop} {a : Act} {w : World} {l : List Oper} (n : Nat) (hm : P.follows .mixedOrders = true) (hB : Region.lexTailB .any l.toArray n = true) (hpl : (l.take n).all (fun o => plainOp o.op) = true)
    (h : wpStill P l.toArray { w with drawn := w.drawn + 1 } (fun a' => wpListIn F m P l.toArray Q (l.drop n) a' { w with drawn := w.drawn + 1 }) (l.take n) a) : (Code.region id l.toArray true).wpIn F m P Q a w := by
  simp only [Region.lexTailB, Bool.and_eq_true, decide_eq_true_eq] at hB
  obtain ⟨⟨⟨⟨hsel, hn⟩, hs⟩, hc⟩, hlex⟩ := hB
  have hn' : n < l.length := by simpa using hn
  have htl : (l.take n).length = n := by simp; omega
  have hdl : (l.drop n).length = l.toArray.size - n := by simp
  have inv0 : HeadInv .any l.toArray n (Array.replicate l.toArray.size false) :=
    ⟨by simp, fun j oj _ hl => (by rw [getD_replicate_false] at hl; cases hl), fun t _ ht => getD_in (by simpa using ht) (getD_replicate_false _ _)⟩
  have H := wpAnyL_lex (md := .any) (g := l.toArray.size - n) hsel hs hc hn (l.take n) 0 _ a (fun j hj => by
    have hj' : j < n := by rw [htl] at hj; exact hj
    simp [hj']) (by simpa using htl) inv0 (by rw [htl]; exact hlex) h
  refine wpIn_region_any hm ?_
  have hp : ∀ i, i < n → ∀ o, l.toArray[i]? = some o → plainOp o.op = true := fun i hi o ho => by
    have ho' : l[i]? = some o := by simpa using ho
    have h1 := List.all_eq_true.1 hpl o (List.mem_of_getElem? (i := i) (by rw [List.getElem?_take, if_pos hi]; exact ho'))
    exact h1
  have := wpAnyIn_of_head (F := F) (m := m) (Q' := Q) (g := l.toArray.size - n) hp (fun listed a' hL => by
    have := wpAnyIn_of_seq (F := F) (m := m) (md := .any) (Q' := Q) (l.drop n) n listed a' { w with drawn := w.drawn + 1 } (fun j => by simp [List.getElem?_drop]) (by rw [hdl]; exact hL.1) hL.2
    rwa [hdl] at this) _ _ _ H
  rw [htl, show n + (l.toArray.size - n) = l.toArray.size by omega] at this
  exact this
end
end Go.Proofs.Ytmmaodlngnjmlaa.StillIn
