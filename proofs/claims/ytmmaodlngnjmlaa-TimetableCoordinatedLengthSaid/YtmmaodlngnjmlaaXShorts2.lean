/- Equality of arrays, item by item. Proofs that the printed walks give again and again, as arguments that are found by themselves. A step of a drawn region whose proofs are found by themselves. -/
import Derived.ChangeKeysEq
import Derived.Test.YtmmaodlngnjmlaaWEqStruct
import Derived.WalkKit
import Derived.Test.YtmmaodlngnjmlaaWTab
import Derived.Test.YtmmaodlngnjmlaaWWords
import Derived.KernelRfl
import Derived.Tactics
namespace Go.Proofs.YtmmaodlngnjmlaaW.PrintWords
open Go Go.RowKit
variable {P : Program} {d : Nat} {xs ys : Array Value} {e : TypeId} {n i : Nat} {is : List Nat} {a b : Value} {r s : Bool} {w : World}
theorem eqi_last (ha : (part e xs (i * n)).run P w = .ok a w) (hb : (part e ys (i * n)).run P w = .ok b w) (he : (Op.equalIn d e a b).run P w = .ok r w) : (Op.eqItems d e n xs ys [i]).run P w = .ok r w := by
  simp only [Op.eqItems, Sem.run_bind, ha, hb, he, Result.andThen_ok]
  cases r <;> simp
theorem eqi_cons (ha : (part e xs (i * n)).run P w = .ok a w) (hb : (part e ys (i * n)).run P w = .ok b w) (he : (Op.equalIn d e a b).run P w = .ok r w) (hr : (Op.eqItems d e n xs ys is).run P w = .ok s w) : (Op.eqItems d e n xs ys (i :: is)).run P w = .ok (r && s) w := by
  simp only [Op.eqItems, Sem.run_bind, ha, hb, he, Result.andThen_ok]
  cases r
  · simp
  · simpa using hr
theorem eqArr {t : TypeId} {m : Nat} (hu : P.underlying t = some (.array m e)) (hi : (P.info? e).isSome = true) (hn : P.cellsOf e = n) (h : (Op.eqItems d e n xs ys (List.range m)).run P w = .ok r w) : (Op.equalIn (d + 1) t (.agg xs) (.agg ys)).run P w = .ok r w := by
  obtain ⟨x, hx⟩ := Option.isSome_iff_exists.1 hi
  rw [run_equalIn_array (P := P) w d xs ys hu hx, hn]
  exact h
end Go.Proofs.YtmmaodlngnjmlaaW.PrintWords
namespace Go.Proofs.Ytmmaodlngnjmlaa.P
open Go Go.RowKit Go.Proofs.YtmmaodlngnjmlaaW.PrintWords
/-- What has come up, told as a number. -/
def m_ (n k : Nat) : Array Bool := ((List.range n).map fun i => k.testBit i).toArray
theorem hb_ {p : Prop} (h : p := by repeat (first | (with_reducible first | exact HB.out | apply below_alloc | apply pw_below_drewN | apply below_drew1 | (refine below_set ?_ (Aside0.out (by assumption)))) | exact HB.out)) : p := h
theorem rk_ {p q : Prop} (x : q) (h : q → p := by intro h_; (with_reducible repeat (first | apply Kd.R_alloc | apply Kd.R_drewN | apply Kd.R_drew)); exact h_) : p := h x
theorem sk_ {p q : Prop} (x : q) (h : q → p := by intro h_; (with_reducible repeat (first | apply Kd.S_alloc | apply Kd.S_drewN | apply Kd.S_drew)); exact h_) : p := h x
theorem qk_ {p q : Prop} (x : q) (h : q → p := by intro h_; (with_reducible repeat (first | apply Kd.Q_alloc | apply Kd.Q_drewN | apply Kd.Q_drew)); exact h_) : p := h x
theorem bk_ {p q : Prop} (x : q) (h : q → p := by intro h_; (with_reducible repeat (first | refine blk_drewN ?_ _ | refine blk_drew ?_ | refine blk_alloc ?_ _)); exact h_) : p := h x
theorem bb_ {w W w1 : Go.World} {g : Nat} {o : Go.Obj} (x : w.heap[g]? = some o) (hb : Below W.heap.size W w1) (h : w.heap[g]? = some o → W.heap[g]? = some o := by intro h_; (with_reducible repeat (first | refine blk_drewN ?_ _ | refine blk_drew ?_ | refine blk_alloc ?_ _)); exact h_) : w1.heap[g]? = some o := blk_below (h x) hb
theorem bl_ {w W : Go.World} {g : Nat} {o : Go.Obj} (x : w.heap[g]? = some o) (h : w.heap[g]? = some o → W.heap[g]? = some o := by intro h_; (with_reducible repeat (first | refine blk_drewN ?_ _ | refine blk_drew ?_ | refine blk_alloc ?_ _)); exact h_) : g < W.heap.size := blk_lt (h x)
theorem bg_ {w W w1 : Go.World} {g : Nat} {o : Go.Obj} {row : Option Nat} (x : w.heap[g]? = some o) (hg : W.grownBy w1 row) (hne : some g ≠ row) (h : w.heap[g]? = some o → W.heap[g]? = some o := by intro h_; (with_reducible repeat (first | refine blk_drewN ?_ _ | refine blk_drew ?_ | refine blk_alloc ?_ _)); exact h_) : w1.heap[g]? = some o := blk_grown (h x) hg hne
theorem sz_ {w W : Go.World} {g : Nat} (hg : g = W.heap.size) (h : Below w.heap.size w W := by repeat (first | (with_reducible first | exact HB.out | apply below_alloc | apply pw_below_drewN | apply below_drew1 | (refine below_set ?_ (Aside0.out (by assumption)))) | exact HB.out)) : w.heap.size ≤ g := by rw [hg]; exact below_size h
theorem od_ {p : Prop} [Decidable p] (h : decide p = true := by first | (with_reducible assumption) | assumption) : p := of_decide_eq_true h
end Go.Proofs.Ytmmaodlngnjmlaa.P
namespace Go.Proofs.Ytmmaodlngnjmlaa.P
open Go Go.RowKit Go.Proofs.YtmmaodlngnjmlaaW.PrintWords Go.Proofs.YtmmaodlngnjmlaaW.PrintLast
abbrev I : Bool := true
abbrev O : Bool := false
theorem pq_ {P : Program} {ops : Array Oper} {Q : Exit → Act → World → Prop} {md : Region.Mode} {S : World → Prop} {ds : List Nat} {T : Bool × List (List Nat × List Nat)} {i : Nat} {N : Option Tmp} {oi : Oper} {v : Value} {fuel : Nat} {l : Array Bool} {a a' : Act} {w : World} (l' : Array Bool) (hT : Aside0 (rtab md ops = T))
    (h : wpAnyLast P md ops Q S ds fuel l' a' w) (hi : ops[i]? = some oi := by exact rfl) (hN : oi.dst = N := by exact rfl) (hc : anyT T l.toList l'.toList i = true := by kernel_rfl) (hQ : ∀ c a w, Q (.panic c) (a.put oi.dst v) w → Q (.panic c) a w := by exact fun _ _ _ h => h)
    (hy : Yields P ops oi v a := by refine Or.inl ⟨by rfl, ?_⟩; intro w'; go_simp; with_reducible rfl) (ha : a.put N v = a' := by simp only [Act.put, List.setIfInBounds_toArray, List.set_cons_zero, List.set_cons_succ, i64_w, i32_w]; rfl) :
    wpAnyLast P md ops Q S ds (fuel + 1) l a w := pure_ l' hi hN (any_of hT.out hc) hQ hy ha h
end Go.Proofs.Ytmmaodlngnjmlaa.P
