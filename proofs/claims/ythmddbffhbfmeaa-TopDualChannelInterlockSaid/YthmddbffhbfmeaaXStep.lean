/- One tick of the supervisor: the walk of Step. -/
import Derived.Test.YthmddbffhbfmeaaXSup
namespace Go.Proofs.Ythmddbffhbfmeaa.Sup
set_option linter.unusedVariables false
set_option linter.unusedSimpArgs false
open Go Go.RowKit Go.Proofs.YthmddbffhbfmeaaW.PrintWords Go.Proofs.YthmddbffhbfmeaaW.PrintMore Go.Proofs.Ythmddbffhbfmeaa.Ticks
def tick1 (t : Int) : Int := mn (wrap64 (t + 1)) 1073741824
theorem min_mn (ats : Array TypeId) (ty : TypeId) (k k' : IntKind) (x y : Int) : Builtin.min_ ats ty #[.int k x, .int k' y] = pure (.int k (mn x y)) := by
  rw [min_two, min2_int]
  rfl
theorem idxT_0 (w : World) (x0 x1 : Int) : Sem.run Try.prog (Instr.index 46 (.agg #[.int .i64 x0, .int .i64 x1]) (.int .i64 0)) w = .ok (.int .i64 x0) w := by kernel_rfl
theorem idxT_1 (w : World) (x0 x1 : Int) : Sem.run Try.prog (Instr.index 46 (.agg #[.int .i64 x0, .int .i64 x1]) (.int .i64 1)) w = .ok (.int .i64 x1) w := by kernel_rfl
/-- The ticks since the brakes' last tests. -/
def tS (m : Int) (rest : Bool) (t0 t1 : Int) : Int × Int := if m = 4 ∧ rest = true then (0, 0) else (tick1 t0, tick1 t1)
/-- What a tick hands back. -/
def StepPost (w : World) (x : Int × Int × Int) (t : Int × Int) (er : Int) (e : Ending) (W' : World) : Prop :=
  ∃ cv', e = .returned (.tuple #[.agg #[.int .i64 x.1, .int .i64 x.2.1, .int .i64 x.2.2, cv', .int .i64 t.1, .int .i64 t.2], .int .i64 er]) ∧ Good W' cv' ∧ Below w.heap.size w W'
theorem setR {W : World} {R t : Nat} {x0 x1 x2 x3 x4 x5 : Value} (h : W.heap[R]? = some (.cells #[x0, x1, x2, x3, x4, x5] t (0, 0))) (a b c : Int) (v : Value) (d e : Int) :
    ∃ W', (((((W.setCell ⟨R, 0, none⟩ (.int .i64 a)).setCell ⟨R, 1, none⟩ (.int .i64 b)).setCell ⟨R, 2, none⟩ (.int .i64 c)).setCell ⟨R, 3, none⟩ v).setCell ⟨R, 4, none⟩ (.int .i64 d)).setCell ⟨R, 5, none⟩ (.int .i64 e) = W' ∧
      W'.heap[R]? = some (.cells #[.int .i64 a, .int .i64 b, .int .i64 c, v, .int .i64 d, .int .i64 e] t (0, 0)) ∧ W.grownBy W' (some R) := by
  refine ⟨_, rfl, ?_, ?_⟩
  · have h0 := blk_set h 0 (.int .i64 a)
    have h1 := blk_set h0 1 (.int .i64 b)
    have h2 := blk_set h1 2 (.int .i64 c)
    have h3 := blk_set h2 3 v
    have h4 := blk_set h3 4 (.int .i64 d)
    have h5 := blk_set h4 5 (.int .i64 e)
    simpa using h5
  · exact (((((grown_set W R 0 _).trans (grown_set _ R 1 _)).trans (grown_set _ R 2 _)).trans (grown_set _ R 3 _)).trans (grown_set _ R 4 _)).trans (grown_set _ R 5 _)
theorem Good.form {W : World} {cv : Value} (h : Good W cv) : ∃ A n c, cv = .slice A n c := by
  rcases h with h | ⟨ad, n, c, _, h, _⟩
  · exact ⟨_, _, _, h⟩
  · exact ⟨_, _, _, h⟩
theorem chain_blk {wb w2 w3 : World} {o : Obj} (hb2 : Below wb.drew.heap.size wb.drew w2) (hb3 : Below (w2.alloc o).heap.size (w2.alloc o) w3) {k : Nat} {ob : Obj} (h : wb.heap[k]? = some ob) : w3.heap[k]? = some ob := by
  have h0 : wb.drew.heap[k]? = some ob := h
  have h1 : w2.heap[k]? = some ob := (hb2.block k (Array.getElem?_eq_some_iff.1 h0).1).trans h0
  have h2 : (w2.alloc o).heap[k]? = some ob := (Below.heap_alloc w2 o k (Array.getElem?_eq_some_iff.1 h1).1).trans h1
  exact (hb3.block k (Array.getElem?_eq_some_iff.1 h2).1).trans h2
theorem chain_below {w wb w2 w3 : World} {o : Obj} (hb : Below w.heap.size w wb) (hb2 : Below wb.drew.heap.size wb.drew w2) (hb3 : Below (w2.alloc o).heap.size (w2.alloc o) w3) : Below w.heap.size w w3 := by
  have h0 : Below w.heap.size w wb.drew := hb.drew
  have h1 := h0.trans (hb2.mono h0.size)
  have h2 := h1.alloc h1.size o
  exact h2.trans (hb3.mono h2.size)
theorem chain_blk1 {w2 w3 : World} {o : Obj} (hb3 : Below (w2.alloc o).heap.size (w2.alloc o) w3) {k : Nat} {ob : Obj} (h1 : w2.heap[k]? = some ob) : w3.heap[k]? = some ob := by
  have h2 : (w2.alloc o).heap[k]? = some ob := (Below.heap_alloc w2 o k (Array.getElem?_eq_some_iff.1 h1).1).trans h1
  exact (hb3.block k (Array.getElem?_eq_some_iff.1 h2).1).trans h2
theorem chain_below1 {w w2 w3 : World} {o : Obj} (h1 : Below w.heap.size w w2) (hb3 : Below (w2.alloc o).heap.size (w2.alloc o) w3) : Below w.heap.size w w3 := by
  have h2 := h1.alloc h1.size o
  exact h2.trans (hb3.mono h2.size)
theorem set_blk {w3 : World} {k B : Nat} {ob : Obj} (h : w3.heap[k]? = some ob) (hne : k ≠ B) (j : Nat) (v : Value) : (w3.setCell ⟨B, j, none⟩ v).heap[k]? = some ob :=
  ((grown_set w3 B j v).block _ (Array.getElem?_eq_some_iff.1 h).1 (fun e => hne (Option.some.inj e))).trans h
theorem Good.apart {w : World} {cv : Value} (h : Good w cv) {B : Nat} (hB : w.heap.size ≤ B) : Apart B cv := by
  intro ad n c e
  rcases h with h | ⟨ad', n', c', xs, h1, h2, h3, h4, h5, h6, h7, _⟩
  · rw [h] at e; cases e
  · rw [h1] at e
    cases e
    have hx : 0 < xs.length := by omega
    have := World.block_lt_of_cell? w _ (h6 0 _ (List.getElem?_eq_getElem hx))
    have hb : (ad.add 0).block = ad.block := by unfold Addr.add; split <;> rfl
    rw [hb] at this
    omega
section
attribute [local go_sem high] idxT_0 idxT_1 min_mn
set_option maxRecDepth 100000 in
set_option maxHeartbeats 4000000 in
theorem step_run (mode cat left : Int) (cv : Value) (t0 t1 : Int) (A : Option Addr) (c_ : Nat) (l : List (Int × Int × Int × Int)) (ask : Int) (rest : Bool) (w : World) (hgood : Good w cv) (hV : VL w A l) (hmax : l.length ≤ 1000000) (hl0 : 0 ≤ left) (hl1 : left ≤ 1000) :
    Calls Try.prog 20 #[.agg #[.int .i64 mode, .int .i64 cat, .int .i64 left, cv, .int .i64 t0, .int .i64 t1], .slice A l.length c_, .int .i64 ask, .bool rest] w (StepPost w (modeS mode cat left (callS l ask) ask rest) (tS (modeS mode cat left (callS l ask) ask rest).1 rest t0 t1) (errS ask (modeS mode cat left (callS l ask) ask rest).1)) := by
  have HG := Aside0.mk hgood
  have HV := Aside0.mk hV
  clear hgood hV
  go_enter Try.func20, Try.ntmps20
  go_wp2
  refine wp_loop_rounds 3 ?_
  rw [rounds_succ]
  go_wp2
  rw [rounds_succ]
  go_wp2
  rw [rounds_succ]
  go_wp2
  have hL := lies3 w (.cells #[.int .i64 mode, .int .i64 cat, .int .i64 left, cv, .int .i64 t0, .int .i64 t1] 48 (0, 0)) (.cells #[.int .i64 0, .int .i64 0, .int .i64 0, .slice none 0 0, .int .i64 0, .int .i64 0] 48 (0, 0)) (.cells #[.int .i64 mode, .int .i64 cat, .int .i64 left, cv, .int .i64 (mn (wrap64 (t0 + 1)) 1073741824), .int .i64 (mn (wrap64 (t1 + 1)) 1073741824), .slice A l.length c_, .int .i64 ask, .bool rest, .int .i64 3] 97 (0, 0)) _ (Below.refl _ _)
  obtain ⟨_, lb1, lb2, _, lB⟩ := hL
  have LB1 := Aside0.mk lb1
  have LB2 := Aside0.mk (show Wk _ (w.heap.size + 1 + 1) mode cat left cv (tick1 t0) (tick1 t1) (.slice A l.length c_) ask rest 3 from lb2)
  have LB := Aside0.mk lB
  clear lb1 lb2 lB
  go_loopw [43] (fun i wr => ∃ k : Nat, i = .int .i64 k ∧ k ≤ l.length ∧ Aside0 (Wk wr (w.heap.size + 1 + 1) mode cat left cv (tick1 t0) (tick1 t1) (.slice A l.length c_) ask rest (callL (l.take k))) ∧ Aside0 (wr.heap[w.heap.size + 1]? = some (.cells #[.int .i64 0, .int .i64 0, .int .i64 0, .slice none 0 0, .int .i64 0, .int .i64 0] 48 (0, 0))) ∧ Aside0 (Below w.heap.size w wr))
    (fun i _ => l.length - (intOf i).toNat)
  case atStart => exact ⟨0, rfl, Nat.zero_le _, LB2, LB1, LB⟩
  case round =>
    obtain ⟨k, rfl, hk, hK, hR, hB⟩ := hrel
    by_cases hlt : k < l.length
    · obtain ⟨ad, hA⟩ : ∃ ad, A = some ad := by
        cases A with
        | none => rw [HV.out.none rfl] at hlt; simp at hlt
        | some ad => exact ⟨ad, rfl⟩
      subst hA
      obtain ⟨x, hx⟩ : ∃ x, l[k] = x := ⟨_, rfl⟩
      have hnx : callL (l.take (k + 1)) = worstL (callL (l.take k)) (catOf x.1) := by
        rw [List.take_succ_eq_append_getElem hlt, callL, List.foldl_append, hx]
        rfl
      have HNX := Aside0.mk hnx
      clear hnx
      obtain ⟨xk, xa, xb, xc⟩ := x
      obtain ⟨y0, y1, y2, y3⟩ := HV.out.cell ad rfl k _ (by rw [List.getElem?_eq_getElem hlt, hx])
      have z0 := (hB.out.cell (World.block_lt_of_cell? w _ y0)).trans y0
      have z1 := (hB.out.cell (World.block_lt_of_cell? w _ y1)).trans y1
      have z2 := (hB.out.cell (World.block_lt_of_cell? w _ y2)).trans y2
      have z3 := (hB.out.cell (World.block_lt_of_cell? w _ y3)).trans y3
      clear y0 y1 y2 y3
      dsimp only at z0 z1 z2 z3
      have HX := Aside0.mk hx
      clear hx
      have cap1 : (0 : Int) ≤ (k : Int) := by omega
      generalize hcl : callL (l.take k) = call0 at hK HNX
      clear hcl
      have hK0 : Wk (wr.alloc (.cells #[.int .i64 xk, .int .i64 xa, .int .i64 xb, .int .i64 xc] 67 (0, 0))) (w.heap.size + 1 + 1) mode cat left cv (tick1 t0) (tick1 t1) (.slice (some ad) l.length c_) ask rest call0 := hK.out.below ((Below.refl _ wr).alloc (Nat.le_refl _) _)
      have hR0 : (wr.alloc (.cells #[.int .i64 xk, .int .i64 xa, .int .i64 xb, .int .i64 xc] 67 (0, 0))).heap[w.heap.size + 1]? = _ := (Below.heap_alloc wr _ _ (blk_lt hR.out)).trans hR.out
      have hB0 : Below w.heap.size w (wr.alloc (.cells #[.int .i64 xk, .int .i64 xa, .int .i64 xb, .int .i64 xc] 67 (0, 0))) := hB.out.alloc hB.out.size _
      have b5 := heap_alloc_new wr (.cells #[.int .i64 xk, .int .i64 xa, .int .i64 xb, .int .i64 xc] 67 (0, 0))
      have K0 := Aside0.mk hK0
      have R0 := Aside0.mk hR0
      have B0 := Aside0.mk hB0
      have B5 := Aside0.mk b5
      clear hK0 hR0 hB0 b5
      go_wp2
      generalize hwb : wr.alloc (.cells #[.int .i64 xk, .int .i64 xa, .int .i64 xb, .int .i64 xc] 67 (0, 0)) = wb at *
      clear hwb
      have k9 := K0.out.c9
      have e0 : wb.cell? ⟨wr.heap.size, 0, none⟩ = some (.int .i64 xk) := (blk_cell B5.out 0).trans rfl
      have e1 : wb.cell? ⟨wr.heap.size, 1, none⟩ = some (.int .i64 xa) := (blk_cell B5.out 1).trans rfl
      have e2 : wb.cell? ⟨wr.heap.size, 2, none⟩ = some (.int .i64 xb) := (blk_cell B5.out 2).trans rfl
      have e3 : wb.cell? ⟨wr.heap.size, 3, none⟩ = some (.int .i64 xc) := (blk_cell B5.out 3).trans rfl
      clear z0 z1 z2 z3
      go_region_with (first
        | (go_at_call 28; refine (category_run xk xa xb xc _).mono ?_; rintro e w2 ⟨rfl, hb2⟩; have K2 := (show Wk wb.drew (w.heap.size + 1 + 1) mode cat left cv (tick1 t0) (tick1 t1) (.slice (some ad) l.length c_) ask rest call0 from K0.out).below hb2; have k92 := K2.c9; have k92x : ∀ o, (w2.alloc o).cell? ⟨w.heap.size + 1 + 1, 9, none⟩ = some (.int .i64 call0) := fun o => (World.cell?_of_block (Below.heap_alloc w2 o _ K2.lt)).trans k92; have KK2 := Aside0.mk K2; have HB2 := Aside0.mk hb2; clear K2 hb2)
        | (go_at_call 42; refine (worst_run w2.heap.size call0 (catOf xk) _ ((blk_cell (heap_alloc_new w2 _) 0).trans rfl)).mono ?_; rintro e w3 ⟨rfl, hb3⟩; have K3 := (KK2.out.below ((Below.refl _ w2).alloc (Nat.le_refl _) _)).below hb3; have k93 := K3.c9; have f93 := K3.fz 9; have KK3 := Aside0.mk K3; have HB3 := Aside0.mk hb3; clear K3 hb3))
      all_goals
        go_wp2
        go_roundw
        case rel => exact ⟨k + 1, by go_num, by omega, ⟨by rw [HNX.out]; exact KK3.out.set9 _⟩, ⟨(grown_set w3 (w.heap.size + 1 + 1) 9 _).block _ (blk_lt (chain_blk HB2.out HB3.out R0.out)) (fun e => by have e' : w.heap.size + 1 = w.heap.size + 1 + 1 := Option.some.inj e; omega) |>.trans (chain_blk HB2.out HB3.out R0.out)⟩, ⟨(chain_below B0.out HB2.out HB3.out).setCell (by simp; omega) _⟩⟩
        case measure => simp [intOf]; omega
    · have hkl : l.take k = l := List.take_of_length_le (by omega)
      rw [hkl] at hK
      clear hkl
      go_upto_block 4 with (fail)
      go_cut [60] (fun v60 wc => ∃ b60 : Bool, v60 = .bool b60 ∧ Aside0 (Wk wc (w.heap.size + 1 + 1) mode cat left cv (tick1 t0) (tick1 t1) (.slice A l.length c_) ask rest (callS l ask)) ∧ Aside0 (wc.heap[w.heap.size + 1]? = some (.cells #[.int .i64 0, .int .i64 0, .int .i64 0, .slice none 0 0, .int .i64 0, .int .i64 0] 48 (0, 0))) ∧ Aside0 (Below w.heap.size w wc))
      case first =>
        have k9 := hK.out.c9
        have f9 := hK.out.fz 9
        by_cases h2 : ask = 2
        · have hcs : callS l ask = worstL (callL l) 2 := if_pos h2
          have HCS := Aside0.mk hcs
          clear hcs
          subst h2
          go_wp2_with (go_at_call 42; refine (worst_run wr.heap.size (callL l) 2 _ ((blk_cell (heap_alloc_new wr _) 0).trans rfl)).mono ?_; rintro e w3 ⟨rfl, hb3⟩; have K3 := (hK.out.below ((Below.refl _ wr).alloc (Nat.le_refl _) _)).below hb3; have k93 := K3.c9; have f93 := K3.fz 9; have KK3 := Aside0.mk K3; have HB3 := Aside0.mk hb3; clear K3 hb3)
          go_meet
          case rel => exact ⟨_, rfl, ⟨by rw [HCS.out]; exact KK3.out.set9 _⟩, ⟨set_blk (chain_blk1 HB3.out hR.out) (by omega) 9 _⟩, ⟨(chain_below1 hB.out HB3.out).setCell (by simp; omega) _⟩⟩
        by_cases h3 : ask = 3
        · have hcs : callS l ask = worstL (callL l) 1 := by unfold callS; rw [if_neg h2, if_pos h3]
          have HCS := Aside0.mk hcs
          clear hcs h2
          subst h3
          go_wp2_with (go_at_call 42; refine (worst_run wr.heap.size (callL l) 1 _ ((blk_cell (heap_alloc_new wr _) 0).trans rfl)).mono ?_; rintro e w3 ⟨rfl, hb3⟩; have K3 := (hK.out.below ((Below.refl _ wr).alloc (Nat.le_refl _) _)).below hb3; have k93 := K3.c9; have f93 := K3.fz 9; have KK3 := Aside0.mk K3; have HB3 := Aside0.mk hb3; clear K3 hb3)
          go_meet
          case rel => exact ⟨_, rfl, ⟨by rw [HCS.out]; exact KK3.out.set9 _⟩, ⟨set_blk (chain_blk1 HB3.out hR.out) (by omega) 9 _⟩, ⟨(chain_below1 hB.out HB3.out).setCell (by simp; omega) _⟩⟩
        · have hcs : callS l ask = callL l := by unfold callS; rw [if_neg h2, if_neg h3]
          have HCS := Aside0.mk hcs
          have d2 : (ask == 2) = false := beq_eq_false_iff_ne.mpr h2
          have d3 : (ask == 3) = false := beq_eq_false_iff_ne.mpr h3
          clear hcs h2 h3
          go_wp2
          go_meet
          case rel => exact ⟨_, rfl, ⟨by rw [HCS.out]; exact hK.out⟩, hR, hB⟩
      case rest =>
        obtain ⟨b60, rfl, hKc, hRc, hBc⟩ := hcut
        clear hK hR hB LB1 LB2 LB
        obtain ⟨call, hcall⟩ : ∃ call, callS l ask = call := ⟨_, rfl⟩
        rw [hcall] at hKc
        have HCALL := Aside0.mk hcall
        clear hcall
        go_step
        go_step
        go_cut [15] (fun v15 wd => ∃ (cv' : Value) (g15 : Value), v15 = g15 ∧ Aside0 (Wk wd (w.heap.size + 1 + 1) (modeS mode cat left call ask rest).1 (modeS mode cat left call ask rest).2.1 (modeS mode cat left call ask rest).2.2 cv' (tick1 t0) (tick1 t1) (.slice A l.length c_) ask rest call) ∧ Aside0 (Good wd cv') ∧ Aside0 (wd.heap[w.heap.size + 1]? = some (.cells #[.int .i64 0, .int .i64 0, .int .i64 0, .slice none 0 0, .int .i64 0, .int .i64 0] 48 (0, 0))) ∧ Aside0 (Below w.heap.size w wd))
        case first =>
          have hB2 : Below w.heap.size w (wc.alloc (.map mt5 5)).drew := (hBc.out.alloc hBc.out.size _).drew
          have hba : Below wc.heap.size wc (wc.alloc (.map mt5 5)).drew := ((Below.refl _ wc).alloc (Nat.le_refl _) _).drew
          have hG2 : Good (wc.alloc (.map mt5 5)).drew cv := HG.out.below hB2
          have hK2 : Wk (wc.alloc (.map mt5 5)).drew (w.heap.size + 1 + 1) mode cat left cv (tick1 t0) (tick1 t1) (.slice A l.length c_) ask rest call := hKc.out.below hba
          have hR2 : (wc.alloc (.map mt5 5)).drew.heap[w.heap.size + 1]? = _ := (hba.block _ (blk_lt hRc.out)).trans hRc.out
          have hA2 : Apart (w.heap.size + 1 + 1) cv := HG.out.apart (by omega)
          have hE2 : Env w (wc.alloc (.map mt5 5)).drew (w.heap.size + 1 + 1) (.slice A l.length c_) A c_ l := ⟨rfl, HV.out, fun k hk => hB2.block k hk, by omega, hB2.size, hmax⟩
          have hmap : (wc.alloc (.map mt5 5)).drew.heap[wc.heap.size]? = some (.map mt5 5) := heap_alloc_new wc _
          have k0 := hKc.out.c0
          have k0x : ∀ o, (wc.alloc o).cell? ⟨w.heap.size + 1 + 1, 0, none⟩ = some (.int .i64 mode) := fun o => (World.cell?_of_block (Below.heap_alloc wc o _ hKc.out.lt)).trans k0
          have HB2 := Aside0.mk hB2
          have HG2 := Aside0.mk hG2
          have HK2 := Aside0.mk hK2
          have HR2 := Aside0.mk hR2
          have HA2 := Aside0.mk hA2
          have HE2 := Aside0.mk hE2
          have hnf : ∀ (W : World) (g : Nat), (binOp .neq 99 (.func (.func g) #[] #[]) .nilFunc).run Try.prog W = .ok (.bool true) W := fun W g => by kernel_rfl
          have hnn : ∀ (W : World), (binOp .neq 99 .nilFunc .nilFunc).run Try.prog W = .ok (.bool false) W := fun W => by kernel_rfl
          clear hB2 hG2 hK2 hR2 hA2 hE2 hba
          go_step
          by_cases hm : mode = 1
          · subst hm
            have hlk := mlook1 (n := wc.heap.size) (W := (wc.alloc (.map mt5 5)).drew) (clock := 5) hmap
            go_region_with (go_at_call 43; refine (modes_run _).mono ?_; rintro e w2 ⟨rfl, rfl⟩)
            all_goals
              go_wp2_with (go_at_call 62; refine (idleM (w.heap.size + 1 + 1) cat left cv (tick1 t0) (tick1 t1) (.slice A l.length c_) ask rest call _ HK2.out HG2.out HA2.out w A c_ l HE2.out).mono ?_; rintro e w4 ⟨rfl, ⟨cv4, K4, g4, a4⟩, r4⟩; have KK4 := Aside0.mk K4; have GG4 := Aside0.mk g4; have RR4 := Aside0.mk r4; clear K4 g4 a4 r4)
              go_meet
              case rel => exact ⟨cv4, _, rfl, KK4, GG4, ⟨(RR4.out.block _ (blk_lt HR2.out) (fun e => by have e' : w.heap.size + 1 = w.heap.size + 1 + 1 := Option.some.inj e; omega)).trans HR2.out⟩, ⟨below_grown HB2.out RR4.out (by omega)⟩⟩
          by_cases hm2 : mode = 2
          · subst hm2
            have hlk := mlook2 (n := wc.heap.size) (W := (wc.alloc (.map mt5 5)).drew) (clock := 5) hmap
            go_region_with (go_at_call 43; refine (modes_run _).mono ?_; rintro e w2 ⟨rfl, rfl⟩)
            all_goals
              go_wp2_with (go_at_call 63; refine (movingM (w.heap.size + 1 + 1) cat left cv (tick1 t0) (tick1 t1) (.slice A l.length c_) ask rest call _ HK2.out HG2.out HA2.out w A c_ l HE2.out).mono ?_; rintro e w4 ⟨rfl, ⟨cv4, K4, g4, a4⟩, r4⟩; have KK4 := Aside0.mk K4; have GG4 := Aside0.mk g4; have RR4 := Aside0.mk r4; clear K4 g4 a4 r4)
              go_meet
              case rel => exact ⟨cv4, _, rfl, KK4, GG4, ⟨(RR4.out.block _ (blk_lt HR2.out) (fun e => by have e' : w.heap.size + 1 = w.heap.size + 1 + 1 := Option.some.inj e; omega)).trans HR2.out⟩, ⟨below_grown HB2.out RR4.out (by omega)⟩⟩
          by_cases hm3 : mode = 3
          · subst hm3
            have hlk := mlook3 (n := wc.heap.size) (W := (wc.alloc (.map mt5 5)).drew) (clock := 5) hmap
            go_region_with (go_at_call 43; refine (modes_run _).mono ?_; rintro e w2 ⟨rfl, rfl⟩)
            all_goals
              go_wp2_with (go_at_call 64; refine (stoppingM (w.heap.size + 1 + 1) cat left cv (tick1 t0) (tick1 t1) (.slice A l.length c_) ask rest call _ HK2.out HG2.out HA2.out w A c_ l HE2.out hl0 hl1).mono ?_; rintro e w4 ⟨rfl, ⟨cv4, K4, g4, a4⟩, r4⟩; have KK4 := Aside0.mk K4; have GG4 := Aside0.mk g4; have RR4 := Aside0.mk r4; clear K4 g4 a4 r4)
              go_meet
              case rel => exact ⟨cv4, _, rfl, KK4, GG4, ⟨(RR4.out.block _ (blk_lt HR2.out) (fun e => by have e' : w.heap.size + 1 = w.heap.size + 1 + 1 := Option.some.inj e; omega)).trans HR2.out⟩, ⟨below_grown HB2.out RR4.out (by omega)⟩⟩
          by_cases hm4 : mode = 4
          · subst hm4
            have hlk := mlook4 (n := wc.heap.size) (W := (wc.alloc (.map mt5 5)).drew) (clock := 5) hmap
            go_region_with (go_at_call 43; refine (modes_run _).mono ?_; rintro e w2 ⟨rfl, rfl⟩)
            all_goals
              go_wp2_with (go_at_call 65; refine (stoppedM (w.heap.size + 1 + 1) cat left cv (tick1 t0) (tick1 t1) (.slice A l.length c_) ask rest call _ HK2.out HG2.out HA2.out w A c_ l HE2.out).mono ?_; rintro e w4 ⟨rfl, ⟨cv4, K4, g4, a4⟩, r4⟩; have KK4 := Aside0.mk K4; have GG4 := Aside0.mk g4; have RR4 := Aside0.mk r4; clear K4 g4 a4 r4)
              go_meet
              case rel => exact ⟨cv4, _, rfl, KK4, GG4, ⟨(RR4.out.block _ (blk_lt HR2.out) (fun e => by have e' : w.heap.size + 1 = w.heap.size + 1 + 1 := Option.some.inj e; omega)).trans HR2.out⟩, ⟨below_grown HB2.out RR4.out (by omega)⟩⟩
          by_cases hm5 : mode = 5
          · subst hm5
            have hlk := mlook5 (n := wc.heap.size) (W := (wc.alloc (.map mt5 5)).drew) (clock := 5) hmap
            go_region_with (go_at_call 43; refine (modes_run _).mono ?_; rintro e w2 ⟨rfl, rfl⟩)
            all_goals
              go_wp2_with (go_at_call 66; refine (holdingM (w.heap.size + 1 + 1) cat left cv (tick1 t0) (tick1 t1) (.slice A l.length c_) ask rest call _ HK2.out HG2.out HA2.out w A c_ l HE2.out).mono ?_; rintro e w4 ⟨rfl, ⟨cv4, K4, g4, a4⟩, r4⟩; have KK4 := Aside0.mk K4; have GG4 := Aside0.mk g4; have RR4 := Aside0.mk r4; clear K4 g4 a4 r4)
              go_meet
              case rel => exact ⟨cv4, _, rfl, KK4, GG4, ⟨(RR4.out.block _ (blk_lt HR2.out) (fun e => by have e' : w.heap.size + 1 = w.heap.size + 1 + 1 := Option.some.inj e; omega)).trans HR2.out⟩, ⟨below_grown HB2.out RR4.out (by omega)⟩⟩
          have hmo := modeS_other (mode := mode) (by omega) cat left call ask rest
          have HMO := Aside0.mk hmo
          have hlk := mlook0 mode (by omega) (n := wc.heap.size) (W := (wc.alloc (.map mt5 5)).drew) (clock := 5) hmap
          clear hmo
          go_region_with (go_at_call 43; refine (modes_run _).mono ?_; rintro e w2 ⟨rfl, rfl⟩)
          all_goals
            go_wp2
            go_meet
            case rel => exact ⟨cv, _, rfl, ⟨by rw [HMO.out]; exact HK2.out⟩, HG2, HR2, HB2⟩
        case rest =>
          obtain ⟨cv', g15, rfl, hKd, hGd, hRd, hBd⟩ := hcut
          generalize hms : modeS mode cat left call ask rest = ms at hKd
          obtain ⟨m', c', l'⟩ := ms
          have HMS := Aside0.mk hms
          clear hms hKc hRc hBc
          dsimp only at hKd
          obtain ⟨A9, n9, c9, hcv⟩ := hGd.out.form
          subst hcv
          have hAd : Apart (w.heap.size + 1 + 1) (.slice A9 n9 c9) := hGd.out.typed hKd.out (by decide)
          have HAd := Aside0.mk hAd
          clear hAd
          by_cases hm4 : m' = 4
          · cases rest with
            | true =>
              subst hm4
              have k0 := hKd.out.c0
              have k4 := hKd.out.c4
              have k5 := hKd.out.c5
              have f4 := hKd.out.fz 4
              have f5 := hKd.out.fz 5
              go_wp2
              generalize hwd : (wc.setCell ⟨w.heap.size + 1 + 1, 4, none⟩ (.int .i64 0)).setCell ⟨w.heap.size + 1 + 1, 5, none⟩ (.int .i64 0) = wd at *
              have KD : Wk wd (w.heap.size + 1 + 1) 4 c' l' (.slice A9 n9 c9) 0 0 (.slice A l.length c_) ask true call := by rw [← hwd]; exact (hKd.out.set4 0).set5 0
              have GD : Good wd (.slice A9 n9 c9) := by rw [← hwd]; exact (hGd.out.set HAd.out 4 _).set HAd.out 5 _
              have RD : wd.heap[w.heap.size + 1]? = some (.cells #[.int .i64 0, .int .i64 0, .int .i64 0, .slice none 0 0, .int .i64 0, .int .i64 0] 48 (0, 0)) := by rw [← hwd]; exact set_blk (set_blk hRd.out (by omega) 4 _) (by omega) 5 _
              have BD : Below w.heap.size w wd := by rw [← hwd]; exact (hBd.out.setCell (by simp; omega) _).setCell (by simp; omega) _
              clear hwd k0 k4 k5 f4 f5
              have HKD := Aside0.mk KD
              have HGD := Aside0.mk GD
              have HRD := Aside0.mk RD
              have HBD := Aside0.mk BD
              clear KD GD RD BD
              have k0 := HKD.out.c0
              have k1 := HKD.out.c1
              have k2 := HKD.out.c2
              have k3 := HKD.out.c3
              have k4 := HKD.out.c4
              have k5 := HKD.out.c5
              have r0 : wd.cell? ⟨w.heap.size + 1, 0, none⟩ = some (.int .i64 0) := (blk_cell HRD.out 0).trans rfl
              have r1 : wd.cell? ⟨w.heap.size + 1, 1, none⟩ = some (.int .i64 0) := (blk_cell HRD.out 1).trans rfl
              have r2 : wd.cell? ⟨w.heap.size + 1, 2, none⟩ = some (.int .i64 0) := (blk_cell HRD.out 2).trans rfl
              have r3 : wd.cell? ⟨w.heap.size + 1, 3, none⟩ = some (.slice none 0 0) := (blk_cell HRD.out 3).trans rfl
              have r4 : wd.cell? ⟨w.heap.size + 1, 4, none⟩ = some (.int .i64 0) := (blk_cell HRD.out 4).trans rfl
              have r5 : wd.cell? ⟨w.heap.size + 1, 5, none⟩ = some (.int .i64 0) := (blk_cell HRD.out 5).trans rfl
              have f0 := blk_frozen HRD.out 0
              have f1 := blk_frozen HRD.out 1
              have f2 := blk_frozen HRD.out 2
              have f3 := blk_frozen HRD.out 3
              have f4 := blk_frozen HRD.out 4
              have f5 := blk_frozen HRD.out 5
              go_region_with (go_at_call 44; refine (error_run (w.heap.size + 1 + 1) 4 c' l' (.slice A9 n9 c9) 0 0 (.slice A l.length c_) ask true call _ (by exact HKD.out)).mono ?_; rintro e w9 ⟨rfl, rfl⟩)
              all_goals
                go_wp2
                obtain ⟨W9, e9, b9, g9⟩ := setR HRD.out 4 c' l' (.slice A9 n9 c9) 0 0
                rw [e9]
                have z0 : W9.drew.cell? ⟨w.heap.size + 1, 0, none⟩ = some (.int .i64 4) := (blk_cell b9 0).trans rfl
                have z1 : W9.drew.cell? ⟨w.heap.size + 1, 1, none⟩ = some (.int .i64 c') := (blk_cell b9 1).trans rfl
                have z2 : W9.drew.cell? ⟨w.heap.size + 1, 2, none⟩ = some (.int .i64 l') := (blk_cell b9 2).trans rfl
                have z3 : W9.drew.cell? ⟨w.heap.size + 1, 3, none⟩ = some (.slice A9 n9 c9) := (blk_cell b9 3).trans rfl
                have z4 : W9.drew.cell? ⟨w.heap.size + 1, 4, none⟩ = some (.int .i64 0) := (blk_cell b9 4).trans rfl
                have z5 : W9.drew.cell? ⟨w.heap.size + 1, 5, none⟩ = some (.int .i64 0) := (blk_cell b9 5).trans rfl
                refine bodyPost_ret (v := .tuple #[.agg #[.int .i64 4, .int .i64 c', .int .i64 l', (.slice A9 n9 c9), .int .i64 0, .int .i64 0], .int .i64 (errS ask 4)]) (by simp [results, Try.results20, go_sem, z0, z1, z2, z3, z4, z5]) rfl ?_
                show StepPost _ _ _ _ _ _
                rw [HCALL.out, HMS.out, show tS 4 true t0 t1 = (0, 0) from if_pos ⟨rfl, rfl⟩]
                exact ⟨_, rfl, HGD.out.grown (HGD.out.typed HRD.out (by decide)) (g9.trans (grown_drew W9 _)), (below_grown HBD.out g9 (by omega)).drew⟩
            | false =>
              subst hm4
              have HKD := hKd
              have HGD := hGd
              have HRD := hRd
              have HBD := hBd
              clear hKd hGd hRd hBd
              have k0 := HKD.out.c0
              have k1 := HKD.out.c1
              have k2 := HKD.out.c2
              have k3 := HKD.out.c3
              have k4 := HKD.out.c4
              have k5 := HKD.out.c5
              have r0 : wc.cell? ⟨w.heap.size + 1, 0, none⟩ = some (.int .i64 0) := (blk_cell HRD.out 0).trans rfl
              have r1 : wc.cell? ⟨w.heap.size + 1, 1, none⟩ = some (.int .i64 0) := (blk_cell HRD.out 1).trans rfl
              have r2 : wc.cell? ⟨w.heap.size + 1, 2, none⟩ = some (.int .i64 0) := (blk_cell HRD.out 2).trans rfl
              have r3 : wc.cell? ⟨w.heap.size + 1, 3, none⟩ = some (.slice none 0 0) := (blk_cell HRD.out 3).trans rfl
              have r4 : wc.cell? ⟨w.heap.size + 1, 4, none⟩ = some (.int .i64 0) := (blk_cell HRD.out 4).trans rfl
              have r5 : wc.cell? ⟨w.heap.size + 1, 5, none⟩ = some (.int .i64 0) := (blk_cell HRD.out 5).trans rfl
              have f0 := blk_frozen HRD.out 0
              have f1 := blk_frozen HRD.out 1
              have f2 := blk_frozen HRD.out 2
              have f3 := blk_frozen HRD.out 3
              have f4 := blk_frozen HRD.out 4
              have f5 := blk_frozen HRD.out 5
              go_wp2
              go_region_with (go_at_call 44; refine (error_run (w.heap.size + 1 + 1) 4 c' l' (.slice A9 n9 c9) (tick1 t0) (tick1 t1) (.slice A l.length c_) ask false call _ (by exact HKD.out)).mono ?_; rintro e w9 ⟨rfl, rfl⟩)
              all_goals
                go_wp2
                obtain ⟨W9, e9, b9, g9⟩ := setR HRD.out 4 c' l' (.slice A9 n9 c9) (tick1 t0) (tick1 t1)
                rw [e9]
                have z0 : W9.drew.cell? ⟨w.heap.size + 1, 0, none⟩ = some (.int .i64 4) := (blk_cell b9 0).trans rfl
                have z1 : W9.drew.cell? ⟨w.heap.size + 1, 1, none⟩ = some (.int .i64 c') := (blk_cell b9 1).trans rfl
                have z2 : W9.drew.cell? ⟨w.heap.size + 1, 2, none⟩ = some (.int .i64 l') := (blk_cell b9 2).trans rfl
                have z3 : W9.drew.cell? ⟨w.heap.size + 1, 3, none⟩ = some (.slice A9 n9 c9) := (blk_cell b9 3).trans rfl
                have z4 : W9.drew.cell? ⟨w.heap.size + 1, 4, none⟩ = some (.int .i64 (tick1 t0)) := (blk_cell b9 4).trans rfl
                have z5 : W9.drew.cell? ⟨w.heap.size + 1, 5, none⟩ = some (.int .i64 (tick1 t1)) := (blk_cell b9 5).trans rfl
                refine bodyPost_ret (v := .tuple #[.agg #[.int .i64 4, .int .i64 c', .int .i64 l', (.slice A9 n9 c9), .int .i64 (tick1 t0), .int .i64 (tick1 t1)], .int .i64 (errS ask 4)]) (by simp [results, Try.results20, go_sem, z0, z1, z2, z3, z4, z5]) rfl ?_
                show StepPost _ _ _ _ _ _
                rw [HCALL.out, HMS.out, show tS 4 false t0 t1 = (tick1 t0, tick1 t1) from if_neg (fun h => Bool.false_ne_true h.2)]
                exact ⟨_, rfl, HGD.out.grown (HGD.out.typed HRD.out (by decide)) (g9.trans (grown_drew W9 _)), (below_grown HBD.out g9 (by omega)).drew⟩
          · have hd4 : (m' == 4) = false := beq_eq_false_iff_ne.mpr hm4
            have HM4 := Aside0.mk hm4
            clear hm4
            have HKD := hKd
            have HGD := hGd
            have HRD := hRd
            have HBD := hBd
            clear hKd hGd hRd hBd
            have k0 := HKD.out.c0
            have k1 := HKD.out.c1
            have k2 := HKD.out.c2
            have k3 := HKD.out.c3
            have k4 := HKD.out.c4
            have k5 := HKD.out.c5
            have r0 : wc.cell? ⟨w.heap.size + 1, 0, none⟩ = some (.int .i64 0) := (blk_cell HRD.out 0).trans rfl
            have r1 : wc.cell? ⟨w.heap.size + 1, 1, none⟩ = some (.int .i64 0) := (blk_cell HRD.out 1).trans rfl
            have r2 : wc.cell? ⟨w.heap.size + 1, 2, none⟩ = some (.int .i64 0) := (blk_cell HRD.out 2).trans rfl
            have r3 : wc.cell? ⟨w.heap.size + 1, 3, none⟩ = some (.slice none 0 0) := (blk_cell HRD.out 3).trans rfl
            have r4 : wc.cell? ⟨w.heap.size + 1, 4, none⟩ = some (.int .i64 0) := (blk_cell HRD.out 4).trans rfl
            have r5 : wc.cell? ⟨w.heap.size + 1, 5, none⟩ = some (.int .i64 0) := (blk_cell HRD.out 5).trans rfl
            have f0 := blk_frozen HRD.out 0
            have f1 := blk_frozen HRD.out 1
            have f2 := blk_frozen HRD.out 2
            have f3 := blk_frozen HRD.out 3
            have f4 := blk_frozen HRD.out 4
            have f5 := blk_frozen HRD.out 5
            go_wp2
            go_region_with (go_at_call 44; refine (error_run (w.heap.size + 1 + 1) m' c' l' (.slice A9 n9 c9) (tick1 t0) (tick1 t1) (.slice A l.length c_) ask rest call _ (by exact HKD.out)).mono ?_; rintro e w9 ⟨rfl, rfl⟩)
            all_goals
              go_wp2
              obtain ⟨W9, e9, b9, g9⟩ := setR HRD.out m' c' l' (.slice A9 n9 c9) (tick1 t0) (tick1 t1)
              rw [e9]
              have z0 : W9.drew.cell? ⟨w.heap.size + 1, 0, none⟩ = some (.int .i64 m') := (blk_cell b9 0).trans rfl
              have z1 : W9.drew.cell? ⟨w.heap.size + 1, 1, none⟩ = some (.int .i64 c') := (blk_cell b9 1).trans rfl
              have z2 : W9.drew.cell? ⟨w.heap.size + 1, 2, none⟩ = some (.int .i64 l') := (blk_cell b9 2).trans rfl
              have z3 : W9.drew.cell? ⟨w.heap.size + 1, 3, none⟩ = some (.slice A9 n9 c9) := (blk_cell b9 3).trans rfl
              have z4 : W9.drew.cell? ⟨w.heap.size + 1, 4, none⟩ = some (.int .i64 (tick1 t0)) := (blk_cell b9 4).trans rfl
              have z5 : W9.drew.cell? ⟨w.heap.size + 1, 5, none⟩ = some (.int .i64 (tick1 t1)) := (blk_cell b9 5).trans rfl
              refine bodyPost_ret (v := .tuple #[.agg #[.int .i64 m', .int .i64 c', .int .i64 l', (.slice A9 n9 c9), .int .i64 (tick1 t0), .int .i64 (tick1 t1)], .int .i64 (errS ask m')]) (by simp [results, Try.results20, go_sem, z0, z1, z2, z3, z4, z5]) rfl ?_
              show StepPost _ _ _ _ _ _
              rw [HCALL.out, HMS.out, show tS m' rest t0 t1 = (tick1 t0, tick1 t1) from if_neg (fun h => HM4.out h.1)]
              exact ⟨_, rfl, HGD.out.grown (HGD.out.typed HRD.out (by decide)) (g9.trans (grown_drew W9 _)), (below_grown HBD.out g9 (by omega)).drew⟩
end
end Go.Proofs.Ythmddbffhbfmeaa.Sup
