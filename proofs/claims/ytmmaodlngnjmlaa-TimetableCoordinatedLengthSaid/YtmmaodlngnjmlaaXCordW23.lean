/- The law of coordinated lengths: its walk. -/
import Derived.Test.YtmmaodlngnjmlaaP4
import Derived.Test.YtmmaodlngnjmlaaP5
import Derived.Test.YtmmaodlngnjmlaaXCM23
import Derived.Test.YtmmaodlngnjmlaaXCordG23
namespace Go.Proofs.Ytmmaodlngnjmlaa.Reach
set_option linter.unusedVariables false
set_option linter.unusedSimpArgs false
open Go Go.RowKit Go.Proofs.Ytmmaodlngnjmlaa Go.Proofs.YtmmaodlngnjmlaaW.PrintWords Go.Proofs.YtmmaodlngnjmlaaW.PrintMore Go.Proofs.YtmmaodlngnjmlaaW.PrintLast Go.Proofs.Ytmmaodlngnjmlaa.P
attribute [local go_sem high] eqA69
attribute [local go_sem] max2_int min2_int max_two min_two
def lmF (a b c d e f : Int) : Nat → Int
 | 0 => a
 | 1 => b
 | 2 => c
 | 3 => d
 | 4 => e
 | _ => f
theorem heldU {W : World} {g : Nat} {t : TypeId} {a b c d e f : Int} (h : W.heap[g]? = some (.cells #[.int .u8 a, .int .u8 b, .int .u8 c, .int .u8 d, .int .u8 e, .int .u8 f] t (0, 0))) : W.cell? ⟨g, 0, none⟩ = some (.int .u8 a) ∧ W.cell? ⟨g, 1, none⟩ = some (.int .u8 b) ∧ W.cell? ⟨g, 2, none⟩ = some (.int .u8 c) ∧ W.cell? ⟨g, 3, none⟩ = some (.int .u8 d) ∧ W.cell? ⟨g, 4, none⟩ = some (.int .u8 e) ∧ W.cell? ⟨g, 5, none⟩ = some (.int .u8 f) :=
 ⟨(blk_cell h 0).trans rfl, (blk_cell h 1).trans rfl, (blk_cell h 2).trans rfl, (blk_cell h 3).trans rfl, (blk_cell h 4).trans rfl, (blk_cell h 5).trans rfl⟩
theorem heldL {W : World} {g : Nat} {t : TypeId} {a b c d e f : Int} (h : W.heap[g]? = some (.cells (six (lmF a b c d e f)) t (0, 0))) : W.cell? ⟨g, 0, none⟩ = some (.int .i64 a) ∧ W.cell? ⟨g, 1, none⟩ = some (.int .i64 b) ∧ W.cell? ⟨g, 2, none⟩ = some (.int .i64 c) ∧ W.cell? ⟨g, 3, none⟩ = some (.int .i64 d) ∧ W.cell? ⟨g, 4, none⟩ = some (.int .i64 e) ∧ W.cell? ⟨g, 5, none⟩ = some (.int .i64 f) := held6 h
theorem rd_mem (l : List Av) {i : Nat} (h : i < l.length) : rd_T91 l i ∈ l := by
 unfold rd_T91
 rw [Int.toNat_natCast, List.getD_eq_getElem?_getD, List.getElem?_eq_getElem h]
 exact List.getElem_mem h
theorem hv_take {l : List S63} (h : ∀ i, i < l.length → ∃ a k : Nat, a < 2 ∧ k < 3 ∧ (rd_T63 l i).f0 = a ∧ (rd_T63 l i).f1 = k) (n : Nat) : ∀ i, i < (l.take n).length → ∃ a k : Nat, a < 2 ∧ k < 3 ∧ (rd_T63 (l.take n) i).f0 = a ∧ (rd_T63 (l.take n) i).f1 = k := fun i hi => by
 have h1 : i < l.length := by rw [List.length_take] at hi; omega
 have e : rd_T63 (l.take n) (i : Int) = rd_T63 l (i : Int) := by
  unfold rd_T63
  rw [Int.toNat_natCast, List.getD_eq_getElem?_getD, List.getD_eq_getElem?_getD, List.getElem?_eq_getElem hi, List.getElem?_eq_getElem h1, List.getElem_take]
 rw [e]
 exact h i h1
theorem tk12_ {P : Program} {ops : Array Oper} {Q : Exit → Act → World → Prop} {md : Region.Mode} {S : World → Prop} {ds : List Nat} {i : Nat} {N : Option Tmp} {oi : Oper} {v : Value} {fuel : Nat} {l : Array Bool} {a a' : Act} {w : World} (l' : Array Bool) (hS : S w)
  (h : wpAnyLast P md ops Q S ds fuel l' a' w) (hi : ops[i]? = some oi := by exact rfl) (hN : oi.dst = N := by exact rfl) (hc : takeB md ops ds l l' i = true := by kernel_rfl) (hQ : ∀ c a w, Q (.panic c) (a.put oi.dst v) w → Q (.panic c) a w := by exact fun _ _ _ h => h)
  (hy : YieldsIf P ops S oi v a := by refine Or.inl ⟨by rfl, ?_⟩; rintro w' ⟨⟨s0, s1, s2, s3, s4, s5⟩, ⟨t0, t1, t2, t3, t4, t5⟩⟩; go_simp; with_reducible rfl) (ha : a.put N v = a' := by simp only [Act.put, List.setIfInBounds_toArray, List.set_cons_zero, List.set_cons_succ, i64_w, i32_w]; rfl) :
  wpAnyLast P md ops Q S ds (fuel + 1) l a w := take_ l' hi hN hc hQ hy hS ha h
theorem max_i (a b : Nat) : (if (a : Int) < (b : Int) then (b : Int) else (a : Int)) = ((max a b : Nat) : Int) := by
 by_cases c : a < b
 ·
  rw [if_pos (by omega), Nat.max_eq_right (by omega)]
 ·
  rw [if_neg (by omega), Nat.max_eq_left (by omega)]
/-- How long an advance takes. -/
def tookN (one two : Nat) (x : Av) : Nat := max (if x.f0 = true then one else 0) (if x.f1 = true then two else 0)
/-- Where the joints are when n advances are done, in counts. -/
def nowC (q : Nat → Int) (l1 l2 : List S63) (l3 : List Av) (n : Nat) (i : Nat) : Int := wrap64 (12 * mv (mv q (l1.take (cA (l3.take n)))) (l2.take (cB (l3.take n))) i)
set_option maxRecDepth 100000 in
set_option maxHeartbeats 4000000 in
theorem cl_run (x0 x1 x2 x3 x4 x5 V0 A0 J0 V1 A1_ J1 : Int) (A1 : Option Addr) (c1 : Nat) (l1 : List S63) (A2 : Option Addr) (c2 : Nat) (l2 : List S63) (A3 : Option Addr) (c3 : Nat) (l3 : List S91) (q : Nat → Int) (w : World)
  (hr1 : Kd.C k63 w A1 l1.length l1) (hc1 : l1.length ≤ c1) (hr2 : Kd.C k63 w A2 l2.length l2) (hc2 : l2.length ≤ c2) (hr3 : Kd.C k91 w A3 l3.length l3) (hc3 : l3.length ≤ c3)
  (hhead : ∀ w : World, Calls Try.prog 31 #[] w fun e w' => e = .returned (.bool true) ∧ Below w.heap.size w w')
  (hlim0 : ambidexterlaw23_lim.f x0 x1 x2 = some (V0, A0, J0)) (hlim1 : ambidexterlaw23_lim.f x3 x4 x5 = some (V1, A1_, J1)) (t : List S67) (er : Int)
  (hco : ∀ W : World, Kd.C k63 W A1 l1.length l1 → Kd.C k63 W A2 l2.length l2 → Kd.C k91 W A3 l3.length l3 → Calls Try.prog 33 #[.agg #[.int .i64 V0, .int .i64 A0, .int .i64 J0, .int .i64 V1, .int .i64 A1_, .int .i64 J1], .slice A1 l1.length c1, .slice A2 l2.length c2, .slice A3 l3.length c3] W fun e w' => (∃ v : Value, e = .returned (.tuple #[v, .int .i64 er]) ∧ Kd.S k67 67 w' W.heap.size (fun _ => True) v t) ∧ Below W.heap.size W w')
  (j0 j1 : Bool) (hj0 : ambidexterref23_Joints.f (q 0) (q 1) (q 2) = some j0) (hj1 : ambidexterref23_Joints.f (q 3) (q 4) (q 5) = some j1)
  (hM : ¬ 60 < l1.length → ¬ 60 < l2.length → ¬ 60 < l3.length → er = 0 → j0 = true → j1 = true → ∃ (K one two : Nat) (Tn : Nat → Nat), (mintime_Duration.f K V0 A0 J0 12 = some ((one : Int), true)) ∧ (mintime_Duration.f K V1 A1_ J1 12 = some ((two : Int), true)) ∧ (one ≤ 100000 ∧ two ≤ 100000) ∧ (ambidexterlaw23_small.f K t = some true) ∧ (∀ i, i < l1.length → ∃ a k : Nat, a < 2 ∧ k < 3 ∧ (rd_T63 l1 i).f0 = a ∧ (rd_T63 l1 i).f1 = k) ∧ (∀ i, i < l2.length → ∃ a k : Nat, a < 2 ∧ k < 3 ∧ (rd_T63 l2 i).f0 = a ∧ (rd_T63 l2 i).f1 = k) ∧ (∀ x ∈ l3, (x.f0 || x.f1) = true) ∧ (cA l3 = l1.length) ∧ (cB l3 = l2.length) ∧ (t.length = l1.length + l2.length) ∧ (Tn 0 = 0) ∧ (∀ n : Nat, n < l3.length → Tn (n + 1) = Tn n + tookN one two (rd_T91 l3 n)) ∧ (∀ n, n ≤ l3.length → Tn n ≤ 100000) ∧ (timetable_Duration.f K t = some ((Tn l3.length : Nat) : Int)) ∧ (∀ n : Nat, n ≤ l3.length → timetable_PositionsAt.f (q 0) (q 1) (q 2) (q 3) (q 4) (q 5) t (Tn n : Int) = some (nowC q l1 l2 l3 n 0, nowC q l1 l2 l3 n 1, nowC q l1 l2 l3 n 2, nowC q l1 l2 l3 n 3, nowC q l1 l2 l3 n 4, nowC q l1 l2 l3 n 5))) :
  Calls Try.prog 10 #[.agg #[.int .u8 x0, .int .u8 x1, .int .u8 x2, .int .u8 x3, .int .u8 x4, .int .u8 x5], .slice A1 l1.length c1, .slice A2 l2.length c2, .slice A3 l3.length c3, .agg (six q)] w fun e w' => e = .returned (.bool true) ∧ Below w.heap.size w w' := by
 have HHEAD := Aside0.mk hhead
 have HL0 := Aside0.mk hlim0
 have HL1 := Aside0.mk hlim1
 have HR1 := Aside0.mk hr1
 have HR2 := Aside0.mk hr2
 have HR3 := Aside0.mk hr3
 have HCO := Aside0.mk hco
 have HJ0 := Aside0.mk hj0
 have HJ1 := Aside0.mk hj1
 have HM := Aside0.mk hM
 have HC1 := Aside0.mk hc1
 have HC2 := Aside0.mk hc2
 clear hhead hlim0 hlim1 hr1 hr2 hr3 hco hj0 hj1 hM hc1 hc2
 have B0 := Aside0.mk (blk_al (heap_alloc_new w (.cells #[.int .u8 x0, .int .u8 x1, .int .u8 x2, .int .u8 x3, .int .u8 x4, .int .u8 x5] 89 (0, 0))) (.cells (six q) 59 (0, 0)))
 have BQ0 := Aside0.mk (heap_alloc_new (w.alloc (.cells #[.int .u8 x0, .int .u8 x1, .int .u8 x2, .int .u8 x3, .int .u8 x4, .int .u8 x5] 89 (0, 0))) (.cells (six q) 59 (0, 0)))
 rw [World.size_alloc] at BQ0
 have HB0 := Aside0.mk (((Below.refl w.heap.size w).alloc (Nat.le_refl _) (.cells #[.int .u8 x0, .int .u8 x1, .int .u8 x2, .int .u8 x3, .int .u8 x4, .int .u8 x5] 89 (0, 0))).alloc (by rw [World.size_alloc]; omega) (.cells (six q) 59 (0, 0)))
 go_enter Try.func10, Try.ntmps10
 go_upto_region 2 with (go_at_call 31; refine (HHEAD.out _).mono ?_; rintro e wa ⟨rfl, hb⟩; have HBa := Aside0.mk (below_tr HB0.out hb); have Ba := Aside0.mk (blk_in B0.out hb); have BQa := Aside0.mk (blk_in BQ0.out hb); clear hb)
 clear B0 BQ0 HB0
 go_cut [12] (fun v12 wc => ∃ gz : Nat, v12 = .pointer (some ⟨gz, 0, none⟩) ∧ Aside0 (w.heap.size + 1 < gz) ∧ Aside0 (wc.heap[gz]? = some (.cells (six (lmF V0 A0 J0 V1 A1_ J1)) 72 (0, 0))) ∧ Aside0 (wc.heap[w.heap.size + 1]? = some (.cells (six q) 59 (0, 0))) ∧ Aside0 (Below w.heap.size w wc))
 case first =>
  have BU := Aside0.mk (blk_drew Ba.out)
  have BQ := Aside0.mk (blk_drew BQa.out)
  have HB := Aside0.mk (below_drew1 HBa.out)
  refine start_ (n := 17) (S := fun w' => w'.cell? ⟨w.heap.size, 0, none⟩ = some (.int .u8 x0) ∧ w'.cell? ⟨w.heap.size, 1, none⟩ = some (.int .u8 x1) ∧ w'.cell? ⟨w.heap.size, 2, none⟩ = some (.int .u8 x2) ∧ w'.cell? ⟨w.heap.size, 3, none⟩ = some (.int .u8 x3) ∧ w'.cell? ⟨w.heap.size, 4, none⟩ = some (.int .u8 x4) ∧ w'.cell? ⟨w.heap.size, 5, none⟩ = some (.int .u8 x5)) (ds := [16]) #[O,O,O,O,O,O,O,O,O,O,O,O,O,O,O,O,O] (by kernel_rfl) rfl rfl (heldU BU.out) (fun hHeld => ?_)
  generalize wa.drew = wx at hHeld BU BQ HB ⊢
  refine pk_ (i := 0) (N := some 26) #[I,O,O,O,O,O,O,O,O,O,O,O,O,O,O,O,O] ?_
  refine pk_ (i := 2) (N := some 28) #[I,O,I,O,O,O,O,O,O,O,O,O,O,O,O,O,O] ?_
  refine pk_ (i := 4) (N := some 30) #[I,O,I,O,I,O,O,O,O,O,O,O,O,O,O,O,O] ?_
  refine pk_ (i := 7) (N := some 33) #[I,O,I,O,I,O,O,I,O,O,O,O,O,O,O,O,O] ?_
  refine pk_ (i := 9) (N := some 35) #[I,O,I,O,I,O,O,I,O,I,O,O,O,O,O,O,O] ?_
  refine pk_ (i := 11) (N := some 37) #[I,O,I,O,I,O,O,I,O,I,O,I,O,O,O,O,O] ?_
  refine tk_ (i := 1) (N := some 27) #[I,I,I,O,I,O,O,I,O,I,O,I,O,O,O,O,O] hHeld ?_
  refine tk_ (i := 3) (N := some 29) #[I,I,I,I,I,O,O,I,O,I,O,I,O,O,O,O,O] hHeld ?_
  refine tk_ (i := 5) (N := some 31) #[I,I,I,I,I,I,O,I,O,I,O,I,O,O,O,O,O] hHeld ?_
  refine tk_ (i := 8) (N := some 34) #[I,I,I,I,I,I,O,I,I,I,O,I,O,O,O,O,O] hHeld ?_
  refine tk_ (i := 10) (N := some 36) #[I,I,I,I,I,I,O,I,I,I,I,I,O,O,O,O,O] hHeld ?_
  refine tk_ (i := 12) (N := some 38) #[I,I,I,I,I,I,O,I,I,I,I,I,I,O,O,O,O] hHeld ?_
  refine two_ (i := 6) (j := 15) (Ni := some 32) (Nj := some 12) #[I,I,I,I,I,I,I,I,I,I,I,I,I,O,O,O,O] #[I,I,I,I,I,I,O,I,I,I,I,I,I,O,O,I,O] rfl rfl rfl rfl (by kernel_rfl) (by decide) (by decide) (fun K_ hK => ?_) (fun K_ hK => ?_)
  ·
   refine goes_ Try.func42 (by kernel_rfl) rfl #[.int .u8 x0, .int .u8 x1, .int .u8 x2] (by rfl) rfl rfl (by (try simp only [List.map_toArray, List.map_cons, List.map_nil]); first | done | rfl) ?_
   with_reducible refine (ambidexterlaw23_lim.calls x0 x1 x2 V0 A0 J0 _ HL0.out).mono ?_
   rintro e wz ⟨rfl, hb⟩
   refine ⟨_, rfl, ?_⟩
   replace BU := Aside0.mk (blk_in BU.out hb)
   replace BQ := Aside0.mk (blk_in BQ.out hb)
   replace HB := Aside0.mk (below_tr HB.out hb)
   clear hb
   refine hK.out _ _ (heldU BU.out) (fun hHeld => ?_)
   clear hK K_
   refine norm_ (a' := ?_) ?_ ?_
   rotate_left
   ·
    (show Act.put _ (some 32) _ = _; simp only [Act.put, List.setIfInBounds_toArray, List.set_cons_zero, List.set_cons_succ, i64_w, i32_w]; rfl)
   refine two_ (i := 13) (j := 15) (Ni := some 39) (Nj := some 12) #[I,I,I,I,I,I,I,I,I,I,I,I,I,I,O,O,O] #[I,I,I,I,I,I,I,I,I,I,I,I,I,O,O,I,O] rfl rfl rfl rfl (by kernel_rfl) (by decide) (by decide) (fun K_ hK => ?_) (fun K_ hK => ?_)
   ·
    refine goes_ Try.func42 (by kernel_rfl) rfl #[.int .u8 x3, .int .u8 x4, .int .u8 x5] (by rfl) rfl rfl (by (try simp only [List.map_toArray, List.map_cons, List.map_nil]); first | done | rfl) ?_
    with_reducible refine (ambidexterlaw23_lim.calls x3 x4 x5 V1 A1_ J1 _ HL1.out).mono ?_
    rintro e wy ⟨rfl, hb⟩
    refine ⟨_, rfl, ?_⟩
    replace BU := Aside0.mk (blk_in BU.out hb)
    replace BQ := Aside0.mk (blk_in BQ.out hb)
    replace HB := Aside0.mk (below_tr HB.out hb)
    clear hb
    refine hK.out _ _ (heldU BU.out) (fun hHeld => ?_)
    clear hK K_
    refine norm_ (a' := ?_) ?_ ?_
    rotate_left
    ·
     (show Act.put _ (some 39) _ = _; simp only [Act.put, List.setIfInBounds_toArray, List.set_cons_zero, List.set_cons_succ, i64_w, i32_w]; rfl)
    refine pk_ (i := 14) (N := some 40) #[I,I,I,I,I,I,I,I,I,I,I,I,I,I,I,O,O] ?_
    refine one_ (i := 15) (N := some 12) #[I,I,I,I,I,I,I,I,I,I,I,I,I,I,I,I,O] rfl rfl (by kernel_rfl) (by decide) (fun K_ hK => ?_)
    refine value_ (w1 := ?_) (v := ?_) (by rfl) rfl ?_ ?_
    rotate_left 2
    ·
     go_simp
     constructor
     ·
      rfl
     ·
      rfl
    have BZ := Aside0.mk (heap_alloc_new wy (.cells (six fun _ => 0) 72 (0, 0)))
    have GZ := Aside0.mk (Nat.lt_of_lt_of_le (Array.getElem?_eq_some_iff.1 BQ.out).1 (Nat.le_refl _))
    have BQp := BQ
    have HBp := HB
    replace BU := Aside0.mk (blk_al BU.out (.cells (six fun _ => 0) 72 (0, 0)))
    replace BQ := Aside0.mk (blk_al BQ.out (.cells (six fun _ => 0) 72 (0, 0)))
    replace HB := Aside0.mk (HB.out.alloc HB.out.size (.cells (six fun _ => 0) 72 (0, 0)))
    refine hK.out _ _ (heldU BU.out) (fun hHeld => ?_)
    clear hK K_
    refine norm_ (a' := ?_) ?_ ?_
    rotate_left
    ·
     (show Act.put _ (some 12) _ = _; simp only [Act.put, List.setIfInBounds_toArray, List.set_cons_zero, List.set_cons_succ, i64_w, i32_w]; rfl)
    obtain ⟨n0, n1, n2, n3, n4, n5⟩ := held6 BZ.out
    have t0 := blk_frozen BZ.out 0
    have t1 := blk_frozen BZ.out 1
    have t2 := blk_frozen BZ.out 2
    have t3 := blk_frozen BZ.out 3
    have t4 := blk_frozen BZ.out 4
    have t5 := blk_frozen BZ.out 5
    refine last_ (i := 16) (N := none) #[I,I,I,I,I,I,I,I,I,I,I,I,I,I,I,I,I] rfl rfl (by kernel_rfl) (by decide) (fun K_ hK => ?_)
    refine skip_ (w1 := ?_) (by rfl) rfl ?_ ?_
    rotate_left
    ·
     go_simp
     rfl
    refine hK.out _ _ ?_
    clear hK K_
    refine done_ (by kernel_rfl) ?_
    go_wp2
    go_meet
    case rel => exact ⟨_, rfl, GZ, ⟨heap_alloc_new wy _⟩, ⟨blk_al BQp.out _⟩, ⟨HBp.out.alloc HBp.out.size _⟩⟩
   ·
    refine value_ (w1 := ?_) (v := ?_) (by rfl) rfl ?_ ?_
    rotate_left 2
    ·
     go_simp
     constructor
     ·
      rfl
     ·
      rfl
    have BZ := Aside0.mk (heap_alloc_new wz (.cells (six fun _ => 0) 72 (0, 0)))
    have GZ := Aside0.mk (Nat.lt_of_lt_of_le (Array.getElem?_eq_some_iff.1 BQ.out).1 (Nat.le_refl _))
    have BQp := BQ
    have HBp := HB
    replace BU := Aside0.mk (blk_al BU.out (.cells (six fun _ => 0) 72 (0, 0)))
    replace BQ := Aside0.mk (blk_al BQ.out (.cells (six fun _ => 0) 72 (0, 0)))
    replace HB := Aside0.mk (HB.out.alloc HB.out.size (.cells (six fun _ => 0) 72 (0, 0)))
    refine hK.out _ _ (heldU BU.out) (fun hHeld => ?_)
    clear hK K_
    refine norm_ (a' := ?_) ?_ ?_
    rotate_left
    ·
     (show Act.put _ (some 12) _ = _; simp only [Act.put, List.setIfInBounds_toArray, List.set_cons_zero, List.set_cons_succ, i64_w, i32_w]; rfl)
    refine one_ (i := 13) (N := some 39) #[I,I,I,I,I,I,I,I,I,I,I,I,I,I,O,I,O] rfl rfl (by kernel_rfl) (by decide) (fun K_ hK => ?_)
    refine goes_ Try.func42 (by kernel_rfl) rfl #[.int .u8 x3, .int .u8 x4, .int .u8 x5] (by rfl) rfl rfl (by (try simp only [List.map_toArray, List.map_cons, List.map_nil]); first | done | rfl) ?_
    with_reducible refine (ambidexterlaw23_lim.calls x3 x4 x5 V1 A1_ J1 _ HL1.out).mono ?_
    rintro e wy ⟨rfl, hb⟩
    refine ⟨_, rfl, ?_⟩
    replace BU := Aside0.mk (blk_in BU.out hb)
    replace BQ := Aside0.mk (blk_in BQ.out hb)
    replace HB := Aside0.mk (below_tr HB.out hb)
    replace BZ := Aside0.mk (blk_in BZ.out hb)
    clear hb
    refine hK.out _ _ (heldU BU.out) (fun hHeld => ?_)
    clear hK K_
    refine norm_ (a' := ?_) ?_ ?_
    rotate_left
    ·
     (show Act.put _ (some 39) _ = _; simp only [Act.put, List.setIfInBounds_toArray, List.set_cons_zero, List.set_cons_succ, i64_w, i32_w]; rfl)
    refine pk_ (i := 14) (N := some 40) #[I,I,I,I,I,I,I,I,I,I,I,I,I,I,I,I,O] ?_
    obtain ⟨n0, n1, n2, n3, n4, n5⟩ := held6 BZ.out
    have t0 := blk_frozen BZ.out 0
    have t1 := blk_frozen BZ.out 1
    have t2 := blk_frozen BZ.out 2
    have t3 := blk_frozen BZ.out 3
    have t4 := blk_frozen BZ.out 4
    have t5 := blk_frozen BZ.out 5
    refine last_ (i := 16) (N := none) #[I,I,I,I,I,I,I,I,I,I,I,I,I,I,I,I,I] rfl rfl (by kernel_rfl) (by decide) (fun K_ hK => ?_)
    refine skip_ (w1 := ?_) (by rfl) rfl ?_ ?_
    rotate_left
    ·
     go_simp
     rfl
    refine hK.out _ _ ?_
    clear hK K_
    refine done_ (by kernel_rfl) ?_
    go_wp2
    go_meet
    case rel => exact ⟨_, rfl, GZ, ⟨put6 BZ.out (lmF V0 A0 J0 V1 A1_ J1)⟩, ⟨far6 BQ.out (by have := GZ.out; omega) (lmF V0 A0 J0 V1 A1_ J1)⟩, ⟨below6 HB.out (by have := GZ.out; omega) (lmF V0 A0 J0 V1 A1_ J1)⟩⟩
  ·
   refine value_ (w1 := ?_) (v := ?_) (by rfl) rfl ?_ ?_
   rotate_left 2
   ·
    go_simp
    constructor
    ·
     rfl
    ·
     rfl
   have BZ := Aside0.mk (heap_alloc_new wx (.cells (six fun _ => 0) 72 (0, 0)))
   have GZ := Aside0.mk (Nat.lt_of_lt_of_le (Array.getElem?_eq_some_iff.1 BQ.out).1 (Nat.le_refl _))
   have BQp := BQ
   have HBp := HB
   replace BU := Aside0.mk (blk_al BU.out (.cells (six fun _ => 0) 72 (0, 0)))
   replace BQ := Aside0.mk (blk_al BQ.out (.cells (six fun _ => 0) 72 (0, 0)))
   replace HB := Aside0.mk (HB.out.alloc HB.out.size (.cells (six fun _ => 0) 72 (0, 0)))
   refine hK.out _ _ (heldU BU.out) (fun hHeld => ?_)
   clear hK K_
   refine norm_ (a' := ?_) ?_ ?_
   rotate_left
   ·
    (show Act.put _ (some 12) _ = _; simp only [Act.put, List.setIfInBounds_toArray, List.set_cons_zero, List.set_cons_succ, i64_w, i32_w]; rfl)
   refine one_ (i := 6) (N := some 32) #[I,I,I,I,I,I,I,I,I,I,I,I,I,O,O,I,O] rfl rfl (by kernel_rfl) (by decide) (fun K_ hK => ?_)
   refine goes_ Try.func42 (by kernel_rfl) rfl #[.int .u8 x0, .int .u8 x1, .int .u8 x2] (by rfl) rfl rfl (by (try simp only [List.map_toArray, List.map_cons, List.map_nil]); first | done | rfl) ?_
   with_reducible refine (ambidexterlaw23_lim.calls x0 x1 x2 V0 A0 J0 _ HL0.out).mono ?_
   rintro e wz ⟨rfl, hb⟩
   refine ⟨_, rfl, ?_⟩
   replace BU := Aside0.mk (blk_in BU.out hb)
   replace BQ := Aside0.mk (blk_in BQ.out hb)
   replace HB := Aside0.mk (below_tr HB.out hb)
   replace BZ := Aside0.mk (blk_in BZ.out hb)
   clear hb
   refine hK.out _ _ (heldU BU.out) (fun hHeld => ?_)
   clear hK K_
   refine norm_ (a' := ?_) ?_ ?_
   rotate_left
   ·
    (show Act.put _ (some 32) _ = _; simp only [Act.put, List.setIfInBounds_toArray, List.set_cons_zero, List.set_cons_succ, i64_w, i32_w]; rfl)
   refine one_ (i := 13) (N := some 39) #[I,I,I,I,I,I,I,I,I,I,I,I,I,I,O,I,O] rfl rfl (by kernel_rfl) (by decide) (fun K_ hK => ?_)
   refine goes_ Try.func42 (by kernel_rfl) rfl #[.int .u8 x3, .int .u8 x4, .int .u8 x5] (by rfl) rfl rfl (by (try simp only [List.map_toArray, List.map_cons, List.map_nil]); first | done | rfl) ?_
   with_reducible refine (ambidexterlaw23_lim.calls x3 x4 x5 V1 A1_ J1 _ HL1.out).mono ?_
   rintro e wy ⟨rfl, hb⟩
   refine ⟨_, rfl, ?_⟩
   replace BU := Aside0.mk (blk_in BU.out hb)
   replace BQ := Aside0.mk (blk_in BQ.out hb)
   replace HB := Aside0.mk (below_tr HB.out hb)
   replace BZ := Aside0.mk (blk_in BZ.out hb)
   clear hb
   refine hK.out _ _ (heldU BU.out) (fun hHeld => ?_)
   clear hK K_
   refine norm_ (a' := ?_) ?_ ?_
   rotate_left
   ·
    (show Act.put _ (some 39) _ = _; simp only [Act.put, List.setIfInBounds_toArray, List.set_cons_zero, List.set_cons_succ, i64_w, i32_w]; rfl)
   refine pk_ (i := 14) (N := some 40) #[I,I,I,I,I,I,I,I,I,I,I,I,I,I,I,I,O] ?_
   obtain ⟨n0, n1, n2, n3, n4, n5⟩ := held6 BZ.out
   have t0 := blk_frozen BZ.out 0
   have t1 := blk_frozen BZ.out 1
   have t2 := blk_frozen BZ.out 2
   have t3 := blk_frozen BZ.out 3
   have t4 := blk_frozen BZ.out 4
   have t5 := blk_frozen BZ.out 5
   refine last_ (i := 16) (N := none) #[I,I,I,I,I,I,I,I,I,I,I,I,I,I,I,I,I] rfl rfl (by kernel_rfl) (by decide) (fun K_ hK => ?_)
   refine skip_ (w1 := ?_) (by rfl) rfl ?_ ?_
   rotate_left
   ·
    go_simp
    rfl
   refine hK.out _ _ ?_
   clear hK K_
   refine done_ (by kernel_rfl) ?_
   go_wp2
   go_meet
   case rel => exact ⟨_, rfl, GZ, ⟨put6 BZ.out (lmF V0 A0 J0 V1 A1_ J1)⟩, ⟨far6 BQ.out (by have := GZ.out; omega) (lmF V0 A0 J0 V1 A1_ J1)⟩, ⟨below6 HB.out (by have := GZ.out; omega) (lmF V0 A0 J0 V1 A1_ J1)⟩⟩
 case rest =>
  obtain ⟨gz, rfl, GZ, BZ, BQ, HB⟩ := hcut
  clear HBa Ba BQa
  obtain ⟨z0, z1, z2, z3, z4, z5⟩ := heldL BZ.out
  go_upto_region 4 with (go_at_call 33; (with_reducible refine (HCO.out _ (Kd.C_below HR1.out HB.out) (Kd.C_below HR2.out HB.out) (Kd.C_below HR3.out HB.out)).mono ?_); rintro e wd ⟨⟨v0, rfl, hS⟩, hb⟩; clear z0 z1 z2 z3 z4 z5; have BZd := Aside0.mk (blk_in BZ.out hb); have BQd := Aside0.mk (blk_in BQ.out hb); have HBd := Aside0.mk (below_tr HB.out hb); obtain ⟨A7, c7, e7⟩ := Kd.S_slice hS; subst e7; have CT := Aside0.mk (Kd.S_reads' hS).2.2; have LT := Aside0.mk (Kd.S_reads' hS).2.1; clear hS hb)
  clear BZ BQ HB
  by_cases c3_ : 60 < l3.length
  ·
   have d3 : decide ((60 : Int) < (l3.length : Int)) = true := decide_eq_true (by omega)
   have d3n : decide (60 < l3.length) = true := decide_eq_true c3_
   go_wp2
   go_ret
   exact ⟨rfl, HBd.out⟩
  have d3 : decide ((60 : Int) < (l3.length : Int)) = false := decide_eq_false (by omega)
  have d3n : decide (60 < l3.length) = false := decide_eq_false c3_
  by_cases c1_ : 60 < l1.length
  ·
   have d1 : decide ((60 : Int) < (l1.length : Int)) = true := decide_eq_true (by omega)
   have d1n : decide (60 < l1.length) = true := decide_eq_true c1_
   go_wp2
   go_ret
   exact ⟨rfl, HBd.out⟩
  have d1 : decide ((60 : Int) < (l1.length : Int)) = false := decide_eq_false (by omega)
  have d1n : decide (60 < l1.length) = false := decide_eq_false c1_
  by_cases c2_ : 60 < l2.length
  ·
   have d2 : decide ((60 : Int) < (l2.length : Int)) = true := decide_eq_true (by omega)
   have d2n : decide (60 < l2.length) = true := decide_eq_true c2_
   go_wp2
   go_ret
   exact ⟨rfl, HBd.out⟩
  have d2 : decide ((60 : Int) < (l2.length : Int)) = false := decide_eq_false (by omega)
  have d2n : decide (60 < l2.length) = false := decide_eq_false c2_
  by_cases c4_ : er = 0
  ·
   subst c4_
   obtain ⟨q0, q1, q2, q3, q4, q5⟩ := held6 BQd.out
   cases j0 with
   | false =>
    go_wp2_with (go_at_call 39; (with_reducible refine (ambidexterref23_Joints.calls (q 0) (q 1) (q 2) false _ HJ0.out).mono ?_); rintro e_ we ⟨rfl, hb⟩; have HBe := Aside0.mk (below_tr HBd.out hb); clear hb)
    go_ret
    exact ⟨rfl, HBe.out⟩
   | true =>
    cases j1 with
    | false =>
     go_wp2_with (first
      | (go_at_call 39; (with_reducible refine (ambidexterref23_Joints.calls (q 0) (q 1) (q 2) true _ HJ0.out).mono ?_); rintro e_ we ⟨rfl, hb⟩; clear q0 q1 q2 q3 q4 q5; obtain ⟨q0, q1, q2, q3, q4, q5⟩ := held6 (blk_in BQd.out hb); have HBe := Aside0.mk (below_tr HBd.out hb); clear hb)
      | (go_at_call 39; (with_reducible refine (ambidexterref23_Joints.calls (q 3) (q 4) (q 5) false _ HJ1.out).mono ?_); rintro e_ wf ⟨rfl, hb⟩; have HBf := Aside0.mk (below_tr HBe.out hb); clear hb))
     go_ret
     exact ⟨rfl, HBf.out⟩
    | true =>
     have n1 := c1_
     have n2 := c2_
     have n3 := c3_
     obtain ⟨K, one, two, Tn, hd0, hd1, ho, hsmall, hv1, hv2, hall, hcA, hcB, htl, hT0, hTn, hTm, hdur, hpos⟩ := HM.out c1_ c2_ c3_ rfl rfl rfl
     have N1 := Aside0.mk (Nat.not_lt.1 n1)
     have N2 := Aside0.mk (Nat.not_lt.1 n2)
     have N3 := Aside0.mk (Nat.not_lt.1 n3)
     have HD0 := Aside0.mk hd0
     have HD1 := Aside0.mk hd1
     have HO := Aside0.mk ho
     have HSM := Aside0.mk hsmall
     have HV1 := Aside0.mk hv1
     have HV2 := Aside0.mk hv2
     have HALL := Aside0.mk hall
     have HCA := Aside0.mk hcA
     have HCB := Aside0.mk hcB
     have HTL := Aside0.mk htl
     have HT0 := Aside0.mk hT0
     have HTN := Aside0.mk hTn
     have HTM := Aside0.mk hTm
     have HDUR := Aside0.mk hdur
     have HPOS := Aside0.mk hpos
     clear n1 n2 n3 c1_ c2_ c3_ hd0 hd1 ho hsmall hv1 hv2 hall hcA hcB htl hT0 hTn hTm hdur hpos HM
     go_wp2_with (first
      | (go_at_call 39; (with_reducible refine (ambidexterref23_Joints.calls (q 0) (q 1) (q 2) true _ HJ0.out).mono ?_); rintro e we ⟨rfl, hb⟩; clear q0 q1 q2 q3 q4 q5; have BZe := Aside0.mk (blk_in BZd.out hb); have BQe := Aside0.mk (blk_in BQd.out hb); have HBe := Aside0.mk (below_tr HBd.out hb); have CTe := Aside0.mk (Kd.C_below CT.out hb); clear hb; obtain ⟨q0, q1, q2, q3, q4, q5⟩ := held6 BQe.out)
      | (go_at_call 39; (with_reducible refine (ambidexterref23_Joints.calls (q 3) (q 4) (q 5) true _ HJ1.out).mono ?_); rintro e wf ⟨rfl, hb⟩; clear q0 q1 q2 q3 q4 q5; have BZf := Aside0.mk (blk_in BZe.out hb); have BQf := Aside0.mk (blk_in BQe.out hb); have HBf := Aside0.mk (below_tr HBe.out hb); have CTf := Aside0.mk (Kd.C_below CTe.out hb); clear hb; obtain ⟨z0, z1, z2, z3, z4, z5⟩ := heldL BZf.out)
      | (go_at_call 17; (with_reducible refine (mintime_Duration.calls K V0 A0 J0 12 (one : Int) true _ HD0.out).mono ?_); rintro e wg ⟨rfl, hb⟩; clear z0 z1 z2 z3 z4 z5; have BZg := Aside0.mk (blk_in BZf.out hb); have BQg := Aside0.mk (blk_in BQf.out hb); have HBg := Aside0.mk (below_tr HBf.out hb); have CTg := Aside0.mk (Kd.C_below CTf.out hb); clear hb; obtain ⟨z0, z1, z2, z3, z4, z5⟩ := heldL BZg.out)
      | (go_at_call 17; (with_reducible refine (mintime_Duration.calls K V1 A1_ J1 12 (two : Int) true _ HD1.out).mono ?_); rintro e wh ⟨rfl, hb⟩; clear z0 z1 z2 z3 z4 z5; have BQh := Aside0.mk (blk_in BQg.out hb); have HBh := Aside0.mk (below_tr HBg.out hb); have CTh := Aside0.mk (Kd.C_below CTg.out hb); clear hb)
      | (go_at_call 43; (with_reducible refine (ambidexterlaw23_small.calls K A7 c7 t true _ CTh.out LT.out HSM.out).mono ?_); rintro e wz ⟨rfl, hb⟩; have BQ8 := Aside0.mk (blk_in BQh.out hb); have HB8 := Aside0.mk (below_tr HBh.out hb); have CT8 := Aside0.mk (Kd.C_below CTh.out hb); clear hb))
     clear d1 d1n d2 d2n d3 d3n BZd BQd HBd CT BZe BQe HBe CTe BZf BQf HBf CTf BZg BQg HBg CTg BQh HBh CTh
     have HLZ := Aside0.mk (show w.heap.size + 1 < wz.heap.size from (Array.getElem?_eq_some_iff.1 BQ8.out).1)
     have HZ0 := Aside0.mk (Below.refl wz.heap.size wz)
     obtain ⟨i0_, hi0_, _, hsz_, _⟩ := info_parts info63
     go_loopw [22, 19, 20, 21] (fun i a x y wr => ∃ n : Nat, i = .int .i64 n ∧ a = .int .i64 (Tn n : Nat) ∧ x = .int .i64 (cA (l3.take n) : Nat) ∧ y = .int .i64 (cB (l3.take n) : Nat) ∧ n ≤ l3.length ∧ Aside0 (Below wz.heap.size wz wr))
      (fun i _ _ _ _ => l3.length - (intOf i).toNat)
     case atStart => exact ⟨0, rfl, by rw [HT0.out]; rfl, rfl, rfl, by omega, HZ0⟩
     case round =>
      clear HZ0
      obtain ⟨n, rfl, rfl, rfl, rfl, hn, HZ⟩ := hrel
      by_cases h3 : n < l3.length
      ·
       have d3 : decide ((n : Int) < (l3.length : Int)) = true := decide_eq_true (by omega)
       have i3 : (n : Int) < (l3.length : Int) := by omega
       have H3 := Aside0.mk h3
       have hI1 : cA (l3.take n) ≤ l1.length := by rw [← HCA.out]; exact (List.take_sublist n l3).countP_le
       have hI2 : cB (l3.take n) ≤ l2.length := by rw [← HCB.out]; exact (List.take_sublist n l3).countP_le
       have hJ1 : cA (l3.take (n + 1)) ≤ l1.length := by rw [← HCA.out]; exact (List.take_sublist (n + 1) l3).countP_le
       have hJ2 : cB (l3.take (n + 1)) ≤ l2.length := by rw [← HCB.out]; exact (List.take_sublist (n + 1) l3).countP_le
       have eX := take_rd l3 h3
       have hTN := HTN.out n h3
       have hOK := HALL.out _ (rd_mem l3 h3)
       obtain ⟨ad, eA, z0, z1⟩ := at_T91 HR3.out (n : Int) (by omega) i3
       subst eA
       rw [Int.toNat_natCast] at z0 z1
       generalize rd_T91 l3 n = x at z0 z1 eX hTN hOK
       obtain ⟨fa, fb⟩ := x
       have eA1 : cA (l3.take (n + 1)) = cA (l3.take n) + (if fa = true then 1 else 0) := by rw [eX]; unfold cA; rw [List.countP_append]; cases fa <;> rfl
       have eB1 : cB (l3.take (n + 1)) = cB (l3.take n) + (if fb = true then 1 else 0) := by rw [eX]; unfold cB; rw [List.countP_append]; cases fb <;> rfl
       have hp := HPOS.out n hn
       unfold nowC at hp
       have Z0 := Aside0.mk z0
       have Z1 := Aside0.mk z1
       have EA1 := Aside0.mk eA1
       have EB1 := Aside0.mk eB1
       have HTN1 := Aside0.mk hTN
       have HOK := Aside0.mk hOK
       have HP := Aside0.mk hp
       have HJ1_ := Aside0.mk hJ1
       have HJ2_ := Aside0.mk hJ2
       clear z0 z1 eA1 eB1 hTN hOK hp hJ1 hJ2 eX h3
       obtain ⟨I_, eI⟩ : ∃ I_, cA (l3.take n) = I_ := ⟨_, rfl⟩
       obtain ⟨K_, eK⟩ : ∃ K_, cB (l3.take n) = K_ := ⟨_, rfl⟩
       rw [eI] at EA1 HP hI1 ⊢
       rw [eK] at EB1 HP hI2 ⊢
       have HI1 := Aside0.mk hI1
       have HI2 := Aside0.mk hI2
       have EI := Aside0.mk eI
       have EK := Aside0.mk eK
       have lA : (l1.take I_).length = I_ := by rw [List.length_take]; omega
       have lB : (l2.take K_).length = K_ := by rw [List.length_take]; omega
       have hqa : ∀ W : World, (Instr.slice 50 (.slice A1 l1.length c1) none (some (.int .i64 (I_ : Int))) none).run Try.prog W = .ok (.slice A1 I_ c1) W := cut_to (P := Try.prog) 50 63 .i64 Try.underlying50 hi0_ A1 l1.length c1 (I_ : Int) (by omega) (by omega) HC1.out
       have hqb : ∀ W : World, (Instr.slice 50 (.slice A2 l2.length c2) none (some (.int .i64 (K_ : Int))) none).run Try.prog W = .ok (.slice A2 K_ c2) W := cut_to (P := Try.prog) 50 63 .i64 Try.underlying50 hi0_ A2 l2.length c2 (K_ : Int) (by omega) (by omega) HC2.out
       have MVA : Aside0 (∀ W : World, Below wz.heap.size wz W → Calls Try.prog 45 #[.agg (six q), .slice A1 I_ c1] W fun e w' => e = .returned (.agg (six (mv q (l1.take I_)))) ∧ Below W.heap.size W w') := ⟨fun W hW => by have h := moved_run q A1 c1 (l1.take I_) W (Kd.C_take (Kd.C_below HR1.out (below_tr HB8.out hW)) hI1) (by rw [lA]; have h_ := HC1.out; omega) (hv_take HV1.out I_) (by rw [lA]; have h_ := N1.out; omega); rw [lA] at h; exact h⟩
       have MVB : Aside0 (∀ W : World, Below wz.heap.size wz W → Calls Try.prog 45 #[.agg (six (mv q (l1.take I_))), .slice A2 K_ c2] W fun e w' => e = .returned (.agg (six (mv (mv q (l1.take I_)) (l2.take K_)))) ∧ Below W.heap.size W w') := ⟨fun W hW => by have h := moved_run (mv q (l1.take I_)) A2 c2 (l2.take K_) W (Kd.C_take (Kd.C_below HR2.out (below_tr HB8.out hW)) hI2) (by rw [lB]; have h_ := HC2.out; omega) (hv_take HV2.out K_) (by rw [lB]; have h_ := N2.out; omega); rw [lB] at h; exact h⟩
       clear lA lB eI eK hI1 hI2
       go_upto_region 16 with (fail)
       go_cut [23] (fun v23 wq => ∃ gn : Nat, v23 = .pointer (some ⟨gn, 0, none⟩) ∧ Aside0 (wz.heap.size ≤ gn) ∧ Aside0 (wq.heap[gn]? = some (.cells (six (mv (mv q (l1.take I_)) (l2.take K_))) 59 (0, 0))) ∧ Aside0 (Below wz.heap.size wz wq))
       case first =>
        have BQ := Aside0.mk (blk_in BQ8.out HZ.out)
        replace BQ := Aside0.mk (blk_drew BQ.out)
        replace HZ := Aside0.mk (below_drew1 HZ.out)
        refine start_ (n := 11) (S := fun w' => w'.cell? ⟨w.heap.size + 1, 0, none⟩ = some (.int .i64 (q 0)) ∧ w'.cell? ⟨w.heap.size + 1, 1, none⟩ = some (.int .i64 (q 1)) ∧ w'.cell? ⟨w.heap.size + 1, 2, none⟩ = some (.int .i64 (q 2)) ∧ w'.cell? ⟨w.heap.size + 1, 3, none⟩ = some (.int .i64 (q 3)) ∧ w'.cell? ⟨w.heap.size + 1, 4, none⟩ = some (.int .i64 (q 4)) ∧ w'.cell? ⟨w.heap.size + 1, 5, none⟩ = some (.int .i64 (q 5))) (ds := [10]) #[O,O,O,O,O,O,O,O,O,O,O] (by kernel_rfl) rfl rfl (held6 BQ.out) (fun hHeld => ?_)
        generalize wr.drew = wx at hHeld BQ HZ ⊢
        refine pk_ (i := 1) (N := some 109) #[O,I,O,O,O,O,O,O,O,O,O] ?_
        refine pk_ (i := 2) (N := some 110) #[O,I,I,O,O,O,O,O,O,O,O] ?_
        refine pk_ (i := 3) (N := some 111) #[O,I,I,I,O,O,O,O,O,O,O] ?_
        refine pk_ (i := 5) (N := some 113) #[O,I,I,I,O,I,O,O,O,O,O] ?_
        refine pk_ (i := 6) (N := some 114) #[O,I,I,I,O,I,I,O,O,O,O] ?_
        refine pk_ (i := 7) (N := some 115) #[O,I,I,I,O,I,I,I,O,O,O] ?_
        refine tk_ (i := 0) (N := some 108) #[I,I,I,I,O,I,I,I,O,O,O] hHeld ?_
        refine two_ (i := 4) (j := 9) (Ni := some 112) (Nj := some 23) #[I,I,I,I,I,I,I,I,O,O,O] #[I,I,I,I,O,I,I,I,O,I,O] rfl rfl rfl rfl (by kernel_rfl) (by decide) (by decide) (fun K9 hK => ?_) (fun K9 hK => ?_)
        ·
         refine goes_ Try.func45 (by kernel_rfl) rfl #[.agg (six q), .slice A1 I_ c1] (by rfl) rfl rfl (by (try simp only [List.map_toArray, List.map_cons, List.map_nil]); first | done | rfl) ?_
         with_reducible refine (MVA.out _ HZ.out).mono ?_
         rintro e wu ⟨rfl, hb⟩
         refine ⟨_, rfl, ?_⟩
         replace BQ := Aside0.mk (blk_in BQ.out hb)
         replace HZ := Aside0.mk (below_tr HZ.out hb)
         clear hb
         refine hK.out _ _ (held6 BQ.out) (fun hHeld => ?_)
         clear hK K9
         refine norm_ (a' := ?_) ?_ ?_
         rotate_left
         ·
          (show Act.put _ (some 112) _ = _; simp only [Act.put, List.setIfInBounds_toArray, List.set_cons_zero, List.set_cons_succ, i64_w, i32_w]; rfl)
         refine two_ (i := 8) (j := 9) (Ni := some 116) (Nj := some 23) #[I,I,I,I,I,I,I,I,I,O,O] #[I,I,I,I,I,I,I,I,O,I,O] rfl rfl rfl rfl (by kernel_rfl) (by decide) (by decide) (fun K9 hK => ?_) (fun K9 hK => ?_)
         ·
          refine goes_ Try.func45 (by kernel_rfl) rfl #[.agg (six (mv q (l1.take I_))), .slice A2 K_ c2] (by rfl) rfl rfl (by (try simp only [List.map_toArray, List.map_cons, List.map_nil]); first | done | rfl) ?_
          with_reducible refine (MVB.out _ HZ.out).mono ?_
          rintro e wy ⟨rfl, hb⟩
          refine ⟨_, rfl, ?_⟩
          replace BQ := Aside0.mk (blk_in BQ.out hb)
          replace HZ := Aside0.mk (below_tr HZ.out hb)
          clear hb
          refine hK.out _ _ (held6 BQ.out) (fun hHeld => ?_)
          clear hK K9
          refine norm_ (a' := ?_) ?_ ?_
          rotate_left
          ·
           (show Act.put _ (some 116) _ = _; simp only [Act.put, List.setIfInBounds_toArray, List.set_cons_zero, List.set_cons_succ, i64_w, i32_w]; rfl)
          refine one_ (i := 9) (N := some 23) #[I,I,I,I,I,I,I,I,I,I,O] rfl rfl (by kernel_rfl) (by decide) (fun K9 hK => ?_)
          refine value_ (w1 := ?_) (v := ?_) (by rfl) rfl ?_ ?_
          rotate_left 2
          ·
           go_simp
           constructor
           ·
            rfl
           ·
            rfl
          have BZ := Aside0.mk (heap_alloc_new wy (.cells (six fun _ => 0) 59 (0, 0)))
          have GZ := Aside0.mk HZ.out.size
          have HZp := HZ
          replace BQ := Aside0.mk (blk_al BQ.out (.cells (six fun _ => 0) 59 (0, 0)))
          replace HZ := Aside0.mk (HZ.out.alloc HZ.out.size (.cells (six fun _ => 0) 59 (0, 0)))
          refine hK.out _ _ (held6 BQ.out) (fun hHeld => ?_)
          clear hK K9
          refine norm_ (a' := ?_) ?_ ?_
          rotate_left
          ·
           (show Act.put _ (some 23) _ = _; simp only [Act.put, List.setIfInBounds_toArray, List.set_cons_zero, List.set_cons_succ, i64_w, i32_w]; rfl)
          obtain ⟨n0, n1, n2, n3, n4, n5⟩ := held6 BZ.out
          have t0 := blk_frozen BZ.out 0
          have t1 := blk_frozen BZ.out 1
          have t2 := blk_frozen BZ.out 2
          have t3 := blk_frozen BZ.out 3
          have t4 := blk_frozen BZ.out 4
          have t5 := blk_frozen BZ.out 5
          refine last_ (i := 10) (N := none) #[I,I,I,I,I,I,I,I,I,I,I] rfl rfl (by kernel_rfl) (by decide) (fun K9 hK => ?_)
          refine skip_ (w1 := ?_) (by rfl) rfl ?_ ?_
          rotate_left
          ·
           go_simp
           rfl
          refine hK.out _ _ ?_
          clear hK K9
          refine done_ (by kernel_rfl) ?_
          go_wp2
          go_meet
          case rel => exact ⟨_, rfl, GZ, ⟨heap_alloc_new wy _⟩, ⟨HZp.out.alloc HZp.out.size _⟩⟩
         ·
          refine value_ (w1 := ?_) (v := ?_) (by rfl) rfl ?_ ?_
          rotate_left 2
          ·
           go_simp
           constructor
           ·
            rfl
           ·
            rfl
          have BZ := Aside0.mk (heap_alloc_new wu (.cells (six fun _ => 0) 59 (0, 0)))
          have GZ := Aside0.mk HZ.out.size
          have HZp := HZ
          replace BQ := Aside0.mk (blk_al BQ.out (.cells (six fun _ => 0) 59 (0, 0)))
          replace HZ := Aside0.mk (HZ.out.alloc HZ.out.size (.cells (six fun _ => 0) 59 (0, 0)))
          refine hK.out _ _ (held6 BQ.out) (fun hHeld => ?_)
          clear hK K9
          refine norm_ (a' := ?_) ?_ ?_
          rotate_left
          ·
           (show Act.put _ (some 23) _ = _; simp only [Act.put, List.setIfInBounds_toArray, List.set_cons_zero, List.set_cons_succ, i64_w, i32_w]; rfl)
          refine one_ (i := 8) (N := some 116) #[I,I,I,I,I,I,I,I,I,I,O] rfl rfl (by kernel_rfl) (by decide) (fun K9 hK => ?_)
          refine goes_ Try.func45 (by kernel_rfl) rfl #[.agg (six (mv q (l1.take I_))), .slice A2 K_ c2] (by rfl) rfl rfl (by (try simp only [List.map_toArray, List.map_cons, List.map_nil]); first | done | rfl) ?_
          with_reducible refine (MVB.out _ HZ.out).mono ?_
          rintro e wy ⟨rfl, hb⟩
          refine ⟨_, rfl, ?_⟩
          replace BQ := Aside0.mk (blk_in BQ.out hb)
          replace HZ := Aside0.mk (below_tr HZ.out hb)
          replace BZ := Aside0.mk (blk_in BZ.out hb)
          clear hb
          refine hK.out _ _ (held6 BQ.out) (fun hHeld => ?_)
          clear hK K9
          refine norm_ (a' := ?_) ?_ ?_
          rotate_left
          ·
           (show Act.put _ (some 116) _ = _; simp only [Act.put, List.setIfInBounds_toArray, List.set_cons_zero, List.set_cons_succ, i64_w, i32_w]; rfl)
          obtain ⟨n0, n1, n2, n3, n4, n5⟩ := held6 BZ.out
          have t0 := blk_frozen BZ.out 0
          have t1 := blk_frozen BZ.out 1
          have t2 := blk_frozen BZ.out 2
          have t3 := blk_frozen BZ.out 3
          have t4 := blk_frozen BZ.out 4
          have t5 := blk_frozen BZ.out 5
          refine last_ (i := 10) (N := none) #[I,I,I,I,I,I,I,I,I,I,I] rfl rfl (by kernel_rfl) (by decide) (fun K9 hK => ?_)
          refine skip_ (w1 := ?_) (by rfl) rfl ?_ ?_
          rotate_left
          ·
           go_simp
           rfl
          refine hK.out _ _ ?_
          clear hK K9
          refine done_ (by kernel_rfl) ?_
          go_wp2
          go_meet
          case rel => exact ⟨_, rfl, GZ, ⟨put6 BZ.out (mv (mv q (l1.take I_)) (l2.take K_))⟩, ⟨below6 HZ.out GZ.out (mv (mv q (l1.take I_)) (l2.take K_))⟩⟩
        ·
         refine value_ (w1 := ?_) (v := ?_) (by rfl) rfl ?_ ?_
         rotate_left 2
         ·
          go_simp
          constructor
          ·
           rfl
          ·
           rfl
         have BZ := Aside0.mk (heap_alloc_new wx (.cells (six fun _ => 0) 59 (0, 0)))
         have GZ := Aside0.mk HZ.out.size
         have HZp := HZ
         replace BQ := Aside0.mk (blk_al BQ.out (.cells (six fun _ => 0) 59 (0, 0)))
         replace HZ := Aside0.mk (HZ.out.alloc HZ.out.size (.cells (six fun _ => 0) 59 (0, 0)))
         refine hK.out _ _ (held6 BQ.out) (fun hHeld => ?_)
         clear hK K9
         refine norm_ (a' := ?_) ?_ ?_
         rotate_left
         ·
          (show Act.put _ (some 23) _ = _; simp only [Act.put, List.setIfInBounds_toArray, List.set_cons_zero, List.set_cons_succ, i64_w, i32_w]; rfl)
         refine one_ (i := 4) (N := some 112) #[I,I,I,I,I,I,I,I,O,I,O] rfl rfl (by kernel_rfl) (by decide) (fun K9 hK => ?_)
         refine goes_ Try.func45 (by kernel_rfl) rfl #[.agg (six q), .slice A1 I_ c1] (by rfl) rfl rfl (by (try simp only [List.map_toArray, List.map_cons, List.map_nil]); first | done | rfl) ?_
         with_reducible refine (MVA.out _ HZ.out).mono ?_
         rintro e wu ⟨rfl, hb⟩
         refine ⟨_, rfl, ?_⟩
         replace BQ := Aside0.mk (blk_in BQ.out hb)
         replace HZ := Aside0.mk (below_tr HZ.out hb)
         replace BZ := Aside0.mk (blk_in BZ.out hb)
         clear hb
         refine hK.out _ _ (held6 BQ.out) (fun hHeld => ?_)
         clear hK K9
         refine norm_ (a' := ?_) ?_ ?_
         rotate_left
         ·
          (show Act.put _ (some 112) _ = _; simp only [Act.put, List.setIfInBounds_toArray, List.set_cons_zero, List.set_cons_succ, i64_w, i32_w]; rfl)
         refine one_ (i := 8) (N := some 116) #[I,I,I,I,I,I,I,I,I,I,O] rfl rfl (by kernel_rfl) (by decide) (fun K9 hK => ?_)
         refine goes_ Try.func45 (by kernel_rfl) rfl #[.agg (six (mv q (l1.take I_))), .slice A2 K_ c2] (by rfl) rfl rfl (by (try simp only [List.map_toArray, List.map_cons, List.map_nil]); first | done | rfl) ?_
         with_reducible refine (MVB.out _ HZ.out).mono ?_
         rintro e wy ⟨rfl, hb⟩
         refine ⟨_, rfl, ?_⟩
         replace BQ := Aside0.mk (blk_in BQ.out hb)
         replace HZ := Aside0.mk (below_tr HZ.out hb)
         replace BZ := Aside0.mk (blk_in BZ.out hb)
         clear hb
         refine hK.out _ _ (held6 BQ.out) (fun hHeld => ?_)
         clear hK K9
         refine norm_ (a' := ?_) ?_ ?_
         rotate_left
         ·
          (show Act.put _ (some 116) _ = _; simp only [Act.put, List.setIfInBounds_toArray, List.set_cons_zero, List.set_cons_succ, i64_w, i32_w]; rfl)
         obtain ⟨n0, n1, n2, n3, n4, n5⟩ := held6 BZ.out
         have t0 := blk_frozen BZ.out 0
         have t1 := blk_frozen BZ.out 1
         have t2 := blk_frozen BZ.out 2
         have t3 := blk_frozen BZ.out 3
         have t4 := blk_frozen BZ.out 4
         have t5 := blk_frozen BZ.out 5
         refine last_ (i := 10) (N := none) #[I,I,I,I,I,I,I,I,I,I,I] rfl rfl (by kernel_rfl) (by decide) (fun K9 hK => ?_)
         refine skip_ (w1 := ?_) (by rfl) rfl ?_ ?_
         rotate_left
         ·
          go_simp
          rfl
         refine hK.out _ _ ?_
         clear hK K9
         refine done_ (by kernel_rfl) ?_
         go_wp2
         go_meet
         case rel => exact ⟨_, rfl, GZ, ⟨put6 BZ.out (mv (mv q (l1.take I_)) (l2.take K_))⟩, ⟨below6 HZ.out GZ.out (mv (mv q (l1.take I_)) (l2.take K_))⟩⟩
       case rest =>
        obtain ⟨gn, rfl, GN, BN, HZ⟩ := hcut
        clear hqa hqb
        go_upto_region 17 with (fail)
        have BQ := Aside0.mk (blk_drew (blk_in BQ8.out HZ.out))
        replace BN := Aside0.mk (blk_drew BN.out)
        replace HZ := Aside0.mk (below_drew1 HZ.out)
        refine start_ (n := 7) (S := fun w' => (w'.cell? ⟨w.heap.size + 1, 0, none⟩ = some (.int .i64 (q 0)) ∧ w'.cell? ⟨w.heap.size + 1, 1, none⟩ = some (.int .i64 (q 1)) ∧ w'.cell? ⟨w.heap.size + 1, 2, none⟩ = some (.int .i64 (q 2)) ∧ w'.cell? ⟨w.heap.size + 1, 3, none⟩ = some (.int .i64 (q 3)) ∧ w'.cell? ⟨w.heap.size + 1, 4, none⟩ = some (.int .i64 (q 4)) ∧ w'.cell? ⟨w.heap.size + 1, 5, none⟩ = some (.int .i64 (q 5))) ∧ (w'.cell? ⟨gn, 0, none⟩ = some (.int .i64 ((mv (mv q (l1.take I_)) (l2.take K_)) 0)) ∧ w'.cell? ⟨gn, 1, none⟩ = some (.int .i64 ((mv (mv q (l1.take I_)) (l2.take K_)) 1)) ∧ w'.cell? ⟨gn, 2, none⟩ = some (.int .i64 ((mv (mv q (l1.take I_)) (l2.take K_)) 2)) ∧ w'.cell? ⟨gn, 3, none⟩ = some (.int .i64 ((mv (mv q (l1.take I_)) (l2.take K_)) 3)) ∧ w'.cell? ⟨gn, 4, none⟩ = some (.int .i64 ((mv (mv q (l1.take I_)) (l2.take K_)) 4)) ∧ w'.cell? ⟨gn, 5, none⟩ = some (.int .i64 ((mv (mv q (l1.take I_)) (l2.take K_)) 5)))) (ds := []) #[O,O,O,O,O,O,O] (by kernel_rfl) rfl rfl ⟨held6 BQ.out, held6 BN.out⟩ (fun hHeld => ?_)
        generalize wc.drew = wx at hHeld BQ BN HZ ⊢
        refine pk_ (i := 1) (N := some 118) #[O,I,O,O,O,O,O] ?_
        refine pk_ (i := 2) (N := some 119) #[O,I,I,O,O,O,O] ?_
        refine tk12_ (i := 0) (N := some 117) #[I,I,I,O,O,O,O] hHeld ?_
        refine tk12_ (i := 4) (N := some 121) #[I,I,I,O,I,O,O] hHeld ?_
        refine one_ (i := 3) (N := some 120) #[I,I,I,I,I,O,O] rfl rfl (by kernel_rfl) (by decide) (fun K9 hK => ?_)
        refine goes_ Try.func30 (by kernel_rfl) rfl #[.agg (six q), .slice A7 t.length c7, .int .i64 ((Tn n : Nat) : Int)] (by rfl) rfl rfl (by (try simp only [List.map_toArray, List.map_cons, List.map_nil]); first | done | rfl) ?_
        with_reducible refine (timetable_PositionsAt.calls (q 0) (q 1) (q 2) (q 3) (q 4) (q 5) A7 c7 t ((Tn n : Nat) : Int) (wrap64 (12 * (mv (mv q (l1.take I_)) (l2.take K_)) 0)) (wrap64 (12 * (mv (mv q (l1.take I_)) (l2.take K_)) 1)) (wrap64 (12 * (mv (mv q (l1.take I_)) (l2.take K_)) 2)) (wrap64 (12 * (mv (mv q (l1.take I_)) (l2.take K_)) 3)) (wrap64 (12 * (mv (mv q (l1.take I_)) (l2.take K_)) 4)) (wrap64 (12 * (mv (mv q (l1.take I_)) (l2.take K_)) 5)) _ (Kd.C_below CT8.out HZ.out) LT.out HP.out).mono ?_
        rintro e wu ⟨rfl, hb⟩
        refine ⟨_, rfl, ?_⟩
        replace BQ := Aside0.mk (blk_in BQ.out hb)
        replace BN := Aside0.mk (blk_in BN.out hb)
        replace HZ := Aside0.mk (below_tr HZ.out hb)
        clear hb
        refine hK.out _ _ ⟨held6 BQ.out, held6 BN.out⟩ (fun hHeld => ?_)
        clear hK K9
        refine norm_ (a' := ?_) ?_ ?_
        rotate_left
        ·
         (show Act.put _ (some 120) _ = _; simp only [Act.put, List.setIfInBounds_toArray, List.set_cons_zero, List.set_cons_succ, i64_w, i32_w]; rfl)
        refine one_ (i := 5) (N := some 122) #[I,I,I,I,I,I,O] rfl rfl (by kernel_rfl) (by decide) (fun K9 hK => ?_)
        refine goes_ Try.func44 (by kernel_rfl) rfl #[.agg (six (mv (mv q (l1.take I_)) (l2.take K_)))] (by rfl) rfl rfl (by (try simp only [List.map_toArray, List.map_cons, List.map_nil]); first | done | rfl) ?_
        with_reducible refine (counts_run (mv (mv q (l1.take I_)) (l2.take K_)) _).mono ?_
        rintro e wy ⟨rfl, hb⟩
        refine ⟨_, rfl, ?_⟩
        replace BQ := Aside0.mk (blk_in BQ.out hb)
        replace BN := Aside0.mk (blk_in BN.out hb)
        replace HZ := Aside0.mk (below_tr HZ.out hb)
        clear hb
        refine hK.out _ _ ⟨held6 BQ.out, held6 BN.out⟩ (fun hHeld => ?_)
        clear hK K9
        refine norm_ (a' := ?_) ?_ ?_
        rotate_left
        ·
         (show Act.put _ (some 122) _ = _; simp only [Act.put, List.setIfInBounds_toArray, List.set_cons_zero, List.set_cons_succ, i64_w, i32_w]; rfl)
        refine pk_ (i := 6) (N := some 123) #[I,I,I,I,I,I,I] ?_
        refine done_ (by kernel_rfl) ?_
        have z0 := ((below_tr HB8.out HZ.out).cell (World.block_lt_of_cell? w _ Z0.out)).trans Z0.out
        have z1 := ((below_tr HB8.out HZ.out).cell (World.block_lt_of_cell? w _ Z1.out)).trans Z1.out
        cases fa <;> cases fb
        ·
         exact absurd HOK.out (by decide)
        ·
         have hT1 : Tn (n + 1) = Tn n + two := by rw [HTN1.out]; unfold tookN; simp
         have hTm1 := HTM.out (n + 1) (by have h_ := H3.out; omega)
         have hTm0 := HTM.out n (by have h_ := H3.out; omega)
         have hIa : cA (l3.take (n + 1)) = I_ + 0 := EA1.out
         have hKb : cB (l3.take (n + 1)) = K_ + 1 := EB1.out
         have j1 := HJ1_.out
         have j2 := HJ2_.out
         have m1_ := N1.out
         have m2_ := N2.out
         have m3_ := N3.out
         have m4_ := H3.out
         have m5_ := HO.out
         have g1 : decide (l1.length < I_ + 0) = false := decide_eq_false (by omega)
         have g1i : decide ((l1.length : Int) < (I_ : Int) + 0) = false := decide_eq_false (by omega)
         have g2 : decide (l2.length < K_ + 1) = false := decide_eq_false (by omega)
         have g2i : decide ((l2.length : Int) < (K_ : Int) + 1) = false := decide_eq_false (by omega)
         have g1z : decide ((l1.length : Int) < (I_ : Int)) = false := decide_eq_false (by omega)
         have g2z : decide ((l2.length : Int) < (K_ : Int)) = false := decide_eq_false (by omega)
         have g1zn : decide (l1.length < I_) = false := decide_eq_false (by omega)
         have g2zn : decide (l2.length < K_) = false := decide_eq_false (by omega)
         have TKV : Aside0 (∀ Y : Int, Y = ((two : Nat) : Int) → wrap64 (((Tn n : Nat) : Int) + Y) = ((Tn (n + 1) : Nat) : Int) ∧ ((Tn n : Nat) : Int) + Y = ((Tn (n + 1) : Nat) : Int)) := ⟨fun Y hY => by subst hY; rw [hT1]; refine ⟨by unfold wrap64; omega, by omega⟩⟩
         have e1 : wrap64 ((I_ : Int) + 1) = (I_ : Int) + 1 := by unfold wrap64; omega
         have e2 : wrap64 ((K_ : Int) + 1) = (K_ : Int) + 1 := by unfold wrap64; omega
         have e3 : wrap64 ((n : Int) + 1) = (n : Int) + 1 := by unfold wrap64; omega
         clear hTm1 hTm0 j1 j2 m1_ m2_ m3_ m4_ m5_ hT1
         go_wp2
         refine ⟨⟨n + 1, by first | rfl | (rw [e3]; rfl), ?_, by rw [hIa]; first | rfl | (rw [e1]; rfl), by rw [hKb]; first | rfl | (rw [e2]; rfl), H3.out, HZ⟩, ?_⟩
         ·
          first | exact congrArg (Value.int .i64) (TKV.out _ (by clear e1 e2 e3; first | rfl | (split <;> omega) | (rw [Nat.max_def]; split <;> split <;> omega))).1 | exact congrArg (Value.int .i64) (TKV.out _ (by clear e1 e2 e3; first | rfl | (split <;> omega) | (rw [Nat.max_def]; split <;> split <;> omega))).2
         ·
          (try rw [e3])
          show l3.length - ((n : Int) + 1).toNat < l3.length - (n : Int).toNat
          clear e1 e2 e3
          have h_ := H3.out
          omega
        ·
         have hT1 : Tn (n + 1) = Tn n + one := by rw [HTN1.out]; unfold tookN; simp
         have hTm1 := HTM.out (n + 1) (by have h_ := H3.out; omega)
         have hTm0 := HTM.out n (by have h_ := H3.out; omega)
         have hIa : cA (l3.take (n + 1)) = I_ + 1 := EA1.out
         have hKb : cB (l3.take (n + 1)) = K_ + 0 := EB1.out
         have j1 := HJ1_.out
         have j2 := HJ2_.out
         have m1_ := N1.out
         have m2_ := N2.out
         have m3_ := N3.out
         have m4_ := H3.out
         have m5_ := HO.out
         have g1 : decide (l1.length < I_ + 1) = false := decide_eq_false (by omega)
         have g1i : decide ((l1.length : Int) < (I_ : Int) + 1) = false := decide_eq_false (by omega)
         have g2 : decide (l2.length < K_ + 0) = false := decide_eq_false (by omega)
         have g2i : decide ((l2.length : Int) < (K_ : Int) + 0) = false := decide_eq_false (by omega)
         have g1z : decide ((l1.length : Int) < (I_ : Int)) = false := decide_eq_false (by omega)
         have g2z : decide ((l2.length : Int) < (K_ : Int)) = false := decide_eq_false (by omega)
         have g1zn : decide (l1.length < I_) = false := decide_eq_false (by omega)
         have g2zn : decide (l2.length < K_) = false := decide_eq_false (by omega)
         have TKV : Aside0 (∀ Y : Int, Y = ((one : Nat) : Int) → wrap64 (((Tn n : Nat) : Int) + Y) = ((Tn (n + 1) : Nat) : Int) ∧ ((Tn n : Nat) : Int) + Y = ((Tn (n + 1) : Nat) : Int)) := ⟨fun Y hY => by subst hY; rw [hT1]; refine ⟨by unfold wrap64; omega, by omega⟩⟩
         have e1 : wrap64 ((I_ : Int) + 1) = (I_ : Int) + 1 := by unfold wrap64; omega
         have e2 : wrap64 ((K_ : Int) + 1) = (K_ : Int) + 1 := by unfold wrap64; omega
         have e3 : wrap64 ((n : Int) + 1) = (n : Int) + 1 := by unfold wrap64; omega
         clear hTm1 hTm0 j1 j2 m1_ m2_ m3_ m4_ m5_ hT1
         go_wp2
         refine ⟨⟨n + 1, by first | rfl | (rw [e3]; rfl), ?_, by rw [hIa]; first | rfl | (rw [e1]; rfl), by rw [hKb]; first | rfl | (rw [e2]; rfl), H3.out, HZ⟩, ?_⟩
         ·
          first | exact congrArg (Value.int .i64) (TKV.out _ (by clear e1 e2 e3; first | rfl | (split <;> omega) | (rw [Nat.max_def]; split <;> split <;> omega))).1 | exact congrArg (Value.int .i64) (TKV.out _ (by clear e1 e2 e3; first | rfl | (split <;> omega) | (rw [Nat.max_def]; split <;> split <;> omega))).2
         ·
          (try rw [e3])
          show l3.length - ((n : Int) + 1).toNat < l3.length - (n : Int).toNat
          clear e1 e2 e3
          have h_ := H3.out
          omega
        ·
         have hT1 : Tn (n + 1) = Tn n + (max one two) := by rw [HTN1.out]; unfold tookN; simp
         have hTm1 := HTM.out (n + 1) (by have h_ := H3.out; omega)
         have hTm0 := HTM.out n (by have h_ := H3.out; omega)
         have hIa : cA (l3.take (n + 1)) = I_ + 1 := EA1.out
         have hKb : cB (l3.take (n + 1)) = K_ + 1 := EB1.out
         have j1 := HJ1_.out
         have j2 := HJ2_.out
         have m1_ := N1.out
         have m2_ := N2.out
         have m3_ := N3.out
         have m4_ := H3.out
         have m5_ := HO.out
         have g1 : decide (l1.length < I_ + 1) = false := decide_eq_false (by omega)
         have g1i : decide ((l1.length : Int) < (I_ : Int) + 1) = false := decide_eq_false (by omega)
         have g2 : decide (l2.length < K_ + 1) = false := decide_eq_false (by omega)
         have g2i : decide ((l2.length : Int) < (K_ : Int) + 1) = false := decide_eq_false (by omega)
         have g1z : decide ((l1.length : Int) < (I_ : Int)) = false := decide_eq_false (by omega)
         have g2z : decide ((l2.length : Int) < (K_ : Int)) = false := decide_eq_false (by omega)
         have g1zn : decide (l1.length < I_) = false := decide_eq_false (by omega)
         have g2zn : decide (l2.length < K_) = false := decide_eq_false (by omega)
         have TKV : Aside0 (∀ Y : Int, Y = (((max one two) : Nat) : Int) → wrap64 (((Tn n : Nat) : Int) + Y) = ((Tn (n + 1) : Nat) : Int) ∧ ((Tn n : Nat) : Int) + Y = ((Tn (n + 1) : Nat) : Int)) := ⟨fun Y hY => by subst hY; rw [hT1]; refine ⟨by unfold wrap64; omega, by omega⟩⟩
         have e1 : wrap64 ((I_ : Int) + 1) = (I_ : Int) + 1 := by unfold wrap64; omega
         have e2 : wrap64 ((K_ : Int) + 1) = (K_ : Int) + 1 := by unfold wrap64; omega
         have e3 : wrap64 ((n : Int) + 1) = (n : Int) + 1 := by unfold wrap64; omega
         clear hTm1 hTm0 j1 j2 m1_ m2_ m3_ m4_ m5_ hT1
         go_wp2
         refine ⟨⟨n + 1, by first | rfl | (rw [e3]; rfl), ?_, by rw [hIa]; first | rfl | (rw [e1]; rfl), by rw [hKb]; first | rfl | (rw [e2]; rfl), H3.out, HZ⟩, ?_⟩
         ·
          first | exact congrArg (Value.int .i64) (TKV.out _ (by clear e1 e2 e3; first | rfl | (split <;> omega) | (rw [Nat.max_def]; split <;> split <;> omega))).1 | exact congrArg (Value.int .i64) (TKV.out _ (by clear e1 e2 e3; first | rfl | (split <;> omega) | (rw [Nat.max_def]; split <;> split <;> omega))).2
         ·
          (try rw [e3])
          show l3.length - ((n : Int) + 1).toNat < l3.length - (n : Int).toNat
          clear e1 e2 e3
          have h_ := H3.out
          omega
      ·
       have en : n = l3.length := by omega
       subst en
       have d3 : decide ((l3.length : Int) < (l3.length : Int)) = false := decide_eq_false (by omega)
       have HP := HPOS.out l3.length (Nat.le_refl _)
       unfold nowC at HP
       rw [List.take_length, HCA.out, HCB.out, List.take_length, List.take_length] at HP
       have e6 : wrap64 ((l1.length : Int) + (l2.length : Int)) = (t.length : Int) := by have h1_ := N1.out; have h2_ := N2.out; have h3_ := HTL.out; unfold wrap64; omega
       go_upto_region 29 with (fail)
       have BQ := Aside0.mk (blk_drew (blk_in BQ8.out HZ.out))
       replace HZ := Aside0.mk (below_drew1 HZ.out)
       refine start_ (n := 31) (S := fun w' => w'.cell? ⟨w.heap.size + 1, 0, none⟩ = some (.int .i64 (q 0)) ∧ w'.cell? ⟨w.heap.size + 1, 1, none⟩ = some (.int .i64 (q 1)) ∧ w'.cell? ⟨w.heap.size + 1, 2, none⟩ = some (.int .i64 (q 2)) ∧ w'.cell? ⟨w.heap.size + 1, 3, none⟩ = some (.int .i64 (q 3)) ∧ w'.cell? ⟨w.heap.size + 1, 4, none⟩ = some (.int .i64 (q 4)) ∧ w'.cell? ⟨w.heap.size + 1, 5, none⟩ = some (.int .i64 (q 5))) (ds := []) #[O,O,O,O,O,O,O,O,O,O,O,O,O,O,O,O,O,O,O,O,O,O,O,O,O,O,O,O,O,O,O] (by kernel_rfl) rfl rfl (held6 BQ.out) (fun hHeld => ?_)
       generalize wr.drew = wx at hHeld BQ HZ ⊢
       refine pk_ (i := 0) (N := some 155) #[I,O,O,O,O,O,O,O,O,O,O,O,O,O,O,O,O,O,O,O,O,O,O,O,O,O,O,O,O,O,O] ?_
       refine pk_ (i := 1) (N := some 156) #[I,I,O,O,O,O,O,O,O,O,O,O,O,O,O,O,O,O,O,O,O,O,O,O,O,O,O,O,O,O,O] ?_
       refine pk_ (i := 2) (N := some 157) #[I,I,I,O,O,O,O,O,O,O,O,O,O,O,O,O,O,O,O,O,O,O,O,O,O,O,O,O,O,O,O] ?_
       refine pk_ (i := 4) (N := some 159) #[I,I,I,O,I,O,O,O,O,O,O,O,O,O,O,O,O,O,O,O,O,O,O,O,O,O,O,O,O,O,O] ?_
       refine one_ (i := 3) (N := some 158) #[I,I,I,I,I,O,O,O,O,O,O,O,O,O,O,O,O,O,O,O,O,O,O,O,O,O,O,O,O,O,O] rfl rfl (by kernel_rfl) (by decide) (fun K9 hK => ?_)
       refine goes_ Try.func29 (by kernel_rfl) rfl #[.slice A7 t.length c7] (by rfl) rfl rfl (by (try simp only [List.map_toArray, List.map_cons, List.map_nil]); first | done | rfl) ?_
       with_reducible refine (timetable_Duration.calls K A7 c7 t ((Tn l3.length : Nat) : Int) _ (Kd.C_below CT8.out HZ.out) LT.out HDUR.out).mono ?_
       rintro e w1_ ⟨rfl, hb⟩
       refine ⟨_, rfl, ?_⟩
       replace BQ := Aside0.mk (blk_in BQ.out hb)
       replace HZ := Aside0.mk (below_tr HZ.out hb)
       clear hb
       refine hK.out _ _ (held6 BQ.out) (fun hHeld => ?_)
       clear hK K9
       refine norm_ (a' := ?_) ?_ ?_
       rotate_left
       ·
        (show Act.put _ (some 158) _ = _; simp only [Act.put, List.setIfInBounds_toArray, List.set_cons_zero, List.set_cons_succ, i64_w, i32_w]; rfl)
       refine pk_ (i := 5) (N := some 160) #[I,I,I,I,I,I,O,O,O,O,O,O,O,O,O,O,O,O,O,O,O,O,O,O,O,O,O,O,O,O,O] ?_
       refine pk_ (i := 6) (N := some 161) #[I,I,I,I,I,I,I,O,O,O,O,O,O,O,O,O,O,O,O,O,O,O,O,O,O,O,O,O,O,O,O] ?_
       refine pk_ (i := 7) (N := some 162) #[I,I,I,I,I,I,I,I,O,O,O,O,O,O,O,O,O,O,O,O,O,O,O,O,O,O,O,O,O,O,O] ?_
       refine pk_ (i := 9) (N := some 164) #[I,I,I,I,I,I,I,I,O,I,O,O,O,O,O,O,O,O,O,O,O,O,O,O,O,O,O,O,O,O,O] ?_
       refine pk_ (i := 10) (N := some 165) #[I,I,I,I,I,I,I,I,O,I,I,O,O,O,O,O,O,O,O,O,O,O,O,O,O,O,O,O,O,O,O] ?_
       refine pk_ (i := 13) (N := some 168) #[I,I,I,I,I,I,I,I,O,I,I,O,O,I,O,O,O,O,O,O,O,O,O,O,O,O,O,O,O,O,O] ?_
       refine pk_ (i := 15) (N := some 170) #[I,I,I,I,I,I,I,I,O,I,I,O,O,I,O,I,O,O,O,O,O,O,O,O,O,O,O,O,O,O,O] ?_
       refine tk_ (i := 8) (N := some 163) #[I,I,I,I,I,I,I,I,I,I,I,O,O,I,O,I,O,O,O,O,O,O,O,O,O,O,O,O,O,O,O] hHeld ?_
       refine tk_ (i := 12) (N := some 167) #[I,I,I,I,I,I,I,I,I,I,I,O,I,I,O,I,O,O,O,O,O,O,O,O,O,O,O,O,O,O,O] hHeld ?_
       refine one_ (i := 11) (N := some 166) #[I,I,I,I,I,I,I,I,I,I,I,I,I,I,O,I,O,O,O,O,O,O,O,O,O,O,O,O,O,O,O] rfl rfl (by kernel_rfl) (by decide) (fun K9 hK => ?_)
       refine goes_ Try.func30 (by kernel_rfl) rfl #[.agg (six q), .slice A7 t.length c7, .int .i64 ((Tn l3.length : Nat) : Int)] (by rfl) rfl rfl (by (try simp only [List.map_toArray, List.map_cons, List.map_nil]); first | done | rfl) ?_
       with_reducible refine (timetable_PositionsAt.calls (q 0) (q 1) (q 2) (q 3) (q 4) (q 5) A7 c7 t ((Tn l3.length : Nat) : Int) (wrap64 (12 * (mv (mv q l1) l2) 0)) (wrap64 (12 * (mv (mv q l1) l2) 1)) (wrap64 (12 * (mv (mv q l1) l2) 2)) (wrap64 (12 * (mv (mv q l1) l2) 3)) (wrap64 (12 * (mv (mv q l1) l2) 4)) (wrap64 (12 * (mv (mv q l1) l2) 5)) _ (Kd.C_below CT8.out HZ.out) LT.out HP).mono ?_
       rintro e w2_ ⟨rfl, hb⟩
       refine ⟨_, rfl, ?_⟩
       replace BQ := Aside0.mk (blk_in BQ.out hb)
       replace HZ := Aside0.mk (below_tr HZ.out hb)
       clear hb
       refine hK.out _ _ (held6 BQ.out) (fun hHeld => ?_)
       clear hK K9
       refine norm_ (a' := ?_) ?_ ?_
       rotate_left
       ·
        (show Act.put _ (some 166) _ = _; simp only [Act.put, List.setIfInBounds_toArray, List.set_cons_zero, List.set_cons_succ, i64_w, i32_w]; rfl)
       refine one_ (i := 14) (N := some 169) #[I,I,I,I,I,I,I,I,I,I,I,I,I,I,I,I,O,O,O,O,O,O,O,O,O,O,O,O,O,O,O] rfl rfl (by kernel_rfl) (by decide) (fun K9 hK => ?_)
       refine goes_ Try.func45 (by kernel_rfl) rfl #[.agg (six q), .slice A1 l1.length c1] (by rfl) rfl rfl (by (try simp only [List.map_toArray, List.map_cons, List.map_nil]); first | done | rfl) ?_
       with_reducible refine (moved_run q A1 c1 l1 _ (Kd.C_below HR1.out (below_tr HB8.out HZ.out)) HC1.out HV1.out (by have h_ := N1.out; omega)).mono ?_
       rintro e w3_ ⟨rfl, hb⟩
       refine ⟨_, rfl, ?_⟩
       replace BQ := Aside0.mk (blk_in BQ.out hb)
       replace HZ := Aside0.mk (below_tr HZ.out hb)
       clear hb
       refine hK.out _ _ (held6 BQ.out) (fun hHeld => ?_)
       clear hK K9
       refine norm_ (a' := ?_) ?_ ?_
       rotate_left
       ·
        (show Act.put _ (some 169) _ = _; simp only [Act.put, List.setIfInBounds_toArray, List.set_cons_zero, List.set_cons_succ, i64_w, i32_w]; rfl)
       refine one_ (i := 16) (N := some 171) #[I,I,I,I,I,I,I,I,I,I,I,I,I,I,I,I,I,O,O,O,O,O,O,O,O,O,O,O,O,O,O] rfl rfl (by kernel_rfl) (by decide) (fun K9 hK => ?_)
       refine goes_ Try.func45 (by kernel_rfl) rfl #[.agg (six (mv q l1)), .slice A2 l2.length c2] (by rfl) rfl rfl (by (try simp only [List.map_toArray, List.map_cons, List.map_nil]); first | done | rfl) ?_
       with_reducible refine (moved_run (mv q l1) A2 c2 l2 _ (Kd.C_below HR2.out (below_tr HB8.out HZ.out)) HC2.out HV2.out (by have h_ := N2.out; omega)).mono ?_
       rintro e w4_ ⟨rfl, hb⟩
       refine ⟨_, rfl, ?_⟩
       replace BQ := Aside0.mk (blk_in BQ.out hb)
       replace HZ := Aside0.mk (below_tr HZ.out hb)
       clear hb
       refine hK.out _ _ (held6 BQ.out) (fun hHeld => ?_)
       clear hK K9
       refine norm_ (a' := ?_) ?_ ?_
       rotate_left
       ·
        (show Act.put _ (some 171) _ = _; simp only [Act.put, List.setIfInBounds_toArray, List.set_cons_zero, List.set_cons_succ, i64_w, i32_w]; rfl)
       refine one_ (i := 17) (N := some 172) #[I,I,I,I,I,I,I,I,I,I,I,I,I,I,I,I,I,I,O,O,O,O,O,O,O,O,O,O,O,O,O] rfl rfl (by kernel_rfl) (by decide) (fun K9 hK => ?_)
       refine goes_ Try.func44 (by kernel_rfl) rfl #[.agg (six (mv (mv q l1) l2))] (by rfl) rfl rfl (by (try simp only [List.map_toArray, List.map_cons, List.map_nil]); first | done | rfl) ?_
       with_reducible refine (counts_run (mv (mv q l1) l2) _).mono ?_
       rintro e w5_ ⟨rfl, hb⟩
       refine ⟨_, rfl, ?_⟩
       replace BQ := Aside0.mk (blk_in BQ.out hb)
       replace HZ := Aside0.mk (below_tr HZ.out hb)
       clear hb
       refine hK.out _ _ (held6 BQ.out) (fun hHeld => ?_)
       clear hK K9
       refine norm_ (a' := ?_) ?_ ?_
       rotate_left
       ·
        (show Act.put _ (some 172) _ = _; simp only [Act.put, List.setIfInBounds_toArray, List.set_cons_zero, List.set_cons_succ, i64_w, i32_w]; rfl)
       refine pk_ (i := 18) (N := some 173) #[I,I,I,I,I,I,I,I,I,I,I,I,I,I,I,I,I,I,I,O,O,O,O,O,O,O,O,O,O,O,O] ?_
       refine pk_ (i := 19) (N := some 174) #[I,I,I,I,I,I,I,I,I,I,I,I,I,I,I,I,I,I,I,I,O,O,O,O,O,O,O,O,O,O,O] ?_
       refine pk_ (i := 20) (N := some 175) #[I,I,I,I,I,I,I,I,I,I,I,I,I,I,I,I,I,I,I,I,I,O,O,O,O,O,O,O,O,O,O] ?_
       refine pk_ (i := 21) (N := some 176) #[I,I,I,I,I,I,I,I,I,I,I,I,I,I,I,I,I,I,I,I,I,I,O,O,O,O,O,O,O,O,O] ?_
       refine pk_ (i := 22) (N := some 177) #[I,I,I,I,I,I,I,I,I,I,I,I,I,I,I,I,I,I,I,I,I,I,I,O,O,O,O,O,O,O,O] ?_
       refine pk_ (i := 23) (N := some 178) #[I,I,I,I,I,I,I,I,I,I,I,I,I,I,I,I,I,I,I,I,I,I,I,I,O,O,O,O,O,O,O] ?_
       refine pk_ (i := 24) (N := some 179) #[I,I,I,I,I,I,I,I,I,I,I,I,I,I,I,I,I,I,I,I,I,I,I,I,I,O,O,O,O,O,O] ?_
       refine pk_ (i := 25) (N := some 180) #[I,I,I,I,I,I,I,I,I,I,I,I,I,I,I,I,I,I,I,I,I,I,I,I,I,I,O,O,O,O,O] ?_
       refine pk_ (i := 26) (N := some 181) #[I,I,I,I,I,I,I,I,I,I,I,I,I,I,I,I,I,I,I,I,I,I,I,I,I,I,I,O,O,O,O] ?_
       refine pk_ (i := 27) (N := some 182) #[I,I,I,I,I,I,I,I,I,I,I,I,I,I,I,I,I,I,I,I,I,I,I,I,I,I,I,I,O,O,O] ?_
       refine pk_ (i := 28) (N := some 183) #[I,I,I,I,I,I,I,I,I,I,I,I,I,I,I,I,I,I,I,I,I,I,I,I,I,I,I,I,I,O,O] ?_
       refine pk_ (i := 29) (N := some 184) #[I,I,I,I,I,I,I,I,I,I,I,I,I,I,I,I,I,I,I,I,I,I,I,I,I,I,I,I,I,I,O] ?_
       refine pk_ (i := 30) (N := some 10) #[I,I,I,I,I,I,I,I,I,I,I,I,I,I,I,I,I,I,I,I,I,I,I,I,I,I,I,I,I,I,I] ?_
       refine done_ (by kernel_rfl) ?_
       go_wp2
       go_ret
       exact ⟨rfl, below_tr HB8.out HZ.out⟩
  ·
   have d4 : (er != 0) = true := bne_iff_ne.mpr c4_
   clear c4_
   go_wp2
   go_ret
   exact ⟨rfl, HBd.out⟩
end Go.Proofs.Ytmmaodlngnjmlaa.Reach
