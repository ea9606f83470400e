/- An append to a row of the call's own that is larger than the library's law takes: growslice's own test is met up to four thirds of 2^47 bytes (beyond 256 elements a full row grows by a quarter). -/
import Derived.Test.YtmmaodlngnjmlaaWWords
import Derived.SizedLaws
import Derived.ChangeArms
namespace Go.Proofs.Ytmmaodlngnjmlaa.P
set_option linter.unusedSimpArgs false
set_option linter.unusedVariables false
open Go Go.RowKit Go.Proofs.YtmmaodlngnjmlaaW.PrintWords
theorem nextcap_quarter {n : Nat} (h : 256 ≤ n) : Builtin.nextslicecap (n + 1) n = n + (n + 768) / 4 := by
  unfold Builtin.nextslicecap
  rw [if_neg (by omega), if_neg (by omega)]
  have e : ∀ k : Nat, Builtin.growBy (n + 1) k (n + (n + 768) / 4) = n + (n + 768) / 4 := fun k => by
    cases k with
    | zero => rfl
    | succ k => rw [Builtin.growBy, if_pos (by omega)]
  rw [Builtin.growBy, if_neg (by omega), e]
theorem quarter_fits {n b : Nat} (h : 256 ≤ n) (hb : (n + 1) * b ≤ 187649984473792) (h1 : b ≤ 1000000) : Builtin.nextslicecap (n + 1) n * b ≤ 281474976710656 := by
  rw [nextcap_quarter h]
  have h2 : 4 * ((n + (n + 768) / 4) * b) ≤ (5 * (n + 1) + 763) * b := by
    rw [← Nat.mul_assoc]
    exact Nat.mul_le_mul_right _ (by omega)
  have h3 : (5 * (n + 1) + 763) * b = 5 * ((n + 1) * b) + 763 * b := by rw [Nat.add_mul, Nat.mul_assoc]
  omega
theorem run_append_big {P : Program} (w : World) (base : Nat) (t ty e : TypeId) (i : TypeInfo) (z : Value) (ht : P.underlying t = some (.slice e)) (hi : P.info? e = some i) (hz : i.zero = some z) (hzs : z.cells.size = i.size) (hsz : 0 < i.size)
    (v : Value) (n : Nat) (xs : List Value) (hown : w.ownsRow base e i.size v n xs) (a : Addr) (c : Nat) (news : List Value) (hl : news.length = i.size) (hnews : ∀ j u, news[j]? = some u → w.cell? (a.add j) = some u) (h1 : ∀ u ∈ news, u.oneCell' = true)
    (hb0 : 0 < i.bytes ∧ i.bytes ≤ 1000000) (hb : (n + 1) * i.bytes ≤ 187649984473792) (hbase : base ≤ w.heap.size) :
    ∃ v' w', (Builtin.append_ #[t, t] ty #[v, .slice (some a) 1 c]).run P w = .ok v' w' ∧ w'.ownsRow base e i.size v' (n + 1) (xs ++ news) ∧ w.grownBy w' v.ownBlock ∧ (v'.ownBlock = v.ownBlock ∨ v'.ownBlock = some w.heap.size) := by
  have hn : n + 1 ≤ 187649984473792 := Nat.le_trans (Nat.le_mul_of_pos_right _ hb0.1) hb
  by_cases hsm : (n + 1) * i.bytes ≤ 140737488355328
  · obtain ⟨v', w', r1, r2, r3, _, r5⟩ := run_append_own_at (P := P) w base t ty e i z i.size i.bytes ht hi hz rfl rfl hzs hsz v n xs hown a 1 c news (by omega) hnews h1 (by simp only [maxLen]; omega) hsm hbase
    exact ⟨v', w', r1, r2, r3, r5⟩
  · have h256 : 256 ≤ n := by
      refine Nat.le_of_not_lt fun hlt => hsm ?_
      have := Nat.mul_le_mul (show n + 1 ≤ 256 by omega) hb0.2
      omega
    have hlen : (xs ++ news).length = (n + 1) * i.size := by rw [List.length_append, hown.1, hl, Nat.add_mul, Nat.one_mul]
    rcases hown.2 with ⟨rfl, rfl⟩ | ⟨g, cap, cur, rfl, hbg, hg, hnc, hcm, hcs, htake⟩
    · omega
    by_cases hroom : n + 1 ≤ cap
    · have hfit : n * i.size + news.length ≤ cur.size := by
        rw [hl, hcs]
        have := Nat.mul_le_mul_right i.size hroom
        rw [Nat.add_mul, Nat.one_mul] at this
        exact this
      refine ⟨_, _, run_append_room (P := P) w t ty e i ht hi g n cap cur hg a 1 c news (by omega) hnews h1 hroom hfit, ⟨hlen, .inr ⟨g, cap, _, rfl, hbg, setRow_heap w g cur _ e _ hg, hroom, hcm, ?_, ?_⟩⟩, ⟨rfl, rfl, rfl, by simp, fun k _ hk => setRow_other w g k _ (fun e => hk (by simp [Value.ownBlock, e]))⟩, .inl rfl⟩
      · simp only [List.size_toArray, List.length_append, List.length_take, List.length_drop, Array.length_toList]
        omega
      · rw [htake, ← hlen]
        exact List.take_left
    · have ec : cap = n := by omega
      subst ec
      have holds : ∀ j u, xs[j]? = some u → w.cell? ((⟨g, 0, none⟩ : Addr).add j) = some u := hown.cells (g := g) rfl
      refine ⟨_, _, run_append_grow (P := P) w t ty e i z ht hi hz ⟨g, 0, none⟩ cap cap xs hown.1 holds a 1 c news (by omega) hnews (by omega) (by omega) (quarter_fits h256 hb hb0.2),
        ⟨hlen, .inr ⟨w.heap.size, _, _, rfl, hbase, heap_alloc_new w.drew _, grownCap_ge w (cap + 1) cap e, grownCap_le_maxLen w (cap + 1) cap e (by simp only [maxLen]; omega), ?_, ?_⟩⟩, ⟨rfl, rfl, rfl, by simp, fun k hk _ => heap_alloc_old w.drew _ hk⟩, .inr rfl⟩
      · have hge := grownCap_ge w (cap + 1) cap e
        have hx : xs.length + news.length = (cap + 1) * i.size := by rw [← List.length_append]; exact hlen
        simp only [Array.size_append, List.size_toArray, size_zeroCells, hzs, hx, ← Nat.add_mul]
        congr 1
        omega
      · simp only [Array.toList_append, List.append_assoc]
        rw [← List.append_assoc, ← hlen]
        exact List.take_left
section
variable {P : Program} {ops : Array Oper} {o : Oper} {rest : List Oper} {a : Act} {Q : Exit → Act → World → Prop} {α : Type}
theorem R_appendB (d : Kd α) {w0 W : World} (base : Nat) (hgd : o.guard = none) (s x : Operand) (t e : TypeId) (z : Value) (bytes : Nat)
    (ho : o.op = .call { callee := .builtin .append, args := #[s, x], argTypes := #[t, t] })
    (ht : P.underlying t = some (.slice e)) (hinfo : (P.info? e).map (fun i => (i.zero, i.size, i.bytes)) = some (some z, d.sz, bytes)) (hz : z.cells.size = d.sz) (hs0 : 0 < d.sz) (hb0 : 0 < bytes ∧ bytes ≤ 1000000)
    (v : Value) (xs : List α) (p : α) (cs : List Value) (ok okp : Nat → Prop) (hs : a.eval s = v) (hx : a.eval x = .slice (some ⟨W.heap.size, 0, none⟩) 1 1) (hp : d.M W base okp p cs) (hokp : ∀ k, okp k → ok k ∧ some k ≠ v.ownBlock) (hfresh : ∀ k, W.heap.size ≤ k → ok k)
    (HO : d.R e W base ok v xs) (HB : Below base w0 W) (hbase : base ≤ W.heap.size) (hl : (xs.length + 1) * bytes ≤ 187649984473792)
    (h : ∀ v1 w1, d.R e w1 base ok v1 (xs ++ [p]) → Below base w0 w1 → W.grownBy w1 v.ownBlock → (v1.ownBlock = v.ownBlock ∨ ∃ b, v1.ownBlock = some b ∧ W.heap.size ≤ b) → wpList P ops Q rest (a.put o.dst v1) w1) :
    wpList P ops Q (o :: rest) a (W.alloc (.cells cs.toArray e)) := by
  obtain ⟨h0, inner, hown, hr⟩ := HO
  obtain ⟨i0, hi, hzz⟩ := Option.map_eq_some_iff.1 hinfo
  simp only [Prod.mk.injEq] at hzz
  obtain ⟨hz0, hz1, hz2⟩ := hzz
  have hys : cs.length = d.sz := d.K_len (d.K_of_M hp)
  obtain ⟨v1, w1, hrun, hown1, hg, hat⟩ := run_append_big (P := P) (W.alloc (.cells cs.toArray e)) base t o.type e i0 z ht hi hz0 (by rw [hz1]; exact hz) (by rw [hz1]; exact hs0) v xs.length inner (by rw [hz1]; exact hown.alloc _) ⟨W.heap.size, 0, none⟩ 1 cs (by rw [hz1]; exact hys)
    (by simpa using World.news_of_block (cs := cs.toArray) (t := e) (fr := (0, 0)) (heap_alloc_new W (.cells cs.toArray e))) (d.K_one (d.K_of_M hp)) (by rw [hz2]; exact hb0) (by rw [hz2]; exact hl) (by simp; omega)
  rw [hz1] at hown1
  have hg1 := World.grownBy.trans (World.grownBy_alloc W (.cells cs.toArray e) v.ownBlock) hg
  have hat1 : v1.ownBlock = v.ownBlock ∨ ∃ b, v1.ownBlock = some b ∧ W.heap.size ≤ b := by
    rcases hat with hat | hat
    · exact .inl hat
    · exact .inr ⟨_, hat, by simp⟩
  refine wpList_plain hgd fun K hK => ?_
  unfold Oper.wp execOp
  simp only [ho, resolve, invoke, builtin, Sem.run_bind, Sem.run_pure, Result.andThen_ok, List.map_toArray, List.map_cons, List.map_nil, hs, hx, hrun]
  exact hK _ _ (h v1 w1 (Kd.R_appended h0 hr hp hokp hfresh hown1 hg1 hat1) ((HB.alloc hbase _).grown hg (by simp; omega) (own_base hown)) hg1 hat1)
end
/-- The form's own reach, for an argument that is a slice: its length times its elements' bytes. -/
theorem reach_row {H : Type} {enc : TypeId × Value → H} {P : Program} {w : World} {base : Nat} {spare : Nat → Bool} {held : Bool} {t e : TypeId} {A : Option Addr} {len cap : Nat} {dd : DataW H} {ps : List MemPlace} {ts : List TypeId} {ds : List (DataW H)}
    (ht : P.underlying t = some (.slice e)) (hd : DataW.Trod enc P w base spare held t (.slice A len cap) dd ps) (hs : (DataW.weightsEach P ts ds).all (· ≤ reachBytes) = true) {j : Nat} (hj : ts[j]? = some t) (hdj : ds[j]? = some dd) : len * P.bytesOf e ≤ 140737488351232 := by
  obtain ⟨fuel, hf⟩ := hd
  rcases DataW.trod_slice ht hf with ⟨h, _⟩ | ⟨a, len', cap', elems, rest, n, _, hcs, hx, _, _, _, hlen, _⟩
  · have e1 := List.head_eq_of_cons_eq h
    injection e1 with _ e2 _
    rw [e2]
    omega
  · have e1 := List.head_eq_of_cons_eq hcs
    injection e1 with _ e2 _
    have hx1 : dd = .slice (elems.map (·.1)) (rest.map (·.1)) := congrArg Prod.fst hx
    subst hx1
    have z := sized_slice hs hj hdj ht
    have z2 : reachBytes = 140737488351232 := rfl
    rw [List.length_map, List.length_map, Nat.add_mul, hlen, ← e2] at z
    omega
end Go.Proofs.Ytmmaodlngnjmlaa.P
