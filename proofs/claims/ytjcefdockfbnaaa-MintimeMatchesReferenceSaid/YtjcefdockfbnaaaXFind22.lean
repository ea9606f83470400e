/- The reference finds the best path, or tells that there is none. -/
import Derived.Test.YtjcefdockfbnaaaXSearch
import Derived.Test.YtjcefdockfbnaaaXTick22
import Derived.Test.YtjcefdockfbnaaaP2
import Derived.Test.YtjcefdockfbnaaaP5
namespace Go.Proofs.Ytjcefdockfbnaaa.Pure
set_option linter.unusedSimpArgs false
set_option linter.unusedVariables false
open Go.RowKit Go.Proofs.Ytjcefdockfbnaaa.P Go.Proofs.YtjcefdockfbnaaaW.PrintWords Go.Proofs.YtjcefdockfbnaaaW.PrintLast Go.Proofs.YtjcefdockfbnaaaW.PrintMore Go.Proofs.Ytjcefdockfbnaaa.Motion Go.Proofs.Ytjcefdockfbnaaa.Search

abbrev Nm := Nd Mo
def nd (z : Nm) : S69 := ⟨⟨z.m.p, z.m.v, z.m.a⟩, z.fr, z.jk⟩
theorem nd_at {Z : List Nm} {i : Nat} {z : Nm} (h : Z[i]? = some z) : rd_T69 (Z.map nd) (i : Int) = nd z := by
  unfold rd_T69
  rw [Int.toNat_natCast, List.getD_eq_getElem?_getD, List.getElem?_map, h]
  rfl
theorem lt_of_at {Z : List Nm} {i : Nat} {z : Nm} (h : Z[i]? = some z) : i < Z.length := by
  apply Decidable.byContradiction
  intro hc
  rw [List.getElem?_eq_none (by omega)] at h
  cases h
abbrev FInv (L : Lm) (d : Int) (Z : List Nm) (i : Nat) (b : Int) : Prop := Inv L.j Motion.tick (may L d) zero Z i b
theorem zero_may {L : Lm} (hL : ok L) {d : Int} (d0 : 0 ≤ d) : may L d zero := by
  unfold ok at hL
  unfold may zero
  dsimp only
  omega
theorem FInv.may_at {L : Lm} (hL : ok L) {d : Int} (d0 : 0 ≤ d) {Z : List Nm} {i : Nat} {b : Int} (h : FInv L d Z i b) {t : Nat} {z : Nm} (hz : Z[t]? = some z) : may L d z.m :=
  Path.may_end (zero_may hL d0) (path_gpath.2 (h.path t z hz))
theorem FInv.seq_le {L : Lm} {d : Int} {Z : List Nm} {i : Nat} {b : Int} (h : FInv L d Z i b) : ∀ (n t : Nat) (z : Nm), t < n → Z[t]? = some z → z.seq.length ≤ t
  | 0, t, z, h0, _ => by omega
  | n + 1, t, z, h0, hz => by
    rcases h.back hz with ⟨_, rfl, e⟩ | ⟨u, y, hu, _, hy, e⟩
    · rw [e]; exact Nat.le_refl _
    · have := FInv.seq_le h n u y (by omega) hy
      rw [e]
      simp
      omega

/-! ### The jerks of a node, read back -/
section
variable {L : Lm} {d : Int} {Z : List Nm} {i : Nat} {b : Int}
theorem back2 (h : FInv L d Z i b) (hZ : Z.length ≤ 1000000) : ∀ (n t : Nat) (z : Nm) (tail : List Int), t < n → Z[t]? = some z →
    ∃ k, ambidexterref22_Find.l2 k (Z.map nd) (List.replicate z.seq.length 0 ++ tail) (z.seq.length : Int) (t : Int) = some (z.seq ++ tail, true)
  | 0, t, z, tail, h0, _ => by omega
  | n + 1, t, z, tail, h0, hz => by
    have hlt := lt_of_at hz
    have hs := h.seq_le (t + 1) t z (by omega) hz
    rcases h.back hz with ⟨hf, rfl, e⟩ | ⟨u, y, hu, hf, hy, e⟩
    · refine ⟨1, ?_⟩
      rw [ambidexterref22_Find.l2, if_pos (by omega), if_pos (by simp; omega), nd_at hz, if_neg (show ¬ (nd z).f1 ≥ 0 from by show ¬ z.fr ≥ 0; omega), e]
      rfl
    · obtain ⟨k, hk⟩ := back2 h hZ n u y (z.jk :: tail) (by omega) hy
      refine ⟨k + 1, ?_⟩
      have el : z.seq.length = y.seq.length + 1 := by rw [e]; simp
      have es : (List.replicate z.seq.length 0 ++ tail).set y.seq.length z.jk = List.replicate y.seq.length 0 ++ z.jk :: tail := by
        rw [el, List.replicate_succ', List.append_assoc, List.set_append_right _ _ (by simp)]
        simp
      rw [ambidexterref22_Find.l2, if_pos (by omega), if_pos (by simp; omega), nd_at hz, if_pos (show (nd z).f1 ≥ 0 from by show z.fr ≥ 0; omega), w64 (by omega) (by omega), if_pos (by omega), if_pos (by simp; omega),
        show ((z.seq.length : Int) - 1).toNat = y.seq.length by omega, show (nd z).f2 = z.jk from rfl, es, show ((z.seq.length : Int) - 1) = (y.seq.length : Int) by omega, show (nd z).f1 = (u : Int) from hf, hk, e, List.append_assoc]
      rfl
theorem back1 (h : FInv L d Z i b) (hZ : Z.length ≤ 1000000) {x8 : Int} {res : List Int × Bool} : ∀ (n t : Nat) (z : Nm) (c : Nat), t < n → Z[t]? = some z → c + z.seq.length ≤ 1000000 →
    (∃ k, ambidexterref22_Find.l2 k (Z.map nd) (List.replicate (c + z.seq.length) 0) ((c + z.seq.length : Nat) : Int) x8 = some res) →
    ∃ k, ambidexterref22_Find.l1 k (Z.map nd) x8 (List.replicate c 0) (t : Int) = some res
  | 0, t, z, c, h0, _, _, _ => by omega
  | n + 1, t, z, c, h0, hz, hc, hk => by
    have hlt := lt_of_at hz
    rcases h.back hz with ⟨hf, rfl, e⟩ | ⟨u, y, hu, hf, hy, e⟩
    · obtain ⟨k, hk⟩ := hk
      refine ⟨k + 1, ?_⟩
      rw [ambidexterref22_Find.l1, if_pos (by omega), if_pos (by simp; omega), nd_at hz, if_neg (show ¬ (nd z).f1 ≥ 0 from by show ¬ z.fr ≥ 0; omega)]
      rw [e] at hk
      simpa using hk
    · have el : z.seq.length = y.seq.length + 1 := by rw [e]; simp
      obtain ⟨k, hk⟩ := back1 h hZ n u y (c + 1) (by omega) hy (by omega) (by rw [show c + 1 + y.seq.length = c + z.seq.length by omega]; exact hk)
      refine ⟨k + 1, ?_⟩
      rw [ambidexterref22_Find.l1, if_pos (by omega), if_pos (by simp; omega), nd_at hz, if_pos (show (nd z).f1 ≥ 0 from by show z.fr ≥ 0; omega), if_pos (by simp; omega), show (nd z).f1 = (u : Int) from hf, ← List.replicate_succ']
      exact hk
end

/-! ### The table of what has been met -/
theorem spot_eq {L : Lm} (h : ok L) {d : Int} (h0 : 0 ≤ d) (h1 : d ≤ 420) {m : Mo} (hm : may L d m) : ambidexterref22_spot.f L.v L.a L.j m.p m.v m.a = some (idx L m) := by
  have e := of_eq h h0 h1 m.p m.v m.a
  rw [if_pos (show may L d ⟨m.p, m.v, m.a⟩ from hm), mintime_space_of.f] at e
  have hb := h
  unfold ok at hb
  have hm' := hm
  unfold may at hm'
  rw [if_neg (by omega), if_neg (by omega), if_neg (by rw [w64 (by omega) (by omega)]; omega), if_neg (by omega), if_neg (by rw [w64 (by omega) (by omega)]; omega), if_neg (by omega)] at e
  have e1 := congrArg (fun x : Option (Int × Bool) => x.map Prod.fst) e
  exact e1
def mk (L : Lm) (met : List Bool) (m : Mo) : Bool := rdOf false met (idx L m)
theorem mk_at {L : Lm} (h : ok L) {d : Int} (h0 : 0 ≤ d) (h1 : d ≤ 420) {met : List Bool} (hl : (met.length : Int) = many L d) {m : Mo} (hm : may L d m) : ∃ hi : (idx L m).toNat < met.length, mk L met m = met[(idx L m).toNat] := by
  obtain ⟨r0, r1, _⟩ := idx_range h h0 h1 hm
  have hi : (idx L m).toNat < met.length := by omega
  exact ⟨hi, by simp [mk, rdOf, List.getD_eq_getElem?_getD, List.getElem?_eq_getElem hi]⟩
theorem mk_set {L : Lm} (h : ok L) {d : Int} (h0 : 0 ≤ d) (h1 : d ≤ 420) {met : List Bool} (hl : (met.length : Int) = many L d) {m m' : Mo} (hm : may L d m) (hm' : may L d m') :
    mk L (met.set (idx L m').toNat true) m = if m = m' then true else mk L met m := by
  obtain ⟨hi, e⟩ := mk_at h h0 h1 hl hm
  obtain ⟨hi', e'⟩ := mk_at h h0 h1 hl hm'
  obtain ⟨hs, es⟩ := mk_at h h0 h1 (met := met.set (idx L m').toNat true) (by rw [List.length_set]; exact hl) hm
  rw [es, List.getElem_set]
  obtain ⟨r0, _, _⟩ := idx_range h h0 h1 hm
  obtain ⟨r0', _, _⟩ := idx_range h h0 h1 hm'
  by_cases c : m = m'
  · subst c
    rw [if_pos rfl, if_pos rfl]
  · have : (idx L m').toNat ≠ (idx L m).toNat := fun e0 => c (idx_inj h hm hm' (by omega))
    rw [if_neg this, if_neg c, e]
theorem count_set_false {met : List Bool} {i : Nat} (hi : i < met.length) (h : met[i] = false) : (met.set i true).count false + 1 = met.count false := by
  rw [List.count_set hi]
  have : 0 < met.count false := List.count_pos_iff.2 (by rw [← h]; exact List.getElem_mem hi)
  simp [h]
  omega
structure Met (L : Lm) (d : Int) (Z : List Nm) (met : List Bool) : Prop where
  len : (met.length : Int) = many L d
  iff : ∀ m, may L d m → (mk L met m = true ↔ ∃ (t : Nat) (z : Nm), Z[t]? = some z ∧ z.m = m)
def FPost (L : Lm) (d : Int) (res : List Int × Bool) : Prop := (res.2 = true ∧ Best L d res.1) ∨ (res = ([], false) ∧ ¬ ∃ l, Path L d zero l (goal d))
theorem goal_beq (d : Int) (m : Mo) : (m.p == d && (m.v == 0 && (m.a == 0))) = decide (m = goal d) := by
  rw [Bool.eq_iff_iff]
  cases m
  simp [goal]

/-! ### The loops -/
theorem find_in {L : Lm} (hL : ok L) {d : Int} (d0 : 0 ≤ d) (d1 : d ≤ 420) {N M : Nat} (hM : M ≤ 100000)
    (IH : ∀ (met : List Bool) (Z : List Nm) (i : Nat), FInv L d Z i (-L.j) → Met L d Z met → (∀ (t : Nat) (z : Nm), t < i → Z[t]? = some z → z.m ≠ goal d) → i ≤ Z.length → met.count false + Z.length = M → met.count false + (Z.length - i) = N →
      ∃ k res, ambidexterref22_Find.l0 k d met (Z.map nd) (i : Int) L.v L.a L.j = some res ∧ FPost L d res) :
    ∀ (r : Nat) (met : List Bool) (Z : List Nm) (i : Nat) (x : Nm) (j : Int), FInv L d Z i j → Met L d Z met → (∀ (t : Nat) (z : Nm), t < i + 1 → Z[t]? = some z → z.m ≠ goal d) → Z[i]? = some x → j + r = L.j + 1 → -L.j ≤ j → met.count false + Z.length = M → met.count false + (Z.length - i) = N + 1 →
      ∃ k res, ambidexterref22_Find.l3 k d met (Z.map nd) (i : Int) j L.v L.a L.j = some res ∧ FPost L d res
  | 0, met, Z, i, x, j, h, q, ng, hx, hr, hj, hMe, hN => by
    have hlt := lt_of_at hx
    have hcl : met.count false ≤ met.length := List.count_le_length
    obtain ⟨k, res, hk, hp⟩ := IH met Z (i + 1) (h.next (by omega)) q ng (by omega) hMe (by omega)
    refine ⟨k + 1, res, ?_, hp⟩
    rw [ambidexterref22_Find.l3, if_neg (by omega), w64 (by omega) (by omega)]
    exact hk
  | r + 1, met, Z, i, x, j, h, q, ng, hx, hr, hj, hMe, hN => by
    have hb := hL
    unfold ok at hb
    have hlt := lt_of_at hx
    have hj1 : j ≤ L.j := by omega
    have hxm := FInv.may_at hL d0 h hx
    have hstep : ∀ k, ambidexterref22_Find.l3 (k + 1) d met (Z.map nd) (i : Int) j L.v L.a L.j = (if may L d (tick x.m j) then ((ambidexterref22_spot.f L.v L.a L.j (tick x.m j).p (tick x.m j).v (tick x.m j).a).bind fun t240 => (if 0 ≤ t240 then (if t240 < (met.length : Int) then (if rdOf false met t240 = true then (ambidexterref22_Find.l3 k d met (Z.map nd) (i : Int) (j + 1) L.v L.a L.j) else ((ambidexterref22_spot.f L.v L.a L.j (tick x.m j).p (tick x.m j).v (tick x.m j).a).bind fun t242 => (if 0 ≤ t242 then (if t242 < (met.length : Int) then (if (Z.map nd).length < 3518437208883 then (ambidexterref22_Find.l3 k d (met.set (t242 : Int).toNat true) ((Z.map nd) ++ [(⟨(⟨(tick x.m j).p, (tick x.m j).v, (tick x.m j).a⟩ : S37), (i : Int), j⟩ : S69)]) (i : Int) (j + 1) L.v L.a L.j) else (none)) else (none)) else (none)))) else (none)) else (none))) else ambidexterref22_Find.l3 k d met (Z.map nd) (i : Int) (j + 1) L.v L.a L.j) := by
      intro k
      have c0 : (i : Int) < ((Z.map nd).length : Int) := by rw [List.length_map]; omega
      have ht := tick22 hL d1 hxm ⟨hj, hj1⟩
      have hy := may22 hL d (tick x.m j)
      have hw : wrap64 (j + 1) = j + 1 := w64 (by omega) (by omega)
      rw [ambidexterref22_Find.l3, if_pos hj1, if_pos (Int.natCast_nonneg i), if_pos c0, nd_at hx, show (nd x).f0.f0 = x.m.p from rfl, show (nd x).f0.f1 = x.m.v from rfl, show (nd x).f0.f2 = x.m.a from rfl, ht, Option.bind_some, hy, Option.bind_some, hw]
      by_cases c : may L d (tick x.m j)
      · rw [if_pos (decide_eq_true c), if_pos c]
      · rw [if_neg (by simpa using c), if_neg c]
    by_cases hm : may L d (tick x.m j)
    · obtain ⟨s0, s1, s2⟩ := idx_range hL d0 d1 hm
      have hsp := spot_eq hL d0 d1 hm
      have hlen := q.len
      by_cases hl : mk L met (tick x.m j) = true
      · obtain ⟨k, res, hk, hp⟩ := find_in hL d0 d1 hM IH r met Z i x (j + 1) (h.skip (by omega) hx hj (fun _ => (q.iff _ hm).1 hl)) q ng hx (by omega) (by omega) hMe hN
        refine ⟨k + 1, res, ?_, hp⟩
        rw [hstep, if_pos hm, hsp]
        simp only [Option.bind_some]
        rw [if_pos s0, if_pos (by omega), if_pos (show rdOf false met (idx L (tick x.m j)) = true from hl)]
        exact hk
      · obtain ⟨hi, ei⟩ := mk_at hL d0 d1 hlen hm
        have ef : met[(idx L (tick x.m j)).toNat] = false := by
          rw [ei] at hl
          simpa using hl
        have hc := count_set_false hi ef
        have hcl : met.count false ≤ met.length := List.count_le_length
        have hnew : ∀ (t : Nat) (z : Nm), Z[t]? = some z → z.m ≠ tick x.m j := fun t z hz e => hl ((q.iff _ hm).2 ⟨t, z, hz, e⟩)
        have h' := h.push (by omega) hx hj hj1 hm hnew
        have q' : Met L d (Z ++ [⟨tick x.m j, i, j, x.seq ++ [j]⟩]) (met.set (idx L (tick x.m j)).toNat true) := by
          refine ⟨by rw [List.length_set]; exact hlen, fun m hm' => ?_⟩
          rw [mk_set hL d0 d1 hlen hm' hm]
          by_cases c : m = tick x.m j
          · rw [if_pos c]
            exact ⟨fun _ => ⟨Z.length, _, by simp; rfl, c.symm⟩, fun _ => rfl⟩
          · rw [if_neg c, q.iff m hm']
            constructor
            · rintro ⟨t, z, hz, e⟩
              exact ⟨t, z, by rw [List.getElem?_append_left (lt_of_at hz)]; exact hz, e⟩
            · rintro ⟨t, z, hz, e⟩
              by_cases ct : t < Z.length
              · rw [List.getElem?_append_left ct] at hz
                exact ⟨t, z, hz, e⟩
              · have ht0 : t = Z.length := by
                  have := lt_of_at hz
                  simp at this
                  omega
                subst ht0
                simp at hz
                rw [← hz] at e
                exact absurd e.symm c
        have ng' : ∀ (t : Nat) (z : Nm), t < i + 1 → (Z ++ [(⟨tick x.m j, i, j, x.seq ++ [j]⟩ : Nm)])[t]? = some z → z.m ≠ goal d := by
          intro t z ht hz
          rw [List.getElem?_append_left (by omega)] at hz
          exact ng t z ht hz
        obtain ⟨k, res, hk, hp⟩ := find_in hL d0 d1 hM IH r _ _ i x (j + 1) h' q' ng' (by rw [List.getElem?_append_left hlt]; exact hx) (by omega) (by omega) (by simp; omega) (by simp; omega)
        refine ⟨k + 1, res, ?_, hp⟩
        rw [hstep, if_pos hm, hsp]
        simp only [Option.bind_some]
        rw [if_pos s0, if_pos (by omega), if_neg (show ¬ rdOf false met (idx L (tick x.m j)) = true from hl), if_pos s0, if_pos (by omega), if_pos (by simp; omega)]
        rw [List.map_append] at hk
        exact hk
    · obtain ⟨k, res, hk, hp⟩ := find_in hL d0 d1 hM IH r met Z i x (j + 1) (h.skip (by omega) hx hj (fun hp => absurd hp hm)) q ng hx (by omega) (by omega) hMe hN
      refine ⟨k + 1, res, ?_, hp⟩
      rw [hstep, if_neg hm]
      exact hk
theorem find_run {L : Lm} (hL : ok L) {d : Int} (d0 : 0 ≤ d) (d1 : d ≤ 420) {M : Nat} (hM : M ≤ 100000) : ∀ (N : Nat) (met : List Bool) (Z : List Nm) (i : Nat), FInv L d Z i (-L.j) → Met L d Z met → (∀ (t : Nat) (z : Nm), t < i → Z[t]? = some z → z.m ≠ goal d) → i ≤ Z.length → met.count false + Z.length = M → met.count false + (Z.length - i) = N →
    ∃ k res, ambidexterref22_Find.l0 k d met (Z.map nd) (i : Int) L.v L.a L.j = some res ∧ FPost L d res := by
  have hb := hL
  unfold ok at hb
  have hend : ∀ (met : List Bool) (Z : List Nm) (i : Nat), FInv L d Z i (-L.j) → (∀ (t : Nat) (z : Nm), t < i → Z[t]? = some z → z.m ≠ goal d) → i = Z.length →
      ∃ k res, ambidexterref22_Find.l0 k d met (Z.map nd) (i : Int) L.v L.a L.j = some res ∧ FPost L d res := by
    intro met Z i h ng hi
    refine ⟨1, ([], false), by rw [ambidexterref22_Find.l0, if_neg (by simp; omega)], .inr ⟨rfl, ?_⟩⟩
    rintro ⟨l, hl⟩
    obtain ⟨t, z, hz, e⟩ := h.full (by omega) (by omega) (path_gpath.1 hl)
    exact ng t z (by have := lt_of_at hz; omega) hz e
  intro N
  induction N with
  | zero =>
    intro met Z i h q ng hi hMe hN
    exact hend met Z i h ng (by omega)
  | succ N IH =>
    intro met Z i h q ng hi hMe hN
    by_cases c : i = Z.length
    · exact hend met Z i h ng c
    · have hlt : i < Z.length := by omega
      obtain ⟨x, hx⟩ : ∃ x, Z[i]? = some x := ⟨Z[i], List.getElem?_eq_getElem hlt⟩
      have hl0 : ∀ k, ambidexterref22_Find.l0 (k + 1) d met (Z.map nd) (i : Int) L.v L.a L.j = if x.m = goal d then ambidexterref22_Find.l1 k (Z.map nd) (i : Int) [] (i : Int) else ambidexterref22_Find.l3 k d met (Z.map nd) (i : Int) (-L.j) L.v L.a L.j := by
        intro k
        rw [ambidexterref22_Find.l0, if_pos (by simpa using hlt), if_pos (by omega), nd_at hx, show (nd x).f0.f0 = x.m.p from rfl, show (nd x).f0.f1 = x.m.v from rfl, show (nd x).f0.f2 = x.m.a from rfl, goal_beq, w64 (by omega) (by omega)]
        by_cases cg : x.m = goal d
        · rw [if_pos (decide_eq_true cg), if_pos cg]
        · rw [if_neg (by simpa using cg), if_neg cg]
      by_cases cg : x.m = goal d
      · have hZ' : Z.length ≤ 1000000 := by omega
        obtain ⟨k2, hk2⟩ := back2 h hZ' (i + 1) i x [] (by omega) hx
        have hs := h.seq_le (i + 1) i x (by omega) hx
        obtain ⟨k, hk⟩ := back1 h hZ' (x8 := (i : Int)) (res := (x.seq, true)) (i + 1) i x 0 (by omega) hx (by omega) ⟨k2, by simpa using hk2⟩
        refine ⟨k + 1, (x.seq, true), by rw [hl0, if_pos cg]; exact hk, .inl ⟨rfl, ?_, fun l hl => ?_⟩⟩
        · have := path_gpath.2 (h.path i x hx)
          rw [cg] at this
          exact this
        · rw [← cg] at hl
          exact h.best (by omega) hx (path_gpath.1 hl)
      · obtain ⟨r, hr⟩ : ∃ r : Nat, -L.j + (r : Int) = L.j + 1 := ⟨(2 * L.j + 1).toNat, by omega⟩
        obtain ⟨k, res, hk, hp⟩ := find_in hL d0 d1 hM IH r met Z i x (-L.j) h q (fun t z ht hz => by
          by_cases e : t = i
          · subst e
            rw [hx] at hz
            cases hz
            exact cg
          · exact ng t z (by omega) hz) hx hr (Int.le_refl _) hMe (by omega)
        exact ⟨k + 1, res, by rw [hl0, if_neg cg]; exact hk, hp⟩
theorem find_ok {L : Lm} (hL : ok L) {d : Int} (d0 : 0 ≤ d) (d1 : d ≤ 420) : ∃ k res, ambidexterref22_Find.f k L.v L.a L.j d = some res ∧ FPost L d res := by
  have hb := hL
  unfold ok at hb
  have hz := zero_may hL d0
  obtain ⟨r0, r1, r2⟩ := idx_range hL d0 d1 hz
  obtain ⟨M, hM⟩ : ∃ M : Nat, (M : Int) = many L d := ⟨(many L d).toNat, by omega⟩
  have hlr : ((List.replicate M false).length : Int) = many L d := by simp; exact hM
  have hlen : (((List.replicate M false).set (idx L zero).toNat true).length : Int) = many L d := by rw [List.length_set]; exact hlr
  have hi : (idx L zero).toNat < (List.replicate M false).length := by simp; omega
  have hcount : ((List.replicate M false).set (idx L zero).toNat true).count false + 1 = M := by
    rw [count_set_false hi (by simp)]
    simp
  have q : Met L d [⟨zero, -1, 0, []⟩] ((List.replicate M false).set (idx L zero).toNat true) := by
    refine ⟨hlen, fun m hm => ?_⟩
    rw [mk_set hL d0 d1 hlr hm hz]
    by_cases c : m = zero
    · rw [if_pos c]
      exact ⟨fun _ => ⟨0, _, rfl, c.symm⟩, fun _ => rfl⟩
    · rw [if_neg c]
      obtain ⟨hi2, e⟩ := mk_at hL d0 d1 hlr hm
      rw [e]
      constructor
      · intro h; simp at h
      · rintro ⟨t, z, hz, e⟩
        cases t with
        | zero => cases hz; exact absurd e.symm c
        | succ t => simp at hz
  obtain ⟨k, res, hk, hp⟩ := find_run hL d0 d1 (M := M) (by omega) M ((List.replicate M false).set (idx L zero).toNat true) [⟨zero, -1, 0, []⟩] 0 (Inv.start _ _ _ _ _) q (fun t z ht _ => by omega) (by simp) (by simpa using hcount) (by simpa using hcount)
  refine ⟨k + 1, res, ?_, hp⟩
  have hmay : ambidexterref21_May.f L.v L.a L.j = some true := by
    unfold ambidexterref21_May.f
    rw [if_pos (by omega), if_pos (by omega), if_pos (by omega), if_pos (by omega), if_pos (by omega), decide_eq_true (by omega)]
  have hmany := many_eq hL d0 d1
  unfold mintime_space_many.f at hmany
  have hmany' := Option.some.inj hmany
  have hMt : (many L d).toNat = M := by omega
  have hs := spot_eq hL d0 d1 hz
  have hs' : ambidexterref22_spot.f L.v L.a L.j 0 0 0 = some (idx L zero) := hs
  rw [ambidexterref22_Find.f, hmay]
  simp only [Option.bind_some]
  rw [if_pos trivial, if_neg (by omega), decide_eq_false (by omega), ambidexterref22_Find.j0, if_neg (by decide), hmany', if_pos (by omega), if_pos (by omega), hMt]
  simp only [Option.bind_some, List.length_cons, List.length_nil]
  have e0 : rd_T69 [(⟨(⟨0, 0, 0⟩ : S37), (-1), 0⟩ : S69)] 0 = ⟨⟨0, 0, 0⟩, -1, 0⟩ := rfl
  rw [if_pos (by omega), e0, hs']
  simp only [Option.bind_some]
  rw [if_pos r0, if_pos (by rw [hlr]; exact r1)]
  exact hk
theorem find_no {v a j d : Int} (h : ¬ (ok ⟨v, a, j⟩ ∧ 0 ≤ d ∧ d ≤ 420)) (k : Nat) : ambidexterref22_Find.f (k + 1) v a j d = some ([], false) := by
  have hj : ambidexterref22_Find.j0 (k + 1) d true v a j = some ([], false) := by rw [ambidexterref22_Find.j0, if_pos rfl]
  obtain ⟨b, hmay, hiff⟩ : ∃ b, ambidexterref21_May.f v a j = some b ∧ (b = true ↔ (1 ≤ v ∧ v ≤ 8 ∧ 1 ≤ a ∧ a ≤ 4 ∧ 1 ≤ j ∧ j ≤ 2)) := by
    unfold ambidexterref21_May.f
    by_cases c1 : v ≥ 1
    · by_cases c2 : v ≤ 8
      · by_cases c3 : a ≥ 1
        · by_cases c4 : a ≤ 4
          · by_cases c5 : j ≥ 1
            · rw [if_pos c1, if_pos c2, if_pos c3, if_pos c4, if_pos c5]
              exact ⟨_, rfl, by rw [decide_eq_true_eq]; omega⟩
            · rw [if_pos c1, if_pos c2, if_pos c3, if_pos c4, if_neg c5]
              exact ⟨_, rfl, by simp; omega⟩
          · rw [if_pos c1, if_pos c2, if_pos c3, if_neg c4]
            exact ⟨_, rfl, by simp; omega⟩
        · rw [if_pos c1, if_pos c2, if_neg c3]
          exact ⟨_, rfl, by simp; omega⟩
      · rw [if_pos c1, if_neg c2]
        exact ⟨_, rfl, by simp; omega⟩
    · rw [if_neg c1]
      exact ⟨_, rfl, by simp; omega⟩
  rw [ambidexterref22_Find.f, hmay]
  simp only [Option.bind_some]
  by_cases c : ok ⟨v, a, j⟩
  · rw [if_pos (hiff.2 c)]
    by_cases c1 : d < 0
    · rw [if_pos c1]; exact hj
    · rw [if_neg c1, decide_eq_true (show d > 420 by have h2 : ¬ (0 ≤ d ∧ d ≤ 420) := fun e => h ⟨c, e⟩; omega)]
      exact hj
  · rw [if_neg (fun e => c (hiff.1 e))]
    exact hj
theorem same_l0 (l : List Int) (hl : l.length ≤ 1000000) : ∀ (n i : Nat), i + n = l.length → ambidexterref22_Same.l0 (n + 1) l l (i : Int) = some true
  | 0, i, h => by rw [ambidexterref22_Same.l0, if_neg (by omega)]
  | n + 1, i, h => by
    rw [ambidexterref22_Same.l0, if_pos (by omega), if_pos (by omega), if_pos (by omega), if_pos rfl, wi (by omega) (show i < l.length by omega)]
    exact same_l0 l hl n (i + 1) (by omega)
theorem same22 {l : List Int} (hl : l.length ≤ 1000000) {k : Nat} (hk : l.length + 1 ≤ k) : ambidexterref22_Same.f k l l = some true := by
  refine at_rounds (ambidexterref22_Same.mono l l) hk ?_
  rw [ambidexterref22_Same.f, if_pos rfl]
  exact same_l0 l hl l.length 0 (by omega)
end Go.Proofs.Ytjcefdockfbnaaa.Pure
