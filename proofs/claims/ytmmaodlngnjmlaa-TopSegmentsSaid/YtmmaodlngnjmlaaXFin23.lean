/- A profile played from rest: its end, its limits, the reference's end. -/
import Derived.Test.YtmmaodlngnjmlaaXTime23
import Derived.Test.YtmmaodlngnjmlaaP1
import Derived.Test.YtmmaodlngnjmlaaP8
namespace Go.Proofs.Ytmmaodlngnjmlaa.Pure
set_option linter.unusedSimpArgs false
set_option linter.unusedVariables false
open Go.RowKit Go.Proofs.Ytmmaodlngnjmlaa.P Go.Proofs.YtmmaodlngnjmlaaW.PrintWords Go.Proofs.YtmmaodlngnjmlaaW.PrintLast Go.Proofs.YtmmaodlngnjmlaaW.PrintMore Go.Proofs.Ytmmaodlngnjmlaa.Motion Go.Proofs.Ytmmaodlngnjmlaa.Ticks
theorem final_path {L : Lm} (hL : ok L) {d : Int} (d1 : d ≤ 420) {l : List Int} (hl : l.length ≤ 1000000) {m m' : Mo} (hm : may L d m) (h : Path L d m l m') : profile_Final.f m.p m.v m.a l = some (m'.p, m'.v, m'.a) := by
  unfold profile_Final.f
  rw [if_pos (by omega), tr_path hL d1 hm h, pz_last, h.run]
theorem withinB_of {n most : Int} (h0 : -most ≤ n) (h1 : n ≤ most) (hm : most ≤ 1000) : withinB n most = true := by
  unfold withinB mx
  rw [w64 (by omega) (by omega)]
  split <;> simp <;> omega
theorem within_path {L : Lm} (hL : ok L) {d : Int} (d1 : d ≤ 420) {l : List Int} (hl : l.length ≤ 1000000) {m m' : Mo} (hm : may L d m) (h : Path L d m l m') : profile_Within.f L.v L.a L.j m.p m.v m.a l = some true := by
  have hb := hL
  unfold ok at hb
  have fits : ∀ {x : Mo}, may L d x → fitsB L.v L.a L.j x.p x.v x.a = true := by
    intro x hx
    unfold may at hx
    unfold fitsB
    rw [withinB_of (by omega) (by omega) (by omega), withinB_of (by omega) (by omega) (by omega)]
    rfl
  have all : ∀ (l : List Int) (m : Mo), Path L d m l m' → ((pz m l).all fun q => withinB q.1 L.j && fitsB L.v L.a L.j q.2.1 q.2.2.1 q.2.2.2) = true := by
    intro l
    induction l with
    | nil => intro m _; rfl
    | cons j l ih =>
      intro m h
      rw [pz, List.all_cons, ih (tick m j) h.2.2.2, withinB_of h.1 h.2.1 (by omega), fits h.2.2.1]
      rfl
  unfold profile_Within.f
  rw [if_pos (by omega), tr_path hL d1 hm h, all l m h, fits hm]
  rfl
theorem rd_at {l : List Int} {i : Nat} (h : i < l.length) : rd l (i : Int) = l[i] := by simp [rd, List.getD_eq_getElem?_getD, List.getElem?_eq_getElem h]
theorem wi {i n : Nat} (hn : n ≤ 1000000000000) (h : i < n) : wrap64 ((i : Int) + 1) = ((i + 1 : Nat) : Int) := by rw [w64 (by omega) (by omega)]; rfl
theorem tick_ (p v a j : Int) : ambidexterref21_Tick.f p v a j = some (wrap64 (p + wrap64 (v + wrap64 (a + j))), wrap64 (v + wrap64 (a + j)), wrap64 (a + j)) := rfl
theorem drop_at {l : List Int} {i : Nat} (h : i < l.length) : l.drop i = l[i] :: l.drop (i + 1) := List.drop_eq_getElem_cons h

theorem lastOf_cons (p v a : Int) (x : Int × Int × Int × Int) (l : List (Int × Int × Int × Int)) : lastOf p v a (x :: l) = lastOf x.2.1 x.2.2.1 x.2.2.2 l := by
  cases l with
  | nil => rfl
  | cons y l => simp [lastOf, List.getLast?_cons]
theorem end_l0 {l : List Int} (hl : l.length ≤ 1000000) : ∀ (n i : Nat) (p v a : Int), i + n = l.length → ambidexterref21_End.l0 (n + 1) l i p v a = some (lastOf p v a (tr p v a (l.drop i)))
  | 0, i, p, v, a, h => by rw [ambidexterref21_End.l0, if_neg (by omega), List.drop_of_length_le (by omega)]; rfl
  | n + 1, i, p, v, a, h => by
    have hi : i < l.length := by omega
    rw [ambidexterref21_End.l0, if_pos (by omega), if_pos (by omega), rd_at hi, wi (by omega) hi, tick_]
    simp only [Option.bind_some]
    rw [end_l0 hl n (i + 1) _ _ _ (by omega), drop_at hi, tr, lastOf_cons]
theorem end_ {l : List Int} (hl : l.length ≤ 1000000) (p v a : Int) {k : Nat} (hk : l.length + 1 ≤ k) : ambidexterref21_End.f k p v a l = some (lastOf p v a (tr p v a l)) := by
  refine at_rounds (ambidexterref21_End.mono p v a l) hk ?_
  have := end_l0 hl l.length 0 p v a (by omega)
  simpa [ambidexterref21_End.f] using this
end Go.Proofs.Ytmmaodlngnjmlaa.Pure
