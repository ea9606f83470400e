/- How an argument's reading (as data) is laid open into a plain Lean value, kind by kind: whole numbers, bools, strings, structs, arrays, slices of these. No condition. -/
import Derived.Test.YtmmaodlngnjmlaaWWords
import Derived.Deep.Slices
import Derived.OpenShut
import Derived.SizedLaws
namespace Go.Proofs.Ytmmaodlngnjmlaa.Opn
open Go.RowKit Go.ChangeShapes Go.WideShapes Go.Deep Go.Proofs.YtmmaodlngnjmlaaW.PrintWords

/-- Whatever reads as data of type t is, as cells, a value of the kind d with the property ok. -/
structure Opens {α : Type} (P : Program) (t : TypeId) (d : Kd α) (ok : α → Prop) : Prop where
  cells : P.cellsOf t = d.sz
  op : ∀ {H : Type} {enc : TypeId × Value → H} {w : World} {base : Nat} {spare : Nat → Bool} {held : Bool} {fuel : Nat} {cs : List Value} {x : DataW H × List MemPlace},
    DataW.trod enc P w base spare held fuel t cs = some x → ∃ a, d.K w a cs ∧ ok a

theorem Opens.int {P : Program} {t : TypeId} {k : IntKind} (h : P.underlying t = some (.int k)) (hc : P.cellsOf t = 1) : Opens P t (Kd.int k) (fun a => (Lit.int k a).wf = true) :=
  ⟨hc, fun hx => by
    obtain ⟨n, rfl, _, hw⟩ := DataW.trod_int h hx
    exact ⟨n, rfl, hw⟩⟩
theorem Opens.bool {P : Program} {t : TypeId} (h : P.underlying t = some .bool) (hc : P.cellsOf t = 1) : Opens P t Kd.bool (fun _ => True) :=
  ⟨hc, fun hx => by
    obtain ⟨n, rfl, _⟩ := DataW.trod_bool h hx
    exact ⟨n, rfl, trivial⟩⟩
theorem Opens.string {P : Program} {t : TypeId} (h : P.underlying t = some .string) (hc : P.cellsOf t = 1) : Opens P t Kd.string (fun s => s.size ≤ maxLen) :=
  ⟨hc, fun hx => by
    obtain ⟨n, rfl, _, hw⟩ := DataW.trod_string h hx
    exact ⟨n, rfl, hw⟩⟩

/-- Parts in line (a type and the cell at which it begins), from the cell off on. -/
structure OpensF {β : Type} (P : Program) (fs : List (TypeId × Nat)) (off : Nat) (d : Kd β) (ok : β → Prop) : Prop where
  op : ∀ {H : Type} {enc : TypeId × Value → H} {w : World} {base : Nat} {spare : Nat → Bool} {held : Bool} {n : Nat} {cs : List Value}, cs.length = off + d.sz →
    (∀ f ∈ fs, ∃ y, DataW.trod enc P w base spare held n f.1 ((cs.drop f.2).take (P.cellsOf f.1)) = some y) → ∃ b, d.K w b (cs.drop off) ∧ ok b

theorem OpensF.one {β : Type} {P : Program} {t : TypeId} {off : Nat} {d : Kd β} {ok : β → Prop} (h : Opens P t d ok) : OpensF P [(t, off)] off d ok :=
  ⟨fun {H enc w base spare held n cs} hl hf => by
    obtain ⟨y, hy⟩ := hf _ (List.mem_singleton.2 rfl)
    obtain ⟨a, hk, ha⟩ := h.op hy
    rw [h.cells, List.take_of_length_le (by rw [List.length_drop]; omega)] at hk
    exact ⟨a, hk, ha⟩⟩
theorem OpensF.cons {α β : Type} {P : Program} {t : TypeId} {off : Nat} {fs : List (TypeId × Nat)} {a : Kd α} {b : Kd β} {oka : α → Prop} {okb : β → Prop} (h : Opens P t a oka) (hr : OpensF P fs (off + a.sz) b okb) :
    OpensF P ((t, off) :: fs) off (Kd.pair a b) (fun x => oka x.1 ∧ okb x.2) :=
  ⟨fun {H enc w base spare held n cs} hl hf => by
    obtain ⟨y, hy⟩ := hf _ List.mem_cons_self
    obtain ⟨x, hk, hx⟩ := h.op hy
    have hl2 : cs.length = off + a.sz + b.sz := by
      rw [hl]
      show off + (a.sz + b.sz) = _
      omega
    obtain ⟨z, hz, hokz⟩ := hr.op hl2 (fun f hm => hf f (List.mem_cons_of_mem _ hm))
    rw [h.cells] at hk
    refine ⟨(x, z), ⟨_, _, ?_, hk, hz⟩, hx, hokz⟩
    rw [← List.drop_drop, List.take_append_drop]⟩

theorem Opens.struct {α β : Type} {P : Program} {t : TypeId} {fs : Array Field} {L : List (TypeId × Nat)} {D : Kd β} {ok : β → Prop} (hs : P.underlying t = some (.struct fs)) (hL : fs.toList.map (fun f => (f.type, f.offset)) = L)
    (hF : OpensF P L 0 D ok) (hc : P.cellsOf t = D.sz) (f : α → β) (g : β → α) (hfg : ∀ b, f (g b) = b) : Opens P t (Kd.iso D f) (fun x => ok (f x)) :=
  ⟨hc, fun {H enc w base spare held fuel cs x} hx => by
    obtain ⟨xs, n, _, _, hl, hxl, hf⟩ := DataW.trod_struct hs hx
    have hl' : cs.length = 0 + D.sz := by omega
    obtain ⟨b, hb, hok⟩ := hF.op (enc := enc) (w := w) (base := base) (spare := spare) (held := held) (n := n) hl' (fun p hp => by
      rw [← hL] at hp
      obtain ⟨q, hq, rfl⟩ := List.mem_map.1 hp
      obtain ⟨i, hi, hqi⟩ := List.getElem_of_mem hq
      have hi' : i < fs.size := by simpa using hi
      have h1 : fs[i]? = some q := by rw [Array.getElem?_eq_getElem hi']; rw [← hqi]; simp
      have h2 := hf i q h1
      rw [List.getElem?_eq_getElem (by omega)] at h2
      exact ⟨_, h2⟩)
    exact ⟨g b, by
      show D.K w (f (g b)) cs
      rw [hfg]
      exact hb, by
      show ok (f (g b))
      rw [hfg]
      exact hok⟩⟩
theorem Opens.array {α β : Type} {P : Program} {t e : TypeId} {n : Nat} {L : List (TypeId × Nat)} {D : Kd β} {ok : β → Prop} (hs : P.underlying t = some (.array n e)) (hL : (List.range n).map (fun i => (e, i * P.cellsOf e)) = L)
    (hF : OpensF P L 0 D ok) (hc : P.cellsOf t = D.sz) (f : α → β) (g : β → α) (hfg : ∀ b, f (g b) = b) : Opens P t (Kd.iso D f) (fun x => ok (f x)) :=
  ⟨hc, fun {H enc w base spare held fuel cs x} hx => by
    obtain ⟨xs, m, _, _, hl, hxl, hf⟩ := DataW.trod_array hs hx
    have hl' : cs.length = 0 + D.sz := by omega
    obtain ⟨b, hb, hok⟩ := hF.op (enc := enc) (w := w) (base := base) (spare := spare) (held := held) (n := m) hl' (fun p hp => by
      rw [← hL] at hp
      obtain ⟨i, hi, rfl⟩ := List.mem_map.1 hp
      have hi' : i < n := List.mem_range.1 hi
      have h2 := hf i hi'
      rw [List.getElem?_eq_getElem (by omega)] at h2
      exact ⟨_, h2⟩)
    exact ⟨g b, by
      show D.K w (f (g b)) cs
      rw [hfg]
      exact hb, by
      show ok (f (g b))
      rw [hfg]
      exact hok⟩⟩

theorem list_of {α : Type} {p : Nat → α → Prop} (n : Nat) (h : ∀ i, i < n → ∃ x, p i x) : ∃ l : List α, l.length = n ∧ ∀ i x, l[i]? = some x → p i x := by
  induction n with
  | zero => exact ⟨[], rfl, fun i x hx => by simp at hx⟩
  | succ n ih =>
    obtain ⟨l, hl, hp⟩ := ih (fun i hi => h i (Nat.lt_succ_of_lt hi))
    obtain ⟨y, hy⟩ := h n (Nat.lt_succ_self n)
    refine ⟨l ++ [y], by simp [hl], fun i x hx => ?_⟩
    rcases Nat.lt_trichotomy i n with hi | hi | hi
    · rw [List.getElem?_append_left (by omega)] at hx
      exact hp i x hx
    · subst hi
      rw [List.getElem?_append_right (by omega), hl, Nat.sub_self] at hx
      have : y = x := by simpa using hx
      rw [← this]
      exact hy
    · rw [List.getElem?_eq_none (by simp; omega)] at hx
      cases hx

theorem Opens.slice {α : Type} {P : Program} {t e : TypeId} {d : Kd α} {ok : α → Prop} (ht : P.underlying t = some (.slice e)) (hc : P.cellsOf t = 1) (h : Opens P e d ok) :
    Opens P t (Kd.slice e d) (fun l => l.length ≤ maxLen ∧ ∀ x ∈ l, ok x) :=
  ⟨hc, fun {H enc w base spare held fuel cs x} hx => by
    rcases open_slice ht hx with ⟨rfl, _⟩ | ⟨a, len, cap, m, n, D, Pl, rfl, _, hlc, hcm, hm, _, hi⟩
    · exact ⟨[], ⟨none, 0, rfl, Nat.le_refl _, rfl, by simp, fun h0 => absurd h0 (by simp)⟩, by simp, by simp⟩
    · have hle : len ≤ m := by
        rw [hm]
        split <;> omega
      obtain ⟨l, hl, hp⟩ := list_of (p := fun i y => ∃ c : List Value, c.length = d.sz ∧ d.K w y c ∧ ok y ∧ ∀ j u, c[j]? = some u → w.cell? (a.add (i * d.sz + j)) = some u) len (fun i hlt => by
        obtain ⟨c, hcells, htr⟩ := hi i (by omega)
        obtain ⟨y, hk, hy⟩ := h.op htr
        rw [h.cells] at hcells
        obtain ⟨_, hcl, hat⟩ := World.cells?_some hcells
        refine ⟨y, c, hcl, hk, hy, fun j u hu => ?_⟩
        have hj : j < c.length := (List.getElem?_eq_some_iff.1 hu).1
        rw [← Go.Deep.add_add, hat j (by omega), hu])
      have hmax : len ≤ maxLen := by omega
      refine ⟨l, ⟨some a, cap, by rw [hl], by omega, ⟨rfl, by rw [hl]; unfold maxLen at hmax; omega, fun _ => ⟨a, rfl, fun j p hj => ?_⟩⟩⟩, by rw [hl]; exact hmax, fun y hy => ?_⟩
      · obtain ⟨c, h1, h2, _, h4⟩ := hp j p hj
        exact ⟨c, h1, h2, h4⟩
      · obtain ⟨i, hi', rfl⟩ := List.getElem_of_mem hy
        obtain ⟨c, _, _, h3, _⟩ := hp i _ (List.getElem?_eq_getElem hi')
        exact h3⟩

/-! ### Parameters -/
section
variable {H : Type} {enc : TypeId × Value → H} {P : Program} {w : World} {base : Nat} {spare : Nat → Bool} {held : Bool} {r : Reach} {b0 : Nat} {t : TypeId} {v : Value} {dd : DataW H} {ps : List MemPlace}
theorem open_agg {α : Type} {fs : Array Field} {d : Kd α} {ok : α → Prop} (ht : P.underlying t = some (.struct fs)) (h : Opens P t d ok) (hv : Value.okWide P w r b0 t v) (hd : DataW.Trod enc P w base spare held t v dd ps) :
    ∃ (a : α) (cs : List Value), v = .agg cs.toArray ∧ d.K w a cs ∧ ok a := by
  obtain ⟨cs, rfl, _⟩ := okWide_struct ht hv
  obtain ⟨fuel, hf⟩ := hd
  obtain ⟨a, hk, ha⟩ := h.op hf
  exact ⟨a, cs.toList, by simp, hk, ha⟩
theorem okWide_arr {n : Nat} {e : TypeId} (ht : P.underlying t = some (.array n e)) (h : Value.okWide P w r b0 t v) : ∃ cs, v = .agg cs := by
  simp only [Value.okWide, ht] at h
  obtain ⟨cs, h1, _⟩ := h
  exact ⟨cs, h1⟩
theorem open_arr {α : Type} {n : Nat} {e : TypeId} {d : Kd α} {ok : α → Prop} (ht : P.underlying t = some (.array n e)) (h : Opens P t d ok) (hv : Value.okWide P w r b0 t v) (hd : DataW.Trod enc P w base spare held t v dd ps) :
    ∃ (a : α) (cs : List Value), v = .agg cs.toArray ∧ d.K w a cs ∧ ok a := by
  obtain ⟨cs, rfl⟩ := okWide_arr ht hv
  obtain ⟨fuel, hf⟩ := hd
  obtain ⟨a, hk, ha⟩ := h.op hf
  exact ⟨a, cs.toList, by simp, hk, ha⟩
theorem open_row {α : Type} {e : TypeId} {d : Kd α} {ok : List α → Prop} (ht : P.underlying t = some (.slice e)) (h : Opens P t (Kd.slice e d) ok) (hv : Value.okWide P w r b0 t v) (hd : DataW.Trod enc P w base spare held t v dd ps) :
    ∃ (A : Option Addr) (l : List α) (c : Nat), v = .slice A l.length c ∧ l.length ≤ c ∧ d.C w A l.length l ∧ ok l := by
  obtain ⟨a, len, cap, rfl⟩ := okWide_slice ht hv
  obtain ⟨fuel, hf⟩ := hd
  obtain ⟨l, ⟨A, c, he, hl, hC⟩, hok⟩ := h.op hf
  have he' : (Value.slice a len cap) = .slice A l.length c := by
    have : [Value.slice a len cap] = [Value.slice A l.length c] := he
    exact List.head_eq_of_cons_eq this
  exact ⟨A, l, c, he', hl, hC, hok⟩
end
end Go.Proofs.Ytmmaodlngnjmlaa.Opn
