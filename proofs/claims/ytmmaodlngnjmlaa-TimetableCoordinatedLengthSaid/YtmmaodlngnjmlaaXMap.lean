/- A map made by the call itself, whose keys are whole numbers: an entry laid into it, a look-up that finds its entry, a look-up that finds none. -/
import Derived.WalkLawsBesides
import Derived.WideMake
import Derived.WalkKit
import Derived.MapKept
namespace Go.Proofs.Ytmmaodlngnjmlaa.MapOne
open Go.RowKit
section
variable {P : Program}
/-- An entry laid into a map that was made last, an integer its key. -/
theorem run_insert_new {mty kt et : TypeId} {kd : IntKind} (hm : P.underlying mty = some (.map kt et)) (hk : P.underlying kt = some (.int kd)) {es : Array MapEntry} {clock : Nat} {key : Int} (hf : Instr.findNow (.int kd) (.int kd key) es.toList 0 = some none) (W : World) (n : Nat) (hn : W.heap.size = n) (v : Value) :
    (Instr.mapUpdate mty (.map (some n)) (.int kd key) v).run P (W.alloc (.map es clock)) = .ok () (W.alloc (.map (es.push { key := .int kd key, val := v, born := clock }) (clock + 1))) := by
  subst hn
  have hb : (W.alloc (.map es clock)).heap[W.heap.size]? = some (.map es clock) := (MapKept.heap_alloc W _).1
  have hc : (Instr.checkKey false 10000 kt (.int kd key)).run P (W.alloc (.map es clock)) = .ok () (W.alloc (.map es clock)) := MapKept.run_checkKey (k := .int kd key) hk (by simp [MapKept.IsKey]) false 9999
  have e : ({ W.alloc (.map es clock) with heap := (W.alloc (.map es clock)).heap.setIfInBounds W.heap.size (.map (es.push { key := .int kd key, val := v, born := clock }) (clock + 1)) } : World) = W.alloc (.map (es.push { key := .int kd key, val := v, born := clock }) (clock + 1)) := by
    show ({ W with heap := (W.heap.push _).setIfInBounds W.heap.size _ } : World) = { W with heap := W.heap.push _ }
    congr 1
    apply Array.ext'
    simp
  rw [← e]
  simp [Instr.mapUpdate, run_underlying hm, MapKept.run_getObj_map hb, hc, MapKept.run_findKey hk hf, MapKept.run_setObj_map _ hb, Result.andThen]
/-- A look-up in a map whose entries are known, an integer the key. -/
theorem run_lookup_known {mty kt et : TypeId} {kd : IntKind} (hm : P.underlying mty = some (.map kt et)) (hk : P.underlying kt = some (.int kd)) {es : Array MapEntry} {clock n : Nat} {key : Int} {W : World} (hb : W.heap[n]? = some (.map es clock)) {i : Nat} {v : Value} (hf : Instr.findNow (.int kd) (.int kd key) es.toList 0 = some (some (i, v))) :
    (Instr.lookup mty (.map (some n)) (.int kd key) true).run P W = .ok (.tuple #[v, .bool true]) W := by
  have hc : ∀ b, (Instr.checkKey b 10000 kt (.int kd key)).run P W = .ok () W := fun b => MapKept.run_checkKey (k := .int kd key) hk (by simp [MapKept.IsKey]) b 9999
  simp [Instr.lookup, run_underlying hm, MapKept.run_getObj_map hb, hc, MapKept.run_findKey hk hf, Result.andThen]
theorem run_lookup_lacks {mty kt et : TypeId} {kd : IntKind} (hm : P.underlying mty = some (.map kt et)) (hk : P.underlying kt = some (.int kd)) {es : Array MapEntry} {clock n : Nat} {key : Int} {W : World} (hb : W.heap[n]? = some (.map es clock)) {z : Value} (hz : (zeroValue et).run P W = .ok z W) (hf : Instr.findNow (.int kd) (.int kd key) es.toList 0 = some none) :
    (Instr.lookup mty (.map (some n)) (.int kd key) true).run P W = .ok (.tuple #[z, .bool false]) W := by
  have hc : ∀ b, (Instr.checkKey b 10000 kt (.int kd key)).run P W = .ok () W := fun b => MapKept.run_checkKey (k := .int kd key) hk (by simp [MapKept.IsKey]) b 9999
  simp [Instr.lookup, run_underlying hm, MapKept.run_getObj_map hb, hc, MapKept.run_findKey hk hf, hz, Result.andThen]
end
theorem heap_last (W : World) (o : Obj) (n : Nat) (h : W.heap.size = n) : (W.alloc o).heap[n]? = some o := by
  subst h
  exact (MapKept.heap_alloc W _).1
end Go.Proofs.Ytmmaodlngnjmlaa.MapOne
