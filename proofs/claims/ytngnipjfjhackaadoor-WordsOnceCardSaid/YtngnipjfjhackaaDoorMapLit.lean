/- Maps that a function makes itself, whose keys are known. No program is named here. -/
import Derived.Test.YtngnipjfjhackaaDoorMem
import Derived.MapFrom
import Derived.Carry
namespace Go.Proofs.YtngnipjfjhackaaDoor
open Go.RowKit Go.MapKept
set_option linter.unusedVariables false
set_option linter.unusedSimpArgs false
section
variable {P : Program} {w : World} {mty kt et : TypeId} {d : TypeDesc} {r clock : Nat} {es : Array MapEntry} {key value z : Value}
def mapTo (w : World) (r : Nat) (es : Array MapEntry) (c : Nat) : World := { w with heap := w.heap.setIfInBounds r (.map es c) }
theorem mapTo_heap (hb : w.heap[r]? = some (.map es clock)) (es' : Array MapEntry) (c : Nat) : (mapTo w r es' c).heap[r]? = some (.map es' c) := (heap_set hb).1
theorem mapTo_fr (w : World) (r : Nat) (es : Array MapEntry) (c : Nat) : Fr (oneb r) w (mapTo w r es c) :=
  ⟨rfl, rfl, rfl, by simp [mapTo], fun k hk hm => by
    unfold mapTo
    simp only [Array.getElem?_setIfInBounds]
    rw [if_neg (fun e => hm e.symm)]⟩
theorem run_insert_new (hm : P.underlying mty = some (.map kt et)) (hd : P.underlying kt = some d) (hb : w.heap[r]? = some (.map es clock)) (hk : IsKey d key) (hf : Instr.findNow d key es.toList 0 = some none) :
    (Instr.mapUpdate mty (.map (some r)) key value).run P w = .ok () (mapTo w r (es.push ⟨key, value, clock⟩) (clock + 1)) := by
  simp [Instr.mapUpdate, run_underlying hm, Go.MapKept.run_getObj_map hb, run_checkKey hd hk, run_findKey hd hf, Go.MapKept.run_setObj_map _ hb, Result.andThen, mapTo]
theorem run_lookup_hit (hm : P.underlying mty = some (.map kt et)) (hd : P.underlying kt = some d) (hb : w.heap[r]? = some (.map es clock)) (hk : IsKey d key) {j : Nat} (hf : Instr.findNow d key es.toList 0 = some (some (j, value))) :
    (Instr.lookup mty (.map (some r)) key false).run P w = .ok value w := by
  simp [Instr.lookup, run_underlying hm, Go.MapKept.run_getObj_map hb, run_checkKey hd hk, run_findKey hd hf, Result.andThen]
theorem run_lookup_ok_hit (hm : P.underlying mty = some (.map kt et)) (hd : P.underlying kt = some d) (hb : w.heap[r]? = some (.map es clock)) (hk : IsKey d key) {j : Nat} (hf : Instr.findNow d key es.toList 0 = some (some (j, value))) :
    (Instr.lookup mty (.map (some r)) key true).run P w = .ok (.tuple #[value, .bool true]) w := by
  simp [Instr.lookup, run_underlying hm, Go.MapKept.run_getObj_map hb, run_checkKey hd hk, run_findKey hd hf, Result.andThen]
theorem run_lookup_ok_miss (hm : P.underlying mty = some (.map kt et)) (hd : P.underlying kt = some d) (hb : w.heap[r]? = some (.map es clock)) (hk : IsKey d key) (hf : Instr.findNow d key es.toList 0 = some none) (hz : (zeroValue et).run P w = .ok z w) :
    (Instr.lookup mty (.map (some r)) key true).run P w = .ok (.tuple #[z, .bool false]) w := by
  simp [Instr.lookup, run_underlying hm, Go.MapKept.run_getObj_map hb, run_checkKey hd hk, run_findKey hd hf, Result.andThen, hz]
theorem ins_step (hm : P.underlying mty = some (.map kt et)) (hd : P.underlying kt = some d) (hb : w.heap[r]? = some (.map es clock)) (hk : IsKey d key) (hf : Instr.findNow d key es.toList 0 = some none) (value : Value) :
    ∃ w', (Instr.mapUpdate mty (.map (some r)) key value).run P w = .ok () w' ∧ w'.heap[r]? = some (.map (es.push ⟨key, value, clock⟩) (clock + 1)) ∧ Fr (oneb r) w w' :=
  ⟨_, run_insert_new hm hd hb hk hf, mapTo_heap hb _ _, mapTo_fr _ _ _ _⟩
end
end Go.Proofs.YtngnipjfjhackaaDoor
