/- The two halves of a tuple assignment into a map, at a map with nothing in it. -/
import Derived.Test.YtlbmoafdialigaaGreatDoorBase
namespace Go.Proofs.YtlbmoafdialigaaGreatDoor
open Go Go.RowKit Go.MapKept

section
variable {P : Program} {w : World} {r : Nat} {T K E : TypeId} {d : TypeDesc} {key : Value}
theorem set_grown {o o' : Obj} (hb : w.heap[r]? = some o) : w.grownBy { w with heap := w.heap.setIfInBounds r o' } (some r) ∧ ({ w with heap := w.heap.setIfInBounds r o' } : World).heap[r]? = some o' := by
  refine ⟨⟨rfl, rfl, rfl, by simp, fun k hk hne => (MapKept.heap_set hb).2 k (fun e => hne (by rw [e]))⟩, (MapKept.heap_set hb).1⟩
theorem run_mapEntry_0 (hT : P.underlying T = some (.map K E)) (hK : P.underlying K = some d) (hk : IsKey d key) (hb : MBlk w r #[] 0) {z : Value} (hz : (zeroValue E).run P w = .ok z w) :
    ∃ w', (Instr.mapEntry T (.map (some r)) key).run P w = .ok (.tuple #[z, .int .i64 0]) w' ∧ MBlk w' r #[{ key, val := z, born := 0 }] 1 ∧ w.grownBy w' (some r) := by
  have hb' := hb
  unfold MBlk at hb'
  have hg := set_grown (o' := .map #[{ key, val := z, born := 0 }] 1) hb'
  have hf : Instr.findNow d key (#[] : Array MapEntry).toList 0 = some none := rfl
  refine ⟨_, ?_, hg.2, hg.1⟩
  simp [Instr.mapEntry, Sem.run_bind, run_underlying hT, MapKept.run_getObj_map hb', MapKept.run_checkKey hK hk, MapKept.run_findKey hK hf, MapKept.run_setObj_map _ hb', hz, Result.andThen, goInt]
theorem run_entryStore_0 {z : Value} (hb : MBlk w r #[{ key, val := z, born := 0 }] 1) (v : Value) :
    ∃ w', (Instr.entryStore T (.map (some r)) (.int .i64 0) v).run P w = .ok () w' ∧ MBlk w' r #[{ key, val := v, born := 0 }] 1 ∧ w.grownBy w' (some r) := by
  have hb' := hb
  unfold MBlk at hb'
  have hg := set_grown (o' := .map #[{ key, val := v, born := 0 }] 1) hb'
  refine ⟨_, ?_, hg.2, hg.1⟩
  simp [Instr.entryStore, Sem.run_bind, MapKept.run_getObj_map hb', MapKept.run_setObj_map _ hb', Result.andThen, asInt, asIntOf]
end
end Go.Proofs.YtlbmoafdialigaaGreatDoor
