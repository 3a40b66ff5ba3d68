/- Maps whose keys are compared by asking (structs): look-up and store. -/
import Derived.Test.YtlbmoafdialigaaGreatDoorBase
import Derived.Laws.StructEq
namespace Go.Proofs.YtlbmoafdialigaaGreatDoor
open Go Go.RowKit Go.MapKept

/-- A key's type whose values are compared field by field. -/
structure SKey (P : Program) (K : TypeId) (isK : Value → Prop) : Prop where
  chk : ∀ w e v, isK v → (Instr.checkKey e 10000 K v).run P w = .ok () w
  eq : ∀ w a b, isK a → isK b → ∃ r : Bool, (Op.equal K a b).run P w = .ok r w ∧ (r = true ↔ a = b)
  ask : ∃ d, P.underlying K = some d ∧ ∀ a b, isK a → Instr.sameNow d a b = none
  bits : ∀ a, isK a → Instr.sameBits 10000 a a = true

open Classical in
/-- Where a key stands among entries, and what stands there. -/
noncomputable def lookE (k : Value) : List MapEntry → Nat → Option (Nat × Value)
  | [], _ => none
  | e :: es, i => if k = e.key then some (i, e.val) else lookE k es (i + 1)

theorem lookE_at (k : Value) : ∀ (es : List MapEntry) (i j : Nat) (v : Value), lookE k es i = some (j, v) → i ≤ j ∧ ∃ e, es[j - i]? = some e ∧ e.key = k ∧ e.val = v
  | [], _, _, _, h => by cases h
  | e :: es, i, j, v, h => by
    unfold lookE at h
    by_cases hk : k = e.key
    · rw [if_pos hk] at h
      injection h with h
      injection h with h1 h2
      subst h1
      exact ⟨Nat.le_refl _, e, by simp, hk.symm, h2⟩
    · rw [if_neg hk] at h
      obtain ⟨h1, x, h2, h3⟩ := lookE_at k es (i + 1) j v h
      refine ⟨by omega, x, ?_, h3⟩
      obtain ⟨m, rfl⟩ : ∃ m, j = i + 1 + m := ⟨j - (i + 1), by omega⟩
      have e1 : i + 1 + m - i = m + 1 := by omega
      have e2 : i + 1 + m - (i + 1) = m := by omega
      rw [e2] at h2
      rw [e1, List.getElem?_cons_succ]
      exact h2

section
variable {P : Program} {w : World} {r clock : Nat} {T K E : TypeId} {isK : Value → Prop} {es : Array MapEntry} {key : Value}

theorem run_findAsking (hs : SKey P K isK) (hk : isK key) : ∀ (l : List MapEntry) (i : Nat), (∀ x ∈ l, isK x.key) → (Instr.findAsking K key l i).run P w = .ok (lookE key l i) w
  | [], _, _ => rfl
  | e :: l, i, h => by
    unfold Instr.findAsking lookE
    obtain ⟨b, hb, hbi⟩ := hs.eq w key e.key hk (h e (by simp))
    simp only [Sem.run_bind, hb, Result.andThen_ok]
    by_cases hh : key = e.key
    · rw [hbi.2 hh, if_pos hh]; rfl
    · have : b = false := by cases b; rfl; exact absurd (hbi.1 rfl) hh
      rw [this, if_neg hh]
      exact run_findAsking hs hk l (i + 1) (fun x hx => h x (by simp [hx]))
theorem run_findKey_S (hs : SKey P K isK) (hk : isK key) (l : List MapEntry) (h : ∀ x ∈ l, isK x.key) : (Instr.findKey K key l).run P w = .ok (lookE key l 0) w := by
  obtain ⟨d, hd, hn⟩ := hs.ask
  unfold Instr.findKey
  simp only [Sem.run_bind, run_underlying hd, Result.andThen_ok]
  cases l with
  | nil => simp [Instr.findNow, lookE]
  | cons e l =>
    simp only [Instr.findNow, hn key e.key hk]
    exact run_findAsking hs hk _ 0 h
theorem run_lookup_S_none (hs : SKey P K isK) (hT : P.underlying T = some (.map K E)) (hk : isK key) (hb : MBlk w r es clock) (hall : ∀ x ∈ es.toList, isK x.key) (hf : lookE key es.toList 0 = none) {z : Value} (hz : (zeroValue E).run P w = .ok z w) (b : Bool) :
    (Instr.lookup T (.map (some r)) key b).run P w = .ok (if b then .tuple #[z, .bool false] else z) w := by
  unfold MBlk at hb
  simp [Instr.lookup, run_underlying hT, MapKept.run_getObj_map hb, hs.chk w _ key hk, run_findKey_S hs hk _ hall, hf, hz, Result.andThen]
theorem run_lookup_S_some (hs : SKey P K isK) (hT : P.underlying T = some (.map K E)) (hk : isK key) (hb : MBlk w r es clock) (hall : ∀ x ∈ es.toList, isK x.key) {i : Nat} {v : Value} (hf : lookE key es.toList 0 = some (i, v)) (b : Bool) :
    (Instr.lookup T (.map (some r)) key b).run P w = .ok (if b then .tuple #[v, .bool true] else v) w := by
  unfold MBlk at hb
  simp [Instr.lookup, run_underlying hT, MapKept.run_getObj_map hb, hs.chk w _ key hk, run_findKey_S hs hk _ hall, hf, Result.andThen]
theorem run_mapUpdate_S_new (hs : SKey P K isK) (hT : P.underlying T = some (.map K E)) (hk : isK key) (hb : MBlk w r es clock) (hall : ∀ x ∈ es.toList, isK x.key) (hf : lookE key es.toList 0 = none) (val : Value) :
    ∃ w', (Instr.mapUpdate T (.map (some r)) key val).run P w = .ok () w' ∧ MBlk w' r (es.push { key, val, born := clock }) (clock + 1) ∧ w.grownBy w' (some r) := by
  have hb' := hb
  unfold MBlk at hb'
  refine ⟨{ w with heap := w.heap.setIfInBounds r (.map (es.push { key, val, born := clock }) (clock + 1)) }, ?_, ?_, ⟨rfl, rfl, rfl, by simp, fun k hk hne => (MapKept.heap_set hb').2 k (fun e => hne (by rw [e]))⟩⟩
  · simp only [Instr.mapUpdate, Sem.run_bind, run_underlying hT, MapKept.run_getObj_map hb', hs.chk w _ key hk, run_findKey_S hs hk _ hall, hf, MapKept.run_setObj_map _ hb', Result.andThen_ok]
  · unfold MBlk
    rw [(MapKept.heap_set hb').1]
theorem run_mapUpdate_S_old (hs : SKey P K isK) (hT : P.underlying T = some (.map K E)) (hk : isK key) (hb : MBlk w r es clock) (hall : ∀ x ∈ es.toList, isK x.key) {i : Nat} {v : Value} (hf : lookE key es.toList 0 = some (i, v)) (val : Value) :
    ∃ w', (Instr.mapUpdate T (.map (some r)) key val).run P w = .ok () w' ∧ MBlk w' r (es.modify i fun e => { e with key, val := val }) clock ∧ w.grownBy w' (some r) := by
  have hb' := hb
  unfold MBlk at hb'
  obtain ⟨_, e, he, hke, _⟩ := lookE_at key es.toList 0 i v hf
  have hi : es[i]? = some e := by simpa using he
  refine ⟨{ w with heap := w.heap.setIfInBounds r (.map (es.modify i fun e => { e with key, val := val }) clock) }, ?_, ?_, ⟨rfl, rfl, rfl, by simp, fun k hk hne => (MapKept.heap_set hb').2 k (fun e => hne (by rw [e]))⟩⟩
  · subst hke
    simp only [Instr.mapUpdate, Sem.run_bind, run_underlying hT, MapKept.run_getObj_map hb', hs.chk w _ e.key hk, run_findKey_S hs hk _ hall, hf, hi, Option.map_some, Option.getD_some, Instr.keyThatStays, hs.bits e.key hk, if_true, Sem.run_pure, MapKept.run_setObj_map _ hb', Result.andThen_ok]
  · unfold MBlk
    rw [(MapKept.heap_set hb').1]
end
end Go.Proofs.YtlbmoafdialigaaGreatDoor
