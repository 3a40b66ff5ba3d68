/- Memory words for the walks over corncrib: a block known whole, what a call may have changed, maps with plain keys. No program is named here. -/
import Derived.WalkKit
import Derived.WalkSpells
import Derived.WalkLawsBesides
import Derived.Lib.Hide
import Derived.MapKept
import Derived.OneCell
import Derived.Maps.AppendAt
import Derived.Maps.OwnSet
import Derived.Deep.QuietTactic
import Derived.BigQuiet
import Derived.Laws.IdiomRangeMap
import Derived.ChangeAlike
import Derived.Deep.AppendLies
import Derived.Deep.Draws
namespace Go.Proofs.YtlbmoafdialigaaGreatDoor
open Go Go.RowKit Go.MapKept

/-- Block g is just the cells cs of element type t, none frozen. -/
def Blk (w : World) (g : Nat) (t : TypeId) (cs : Array Value) : Prop := w.heap[g]? = some (.cells cs t (0, 0))
/-- Block g is a map of just these entries. -/
def MBlk (w : World) (g : Nat) (es : Array MapEntry) (clock : Nat) : Prop := w.heap[g]? = some (.map es clock)

/-- From w to w' nothing turned but blocks of which S speaks, and new ones. -/
structure Upd (S : Nat → Prop) (w w' : World) : Prop where
  os : w'.os = w.os
  output : w'.output = w.output
  size : w.heap.size ≤ w'.heap.size
  block : ∀ k, k < w.heap.size → ¬ S k → w'.heap[k]? = w.heap[k]?

section
variable {w w' w'' : World} {g : Nat} {t : TypeId} {cs : Array Value} {S S' : Nat → Prop} {es : Array MapEntry} {clock : Nat}

theorem Blk.lt (h : Blk w g t cs) : g < w.heap.size := lt_of_block h
theorem MBlk.lt (h : MBlk w g es clock) : g < w.heap.size := lt_of_block h
theorem Blk.cell (h : Blk w g t cs) (i : Nat) : w.cell? ⟨g, i, none⟩ = cs[i]? := cell_of_row w g i cs t (0, 0) h
theorem Blk.frozen (h : Blk w g t cs) (i : Nat) : w.frozen? ⟨g, i, none⟩ = false := by
  unfold Blk at h
  simp [World.frozen?, h]
theorem Blk.new (w : World) (t : TypeId) (cs : Array Value) : Blk (w.alloc (.cells cs t)) w.heap.size t cs := heap_alloc_new w _
theorem Blk.new1 (w : World) (o : Obj) (t : TypeId) (cs : Array Value) : Blk ((w.alloc o).alloc (.cells cs t)) (w.heap.size + 1) t cs := by
  have := Blk.new (w.alloc o) t cs
  simpa using this
theorem Blk.new2 (w : World) (o o' : Obj) (t : TypeId) (cs : Array Value) : Blk (((w.alloc o).alloc o').alloc (.cells cs t)) (w.heap.size + 1 + 1) t cs := by
  have := Blk.new ((w.alloc o).alloc o') t cs
  simpa using this
theorem Blk.new3 (w : World) (o o' o'' : Obj) (t : TypeId) (cs : Array Value) : Blk ((((w.alloc o).alloc o').alloc o'').alloc (.cells cs t)) (w.heap.size + 1 + 1 + 1) t cs := by
  have := Blk.new (((w.alloc o).alloc o').alloc o'') t cs
  simpa using this
theorem MBlk.new (w : World) (es : Array MapEntry) (clock : Nat) : MBlk (w.alloc (.map es clock)) w.heap.size es clock := heap_alloc_new w _
theorem Blk.drew (h : Blk w g t cs) : Blk w.drew g t cs := h
theorem MBlk.drew (h : MBlk w g es clock) : MBlk w.drew g es clock := h
theorem Blk.alloc (h : Blk w g t cs) (o : Obj) : Blk (w.alloc o) g t cs := (Below.heap_alloc w o g h.lt).trans h
theorem MBlk.alloc (h : MBlk w g es clock) (o : Obj) : MBlk (w.alloc o) g es clock := (Below.heap_alloc w o g h.lt).trans h
theorem Blk.set_ (h : Blk w g t cs) (i : Nat) (u : Value) : Blk (w.setCell ⟨g, i, none⟩ u) g t (cs.setIfInBounds i u) := by
  unfold Blk at h ⊢
  simp [World.setCell, Array.getElem?_modify, h]
theorem Blk.far (h : Blk w g t cs) {p : Addr} (hp : g ≠ p.block) (u : Value) : Blk (w.setCell p u) g t cs := (Below.heap_setCell w p u g hp).trans h
theorem MBlk.far (h : MBlk w g es clock) (p : Addr) (u : Value) : MBlk (w.setCell p u) g es clock := by
  unfold MBlk at h ⊢
  by_cases e : g = p.block
  · subst e
    simp [World.setCell, Array.getElem?_modify, h]
  · exact (Below.heap_setCell w p u g e).trans h
theorem Blk.upd (h : Blk w g t cs) (hu : Upd S w w') (hg : ¬ S g) : Blk w' g t cs := (hu.block g h.lt hg).trans h
theorem MBlk.upd (h : MBlk w g es clock) (hu : Upd S w w') (hg : ¬ S g) : MBlk w' g es clock := (hu.block g h.lt hg).trans h
theorem Blk.below {B : Nat} (h : Blk w g t cs) (hb : Below B w w') (hg : g < B) : Blk w' g t cs := (hb.block g hg).trans h
theorem MBlk.below {B : Nat} (h : MBlk w g es clock) (hb : Below B w w') (hg : g < B) : MBlk w' g es clock := (hb.block g hg).trans h
theorem Blk.grown {row : Option Nat} (h : Blk w g t cs) (hb : w.grownBy w' row) (hg : some g ≠ row) : Blk w' g t cs := (hb.block g h.lt hg).trans h
theorem MBlk.grown {row : Option Nat} (h : MBlk w g es clock) (hb : w.grownBy w' row) (hg : some g ≠ row) : MBlk w' g es clock := (hb.block g h.lt hg).trans h
theorem Blk.ne_ {g' : Nat} {t' : TypeId} {cs' : Array Value} (h : Blk w g t cs) (h' : Blk w g' t' cs') (hne : t ≠ t') : g ≠ g' := by
  rintro rfl
  unfold Blk at h h'
  rw [h] at h'
  injection h' with h'
  injection h' with _ ht
  exact hne ht
theorem Blk.neM {g' : Nat} (h : Blk w g t cs) (h' : MBlk w g' es clock) : g ≠ g' := by
  rintro rfl
  unfold Blk at h; unfold MBlk at h'
  rw [h] at h'
  cases h'
theorem own_blk_ne {base : Nat} {e : TypeId} {size n : Nat} {v : Value} {xs : List Value} (h : w.ownsRow base e size v n xs) (hg : Blk w g t cs) (hne : e ≠ t) : v.ownBlock ≠ some g := by
  rcases h.2 with ⟨rfl, _⟩ | ⟨g', cap, cur, rfl, _, hh, _⟩
  · simp [Value.ownBlock]
  · intro he
    have : g' = g := by simpa [Value.ownBlock] using he
    subst this
    exact Blk.ne_ (t := e) hh hg hne rfl
theorem own_mblk_ne {base : Nat} {e : TypeId} {size n : Nat} {v : Value} {xs : List Value} (h : w.ownsRow base e size v n xs) (hg : MBlk w g es clock) : v.ownBlock ≠ some g := by
  rcases h.2 with ⟨rfl, _⟩ | ⟨g', cap, cur, rfl, _, hh, _⟩
  · simp [Value.ownBlock]
  · intro he
    have : g' = g := by simpa [Value.ownBlock] using he
    subst this
    exact Blk.neM (t := e) hh hg rfl

theorem Upd.refl (S : Nat → Prop) (w : World) : Upd S w w := ⟨rfl, rfl, Nat.le_refl _, fun _ _ _ => rfl⟩
theorem Upd.trans (h : Upd S w w') (k : Upd S w' w'') : Upd S w w'' :=
  ⟨k.os.trans h.os, k.output.trans h.output, Nat.le_trans h.size k.size,
    fun i hi hS => (k.block i (Nat.lt_of_lt_of_le hi h.size) hS).trans (h.block i hi hS)⟩
theorem Upd.mono (h : Upd S w w') (hS : ∀ k, k < w.heap.size → S k → S' k) : Upd S' w w' :=
  ⟨h.os, h.output, h.size, fun i hi hn => h.block i hi (fun hs => hn (hS i hi hs))⟩
/-- Two steps, the second one's blocks known as the first one's, or new. -/
theorem Upd.then (h : Upd S w w') (k : Upd S' w' w'') (hS : ∀ i, i < w.heap.size → S' i → S i) : Upd S w w'' :=
  ⟨k.os.trans h.os, k.output.trans h.output, Nat.le_trans h.size k.size,
    fun i hi hn => (k.block i (Nat.lt_of_lt_of_le hi h.size) (fun hs => hn (hS i hi hs))).trans (h.block i hi hn)⟩
theorem Upd.drew (h : Upd S w w') : Upd S w w'.drew := ⟨h.os, h.output, h.size, h.block⟩
theorem Upd.drewN (h : Upd S w w') (n : Nat) : Upd S w (w'.drewN n) := ⟨h.os, h.output, h.size, h.block⟩
theorem Upd.alloc (h : Upd S w w') (o : Obj) : Upd S w (w'.alloc o) :=
  h.then (S' := fun _ => False) ⟨rfl, rfl, by simp, fun k hk _ => Below.heap_alloc _ _ _ hk⟩ (fun _ _ hf => hf.elim)
theorem Upd.setCell (h : Upd S w w') {p : Addr} (hp : p.block < w.heap.size → S p.block) (u : Value) : Upd S w (w'.setCell p u) :=
  h.then (S' := fun k => k = p.block) ⟨rfl, rfl, by simp, fun k _ hn => Below.heap_setCell _ _ _ _ hn⟩ (fun i hi e => by subst e; exact hp hi)
theorem Upd.grown (h : Upd S w w') {row : Option Nat} (hg : w'.grownBy w'' row) (hr : ∀ k, row = some k → k < w.heap.size → S k) : Upd S w w'' :=
  h.then (S' := fun k => some k = row) ⟨hg.os, hg.output, hg.size, fun k hk hn => hg.block k hk hn⟩ (fun i hi e => hr i e.symm hi)
theorem Upd.of_below {B : Nat} (h : Below B w w') (hB : w.heap.size ≤ B) : Upd (fun _ => False) w w' := ⟨h.os, h.output, h.size, fun k hk _ => h.block k (Nat.lt_of_lt_of_le hk hB)⟩
theorem Upd.keptBut (h : Upd (fun _ => False) w w') (may : MemPlace → Prop) : w.keptBut w' may := by
  refine ⟨h.os, h.output, fun i hi => ?_⟩
  rw [h.block i hi id]
  split <;> simp_all
theorem Upd.of_alike (h : w'.Alike w) (S : Nat → Prop) : Upd S w w' := ⟨h.2.1, h.2.2, by rw [h.1]; exact Nat.le_refl _, fun k _ _ => by rw [h.1]⟩
theorem Upd.after (h : Upd S w w') {B : Nat} (k : Below B w' w'') (hB : w'.heap.size ≤ B) : Upd S w w'' :=
  h.then (Upd.of_below k hB) (fun _ _ hf => hf.elim)

theorem Upd.setCell' (h : Upd (fun _ => False) w w') {p : Addr} (u : Value) (hp : p.block < w.heap.size → S' p.block) : Upd S' w (w'.setCell p u) :=
  (h.mono (fun _ _ hf => hf.elim)).setCell hp u

/-- What is owned stays owned over a step that does not touch its row. -/
theorem own_upd {base : Nat} {e : TypeId} {size n : Nat} {v : Value} {xs : List Value} (h : w.ownsRow base e size v n xs) (hu : Upd S w w') (hn : ∀ k, v.ownBlock = some k → ¬ S k) : w'.ownsRow base e size v n xs := by
  obtain ⟨h1, h2⟩ := h
  refine ⟨h1, ?_⟩
  rcases h2 with h2 | ⟨g, cap, cur, hv, hg, hh, r⟩
  · exact Or.inl h2
  · subst hv
    refine Or.inr ⟨g, cap, cur, rfl, hg, ?_, r⟩
    rw [hu.block g (lt_of_block hh) (hn g rfl)]; exact hh
end

theorem grown_trans {w w' w'' : World} {row : Option Nat} (h : w.grownBy w' row) (k : w'.grownBy w'' row) : w.grownBy w'' row :=
  ⟨k.os.trans h.os, k.tape.trans h.tape, k.output.trans h.output, Nat.le_trans h.size k.size, fun i hi hn => (k.block i (Nat.lt_of_lt_of_le hi h.size) hn).trans (h.block i hi hn)⟩

theorem own_form {w : World} {base : Nat} {e : TypeId} {size n : Nat} {v : Value} {xs : List Value} (h : w.ownsRow base e size v n xs) (hn : 0 < n) :
    ∃ g cap, v = .slice (some ⟨g, 0, none⟩) n cap ∧ base ≤ g ∧ g < w.heap.size := by
  obtain ⟨g, cap, hv, hb, hlt⟩ := h.form hn
  exact ⟨g, cap, hv, hb, hlt⟩
theorem upd_own {w w' : World} {base : Nat} {e : TypeId} {size n : Nat} {v : Value} {xs : List Value} {S : Nat → Prop} (h : w.ownsRow base e size v n xs) (hu : Upd S w w') (hn : ∀ k, v.ownBlock = some k → ¬ S k) : w'.ownsRow base e size v n xs := own_upd h hu hn

theorem lt_of_cell {w : World} {a : Addr} {v : Value} (h : w.cell? a = some v) : a.block < w.heap.size := by
  unfold World.cell? at h
  rcases Nat.lt_or_ge a.block w.heap.size with h' | h'
  · exact h'
  · rw [Array.getElem?_eq_none h'] at h; cases h
theorem cell_upd {w w' : World} {S : Nat → Prop} (hu : Upd S w w') {a : Addr} {v : Value} (h : w.cell? a = some v) (hn : ¬ S a.block) : w'.cell? a = some v := by
  rw [World.cell?_of_block (hu.block a.block (lt_of_cell h) hn)]; exact h
theorem cell_upd0 {w w' : World} (hu : Upd (fun _ => False) w w') {a : Addr} {v : Value} (h : w.cell? a = some v) : w'.cell? a = some v := cell_upd hu h id

/-- The second slice's row is the first one's, or lies beyond what w had. -/
def RowOf (w : World) (v v' : Value) : Prop := ∀ k, v'.ownBlock = some k → v.ownBlock = some k ∨ w.heap.size ≤ k
theorem RowOf.mono {w w' : World} {v v' : Value} (h : RowOf w' v v') (hs : w.heap.size ≤ w'.heap.size) : RowOf w v v' := fun k e => (h k e).imp id (Nat.le_trans hs)
theorem RowOf.trans {w w' : World} {v v' v2 : Value} (h : RowOf w v v') (h2 : RowOf w' v' v2) (hs : w.heap.size ≤ w'.heap.size) : RowOf w v v2 := fun k e => by
  rcases h2 k e with h' | h'
  · exact h k h'
  · exact .inr (Nat.le_trans hs h')

/-! ### maps -/
section
variable {P : Program} {w : World} {T K E r clock : Nat} {d : TypeDesc} {es : Array MapEntry} {key : Value}

theorem run_lookup_none (hT : P.underlying T = some (.map K E)) (hK : P.underlying K = some d) (hk : IsKey d key) (hb : MBlk w r es clock)
    (hf : Instr.findNow d key es.toList 0 = some none) {z : Value} (hz : (zeroValue E).run P w = .ok z w) :
    (Instr.lookup T (.map (some r)) key false).run P w = .ok z w := by
  unfold MBlk at hb
  simp [Instr.lookup, run_underlying hT, MapKept.run_getObj_map hb, MapKept.run_checkKey hK hk, MapKept.run_findKey hK hf, hz, Result.andThen]
theorem run_lookup_none_ok (hT : P.underlying T = some (.map K E)) (hK : P.underlying K = some d) (hk : IsKey d key) (hb : MBlk w r es clock)
    (hf : Instr.findNow d key es.toList 0 = some none) {z : Value} (hz : (zeroValue E).run P w = .ok z w) :
    (Instr.lookup T (.map (some r)) key true).run P w = .ok (.tuple #[z, .bool false]) w := by
  unfold MBlk at hb
  simp [Instr.lookup, run_underlying hT, MapKept.run_getObj_map hb, MapKept.run_checkKey hK hk, MapKept.run_findKey hK hf, hz, Result.andThen]
theorem run_lookup_some (hT : P.underlying T = some (.map K E)) (hK : P.underlying K = some d) (hk : IsKey d key) (hb : MBlk w r es clock) {i : Nat} {v : Value}
    (hf : Instr.findNow d key es.toList 0 = some (some (i, v))) :
    (Instr.lookup T (.map (some r)) key false).run P w = .ok v w := by
  unfold MBlk at hb
  simp [Instr.lookup, run_underlying hT, MapKept.run_getObj_map hb, MapKept.run_checkKey hK hk, MapKept.run_findKey hK hf, Result.andThen]
theorem run_lookup_some_ok (hT : P.underlying T = some (.map K E)) (hK : P.underlying K = some d) (hk : IsKey d key) (hb : MBlk w r es clock) {i : Nat} {v : Value}
    (hf : Instr.findNow d key es.toList 0 = some (some (i, v))) :
    (Instr.lookup T (.map (some r)) key true).run P w = .ok (.tuple #[v, .bool true]) w := by
  unfold MBlk at hb
  simp [Instr.lookup, run_underlying hT, MapKept.run_getObj_map hb, MapKept.run_checkKey hK hk, MapKept.run_findKey hK hf, Result.andThen]

theorem run_len_k (ty : TypeId) (hT : P.underlying T = some (.map K E)) (hb : MBlk w r es clock) : (Builtin.len_ #[T] ty #[.map (some r)]).run P w = .ok (.int .i64 es.size) w := by
  unfold MBlk at hb
  simp [Builtin.len_, run_underlying hT, MapKept.run_getObj_map hb, Result.andThen, goInt]

/-- What a map store does to the entries. -/
def mput (d : TypeDesc) (es : Array MapEntry) (clock : Nat) (key val : Value) : Array MapEntry :=
  match Instr.findNow d key es.toList 0 with
  | some (some (i, _)) => es.modify i fun e => { e with key, val := val }
  | _ => es.push { key, val, born := clock }
def mclock (d : TypeDesc) (es : Array MapEntry) (clock : Nat) (key : Value) : Nat :=
  match Instr.findNow d key es.toList 0 with
  | some (some _) => clock
  | _ => clock + 1

theorem run_mapUpdate_k (hT : P.underlying T = some (.map K E)) (hK : P.underlying K = some d) (hk : IsKey d key) (hb : MBlk w r es clock)
    (hall : ∀ x ∈ es.toList, IsKey d x.key) (val : Value) :
    ∃ w', (Instr.mapUpdate T (.map (some r)) key val).run P w = .ok () w' ∧ MBlk w' r (mput d es clock key val) (mclock d es clock key) ∧ w.grownBy w' (some r) := by
  have hb' := hb
  unfold MBlk at hb'
  have hfin : ∀ o', Go.World.grownBy w { w with heap := w.heap.setIfInBounds r o' } (some r) := fun o' => by
    refine ⟨rfl, rfl, rfl, by simp, fun k hk hne => ?_⟩
    exact (MapKept.heap_set hb').2 k (fun e => hne (by rw [e]))
  rcases MapKept.findNow_spec hk es.toList 0 hall with ⟨h1, h2⟩ | ⟨j, e0, h1, h2, h3⟩
  · refine ⟨{ w with heap := w.heap.setIfInBounds r (.map (es.push { key, val, born := clock }) (clock + 1)) }, ?_, ?_, hfin _⟩
    · simp only [Instr.mapUpdate, Sem.run_bind, run_underlying hT, MapKept.run_getObj_map hb', MapKept.run_checkKey hK hk, MapKept.run_findKey hK h1, MapKept.run_setObj_map _ hb', Result.andThen]
    · unfold MBlk
      rw [(MapKept.heap_set hb').1]
      simp [mput, mclock, h1]
  · have hj : es[j]? = some e0 := by simpa using h2
    refine ⟨{ w with heap := w.heap.setIfInBounds r (.map (es.modify j fun e => { e with key, val := val }) clock) }, ?_, ?_, hfin _⟩
    · subst h3
      have h1' : Instr.findNow d e0.key es.toList 0 = some (some (j, e0.val)) := by simpa using h1
      simp only [Instr.mapUpdate, Sem.run_bind, run_underlying hT, MapKept.run_getObj_map hb', MapKept.run_checkKey hK hk, MapKept.run_findKey hK h1', hj, Option.map_some, Option.getD_some, MapKept.run_keyThatStays hk, MapKept.run_setObj_map _ hb', Result.andThen]
    · unfold MBlk
      rw [(MapKept.heap_set hb').1]
      simp [mput, mclock, h1]

/-- A store into a map, at its operation: the walk goes on in a world of which this is known. -/
theorem wpList_mapUpdate_k {ops : Array Oper} {rest : List Oper} {o : Oper} {a : Act} {Q : Exit → Act → World → Prop} (hg : o.guard = none) (m x v : Operand) (t : TypeId)
    (hop : o.op = Op.mapUpdate t m x v) (hT : P.underlying t = some (.map K E)) (hK : P.underlying K = some d) (hm : a.eval m = .map (some r)) (key val : Value) (hx : a.eval x = key) (hv : a.eval v = val)
    (hk : IsKey d key) (hb : MBlk w r es clock) (hall : ∀ x ∈ es.toList, IsKey d x.key)
    (hC : ∀ w', MBlk w' r (mput d es clock key val) (mclock d es clock key) → w.grownBy w' (some r) → wpList P ops Q rest (a.put o.dst undef) w') :
    wpList P ops Q (o :: rest) a w := by
  refine wpList_plain hg fun K' hK' => ?_
  obtain ⟨w', hrun, r1, r2⟩ := run_mapUpdate_k hT hK hk hb hall val
  unfold Oper.wp
  simp [execOp, hop, hm, hx, hv, hrun, Result.andThen]
  exact hK' _ _ (hC w' r1 r2)

/-- A map's entries bear stamps below the clock, each its own, and keys of one kind, each its own. -/
def MOk (d : TypeDesc) (es : Array MapEntry) (clock : Nat) : Prop := Stamped es clock ∧ ∀ x ∈ es.toList, IsKey d x.key
theorem MOk.empty (d : TypeDesc) (c : Nat) : MOk d #[] c := ⟨stamped_empty c, by simp⟩
theorem MOk.put (h : MOk d es clock) (hk : IsKey d key) (val : Value) : MOk d (mput d es clock key val) (mclock d es clock key) := by
  unfold mput mclock
  rcases MapKept.findNow_spec hk es.toList 0 h.2 with ⟨h1, h2⟩ | ⟨j, e0, h1, h2, h3⟩
  · rw [h1]
    refine ⟨stamped_push h.1 (fun x hx => h2 x hx), fun x hx => ?_⟩
    simp only [Array.toList_push, List.mem_append, List.mem_singleton] at hx
    rcases hx with hx | rfl
    · exact h.2 x hx
    · exact hk
  · rw [h1]
    have hj : es[j]? = some e0 := by simpa using h2
    have hkey : ∀ e, es[j]? = some e → key = e.key := fun e he => by rw [hj] at he; cases he; exact h3.symm
    simp only [Nat.zero_add]
    exact ⟨stamped_modify h.1 j _ (fun _ _ => rfl) (fun e _ he => hkey e he), isKey_modify h.2 j _ (fun e he => hkey e he)⟩

/-- What delete leaves of the entries. -/
def mdel (d : TypeDesc) (es : Array MapEntry) (key : Value) : Array MapEntry :=
  match Instr.findNow d key es.toList 0 with
  | some (some (i, _)) => es.eraseIdxIfInBounds i
  | _ => es
theorem MOk.del (h : MOk d es clock) (hk : IsKey d key) : MOk d (mdel d es key) clock := by
  unfold mdel
  rcases MapKept.findNow_spec hk es.toList 0 h.2 with ⟨h1, h2⟩ | ⟨j, e0, h1, h2, h3⟩
  · rw [h1]; exact h
  · rw [h1]
    refine ⟨stamped_erase h.1 _, fun x hx => ?_⟩
    refine h.2 x ?_
    simp only [Array.eraseIdxIfInBounds] at hx
    by_cases hj : 0 + j < es.size
    · rw [dif_pos hj, Array.toList_eraseIdx] at hx; exact List.mem_of_mem_eraseIdx hx
    · rw [dif_neg hj] at hx; exact hx

theorem run_delete_k {ty : TypeId} (hT : P.underlying T = some (.map K E)) (hK : P.underlying K = some d) (hk : IsKey d key) (hb : MBlk w r es clock)
    (hall : ∀ x ∈ es.toList, IsKey d x.key) :
    ∃ w', (Builtin.delete_ #[T, K] ty #[.map (some r), key]).run P w = .ok (.tuple #[]) w' ∧ MBlk w' r (mdel d es key) clock ∧ w.grownBy w' (some r) := by
  have hb' := hb
  unfold MBlk at hb'
  have hfin : ∀ o', Go.World.grownBy w { w with heap := w.heap.setIfInBounds r o' } (some r) := fun o' => by
    refine ⟨rfl, rfl, rfl, by simp, fun k hk hne => ?_⟩
    exact (MapKept.heap_set hb').2 k (fun e => hne (by rw [e]))
  rcases MapKept.findNow_spec hk es.toList 0 hall with ⟨h1, h2⟩ | ⟨j, e0, h1, h2, h3⟩
  · refine ⟨{ w with heap := w.heap.setIfInBounds r (.map es clock) }, ?_, ?_, hfin _⟩
    · simp [Builtin.delete_, run_underlying hT, MapKept.run_getObj_map hb', MapKept.run_checkKey hK hk, MapKept.run_findKey hK h1, MapKept.run_setObj_map _ hb', Result.andThen]
    · unfold MBlk
      rw [(MapKept.heap_set hb').1]
      simp [mdel, h1]
  · refine ⟨{ w with heap := w.heap.setIfInBounds r (.map (es.eraseIdxIfInBounds j) clock) }, ?_, ?_, hfin _⟩
    · simp [Builtin.delete_, run_underlying hT, MapKept.run_getObj_map hb', MapKept.run_checkKey hK hk, MapKept.run_findKey hK h1, MapKept.run_setObj_map _ hb', Result.andThen]
    · unfold MBlk
      rw [(MapKept.heap_set hb').1]
      simp [mdel, h1]

/-- delete, at its operation. -/
theorem wpList_delete_k {ops : Array Oper} {rest : List Oper} {o : Oper} {a : Act} {Q : Exit → Act → World → Prop} (hg : o.guard = none) (m x : Operand) (t k : TypeId)
    (ho : o.op = .call { callee := .builtin .delete, args := #[m, x], argTypes := #[t, k] }) (hT : P.underlying t = some (.map k E)) (hK : P.underlying k = some d) (hm : a.eval m = .map (some r)) (key : Value) (hx : a.eval x = key)
    (hk : IsKey d key) (hb : MBlk w r es clock) (hall : ∀ x ∈ es.toList, IsKey d x.key)
    (hC : ∀ w', MBlk w' r (mdel d es key) clock → w.grownBy w' (some r) → wpList P ops Q rest (a.put o.dst (.tuple #[])) w') :
    wpList P ops Q (o :: rest) a w := by
  refine wpList_plain hg fun K' hK' => ?_
  obtain ⟨w', hrun, r1, r2⟩ := run_delete_k (ty := o.type) hT hK hk hb hall
  unfold Oper.wp
  simp [execOp, ho, hm, hx, resolve, invoke, builtin, hrun, Result.andThen]
  exact hK' _ _ (hC w' r1 r2)
end
end Go.Proofs.YtlbmoafdialigaaGreatDoor
