/- package once: an empty table, and one with one answer. -/
import Derived.Test.YtlbmoafdialigaaGreatDoorMapS
import Derived.Test.YtlbmoafdialigaaGreatDoorWire
import Derived.Test.YtlbmoafdialigaaGreatDoorHeldS
import Derived.Test.YtlbmoafdialigaaGreatDoorNode1
import Derived.Test.YtlbmoafdialigaaGreatDoorStore
import Derived.ChangeKeysEq
namespace Go.Proofs.YtlbmoafdialigaaGreatDoor
open Go Go.RowKit Go.MapKept

def isOKey (v : Value) : Prop := ∃ a b : Int, v = .agg #[.int .i64 a, .int .u64 b]
theorem okey_fields : (Tryz.prog.fieldsOf 114).toList.map (fun f => (f.name, f.type, f.offset)) = [("to", 3, 0), ("id", 22, 1)] := by kernel_rfl
theorem okey_eq (a b c d : Int) (w : World) : (Op.equal 114 (.agg #[.int .i64 a, .int .u64 b]) (.agg #[.int .i64 c, .int .u64 d])).run Tryz.prog w = .ok (a == c && b == d) w := by
  have hf := okey_fields
  have p1 : ∀ x y : Int, (part 3 #[.int .i64 x, .int .u64 y] 0).run Tryz.prog w = .ok (.int .i64 x) w := fun x y => run_part_plain w (by kernel_rfl) rfl
  have p2 : ∀ x y : Int, (part 22 #[.int .i64 x, .int .u64 y] 1).run Tryz.prog w = .ok (.int .u64 y) w := fun x y => run_part_plain w (by kernel_rfl) rfl
  have e1 : (Op.equalIn 9999 3 (.int .i64 a) (.int .i64 c)).run Tryz.prog w = .ok (a == c) w := run_equalIn_int (P := Tryz.prog) w 9998 3 .i64 .i64 a c Tryz.underlying3
  have e2 : (Op.equalIn 9999 22 (.int .u64 b) (.int .u64 d)).run Tryz.prog w = .ok (b == d) w := run_equalIn_int (P := Tryz.prog) w 9998 22 .u64 .u64 b d Tryz.underlying22
  unfold Op.equal Op.maxDepth
  rw [run_equalIn_struct w 9999 114 _ _ (by kernel_rfl) (by kernel_rfl)]
  generalize (Tryz.prog.fieldsOf 114).toList = l at hf ⊢
  rcases l with _ | ⟨f1, _ | ⟨f2, _ | ⟨f3, l⟩⟩⟩
  · simp at hf
  · simp at hf
  · simp only [List.map_cons, List.map_nil, List.cons.injEq, Prod.mk.injEq, and_true] at hf
    obtain ⟨⟨h1, h2, h3⟩, h4, h5, h6⟩ := hf
    simp only [Op.eqFields, h1, h2, h3, h4, h5, h6, Sem.run_bind, p1, p2, e1, e2, Result.andThen_ok]
    cases hac : (a == c) <;> cases hbd : (b == d) <;> simp only [p1, p2, e1, e2, hac, hbd, Sem.run_bind, Sem.run_ite, Sem.run_pure, Result.andThen_ok, Bool.not_true, Bool.not_false, Bool.and_true, Bool.and_false, Bool.true_and, Bool.false_and, if_true, Bool.false_eq_true, if_false, ne_eq, String.reduceEq, not_false_eq_true]
  · simp at hf
theorem okey_chk (a b : Int) (e : Bool) (w : World) : (Instr.checkKey e 10000 114 (.agg #[.int .i64 a, .int .u64 b])).run Tryz.prog w = .ok () w := by
  cases e <;> kernel_rfl
theorem okey : SKey Tryz.prog 114 isOKey where
  chk := by rintro w e v ⟨a, b, rfl⟩; exact okey_chk a b e w
  eq := by
    rintro w x y ⟨a, b, rfl⟩ ⟨c, d, rfl⟩
    exact ⟨_, okey_eq a b c d w, by simp⟩
  ask := by
    refine ⟨_, Tryz.underlying114, ?_⟩
    rintro a b ⟨x, y, rfl⟩
    rfl
  bits := by
    rintro v ⟨a, b, rfl⟩
    simp [Instr.sameBits]

def TabB (w : World) (tb km : Nat) : Prop := Blk w tb 112 #[.int .i64 4096, .map (some km)]
section
variable {w : World} {tb km clk : Nat} {es : Array MapEntry}
set_option maxRecDepth 100000 in
theorem onceFind_none (h : TabB w tb km) (hm : MBlk w km es clk) (hall : ∀ x ∈ es.toList, isOKey x.key) (fr id : Int) (hf : lookE (.agg #[.int .i64 fr, .int .u64 id]) es.toList 0 = none) :
    Calls Tryz.prog 25 #[.pointer (some ⟨tb, 0, none⟩), .int .i64 fr, .int .u64 id] w fun e w' => e = .returned (.tuple #[msgZ, .iface 72 (.int .i64 6)]) ∧ Upd (fun _ => False) w w' := by
  have c1 : (w.alloc (.cells #[.int .i64 0, .int .i64 0, .int .i64 0, .int .i64 0, .int .i64 0, .int .u64 0, .int .i64 0, .bool false, .int .u64 0, .int .u32 0, .bool false, .slice none 0 0] 34)).cell? ⟨tb, 1, none⟩ = some (.map (some km)) := Blk.cell (Blk.alloc h _) 1
  have hl := fun W (a : MBlk W km es clk) => run_lookup_S_none (P := Tryz.prog) (w := W) okey Tryz.underlying110 ⟨fr, id, rfl⟩ a hall hf (z := msgZ) (by kernel_rfl) true
  have hl1 := hl _ (hm.alloc (.cells #[.int .i64 0, .int .i64 0, .int .i64 0, .int .i64 0, .int .i64 0, .int .u64 0, .int .i64 0, .bool false, .int .u64 0, .int .u32 0, .bool false, .slice none 0 0] 34))
  unfold msgZ msgV at hl1
  simp only [if_true] at hl1
  clear hl
  go_enter Tryz.func25, Tryz.ntmps25
  go_wp2
  refine bodyPost_ret (v := .tuple #[msgZ, .iface 72 (.int .i64 6)]) (by simp [results, Tryz.results25, go_sem, msgZ, msgV]) rfl ⟨rfl, ?_⟩
  exact ((Upd.refl _ w).alloc _).alloc _
set_option maxRecDepth 100000 in
theorem onceFind_some {i : Nat} {x1 x2 x3 x4 x5 x6 x7 x8 x9 : Int} {ha go_ : Bool} (h : TabB w tb km) (hm : MBlk w km es clk) (hall : ∀ x ∈ es.toList, isOKey x.key) (fr id : Int) (hf : lookE (.agg #[.int .i64 fr, .int .u64 id]) es.toList 0 = some (i, msgV x1 x2 x3 x4 x5 x6 x7 ha x8 x9 go_ (.slice none 0 0))) :
    Calls Tryz.prog 25 #[.pointer (some ⟨tb, 0, none⟩), .int .i64 fr, .int .u64 id] w fun e w' => e = .returned (.tuple #[msgV x1 x2 x3 x4 x5 x6 x7 ha x8 x9 go_ (.slice none 0 0), .nilIface]) ∧ Upd (fun _ => False) w w' := by
  have c1 : (w.alloc (.cells #[.int .i64 0, .int .i64 0, .int .i64 0, .int .i64 0, .int .i64 0, .int .u64 0, .int .i64 0, .bool false, .int .u64 0, .int .u32 0, .bool false, .slice none 0 0] 34)).cell? ⟨tb, 1, none⟩ = some (.map (some km)) := Blk.cell (Blk.alloc h _) 1
  have hl := fun W (a : MBlk W km es clk) => run_lookup_S_some (P := Tryz.prog) (w := W) okey Tryz.underlying110 ⟨fr, id, rfl⟩ a hall hf true
  have hl1 := hl _ (hm.alloc (.cells #[.int .i64 0, .int .i64 0, .int .i64 0, .int .i64 0, .int .i64 0, .int .u64 0, .int .i64 0, .bool false, .int .u64 0, .int .u32 0, .bool false, .slice none 0 0] 34))
  have HO := Lib.hid (fun W => own_nil x1 x2 x3 x4 x5 x6 x7 ha x8 x9 go_ W)
  unfold msgV at hl1
  simp only [if_true] at hl1
  clear hl
  go_enter Tryz.func25, Tryz.ntmps25
  go_wp2_with fail
  generalize hw0 : World.alloc (World.alloc _ _) _ = w0
  have hu0 : Upd (fun _ => False) w w0 := hw0 ▸ ((Upd.refl _ w).alloc _).alloc _
  have b6 : Blk w0 w.heap.size 34 #[.int .i64 0, .int .i64 0, .int .i64 0, .int .i64 0, .int .i64 0, .int .u64 0, .int .i64 0, .bool false, .int .u64 0, .int .u32 0, .bool false, .slice none 0 0] := hw0 ▸ (Blk.new w _ _).alloc _
  clear hw0
  refine (HO.out w0).mono ?_
  rintro e w1 ⟨rfl, hu1⟩
  unfold msgV
  have b61 := b6.upd hu1 (fun h => h)
  have hu01 := hu0.then hu1 (fun _ _ h => h)
  go_wp2_with (refine wpList_store_blk rfl _ _ _ rfl _ _ _ #[.int .i64 x1, .int .i64 x2, .int .i64 x3, .int .i64 x4, .int .i64 x5, .int .u64 x6, .int .i64 x7, .bool ha, .int .u64 x8, .int .u32 x9, .bool go_, .slice none 0 0] rfl rfl b61 rfl (by kernel_rfl) (by simp [Value.oneCell']) ?_; intro w3 b63 hu3)
  have q0 := b63.cell 0
  have q1 := b63.cell 1
  have q2 := b63.cell 2
  have q3 := b63.cell 3
  have q4 := b63.cell 4
  have q5 := b63.cell 5
  have q6 := b63.cell 6
  have q7 := b63.cell 7
  have q8 := b63.cell 8
  have q9 := b63.cell 9
  have q10 := b63.cell 10
  have q11 := b63.cell 11
  refine bodyPost_ret (v := .tuple #[msgV x1 x2 x3 x4 x5 x6 x7 ha x8 x9 go_ (.slice none 0 0), .nilIface]) (by simp [results, Tryz.results25, go_sem, msgV, q0, q1, q2, q3, q4, q5, q6, q7, q8, q9, q10, q11]) rfl ⟨rfl, ?_⟩
  exact hu01.then hu3 (fun i hi e => by have e : i = w.heap.size := e; omega)
theorem onceRoom_ok (h : TabB w tb km) (hm : MBlk w km es clk) (hn : es.size < 4096) :
    Calls Tryz.prog 26 #[.pointer (some ⟨tb, 0, none⟩)] w fun e w' => e = .returned (.bool true) ∧ Upd (fun _ => False) w w' := by
  have c0 : w.cell? ⟨tb, 0, none⟩ = some (.int .i64 4096) := Blk.cell h 0
  have c1 : w.cell? ⟨tb, 1, none⟩ = some (.map (some km)) := Blk.cell h 1
  have hl := fun W (a : MBlk W km es clk) => run_len_k (P := Tryz.prog) (w := W) 3 Tryz.underlying110 a
  have hlt : (es.size : Int) < 4096 := by omega
  go_enter Tryz.func26, Tryz.ntmps26
  go_wp2_with fail
  have hl1 := hl _ hm.drew
  have hde : decide ((es.size : Int) < 4096) = true := decide_eq_true hlt
  have hS : w.drew.cell? ⟨tb, 0, none⟩ = some (.int .i64 4096) ∧ w.drew.cell? ⟨tb, 1, none⟩ = some (.map (some km)) ∧ (Builtin.len_ #[110] 3 #[.map (some km)]).run Tryz.prog w.drew = .ok (.int .i64 es.size) w.drew := ⟨c0, c1, hl1⟩
  refine wp_region_noPanic ?_
  refine wp_region_S 15 (fun W => W.cell? ⟨tb, 0, none⟩ = some (.int .i64 4096) ∧ W.cell? ⟨tb, 1, none⟩ = some (.map (some km)) ∧ (Builtin.len_ #[110] 3 #[.map (some km)]).run Tryz.prog W = .ok (.int .i64 es.size) W) (by kernel_rfl) rfl false ?_
  refine wpAnyQ_takeN 0 (v := ?_) nth0 (by kernel_rfl) (fun _ _ _ _ _ h => h) (by rfl) hS ?_ ?_
  rotate_left
  (focus ((intro w hSw; (try dsimp only at hSw); (try go_split_ands); go_simp); try with_reducible rfl))
  (try simp only [Act.put, List.setIfInBounds_toArray, List.set_cons_zero, List.set_cons_succ])
  refine wpAnyQ_takeN 1 (v := ?_) nth1 (by kernel_rfl) (fun _ _ _ _ _ h => h) (by rfl) hS ?_ ?_
  rotate_left
  (focus ((intro w hSw; (try dsimp only at hSw); (try go_split_ands); go_simp); try with_reducible rfl))
  (try simp only [Act.put, List.setIfInBounds_toArray, List.set_cons_zero, List.set_cons_succ])
  refine wpAnyQ_takeN 2 (v := ?_) nth2 (by kernel_rfl) (fun _ _ _ _ _ h => h) (by rfl) hS ?_ ?_
  rotate_left
  (focus ((intro w hSw; (try dsimp only at hSw); (try go_split_ands); go_simp); try with_reducible rfl))
  (try simp only [Act.put, List.setIfInBounds_toArray, List.set_cons_zero, List.set_cons_succ])
  refine wpAnyQ_takeN 3 (v := ?_) nth3 (by kernel_rfl) (fun _ _ _ _ _ h => h) (by rfl) hS ?_ ?_
  rotate_left
  (focus ((intro w hSw; (try dsimp only at hSw); (try go_split_ands); go_simp); try with_reducible rfl))
  (try simp only [Act.put, List.setIfInBounds_toArray, List.set_cons_zero, List.set_cons_succ])
  refine wpAnyQ_takeN 4 (v := ?_) nth4 (by kernel_rfl) (fun _ _ _ _ _ h => h) (by rfl) hS ?_ ?_
  rotate_left
  (focus ((intro w hSw; (try dsimp only at hSw); (try go_split_ands); go_simp); try with_reducible rfl))
  (try simp only [Act.put, List.setIfInBounds_toArray, List.set_cons_zero, List.set_cons_succ])
  refine wpAnyQ_takeN 5 (v := ?_) nth5 (by kernel_rfl) (fun _ _ _ _ _ h => h) (by rfl) hS ?_ ?_
  rotate_left
  (focus ((intro w hSw; (try dsimp only at hSw); (try go_split_ands); go_simp); try with_reducible rfl))
  (try simp only [Act.put, List.setIfInBounds_toArray, List.set_cons_zero, List.set_cons_succ])
  refine wpAnyQ_takeN 6 (v := ?_) nth6 (by kernel_rfl) (fun _ _ _ _ _ h => h) (by rfl) hS ?_ ?_
  rotate_left
  (focus ((intro w hSw; (try dsimp only at hSw); (try go_split_ands); go_simp); try with_reducible rfl))
  (try simp only [Act.put, List.setIfInBounds_toArray, List.set_cons_zero, List.set_cons_succ])
  refine wpAnyQ_takeN 7 (v := ?_) nth7 (by kernel_rfl) (fun _ _ _ _ _ h => h) (by rfl) hS ?_ ?_
  rotate_left
  (focus ((intro w hSw; (try dsimp only at hSw); (try go_split_ands); go_simp); try with_reducible rfl))
  (try simp only [Act.put, List.setIfInBounds_toArray, List.set_cons_zero, List.set_cons_succ])
  refine wpAnyQ_takeN 8 (v := ?_) nth8 (by kernel_rfl) (fun _ _ _ _ _ h => h) (by rfl) hS ?_ ?_
  rotate_left
  (focus ((intro w hSw; (try dsimp only at hSw); (try go_split_ands); go_simp); try with_reducible rfl))
  (try simp only [Act.put, List.setIfInBounds_toArray, List.set_cons_zero, List.set_cons_succ])
  refine wpAnyQ_takeN 9 (v := ?_) nth9 (by kernel_rfl) (fun _ _ _ _ _ h => h) (by rfl) hS ?_ ?_
  rotate_left
  (focus ((intro w hSw; (try dsimp only at hSw); (try go_split_ands); go_simp); try with_reducible rfl))
  (try simp only [Act.put, List.setIfInBounds_toArray, List.set_cons_zero, List.set_cons_succ])
  refine wpAnyQ_takeN 10 (v := ?_) nth10 (by kernel_rfl) (fun _ _ _ _ _ h => h) (by rfl) hS ?_ ?_
  rotate_left
  (focus ((intro w hSw; (try dsimp only at hSw); (try go_split_ands); go_simp); try with_reducible rfl))
  (try simp only [Act.put, List.setIfInBounds_toArray, List.set_cons_zero, List.set_cons_succ])
  refine wpAnyQ_takeN 11 (v := ?_) nth11 (by kernel_rfl) (fun _ _ _ _ _ h => h) (by rfl) hS ?_ ?_
  rotate_left
  (focus ((intro w hSw; (try dsimp only at hSw); (try go_split_ands); go_simp); try with_reducible rfl))
  (try simp only [Act.put, List.setIfInBounds_toArray, List.set_cons_zero, List.set_cons_succ])
  refine wpAnyQ_takeN 12 (v := ?_) nth12 (by kernel_rfl) (fun _ _ _ _ _ h => h) (by rfl) hS ?_ ?_
  rotate_left
  (focus ((intro w hSw; (try dsimp only at hSw); (try go_split_ands); go_simp); try with_reducible rfl))
  (try simp only [Act.put, List.setIfInBounds_toArray, List.set_cons_zero, List.set_cons_succ])
  refine wpAnyQ_takeN 13 (v := ?_) nth13 (by kernel_rfl) (fun _ _ _ _ _ h => h) (by rfl) hS ?_ ?_
  rotate_left
  (focus ((intro w hSw; (try dsimp only at hSw); (try go_split_ands); go_simp); try with_reducible rfl))
  (try simp only [Act.put, List.setIfInBounds_toArray, List.set_cons_zero, List.set_cons_succ])
  refine wpAnyQ_takeN 14 (v := ?_) nth14 (by kernel_rfl) (fun _ _ _ _ _ h => h) (by rfl) hS ?_ ?_
  rotate_left
  (focus ((intro w hSw; (try dsimp only at hSw); (try go_split_ands); go_simp); try with_reducible rfl))
  (try simp only [Act.put, List.setIfInBounds_toArray, List.set_cons_zero, List.set_cons_succ])
  refine wpAnyQ_end (by kernel_rfl) (NoPanic.normal ?_)
  go_wp2
  go_ret
  exact ⟨rfl, (Upd.refl _ _).drew⟩
set_option maxRecDepth 100000 in
set_option maxHeartbeats 4000000 in
theorem onceKeep_ok {fr to vol life id code : Nat} (h : TabB w tb km) (hm : MBlk w km es clk) (hall : ∀ x ∈ es.toList, isOKey x.key) (hn : es.size < 4096)
    (h1 : fr ≤ 255) (h2 : to ≤ 255) (h3 : 1 ≤ vol ∧ vol ≤ 65535) (h4 : life ≤ 2147483647) (h5 : code ≤ 255)
    (hf : lookE (.agg #[.int .i64 to, .int .u64 id]) es.toList 0 = none) :
    Calls Tryz.prog 30 #[.pointer (some ⟨tb, 0, none⟩), msgV fr to 5 vol life id code false 0 0 false (.slice none 0 0)] w fun e w' => e = .returned .nilIface ∧
      TabB w' tb km ∧ MBlk w' km (es.push { key := .agg #[.int .i64 to, .int .u64 id], val := msgV fr to 5 vol life id code false 0 0 false (.slice none 0 0), born := clk }) (clk + 1) ∧ Upd (fun k => k = km) w w' := by
  have HC := Lib.hid (fun W => check_answer (id := id) h1 h2 h3 h4 h5 W)
  have HR := Lib.hid (fun W (a : TabB W tb km) (b : MBlk W km es clk) => onceRoom_ok a b hn)
  have HO := Lib.hid (fun W => own_nil fr to 5 vol life id code false 0 0 false W)
  have hl := fun W (a : MBlk W km es clk) => run_lookup_S_none (P := Tryz.prog) (w := W) okey Tryz.underlying110 ⟨to, id, rfl⟩ a hall hf (z := msgZ) (by kernel_rfl) true
  have hp := fun W (a : MBlk W km es clk) => run_mapUpdate_S_new (P := Tryz.prog) (w := W) okey Tryz.underlying110 ⟨to, id, rfl⟩ a hall hf (msgV fr to 5 vol life id code false 0 0 false (.slice none 0 0))
  unfold msgV msgZ at *
  simp only [if_true] at hl
  have hl := Lib.hid hl
  have hp := Lib.hid hp
  go_enter Tryz.func30, Tryz.ntmps30
  go_wp2_with fail
  generalize hw0 : World.alloc _ _ = w0
  have hu0 : Upd (fun _ => False) w w0 := hw0 ▸ (Upd.refl _ w).alloc _
  have b3 : Blk w0 w.heap.size 34 #[.int .i64 fr, .int .i64 to, .int .i64 5, .int .i64 vol, .int .i64 life, .int .u64 id, .int .i64 code, .bool false, .int .u64 0, .int .u32 0, .bool false, .slice none 0 0] := hw0 ▸ Blk.new w _ _
  clear hw0
  refine (HC.out w0).mono ?_
  rintro e w1 ⟨rfl, hu1⟩
  have hu01 := hu0.then hu1 (fun _ _ h => h)
  have b31 := b3.upd hu1 (fun h => h)
  have g1 := b31.cell 1
  have g5 := b31.cell 5
  go_wp2_with fail
  have hlt1 := b31.lt
  have hu12 := (Upd.refl (fun _ => False) w1).alloc (.cells #[.int .i64 to, .int .u64 id] 114)
  have b6 := Blk.new w1 114 #[.int .i64 to, .int .u64 id]
  have b32 := b31.alloc (.cells #[.int .i64 to, .int .u64 id] 114)
  generalize (World.alloc w1 _) = w2 at *
  have hu02 := hu01.then hu12 (fun _ _ h => h)
  have ht2 : TabB w2 tb km := Blk.upd h hu02 (fun h => h)
  have hm2 := hm.upd hu02 (fun h => h)
  have hS : w2.drew.cell? ⟨tb, 1, none⟩ = some (.map (some km)) ∧ w2.drew.cell? ⟨w1.heap.size, 0, none⟩ = some (.int .i64 to) ∧ w2.drew.cell? ⟨w1.heap.size, 1, none⟩ = some (.int .u64 id) ∧ (Instr.lookup 110 (.map (some km)) (.agg #[.int .i64 to, .int .u64 id]) true).run Tryz.prog w2.drew = .ok (.tuple #[.agg #[.int .i64 0, .int .i64 0, .int .i64 0, .int .i64 0, .int .i64 0, .int .u64 0, .int .i64 0, .bool false, .int .u64 0, .int .u32 0, .bool false, .slice none 0 0], .bool false]) w2.drew := ⟨Blk.cell ht2 1, b6.cell 0, b6.cell 1, hl.out _ hm2.drew⟩
  refine wp_region_noPanic ?_
  refine wp_region_S 12 (fun W => W.cell? ⟨tb, 1, none⟩ = some (.map (some km)) ∧ W.cell? ⟨w1.heap.size, 0, none⟩ = some (.int .i64 to) ∧ W.cell? ⟨w1.heap.size, 1, none⟩ = some (.int .u64 id) ∧ (Instr.lookup 110 (.map (some km)) (.agg #[.int .i64 to, .int .u64 id]) true).run Tryz.prog W = .ok (.tuple #[.agg #[.int .i64 0, .int .i64 0, .int .i64 0, .int .i64 0, .int .i64 0, .int .u64 0, .int .i64 0, .bool false, .int .u64 0, .int .u32 0, .bool false, .slice none 0 0], .bool false]) W) (by kernel_rfl) rfl false ?_
  refine wpAnyQ_takeN 0 (v := ?_) nth0 (by kernel_rfl) (fun _ _ _ _ _ h => h) (by rfl) hS ?_ ?_
  rotate_left
  (focus ((intro w hSw; (try dsimp only at hSw); (try go_split_ands); go_simp); try with_reducible rfl))
  (try simp only [Act.put, List.setIfInBounds_toArray, List.set_cons_zero, List.set_cons_succ])
  refine wpAnyQ_takeN 1 (v := ?_) nth1 (by kernel_rfl) (fun _ _ _ _ _ h => h) (by rfl) hS ?_ ?_
  rotate_left
  (focus ((intro w hSw; (try dsimp only at hSw); (try go_split_ands); go_simp); try with_reducible rfl))
  (try simp only [Act.put, List.setIfInBounds_toArray, List.set_cons_zero, List.set_cons_succ])
  refine wpAnyQ_takeN 2 (v := ?_) nth2 (by kernel_rfl) (fun _ _ _ _ _ h => h) (by rfl) hS ?_ ?_
  rotate_left
  (focus ((intro w hSw; (try dsimp only at hSw); (try go_split_ands); go_simp); try with_reducible rfl))
  (try simp only [Act.put, List.setIfInBounds_toArray, List.set_cons_zero, List.set_cons_succ])
  refine wpAnyQ_takeN 3 (v := ?_) nth3 (by kernel_rfl) (fun _ _ _ _ _ h => h) (by rfl) hS ?_ ?_
  rotate_left
  (focus ((intro w hSw; (try dsimp only at hSw); (try go_split_ands); go_simp); try with_reducible rfl))
  (try simp only [Act.put, List.setIfInBounds_toArray, List.set_cons_zero, List.set_cons_succ])
  refine wpAnyQ_takeN 4 (v := ?_) nth4 (by kernel_rfl) (fun _ _ _ _ _ h => h) (by rfl) hS ?_ ?_
  rotate_left
  (focus ((intro w hSw; (try dsimp only at hSw); (try go_split_ands); go_simp); try with_reducible rfl))
  (try simp only [Act.put, List.setIfInBounds_toArray, List.set_cons_zero, List.set_cons_succ])
  refine wpAnyQ_takeN 5 (v := ?_) nth5 (by kernel_rfl) (fun _ _ _ _ _ h => h) (by rfl) hS ?_ ?_
  rotate_left
  (focus ((intro w hSw; (try dsimp only at hSw); (try go_split_ands); go_simp); try with_reducible rfl))
  (try simp only [Act.put, List.setIfInBounds_toArray, List.set_cons_zero, List.set_cons_succ])
  refine wpAnyQ_takeN 6 (v := ?_) nth6 (by kernel_rfl) (fun _ _ _ _ _ h => h) (by rfl) hS ?_ ?_
  rotate_left
  (focus ((intro w hSw; (try dsimp only at hSw); (try go_split_ands); go_simp); try with_reducible rfl))
  (try simp only [Act.put, List.setIfInBounds_toArray, List.set_cons_zero, List.set_cons_succ])
  refine wpAnyQ_takeN 7 (v := ?_) nth7 (by kernel_rfl) (fun _ _ _ _ _ h => h) (by rfl) hS ?_ ?_
  rotate_left
  (focus ((intro w hSw; (try dsimp only at hSw); (try go_split_ands); go_simp); try with_reducible rfl))
  (try simp only [Act.put, List.setIfInBounds_toArray, List.set_cons_zero, List.set_cons_succ])
  refine wpAnyQ_takeN 8 (v := ?_) nth8 (by kernel_rfl) (fun _ _ _ _ _ h => h) (by rfl) hS ?_ ?_
  rotate_left
  (focus ((intro w hSw; (try dsimp only at hSw); (try go_split_ands); go_simp); try with_reducible rfl))
  (try simp only [Act.put, List.setIfInBounds_toArray, List.set_cons_zero, List.set_cons_succ])
  refine wpAnyQ_doN 9 nth9 (by kernel_rfl) ?_
  go_wp2
  have hu23 := ((Upd.refl (fun _ => False) w2).alloc (.cells #[.int .i64 0, .int .i64 0, .int .i64 0, .int .i64 0, .int .i64 0, .int .u64 0, .int .i64 0, .bool false, .int .u64 0, .int .u32 0, .bool false, .slice none 0 0] 34)).drew
  have b7 := (Blk.new w2 34 #[.int .i64 0, .int .i64 0, .int .i64 0, .int .i64 0, .int .i64 0, .int .u64 0, .int .i64 0, .bool false, .int .u64 0, .int .u32 0, .bool false, .slice none 0 0]).drew
  generalize (World.drew (World.alloc w2 _)) = w3 at *
  have hu03 := hu02.then hu23 (fun _ _ h => h)
  have ht3 : TabB w3 tb km := Blk.upd h hu03 (fun h => h)
  have hm3 := hm.upd hu03 (fun h => h)
  have b63 := b6.upd hu23 (fun h => h)
  have b33 := b32.upd hu23 (fun h => h)
  refine doK_next (And.intro (Blk.cell ht3 1) (And.intro (b63.cell 0) (And.intro (b63.cell 1) (hl.out _ hm3)))) ?_
  refine wpAnyQ_doN 10 nth10 (by kernel_rfl) ?_
  go_wp2_with (refine wpList_store_blk rfl _ _ _ rfl _ _ _ #[.int .i64 0, .int .i64 0, .int .i64 0, .int .i64 0, .int .i64 0, .int .u64 0, .int .i64 0, .bool false, .int .u64 0, .int .u32 0, .bool false, .slice none 0 0] rfl rfl b7 rfl (by kernel_rfl) (by simp [Value.oneCell']) ?_; intro w4 b74 hu34)
  have hu04 := hu03.then hu34 (fun i hi e => by have e : i = w2.heap.size := e; have := hu02.size; omega)
  have ht4 : TabB w4 tb km := Blk.upd h hu04 (fun h => h)
  have hm4 := hm.upd hu04 (fun h => h)
  have b64 := b63.upd hu34 (fun e => by have e : w1.heap.size = w2.heap.size := e; have := b6.lt; omega)
  have b34 := b33.upd hu34 (fun e => by have e : w.heap.size = w2.heap.size := e; have := b32.lt; omega)
  have hS4 := And.intro (Blk.cell ht4 1) (And.intro (b64.cell 0) (And.intro (b64.cell 1) (hl.out _ hm4)))
  refine doK_next hS4 ?_
  refine wpAnyQ_takeN 11 (v := ?_) nth11 (by kernel_rfl) (fun _ _ _ _ _ h => h) (by rfl) hS4 ?_ ?_
  rotate_left
  (focus ((intro w hSw; (try dsimp only at hSw); (try go_split_ands); go_simp); try with_reducible rfl))
  (try simp only [Act.put, List.setIfInBounds_toArray, List.set_cons_zero, List.set_cons_succ])
  refine wpAnyQ_end (by kernel_rfl) (NoPanic.normal ?_)
  go_wp2_with fail
  refine (HR.out w4 ht4 hm4).mono ?_
  rintro e w5 ⟨rfl, hu45⟩
  have hu05 := hu04.then hu45 (fun _ _ h => h)
  have ht5 : TabB w5 tb km := Blk.upd h hu05 (fun h => h)
  have hm5 := hm.upd hu05 (fun h => h)
  have b65 := b64.upd hu45 (fun h => h)
  have b35 := b34.upd hu45 (fun h => h)
  clear hS hS4
  go_wp2_with fail
  have hS5 : w5.drew.cell? ⟨tb, 1, none⟩ = some (.map (some km)) ∧ w5.drew.cell? ⟨w1.heap.size, 0, none⟩ = some (.int .i64 to) ∧ w5.drew.cell? ⟨w1.heap.size, 1, none⟩ = some (.int .u64 id) ∧ w5.drew.cell? ⟨w.heap.size, 0, none⟩ = some (.int .i64 fr) ∧ w5.drew.cell? ⟨w.heap.size, 1, none⟩ = some (.int .i64 to) ∧ w5.drew.cell? ⟨w.heap.size, 2, none⟩ = some (.int .i64 5) ∧ w5.drew.cell? ⟨w.heap.size, 3, none⟩ = some (.int .i64 vol) ∧ w5.drew.cell? ⟨w.heap.size, 4, none⟩ = some (.int .i64 life) ∧ w5.drew.cell? ⟨w.heap.size, 5, none⟩ = some (.int .u64 id) ∧ w5.drew.cell? ⟨w.heap.size, 6, none⟩ = some (.int .i64 code) ∧ w5.drew.cell? ⟨w.heap.size, 7, none⟩ = some (.bool false) ∧ w5.drew.cell? ⟨w.heap.size, 8, none⟩ = some (.int .u64 0) ∧ w5.drew.cell? ⟨w.heap.size, 9, none⟩ = some (.int .u32 0) ∧ w5.drew.cell? ⟨w.heap.size, 10, none⟩ = some (.bool false) ∧ w5.drew.cell? ⟨w.heap.size, 11, none⟩ = some (.slice none 0 0) := ⟨Blk.cell ht5 1, b65.cell 0, b65.cell 1, b35.cell 0, b35.cell 1, b35.cell 2, b35.cell 3, b35.cell 4, b35.cell 5, b35.cell 6, b35.cell 7, b35.cell 8, b35.cell 9, b35.cell 10, b35.cell 11⟩
  refine wp_region_noPanic ?_
  refine wp_region_S 8 (fun W => W.cell? ⟨tb, 1, none⟩ = some (.map (some km)) ∧ W.cell? ⟨w1.heap.size, 0, none⟩ = some (.int .i64 to) ∧ W.cell? ⟨w1.heap.size, 1, none⟩ = some (.int .u64 id) ∧ W.cell? ⟨w.heap.size, 0, none⟩ = some (.int .i64 fr) ∧ W.cell? ⟨w.heap.size, 1, none⟩ = some (.int .i64 to) ∧ W.cell? ⟨w.heap.size, 2, none⟩ = some (.int .i64 5) ∧ W.cell? ⟨w.heap.size, 3, none⟩ = some (.int .i64 vol) ∧ W.cell? ⟨w.heap.size, 4, none⟩ = some (.int .i64 life) ∧ W.cell? ⟨w.heap.size, 5, none⟩ = some (.int .u64 id) ∧ W.cell? ⟨w.heap.size, 6, none⟩ = some (.int .i64 code) ∧ W.cell? ⟨w.heap.size, 7, none⟩ = some (.bool false) ∧ W.cell? ⟨w.heap.size, 8, none⟩ = some (.int .u64 0) ∧ W.cell? ⟨w.heap.size, 9, none⟩ = some (.int .u32 0) ∧ W.cell? ⟨w.heap.size, 10, none⟩ = some (.bool false) ∧ W.cell? ⟨w.heap.size, 11, none⟩ = some (.slice none 0 0)) (by kernel_rfl) rfl true ?_
  refine wpAnyQ_takeN 0 (v := ?_) nth0 (by kernel_rfl) (fun _ _ _ _ _ h => h) (by rfl) hS5 ?_ ?_
  rotate_left
  (focus ((intro w hSw; (try dsimp only at hSw); (try go_split_ands); go_simp); try with_reducible rfl))
  (try simp only [Act.put, List.setIfInBounds_toArray, List.set_cons_zero, List.set_cons_succ])
  refine wpAnyQ_takeN 1 (v := ?_) nth1 (by kernel_rfl) (fun _ _ _ _ _ h => h) (by rfl) hS5 ?_ ?_
  rotate_left
  (focus ((intro w hSw; (try dsimp only at hSw); (try go_split_ands); go_simp); try with_reducible rfl))
  (try simp only [Act.put, List.setIfInBounds_toArray, List.set_cons_zero, List.set_cons_succ])
  refine wpAnyQ_takeN 2 (v := ?_) nth2 (by kernel_rfl) (fun _ _ _ _ _ h => h) (by rfl) hS5 ?_ ?_
  rotate_left
  (focus ((intro w hSw; (try dsimp only at hSw); (try go_split_ands); go_simp); try with_reducible rfl))
  (try simp only [Act.put, List.setIfInBounds_toArray, List.set_cons_zero, List.set_cons_succ])
  refine wpAnyQ_takeN 3 (v := ?_) nth3 (by kernel_rfl) (fun _ _ _ _ _ h => h) (by rfl) hS5 ?_ ?_
  rotate_left
  (focus ((intro w hSw; (try dsimp only at hSw); (try go_split_ands); go_simp); try with_reducible rfl))
  (try simp only [Act.put, List.setIfInBounds_toArray, List.set_cons_zero, List.set_cons_succ])
  refine wpAnyQ_takeN 4 (v := ?_) nth4 (by kernel_rfl) (fun _ _ _ _ _ h => h) (by rfl) hS5 ?_ ?_
  rotate_left
  (focus ((intro w hSw; (try dsimp only at hSw); (try go_split_ands); go_simp); try with_reducible rfl))
  (try simp only [Act.put, List.setIfInBounds_toArray, List.set_cons_zero, List.set_cons_succ])
  refine wpAnyQ_takeN 5 (v := ?_) nth5 (by kernel_rfl) (fun _ _ _ _ _ h => h) (by rfl) hS5 ?_ ?_
  rotate_left
  (focus ((intro w hSw; (try dsimp only at hSw); (try go_split_ands); go_simp); try with_reducible rfl))
  (try simp only [Act.put, List.setIfInBounds_toArray, List.set_cons_zero, List.set_cons_succ])
  refine wpAnyQ_doN 6 nth6 (by kernel_rfl) ?_
  go_wp2_with (go_at_call 47; go_must (refine (HO.out w5.drew).mono ?_; rintro e w6 ⟨rfl, hu56⟩))
  have hu06 := hu05.drew.then hu56 (fun _ _ h => h)
  have ht6 : TabB w6 tb km := Blk.upd h hu06 (fun h => h)
  have hm6 := hm.upd hu06 (fun h => h)
  have b66 := b65.drew.upd hu56 (fun h => h)
  have b36 := b35.drew.upd hu56 (fun h => h)
  have hS6 : w6.cell? ⟨tb, 1, none⟩ = some (.map (some km)) ∧ w6.cell? ⟨w1.heap.size, 0, none⟩ = some (.int .i64 to) ∧ w6.cell? ⟨w1.heap.size, 1, none⟩ = some (.int .u64 id) ∧ w6.cell? ⟨w.heap.size, 0, none⟩ = some (.int .i64 fr) ∧ w6.cell? ⟨w.heap.size, 1, none⟩ = some (.int .i64 to) ∧ w6.cell? ⟨w.heap.size, 2, none⟩ = some (.int .i64 5) ∧ w6.cell? ⟨w.heap.size, 3, none⟩ = some (.int .i64 vol) ∧ w6.cell? ⟨w.heap.size, 4, none⟩ = some (.int .i64 life) ∧ w6.cell? ⟨w.heap.size, 5, none⟩ = some (.int .u64 id) ∧ w6.cell? ⟨w.heap.size, 6, none⟩ = some (.int .i64 code) ∧ w6.cell? ⟨w.heap.size, 7, none⟩ = some (.bool false) ∧ w6.cell? ⟨w.heap.size, 8, none⟩ = some (.int .u64 0) ∧ w6.cell? ⟨w.heap.size, 9, none⟩ = some (.int .u32 0) ∧ w6.cell? ⟨w.heap.size, 10, none⟩ = some (.bool false) ∧ w6.cell? ⟨w.heap.size, 11, none⟩ = some (.slice none 0 0) := ⟨Blk.cell ht6 1, b66.cell 0, b66.cell 1, b36.cell 0, b36.cell 1, b36.cell 2, b36.cell 3, b36.cell 4, b36.cell 5, b36.cell 6, b36.cell 7, b36.cell 8, b36.cell 9, b36.cell 10, b36.cell 11⟩
  refine doK_next hS6 ?_
  obtain ⟨w7, hrun, hm7, hg7⟩ := hp.out w6 hm6
  refine wpAnyQ_doN 7 nth7 (by kernel_rfl) ?_
  clear hS5 hS6
  go_wp2
  refine doK_last (by kernel_rfl) (by kernel_rfl) (NoPanic.normal ?_)
  go_wp2
  go_ret
  refine ⟨rfl, Blk.grown ht6 hg7 (fun e => ?_), hm7, ?_⟩
  · injection e with e
    exact Blk.neM ht6 hm6 e
  · exact (hu06.mono (fun _ _ h => h.elim)).grown hg7 (fun k e _ => by injection e with e; exact e.symm)
end
end Go.Proofs.YtlbmoafdialigaaGreatDoor
