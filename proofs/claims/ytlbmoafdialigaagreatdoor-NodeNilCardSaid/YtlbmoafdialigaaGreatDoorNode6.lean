/- node.Handle of a message that was there already. -/
import Derived.Test.YtlbmoafdialigaaGreatDoorNode5
namespace Go.Proofs.YtlbmoafdialigaaGreatDoor
open Go Go.RowKit Go.MapKept

set_option maxRecDepth 100000 in
set_option maxHeartbeats 8000000 in
theorem handle_again {w : World} {nb place d vm mm tb wm km mn ml fr vol id key cookie n c code : Nat} {A : Option Addr} {cap nx : Int} {dv : Value}
    (h : NodeB w nb place 0 true d vm mm tb wm) (hd : DiskB w d cap nx mn ml dv (-1)) (ht : TabB w tb km) (hm : MBlk w km #[{ key := .agg #[.int .i64 fr, .int .u64 id], val := msgV place fr 5 vol 0 id code false 0 0 false (.slice none 0 0), born := 0 }] 1)
    (h1 : fr ≤ 255) (h2 : place ≤ 255) (h3 : 1 ≤ vol ∧ vol ≤ 65535) (hn : n ≤ 4096) :
    Calls Tryz.prog 5 #[.pointer (some ⟨nb, 0, none⟩), msgV fr place 1 vol 0 id 0 true key cookie false (.slice A n c)] w fun e w' =>
      e = .returned (.tuple #[msgV place fr 5 vol 0 id code false 0 0 false (.slice none 0 0), .nilIface]) ∧ Upd (fun _ => False) w w' := by
  have HA := Lib.hid (fun (W : World) (a : NodeB W nb place 0 true d vm mm tb wm) (b : DiskB W d cap nx mn ml dv (-1)) => ask_up a b (by decide))
  have HC := Lib.hid (fun W => check_put (id := id) (key := key) (cookie := cookie) (A := A) (c := c) (life := 0) h1 h2 h3 (by decide) hn W)
  have HF := Lib.hid (fun (W : World) (a : TabB W tb km) (b : MBlk W km #[{ key := .agg #[.int .i64 fr, .int .u64 id], val := msgV place fr 5 vol 0 id code false 0 0 false (.slice none 0 0), born := 0 }] 1) => onceFind_some a b (by intro x hx; simp at hx; subst hx; exact ⟨_, _, rfl⟩) fr id (i := 0) (by simp [lookE]; rfl))
  unfold msgV at *
  go_enter Tryz.func5, Tryz.ntmps5
  go_wp2_with fail
  generalize hw0 : World.alloc (World.alloc _ _) _ = w0
  have hu0 : Upd (fun _ => False) w w0 := hw0 ▸ ((Upd.refl _ w).alloc _).alloc _
  have b3 : Blk w0 w.heap.size 34 #[.int .i64 fr, .int .i64 place, .int .i64 1, .int .i64 vol, .int .i64 0, .int .u64 id, .int .i64 0, .bool true, .int .u64 key, .int .u32 cookie, .bool false, .slice A n c] := hw0 ▸ (Blk.new w _ _).alloc _
  have b4 : Blk w0 (w.heap.size + 1) 34 #[.int .i64 0, .int .i64 0, .int .i64 0, .int .i64 0, .int .i64 0, .int .u64 0, .int .i64 0, .bool false, .int .u64 0, .int .u32 0, .bool false, .slice none 0 0] := hw0 ▸ Blk.new1 w _ _ _
  clear hw0
  have hn0 : NodeB w0 nb place 0 true d vm mm tb wm := Blk.upd h hu0 (fun h => h)
  refine (HA.out w0 hn0 (hd.upd hu0 (fun h => h))).mono ?_
  rintro e w' ⟨rfl, rfl⟩
  go_wp2_with fail
  have hS4 : w0.drew.cell? ⟨nb, 0, none⟩ = some (.int .i64 place) ∧ w0.drew.cell? ⟨w.heap.size, 0, none⟩ = some (.int .i64 fr) ∧ w0.drew.cell? ⟨w.heap.size, 1, none⟩ = some (.int .i64 place) ∧ w0.drew.cell? ⟨w.heap.size, 2, none⟩ = some (.int .i64 1) ∧ w0.drew.cell? ⟨w.heap.size, 3, none⟩ = some (.int .i64 vol) ∧ w0.drew.cell? ⟨w.heap.size, 4, none⟩ = some (.int .i64 0) ∧ w0.drew.cell? ⟨w.heap.size, 5, none⟩ = some (.int .u64 id) ∧ w0.drew.cell? ⟨w.heap.size, 6, none⟩ = some (.int .i64 0) ∧ w0.drew.cell? ⟨w.heap.size, 7, none⟩ = some (.bool true) ∧ w0.drew.cell? ⟨w.heap.size, 8, none⟩ = some (.int .u64 key) ∧ w0.drew.cell? ⟨w.heap.size, 9, none⟩ = some (.int .u32 cookie) ∧ w0.drew.cell? ⟨w.heap.size, 10, none⟩ = some (.bool false) ∧ w0.drew.cell? ⟨w.heap.size, 11, none⟩ = some (.slice A n c) := ⟨Blk.cell hn0 0, b3.cell 0, b3.cell 1, b3.cell 2, b3.cell 3, b3.cell 4, b3.cell 5, b3.cell 6, b3.cell 7, b3.cell 8, b3.cell 9, b3.cell 10, b3.cell 11⟩
  refine wp_region_noPanic ?_
  refine wp_region_S 17 (fun W => W.cell? ⟨nb, 0, none⟩ = some (.int .i64 place) ∧ W.cell? ⟨w.heap.size, 0, none⟩ = some (.int .i64 fr) ∧ W.cell? ⟨w.heap.size, 1, none⟩ = some (.int .i64 place) ∧ W.cell? ⟨w.heap.size, 2, none⟩ = some (.int .i64 1) ∧ W.cell? ⟨w.heap.size, 3, none⟩ = some (.int .i64 vol) ∧ W.cell? ⟨w.heap.size, 4, none⟩ = some (.int .i64 0) ∧ W.cell? ⟨w.heap.size, 5, none⟩ = some (.int .u64 id) ∧ W.cell? ⟨w.heap.size, 6, none⟩ = some (.int .i64 0) ∧ W.cell? ⟨w.heap.size, 7, none⟩ = some (.bool true) ∧ W.cell? ⟨w.heap.size, 8, none⟩ = some (.int .u64 key) ∧ W.cell? ⟨w.heap.size, 9, none⟩ = some (.int .u32 cookie) ∧ W.cell? ⟨w.heap.size, 10, none⟩ = some (.bool false) ∧ W.cell? ⟨w.heap.size, 11, none⟩ = some (.slice A n c)) (by kernel_rfl) rfl false ?_
  refine wpAnyQ_takeN 0 (v := ?_) nth0 (by kernel_rfl) (fun _ _ _ _ _ h => h) (by rfl) hS4 ?_ ?_
  rotate_left
  (focus ((intro w hSw; (try dsimp only at hSw); (try go_split_ands); go_simp); try with_reducible rfl))
  (try simp only [Act.put, List.setIfInBounds_toArray, List.set_cons_zero, List.set_cons_succ])
  refine wpAnyQ_takeN 1 (v := ?_) nth1 (by kernel_rfl) (fun _ _ _ _ _ h => h) (by rfl) hS4 ?_ ?_
  rotate_left
  (focus ((intro w hSw; (try dsimp only at hSw); (try go_split_ands); go_simp); try with_reducible rfl))
  (try simp only [Act.put, List.setIfInBounds_toArray, List.set_cons_zero, List.set_cons_succ])
  refine wpAnyQ_takeN 2 (v := ?_) nth2 (by kernel_rfl) (fun _ _ _ _ _ h => h) (by rfl) hS4 ?_ ?_
  rotate_left
  (focus ((intro w hSw; (try dsimp only at hSw); (try go_split_ands); go_simp); try with_reducible rfl))
  (try simp only [Act.put, List.setIfInBounds_toArray, List.set_cons_zero, List.set_cons_succ])
  refine wpAnyQ_takeN 3 (v := ?_) nth3 (by kernel_rfl) (fun _ _ _ _ _ h => h) (by rfl) hS4 ?_ ?_
  rotate_left
  (focus ((intro w hSw; (try dsimp only at hSw); (try go_split_ands); go_simp); try with_reducible rfl))
  (try simp only [Act.put, List.setIfInBounds_toArray, List.set_cons_zero, List.set_cons_succ])
  refine wpAnyQ_takeN 4 (v := ?_) nth4 (by kernel_rfl) (fun _ _ _ _ _ h => h) (by rfl) hS4 ?_ ?_
  rotate_left
  (focus ((intro w hSw; (try dsimp only at hSw); (try go_split_ands); go_simp); try with_reducible rfl))
  (try simp only [Act.put, List.setIfInBounds_toArray, List.set_cons_zero, List.set_cons_succ])
  refine wpAnyQ_doN 5 nth5 (by kernel_rfl) ?_
  go_wp2_with (go_at_call 23; go_must (refine (HC.out w0.drew).mono ?_; rintro e w1 ⟨rfl, hu1⟩))
  have hu01 : Upd (fun _ => False) w0 w1 := ((Upd.refl (fun _ => False) w0).drew).then hu1 (fun _ _ h => h)
  have b31 := b3.upd hu01 (fun h => h)
  have b41 := b4.upd hu01 (fun h => h)
  have hn1 : NodeB w1 nb place 0 true d vm mm tb wm := Blk.upd hn0 hu01 (fun h => h)
  have hS5 : w1.cell? ⟨nb, 0, none⟩ = some (.int .i64 place) ∧ w1.cell? ⟨w.heap.size, 0, none⟩ = some (.int .i64 fr) ∧ w1.cell? ⟨w.heap.size, 1, none⟩ = some (.int .i64 place) ∧ w1.cell? ⟨w.heap.size, 2, none⟩ = some (.int .i64 1) ∧ w1.cell? ⟨w.heap.size, 3, none⟩ = some (.int .i64 vol) ∧ w1.cell? ⟨w.heap.size, 4, none⟩ = some (.int .i64 0) ∧ w1.cell? ⟨w.heap.size, 5, none⟩ = some (.int .u64 id) ∧ w1.cell? ⟨w.heap.size, 6, none⟩ = some (.int .i64 0) ∧ w1.cell? ⟨w.heap.size, 7, none⟩ = some (.bool true) ∧ w1.cell? ⟨w.heap.size, 8, none⟩ = some (.int .u64 key) ∧ w1.cell? ⟨w.heap.size, 9, none⟩ = some (.int .u32 cookie) ∧ w1.cell? ⟨w.heap.size, 10, none⟩ = some (.bool false) ∧ w1.cell? ⟨w.heap.size, 11, none⟩ = some (.slice A n c) := ⟨Blk.cell hn1 0, b31.cell 0, b31.cell 1, b31.cell 2, b31.cell 3, b31.cell 4, b31.cell 5, b31.cell 6, b31.cell 7, b31.cell 8, b31.cell 9, b31.cell 10, b31.cell 11⟩
  refine doK_next hS5 ?_
  refine wpAnyQ_takeN 6 (v := ?_) nth6 (by kernel_rfl) (fun _ _ _ _ _ h => h) (by rfl) hS5 ?_ ?_
  rotate_left
  (focus ((intro w hSw; (try dsimp only at hSw); (try go_split_ands); go_simp); try with_reducible rfl))
  (try simp only [Act.put, List.setIfInBounds_toArray, List.set_cons_zero, List.set_cons_succ])
  refine wpAnyQ_takeN 7 (v := ?_) nth7 (by kernel_rfl) (fun _ _ _ _ _ h => h) (by rfl) hS5 ?_ ?_
  rotate_left
  (focus ((intro w hSw; (try dsimp only at hSw); (try go_split_ands); go_simp); try with_reducible rfl))
  (try simp only [Act.put, List.setIfInBounds_toArray, List.set_cons_zero, List.set_cons_succ])
  refine wpAnyQ_takeN 8 (v := ?_) nth8 (by kernel_rfl) (fun _ _ _ _ _ h => h) (by rfl) hS5 ?_ ?_
  rotate_left
  (focus ((intro w hSw; (try dsimp only at hSw); (try go_split_ands); go_simp); try with_reducible rfl))
  (try simp only [Act.put, List.setIfInBounds_toArray, List.set_cons_zero, List.set_cons_succ])
  refine wpAnyQ_takeN 9 (v := ?_) nth9 (by kernel_rfl) (fun _ _ _ _ _ h => h) (by rfl) hS5 ?_ ?_
  rotate_left
  (focus ((intro w hSw; (try dsimp only at hSw); (try go_split_ands); go_simp); try with_reducible rfl))
  (try simp only [Act.put, List.setIfInBounds_toArray, List.set_cons_zero, List.set_cons_succ])
  refine wpAnyQ_takeN 10 (v := ?_) nth10 (by kernel_rfl) (fun _ _ _ _ _ h => h) (by rfl) hS5 ?_ ?_
  rotate_left
  (focus ((intro w hSw; (try dsimp only at hSw); (try go_split_ands); go_simp); try with_reducible rfl))
  (try simp only [Act.put, List.setIfInBounds_toArray, List.set_cons_zero, List.set_cons_succ])
  refine wpAnyQ_takeN 11 (v := ?_) nth11 (by kernel_rfl) (fun _ _ _ _ _ h => h) (by rfl) hS5 ?_ ?_
  rotate_left
  (focus ((intro w hSw; (try dsimp only at hSw); (try go_split_ands); go_simp); try with_reducible rfl))
  (try simp only [Act.put, List.setIfInBounds_toArray, List.set_cons_zero, List.set_cons_succ])
  refine wpAnyQ_takeN 12 (v := ?_) nth12 (by kernel_rfl) (fun _ _ _ _ _ h => h) (by rfl) hS5 ?_ ?_
  rotate_left
  (focus ((intro w hSw; (try dsimp only at hSw); (try go_split_ands); go_simp); try with_reducible rfl))
  (try simp only [Act.put, List.setIfInBounds_toArray, List.set_cons_zero, List.set_cons_succ])
  refine wpAnyQ_takeN 13 (v := ?_) nth13 (by kernel_rfl) (fun _ _ _ _ _ h => h) (by rfl) hS5 ?_ ?_
  rotate_left
  (focus ((intro w hSw; (try dsimp only at hSw); (try go_split_ands); go_simp); try with_reducible rfl))
  (try simp only [Act.put, List.setIfInBounds_toArray, List.set_cons_zero, List.set_cons_succ])
  refine wpAnyQ_takeN 14 (v := ?_) nth14 (by kernel_rfl) (fun _ _ _ _ _ h => h) (by rfl) hS5 ?_ ?_
  rotate_left
  (focus ((intro w hSw; (try dsimp only at hSw); (try go_split_ands); go_simp); try with_reducible rfl))
  (try simp only [Act.put, List.setIfInBounds_toArray, List.set_cons_zero, List.set_cons_succ])
  refine wpAnyQ_takeN 15 (v := ?_) nth15 (by kernel_rfl) (fun _ _ _ _ _ h => h) (by rfl) hS5 ?_ ?_
  rotate_left
  (focus ((intro w hSw; (try dsimp only at hSw); (try go_split_ands); go_simp); try with_reducible rfl))
  (try simp only [Act.put, List.setIfInBounds_toArray, List.set_cons_zero, List.set_cons_succ])
  refine wpAnyQ_takeN 16 (v := ?_) nth16 (by kernel_rfl) (fun _ _ _ _ _ h => h) (by rfl) hS5 ?_ ?_
  rotate_left
  (focus ((intro w hSw; (try dsimp only at hSw); (try go_split_ands); go_simp); try with_reducible rfl))
  (try simp only [Act.put, List.setIfInBounds_toArray, List.set_cons_zero, List.set_cons_succ])
  refine wpAnyQ_end (by kernel_rfl) (NoPanic.normal ?_)
  go_wp2_with fail
  have hu12 := (Upd.refl (fun _ => False) w1).alloc (.cells #[.int .u64 0, .int .u32 0, .bool false, .slice none 0 0] 32)
  have b7 := Blk.new w1 32 #[.int .u64 0, .int .u32 0, .bool false, .slice none 0 0]
  have l31 := b31.lt
  have l41 := b41.lt
  have b32 := b31.upd hu12 (fun h => h)
  have b42 := b41.upd hu12 (fun h => h)
  have hn2 : NodeB _ nb place 0 true d vm mm tb wm := Blk.upd hn1 hu12 (fun h => h)
  generalize hb7 : w1.heap.size = n7 at *
  generalize (World.alloc w1 _) = w2 at *
  have hu02 := (hu0.then hu01 (fun _ _ h => h)).then hu12 (fun _ _ h => h)
  clear hS4 hS5
  have hS7 : w2.drew.cell? ⟨nb, 1, none⟩ = some (.int .i64 0) ∧ w2.drew.cell? ⟨w.heap.size, 4, none⟩ = some (.int .i64 0) := ⟨Blk.cell hn2 1, b32.cell 4⟩
  refine wp_region_noPanic ?_
  refine wp_region_S 7 (fun W => W.cell? ⟨nb, 1, none⟩ = some (.int .i64 0) ∧ W.cell? ⟨w.heap.size, 4, none⟩ = some (.int .i64 0)) (by kernel_rfl) rfl false ?_
  refine wpAnyQ_takeN 0 (v := ?_) nth0 (by kernel_rfl) (fun _ _ _ _ _ h => h) (by rfl) hS7 ?_ ?_
  rotate_left
  (focus ((intro w hSw; (try dsimp only at hSw); (try go_split_ands); go_simp); try with_reducible rfl))
  (try simp only [Act.put, List.setIfInBounds_toArray, List.set_cons_zero, List.set_cons_succ])
  refine wpAnyQ_takeN 1 (v := ?_) nth1 (by kernel_rfl) (fun _ _ _ _ _ h => h) (by rfl) hS7 ?_ ?_
  rotate_left
  (focus ((intro w hSw; (try dsimp only at hSw); (try go_split_ands); go_simp); try with_reducible rfl))
  (try simp only [Act.put, List.setIfInBounds_toArray, List.set_cons_zero, List.set_cons_succ])
  refine wpAnyQ_takeN 2 (v := ?_) nth2 (by kernel_rfl) (fun _ _ _ _ _ h => h) (by rfl) hS7 ?_ ?_
  rotate_left
  (focus ((intro w hSw; (try dsimp only at hSw); (try go_split_ands); go_simp); try with_reducible rfl))
  (try simp only [Act.put, List.setIfInBounds_toArray, List.set_cons_zero, List.set_cons_succ])
  refine wpAnyQ_takeN 3 (v := ?_) nth3 (by kernel_rfl) (fun _ _ _ _ _ h => h) (by rfl) hS7 ?_ ?_
  rotate_left
  (focus ((intro w hSw; (try dsimp only at hSw); (try go_split_ands); go_simp); try with_reducible rfl))
  (try simp only [Act.put, List.setIfInBounds_toArray, List.set_cons_zero, List.set_cons_succ])
  refine wpAnyQ_takeN 4 (v := ?_) nth4 (by kernel_rfl) (fun _ _ _ _ _ h => h) (by rfl) hS7 ?_ ?_
  rotate_left
  (focus ((intro w hSw; (try dsimp only at hSw); (try go_split_ands); go_simp); try with_reducible rfl))
  (try simp only [Act.put, List.setIfInBounds_toArray, List.set_cons_zero, List.set_cons_succ])
  refine wpAnyQ_takeN 5 (v := ?_) nth5 (by kernel_rfl) (fun _ _ _ _ _ h => h) (by rfl) hS7 ?_ ?_
  rotate_left
  (focus ((intro w hSw; (try dsimp only at hSw); (try go_split_ands); go_simp); try with_reducible rfl))
  (try simp only [Act.put, List.setIfInBounds_toArray, List.set_cons_zero, List.set_cons_succ])
  refine wpAnyQ_takeN 6 (v := ?_) nth6 (by kernel_rfl) (fun _ _ _ _ _ h => h) (by rfl) hS7 ?_ ?_
  rotate_left
  (focus ((intro w hSw; (try dsimp only at hSw); (try go_split_ands); go_simp); try with_reducible rfl))
  (try simp only [Act.put, List.setIfInBounds_toArray, List.set_cons_zero, List.set_cons_succ])
  refine wpAnyQ_end (by kernel_rfl) (NoPanic.normal ?_)
  go_upto_region 10 with fail
  have hu23 := (Upd.refl (fun _ => False) w2).drew
  have hu03 := hu02.drew
  have b73 := b7.drew
  have b33 := b32.drew
  have b43 := b42.drew
  have hn3 : NodeB w2.drew nb place 0 true d vm mm tb wm := hn2
  clear hS7 hu23
  generalize hw3 : w2.drew = w3 at *
  have ht3 : TabB w3 tb km := Blk.upd ht hu03 (fun h => h)
  have hm3 := hm.upd hu03 (fun h => h)
  have hS10 : w3.drew.cell? ⟨nb, 6, none⟩ = some (.pointer (some ⟨tb, 0, none⟩)) ∧ w3.drew.cell? ⟨w.heap.size, 0, none⟩ = some (.int .i64 fr) ∧ w3.drew.cell? ⟨w.heap.size, 5, none⟩ = some (.int .u64 id) := ⟨Blk.cell hn3 6, b33.cell 0, b33.cell 5⟩
  refine wp_region_noPanic ?_
  refine wp_region_S 15 (fun W => W.cell? ⟨nb, 6, none⟩ = some (.pointer (some ⟨tb, 0, none⟩)) ∧ W.cell? ⟨w.heap.size, 0, none⟩ = some (.int .i64 fr) ∧ W.cell? ⟨w.heap.size, 5, none⟩ = some (.int .u64 id)) (by kernel_rfl) rfl false ?_
  refine wpAnyQ_takeN 0 (v := ?_) nth0 (by kernel_rfl) (fun _ _ _ _ _ h => h) (by rfl) hS10 ?_ ?_
  rotate_left
  (focus ((intro w hSw; (try dsimp only at hSw); (try go_split_ands); go_simp); try with_reducible rfl))
  (try simp only [Act.put, List.setIfInBounds_toArray, List.set_cons_zero, List.set_cons_succ])
  refine wpAnyQ_takeN 1 (v := ?_) nth1 (by kernel_rfl) (fun _ _ _ _ _ h => h) (by rfl) hS10 ?_ ?_
  rotate_left
  (focus ((intro w hSw; (try dsimp only at hSw); (try go_split_ands); go_simp); try with_reducible rfl))
  (try simp only [Act.put, List.setIfInBounds_toArray, List.set_cons_zero, List.set_cons_succ])
  refine wpAnyQ_takeN 2 (v := ?_) nth2 (by kernel_rfl) (fun _ _ _ _ _ h => h) (by rfl) hS10 ?_ ?_
  rotate_left
  (focus ((intro w hSw; (try dsimp only at hSw); (try go_split_ands); go_simp); try with_reducible rfl))
  (try simp only [Act.put, List.setIfInBounds_toArray, List.set_cons_zero, List.set_cons_succ])
  refine wpAnyQ_takeN 3 (v := ?_) nth3 (by kernel_rfl) (fun _ _ _ _ _ h => h) (by rfl) hS10 ?_ ?_
  rotate_left
  (focus ((intro w hSw; (try dsimp only at hSw); (try go_split_ands); go_simp); try with_reducible rfl))
  (try simp only [Act.put, List.setIfInBounds_toArray, List.set_cons_zero, List.set_cons_succ])
  refine wpAnyQ_takeN 4 (v := ?_) nth4 (by kernel_rfl) (fun _ _ _ _ _ h => h) (by rfl) hS10 ?_ ?_
  rotate_left
  (focus ((intro w hSw; (try dsimp only at hSw); (try go_split_ands); go_simp); try with_reducible rfl))
  (try simp only [Act.put, List.setIfInBounds_toArray, List.set_cons_zero, List.set_cons_succ])
  refine wpAnyQ_takeN 5 (v := ?_) nth5 (by kernel_rfl) (fun _ _ _ _ _ h => h) (by rfl) hS10 ?_ ?_
  rotate_left
  (focus ((intro w hSw; (try dsimp only at hSw); (try go_split_ands); go_simp); try with_reducible rfl))
  (try simp only [Act.put, List.setIfInBounds_toArray, List.set_cons_zero, List.set_cons_succ])
  refine wpAnyQ_takeN 6 (v := ?_) nth6 (by kernel_rfl) (fun _ _ _ _ _ h => h) (by rfl) hS10 ?_ ?_
  rotate_left
  (focus ((intro w hSw; (try dsimp only at hSw); (try go_split_ands); go_simp); try with_reducible rfl))
  (try simp only [Act.put, List.setIfInBounds_toArray, List.set_cons_zero, List.set_cons_succ])
  refine wpAnyQ_takeN 7 (v := ?_) nth7 (by kernel_rfl) (fun _ _ _ _ _ h => h) (by rfl) hS10 ?_ ?_
  rotate_left
  (focus ((intro w hSw; (try dsimp only at hSw); (try go_split_ands); go_simp); try with_reducible rfl))
  (try simp only [Act.put, List.setIfInBounds_toArray, List.set_cons_zero, List.set_cons_succ])
  refine wpAnyQ_do2 8 12 nth8 nth12 (by kernel_rfl) ?fa ?fb
  case' fa =>
    go_wp2_with (go_at_call 25; go_must (refine (HF.out w3.drew ht3 hm3).mono ?_; rintro e w4 ⟨rfl, hu4⟩))
    have hu34 : Upd (fun _ => False) w3 w4 := ((Upd.refl (fun _ => False) w3).drew).then hu4 (fun _ _ h => h)
    have b74 := b73.upd hu34 (fun h => h)
    have b34 := b33.upd hu34 (fun h => h)
    have b44 := b43.upd hu34 (fun h => h)
    have hn4 : NodeB w4 nb place 0 true d vm mm tb wm := Blk.upd hn3 hu34 (fun h => h)
    have hS11 : w4.cell? ⟨nb, 6, none⟩ = some (.pointer (some ⟨tb, 0, none⟩)) ∧ w4.cell? ⟨w.heap.size, 0, none⟩ = some (.int .i64 fr) ∧ w4.cell? ⟨w.heap.size, 5, none⟩ = some (.int .u64 id) := ⟨Blk.cell hn4 6, b34.cell 0, b34.cell 5⟩
    refine doK_next hS11 ?_
    refine wpAnyQ_takeN 9 (v := ?_) nth9 (by kernel_rfl) (fun _ _ _ _ _ h => h) (by rfl) hS11 ?_ ?_
    rotate_left
    (focus ((intro w hSw; (try dsimp only at hSw); (try go_split_ands); go_simp); try with_reducible rfl))
    (try simp only [Act.put, List.setIfInBounds_toArray, List.set_cons_zero, List.set_cons_succ])
    refine wpAnyQ_takeN 10 (v := ?_) nth10 (by kernel_rfl) (fun _ _ _ _ _ h => h) (by rfl) hS11 ?_ ?_
    rotate_left
    (focus ((intro w hSw; (try dsimp only at hSw); (try go_split_ands); go_simp); try with_reducible rfl))
    (try simp only [Act.put, List.setIfInBounds_toArray, List.set_cons_zero, List.set_cons_succ])
    refine wpAnyQ_takeN 11 (v := ?_) nth11 (by kernel_rfl) (fun _ _ _ _ _ h => h) (by rfl) hS11 ?_ ?_
    rotate_left
    (focus ((intro w hSw; (try dsimp only at hSw); (try go_split_ands); go_simp); try with_reducible rfl))
    (try simp only [Act.put, List.setIfInBounds_toArray, List.set_cons_zero, List.set_cons_succ])
    refine wpAnyQ_doN 12 nth12 (by kernel_rfl) ?_
    go_wp2
    have hu45 := (Upd.refl (fun _ => False) w4).alloc (.cells #[.int .i64 0, .int .i64 0, .int .i64 0, .int .i64 0, .int .i64 0, .int .u64 0, .int .i64 0, .bool false, .int .u64 0, .int .u32 0, .bool false, .slice none 0 0] 34)
    have b85 := Blk.new w4 34 #[.int .i64 0, .int .i64 0, .int .i64 0, .int .i64 0, .int .i64 0, .int .u64 0, .int .i64 0, .bool false, .int .u64 0, .int .u32 0, .bool false, .slice none 0 0]
    have hu35 := hu34.then hu45 (fun _ _ h => h)
    have q1 : w3.heap.size ≤ w4.heap.size := hu34.size
    have q2 : w.heap.size + 1 < w4.heap.size := b44.lt
    generalize w4.heap.size = n8 at *
    generalize (World.alloc w4 _) = w5 at *
    have b75 := b74.upd hu45 (fun h => h)
    have b35 := b34.upd hu45 (fun h => h)
    have b45 := b44.upd hu45 (fun h => h)
    have hn5 : NodeB w5 nb place 0 true d vm mm tb wm := Blk.upd hn4 hu45 (fun h => h)
    have hS12 : w5.cell? ⟨nb, 6, none⟩ = some (.pointer (some ⟨tb, 0, none⟩)) ∧ w5.cell? ⟨w.heap.size, 0, none⟩ = some (.int .i64 fr) ∧ w5.cell? ⟨w.heap.size, 5, none⟩ = some (.int .u64 id) := ⟨Blk.cell hn5 6, b35.cell 0, b35.cell 5⟩
    refine doK_next hS12 ?_
    clear hS11 hu45 hu34 hn4 b74 b34 b44
  case' fb =>
    go_wp2
    have hu34 := ((Upd.refl (fun _ => False) w3).alloc (.cells #[.int .i64 0, .int .i64 0, .int .i64 0, .int .i64 0, .int .i64 0, .int .u64 0, .int .i64 0, .bool false, .int .u64 0, .int .u32 0, .bool false, .slice none 0 0] 34)).drew
    have b84 := (Blk.new w3 34 #[.int .i64 0, .int .i64 0, .int .i64 0, .int .i64 0, .int .i64 0, .int .u64 0, .int .i64 0, .bool false, .int .u64 0, .int .u32 0, .bool false, .slice none 0 0]).drew
    have q2 : w.heap.size + 1 < w3.heap.size := b43.lt
    generalize hq : w3.heap.size = n8 at *
    have q1 : w3.heap.size ≤ n8 := Nat.le_of_eq hq
    clear hq
    generalize (World.drew (World.alloc w3 _)) = w4 at *
    have b74 := b73.upd hu34 (fun h => h)
    have b34 := b33.upd hu34 (fun h => h)
    have b44 := b43.upd hu34 (fun h => h)
    have hn4 : NodeB w4 nb place 0 true d vm mm tb wm := Blk.upd hn3 hu34 (fun h => h)
    have hS11 : w4.cell? ⟨nb, 6, none⟩ = some (.pointer (some ⟨tb, 0, none⟩)) ∧ w4.cell? ⟨w.heap.size, 0, none⟩ = some (.int .i64 fr) ∧ w4.cell? ⟨w.heap.size, 5, none⟩ = some (.int .u64 id) := ⟨Blk.cell hn4 6, b34.cell 0, b34.cell 5⟩
    refine doK_next hS11 ?_
    refine wpAnyQ_doN 8 nth8 (by kernel_rfl) ?_
    go_wp2_with (go_at_call 25; go_must (refine (HF.out w4 (Blk.upd ht3 hu34 (fun h => h)) (hm3.upd hu34 (fun h => h))).mono ?_; rintro e w5 ⟨rfl, hu45⟩))
    have hu35 := hu34.then hu45 (fun _ _ h => h)
    have b75 := b74.upd hu45 (fun h => h)
    have b35 := b34.upd hu45 (fun h => h)
    have b45 := b44.upd hu45 (fun h => h)
    have b85 := b84.upd hu45 (fun h => h)
    have hn5 : NodeB w5 nb place 0 true d vm mm tb wm := Blk.upd hn4 hu45 (fun h => h)
    have hS12 : w5.cell? ⟨nb, 6, none⟩ = some (.pointer (some ⟨tb, 0, none⟩)) ∧ w5.cell? ⟨w.heap.size, 0, none⟩ = some (.int .i64 fr) ∧ w5.cell? ⟨w.heap.size, 5, none⟩ = some (.int .u64 id) := ⟨Blk.cell hn5 6, b35.cell 0, b35.cell 5⟩
    refine doK_next hS12 ?_
    refine wpAnyQ_takeN 9 (v := ?_) nth9 (by kernel_rfl) (fun _ _ _ _ _ h => h) (by rfl) hS12 ?_ ?_
    rotate_left
    (focus ((intro w hSw; (try dsimp only at hSw); (try go_split_ands); go_simp); try with_reducible rfl))
    (try simp only [Act.put, List.setIfInBounds_toArray, List.set_cons_zero, List.set_cons_succ])
    refine wpAnyQ_takeN 10 (v := ?_) nth10 (by kernel_rfl) (fun _ _ _ _ _ h => h) (by rfl) hS12 ?_ ?_
    rotate_left
    (focus ((intro w hSw; (try dsimp only at hSw); (try go_split_ands); go_simp); try with_reducible rfl))
    (try simp only [Act.put, List.setIfInBounds_toArray, List.set_cons_zero, List.set_cons_succ])
    refine wpAnyQ_takeN 11 (v := ?_) nth11 (by kernel_rfl) (fun _ _ _ _ _ h => h) (by rfl) hS12 ?_ ?_
    rotate_left
    (focus ((intro w hSw; (try dsimp only at hSw); (try go_split_ands); go_simp); try with_reducible rfl))
    (try simp only [Act.put, List.setIfInBounds_toArray, List.set_cons_zero, List.set_cons_succ])
    clear hS11 hu45 hu34 hn4 b74 b34 b44 b84
  all_goals
    refine wpAnyQ_doN 13 nth13 (by kernel_rfl) ?_
    go_wp2_with (refine wpList_store_blk rfl _ _ _ rfl _ _ _ #[.int .i64 place, .int .i64 fr, .int .i64 5, .int .i64 vol, .int .i64 0, .int .u64 id, .int .i64 code, .bool false, .int .u64 0, .int .u32 0, .bool false, .slice none 0 0] rfl rfl b85 rfl (by kernel_rfl) (by simp [Value.oneCell']) ?_; intro w6 b86 hu56)
    have b36 := b35.upd hu56 (fun e => by have e : w.heap.size = n8 := e; omega)
    have hn6 : NodeB w6 nb place 0 true d vm mm tb wm := Blk.upd hn5 hu56 (Blk.ne_ hn5 b85 (by decide))
    have b46 := b45.upd hu56 (fun e => by have e : w.heap.size + 1 = n8 := e; omega)
    have hS13 : w6.cell? ⟨nb, 6, none⟩ = some (.pointer (some ⟨tb, 0, none⟩)) ∧ w6.cell? ⟨w.heap.size, 0, none⟩ = some (.int .i64 fr) ∧ w6.cell? ⟨w.heap.size, 5, none⟩ = some (.int .u64 id) := ⟨Blk.cell hn6 6, b36.cell 0, b36.cell 5⟩
    refine doK_next hS13 ?_
    refine wpAnyQ_takeN 14 (v := ?_) nth14 (by kernel_rfl) (fun _ _ _ _ _ h => h) (by rfl) hS13 ?_ ?_
    rotate_left
    (focus ((intro w hSw; (try dsimp only at hSw); (try go_split_ands); go_simp); try with_reducible rfl))
    (try simp only [Act.put, List.setIfInBounds_toArray, List.set_cons_zero, List.set_cons_succ])
    refine wpAnyQ_end (by kernel_rfl) (NoPanic.normal ?_)
    clear hS13 hS12 hS10
    have r0 := b86.cell 0
    have r1 := b86.cell 1
    have r2 := b86.cell 2
    have r3 := b86.cell 3
    have r4 := b86.cell 4
    have r5 := b86.cell 5
    have r6 := b86.cell 6
    have r7 := b86.cell 7
    have r8 := b86.cell 8
    have r9 := b86.cell 9
    have r10 := b86.cell 10
    have r11 := b86.cell 11
    go_wp2_with (refine wpList_store_blk rfl _ _ _ rfl _ _ _ #[.int .i64 place, .int .i64 fr, .int .i64 5, .int .i64 vol, .int .i64 0, .int .u64 id, .int .i64 code, .bool false, .int .u64 0, .int .u32 0, .bool false, .slice none 0 0] rfl rfl b46 rfl (by kernel_rfl) (by simp [Value.oneCell']) ?_; intro we b4e hde)
    have y0 := b4e.cell 0
    have y1 := b4e.cell 1
    have y2 := b4e.cell 2
    have y3 := b4e.cell 3
    have y4 := b4e.cell 4
    have y5 := b4e.cell 5
    have y6 := b4e.cell 6
    have y7 := b4e.cell 7
    have y8 := b4e.cell 8
    have y9 := b4e.cell 9
    have y10 := b4e.cell 10
    have y11 := b4e.cell 11
    refine bodyPost_ret (v := .tuple #[.agg #[.int .i64 place, .int .i64 fr, .int .i64 5, .int .i64 vol, .int .i64 0, .int .u64 id, .int .i64 code, .bool false, .int .u64 0, .int .u32 0, .bool false, .slice none 0 0], .nilIface]) (by simp [results, Tryz.results5, go_sem, y0, y1, y2, y3, y4, y5, y6, y7, y8, y9, y10, y11]) rfl ⟨rfl, ?_⟩
    exact ((hu03.then hu35 (fun _ _ h => h)).then hu56 (fun i hi e => by have e : i = n8 := e; omega)).then hde (fun i hi e => by have e : i = w.heap.size + 1 := e; omega)
end Go.Proofs.YtlbmoafdialigaaGreatDoor
