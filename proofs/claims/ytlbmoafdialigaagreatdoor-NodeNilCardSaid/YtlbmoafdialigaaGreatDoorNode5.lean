/- node.Handle of a live node: a message that wasn't there yet; the same once more. -/
import Derived.Test.YtlbmoafdialigaaGreatDoorNode4
import Derived.Test.YtlbmoafdialigaaGreatDoorOnce
import Derived.Deep.DeepCutAuto
namespace Go.Proofs.YtlbmoafdialigaaGreatDoor
open Go Go.RowKit Go.MapKept

/-- Blocks that a request's own doing may touch: the kept answers, and its own words. -/
def Loc (km B : Nat) (W : World) (k : Nat) : Prop := k = km ∨ (B ≤ k ∧ ∃ cs, Blk W k 32 cs) ∨ (B ≤ k ∧ ∃ cs, Blk W k 34 cs)

theorem Loc.nd {km B k n : Nat} {W : World} {cs : Array Value} (h : Blk W n 32 cs) (hB : B ≤ n) (e : k = n) : Loc km B W k := by subst e; exact Or.inr (Or.inl ⟨hB, _, h⟩)
theorem Loc.ms {km B k n : Nat} {W : World} {cs : Array Value} (h : Blk W n 34 cs) (hB : B ≤ n) (e : k = n) : Loc km B W k := by subst e; exact Or.inr (Or.inr ⟨hB, _, h⟩)
set_option maxRecDepth 100000 in
set_option maxHeartbeats 8000000 in
theorem handle_new {w : World} {nb place d vm mm tb wm km vb mn ml fr vol id key cookie n c code : Nat} {A : Option Addr} {cap nx : Int} {dv EV : Value} {R : World → Prop} {S : Nat → Prop}
    (h : NodeB w nb place 0 true d vm mm tb wm) (hd : DiskB w d cap nx mn ml dv (-1)) (ht : TabB w tb km) (hm : MBlk w km #[] 0) (hvm : MBlk w vm #[{ key := .int .i64 vol, val := .pointer (some ⟨vb, 0, none⟩), born := 0 }] 1)
    (hS : ∀ k, S k → k < w.heap.size) (hSn : ¬ S nb ∧ ¬ S tb ∧ ¬ S km ∧ ¬ S vm) (hvk : vm ≠ km)
    (hR : ∀ W W', R W → Upd (Loc km w.heap.size W) W W' → R W')
    (h1 : fr ≤ 255) (h2 : place ≤ 255) (h3 : 1 ≤ vol ∧ vol ≤ 65535) (h5 : code ≤ 255) (hn : n ≤ 4096)
    (hdo : ∀ W, Upd (fun _ => False) w W → Calls Tryz.prog 27 #[.pointer (some ⟨vb, 0, none⟩), msgV fr place 1 vol 0 id 0 true key cookie false (.slice A n c)] W fun e w' =>
      e = .returned (.tuple #[ndZ, .bool false, EV]) ∧ (∃ cap nx mn ml dv, DiskB w' d cap nx mn ml dv (-1)) ∧ R w' ∧ Upd S W w')
    (hcode : ∀ W, R W → Calls Tryz.prog 29 #[EV] W fun e w' => e = .returned (.int .i64 code) ∧ Upd (fun _ => False) W w') :
    Calls Tryz.prog 5 #[.pointer (some ⟨nb, 0, none⟩), msgV fr place 1 vol 0 id 0 true key cookie false (.slice A n c)] w fun e w' =>
      e = .returned (.tuple #[msgV place fr 5 vol 0 id code false 0 0 false (.slice none 0 0), .nilIface]) ∧ R w' ∧ NodeB w' nb place 0 true d vm mm tb wm ∧ (∃ cap nx mn ml dv, DiskB w' d cap nx mn ml dv (-1)) ∧ TabB w' tb km ∧
      MBlk w' km #[{ key := .agg #[.int .i64 fr, .int .u64 id], val := msgV place fr 5 vol 0 id code false 0 0 false (.slice none 0 0), born := 0 }] 1 ∧ MBlk w' vm #[{ key := .int .i64 vol, val := .pointer (some ⟨vb, 0, none⟩), born := 0 }] 1 ∧ Upd (fun k => S k ∨ k = km) w w' := by
  have HA := Lib.hid (fun (W : World) (a : NodeB W nb place 0 true d vm mm tb wm) (b : DiskB W d cap nx mn ml dv (-1)) => ask_up a b (by decide))
  have HC := Lib.hid (fun W => check_put (id := id) (key := key) (cookie := cookie) (A := A) (c := c) (life := 0) h1 h2 h3 (by decide) hn W)
  have HF := Lib.hid (fun (W : World) (a : TabB W tb km) (b : MBlk W km #[] 0) => onceFind_none a b (by simp) fr id (by simp [lookE]))
  have HR := Lib.hid (fun (W : World) (a : TabB W tb km) (b : MBlk W km #[] 0) => onceRoom_ok a b (by decide))
  have HL := Lib.hid (fun (W : World) (a : MBlk W vm #[{ key := .int .i64 vol, val := .pointer (some ⟨vb, 0, none⟩), born := 0 }] 1) => run_lookup_some (P := Tryz.prog) (d := .int .i64) (key := .int .i64 vol) (i := 0) (v := .pointer (some ⟨vb, 0, none⟩)) Tryz.underlying66 Tryz.underlying3 rfl a (by simp [Instr.findNow, Instr.sameNow]))
  have HD := Lib.hid (fun (W : World) (cap nx : Int) (mn ml : Nat) (dv : Value) (a : DiskB W d cap nx mn ml dv (-1)) => down_of a)
  have HK := Lib.hid (fun (W : World) (a : TabB W tb km) (b : MBlk W km #[] 0) => onceKeep_ok (fr := place) («to» := fr) (vol := vol) (life := 0) (id := id) (code := code) a b (by simp) (by decide) h2 h1 h3 (by decide) h5 (by simp [lookE]))
  have HY := Lib.hid (fun W => reply_any fr place 1 vol 0 id 0 code true false key cookie 0 0 false false A none n c 0 0 W)
  replace hdo := Lib.hid hdo
  replace hcode := Lib.hid hcode
  replace hR := Lib.hid hR
  replace hSn := Lib.hid hSn
  unfold msgV at *
  go_enter Tryz.func5, Tryz.ntmps5
  go_wp2_with fail
  generalize hw0 : World.alloc (World.alloc _ _) _ = w0
  have hu0 : Upd (fun _ => False) w w0 := hw0 ▸ ((Upd.refl _ w).alloc _).alloc _
  have b3 : Blk w0 w.heap.size 34 #[.int .i64 fr, .int .i64 place, .int .i64 1, .int .i64 vol, .int .i64 0, .int .u64 id, .int .i64 0, .bool true, .int .u64 key, .int .u32 cookie, .bool false, .slice A n c] := hw0 ▸ (Blk.new w _ _).alloc _
  have b4 : Blk w0 (w.heap.size + 1) 34 #[.int .i64 0, .int .i64 0, .int .i64 0, .int .i64 0, .int .i64 0, .int .u64 0, .int .i64 0, .bool false, .int .u64 0, .int .u32 0, .bool false, .slice none 0 0] := hw0 ▸ Blk.new1 w _ _ _
  clear hw0
  have hn0 : NodeB w0 nb place 0 true d vm mm tb wm := Blk.upd h hu0 (fun h => h)
  refine (HA.out w0 hn0 (hd.upd hu0 (fun h => h))).mono ?_
  rintro e w' ⟨rfl, rfl⟩
  go_wp2_with fail
  have hS4 : w0.drew.cell? ⟨nb, 0, none⟩ = some (.int .i64 place) ∧ w0.drew.cell? ⟨w.heap.size, 0, none⟩ = some (.int .i64 fr) ∧ w0.drew.cell? ⟨w.heap.size, 1, none⟩ = some (.int .i64 place) ∧ w0.drew.cell? ⟨w.heap.size, 2, none⟩ = some (.int .i64 1) ∧ w0.drew.cell? ⟨w.heap.size, 3, none⟩ = some (.int .i64 vol) ∧ w0.drew.cell? ⟨w.heap.size, 4, none⟩ = some (.int .i64 0) ∧ w0.drew.cell? ⟨w.heap.size, 5, none⟩ = some (.int .u64 id) ∧ w0.drew.cell? ⟨w.heap.size, 6, none⟩ = some (.int .i64 0) ∧ w0.drew.cell? ⟨w.heap.size, 7, none⟩ = some (.bool true) ∧ w0.drew.cell? ⟨w.heap.size, 8, none⟩ = some (.int .u64 key) ∧ w0.drew.cell? ⟨w.heap.size, 9, none⟩ = some (.int .u32 cookie) ∧ w0.drew.cell? ⟨w.heap.size, 10, none⟩ = some (.bool false) ∧ w0.drew.cell? ⟨w.heap.size, 11, none⟩ = some (.slice A n c) := ⟨Blk.cell hn0 0, b3.cell 0, b3.cell 1, b3.cell 2, b3.cell 3, b3.cell 4, b3.cell 5, b3.cell 6, b3.cell 7, b3.cell 8, b3.cell 9, b3.cell 10, b3.cell 11⟩
  refine wp_region_noPanic ?_
  refine wp_region_S 17 (fun W => W.cell? ⟨nb, 0, none⟩ = some (.int .i64 place) ∧ W.cell? ⟨w.heap.size, 0, none⟩ = some (.int .i64 fr) ∧ W.cell? ⟨w.heap.size, 1, none⟩ = some (.int .i64 place) ∧ W.cell? ⟨w.heap.size, 2, none⟩ = some (.int .i64 1) ∧ W.cell? ⟨w.heap.size, 3, none⟩ = some (.int .i64 vol) ∧ W.cell? ⟨w.heap.size, 4, none⟩ = some (.int .i64 0) ∧ W.cell? ⟨w.heap.size, 5, none⟩ = some (.int .u64 id) ∧ W.cell? ⟨w.heap.size, 6, none⟩ = some (.int .i64 0) ∧ W.cell? ⟨w.heap.size, 7, none⟩ = some (.bool true) ∧ W.cell? ⟨w.heap.size, 8, none⟩ = some (.int .u64 key) ∧ W.cell? ⟨w.heap.size, 9, none⟩ = some (.int .u32 cookie) ∧ W.cell? ⟨w.heap.size, 10, none⟩ = some (.bool false) ∧ W.cell? ⟨w.heap.size, 11, none⟩ = some (.slice A n c)) (by kernel_rfl) rfl false ?_
  refine wpAnyQ_takeN 0 (v := ?_) nth0 (by kernel_rfl) (fun _ _ _ _ _ h => h) (by rfl) hS4 ?_ ?_
  rotate_left
  (focus ((intro w hSw; (try dsimp only at hSw); (try go_split_ands); go_simp); try with_reducible rfl))
  (try simp only [Act.put, List.setIfInBounds_toArray, List.set_cons_zero, List.set_cons_succ])
  refine wpAnyQ_takeN 1 (v := ?_) nth1 (by kernel_rfl) (fun _ _ _ _ _ h => h) (by rfl) hS4 ?_ ?_
  rotate_left
  (focus ((intro w hSw; (try dsimp only at hSw); (try go_split_ands); go_simp); try with_reducible rfl))
  (try simp only [Act.put, List.setIfInBounds_toArray, List.set_cons_zero, List.set_cons_succ])
  refine wpAnyQ_takeN 2 (v := ?_) nth2 (by kernel_rfl) (fun _ _ _ _ _ h => h) (by rfl) hS4 ?_ ?_
  rotate_left
  (focus ((intro w hSw; (try dsimp only at hSw); (try go_split_ands); go_simp); try with_reducible rfl))
  (try simp only [Act.put, List.setIfInBounds_toArray, List.set_cons_zero, List.set_cons_succ])
  refine wpAnyQ_takeN 3 (v := ?_) nth3 (by kernel_rfl) (fun _ _ _ _ _ h => h) (by rfl) hS4 ?_ ?_
  rotate_left
  (focus ((intro w hSw; (try dsimp only at hSw); (try go_split_ands); go_simp); try with_reducible rfl))
  (try simp only [Act.put, List.setIfInBounds_toArray, List.set_cons_zero, List.set_cons_succ])
  refine wpAnyQ_takeN 4 (v := ?_) nth4 (by kernel_rfl) (fun _ _ _ _ _ h => h) (by rfl) hS4 ?_ ?_
  rotate_left
  (focus ((intro w hSw; (try dsimp only at hSw); (try go_split_ands); go_simp); try with_reducible rfl))
  (try simp only [Act.put, List.setIfInBounds_toArray, List.set_cons_zero, List.set_cons_succ])
  refine wpAnyQ_doN 5 nth5 (by kernel_rfl) ?_
  go_wp2_with (go_at_call 23; go_must (refine (HC.out w0.drew).mono ?_; rintro e w1 ⟨rfl, hu1⟩))
  have hu01 : Upd (fun _ => False) w0 w1 := ((Upd.refl (fun _ => False) w0).drew).then hu1 (fun _ _ h => h)
  have b31 := b3.upd hu01 (fun h => h)
  have b41 := b4.upd hu01 (fun h => h)
  have hn1 : NodeB w1 nb place 0 true d vm mm tb wm := Blk.upd hn0 hu01 (fun h => h)
  have hS5 : w1.cell? ⟨nb, 0, none⟩ = some (.int .i64 place) ∧ w1.cell? ⟨w.heap.size, 0, none⟩ = some (.int .i64 fr) ∧ w1.cell? ⟨w.heap.size, 1, none⟩ = some (.int .i64 place) ∧ w1.cell? ⟨w.heap.size, 2, none⟩ = some (.int .i64 1) ∧ w1.cell? ⟨w.heap.size, 3, none⟩ = some (.int .i64 vol) ∧ w1.cell? ⟨w.heap.size, 4, none⟩ = some (.int .i64 0) ∧ w1.cell? ⟨w.heap.size, 5, none⟩ = some (.int .u64 id) ∧ w1.cell? ⟨w.heap.size, 6, none⟩ = some (.int .i64 0) ∧ w1.cell? ⟨w.heap.size, 7, none⟩ = some (.bool true) ∧ w1.cell? ⟨w.heap.size, 8, none⟩ = some (.int .u64 key) ∧ w1.cell? ⟨w.heap.size, 9, none⟩ = some (.int .u32 cookie) ∧ w1.cell? ⟨w.heap.size, 10, none⟩ = some (.bool false) ∧ w1.cell? ⟨w.heap.size, 11, none⟩ = some (.slice A n c) := ⟨Blk.cell hn1 0, b31.cell 0, b31.cell 1, b31.cell 2, b31.cell 3, b31.cell 4, b31.cell 5, b31.cell 6, b31.cell 7, b31.cell 8, b31.cell 9, b31.cell 10, b31.cell 11⟩
  refine doK_next hS5 ?_
  refine wpAnyQ_takeN 6 (v := ?_) nth6 (by kernel_rfl) (fun _ _ _ _ _ h => h) (by rfl) hS5 ?_ ?_
  rotate_left
  (focus ((intro w hSw; (try dsimp only at hSw); (try go_split_ands); go_simp); try with_reducible rfl))
  (try simp only [Act.put, List.setIfInBounds_toArray, List.set_cons_zero, List.set_cons_succ])
  refine wpAnyQ_takeN 7 (v := ?_) nth7 (by kernel_rfl) (fun _ _ _ _ _ h => h) (by rfl) hS5 ?_ ?_
  rotate_left
  (focus ((intro w hSw; (try dsimp only at hSw); (try go_split_ands); go_simp); try with_reducible rfl))
  (try simp only [Act.put, List.setIfInBounds_toArray, List.set_cons_zero, List.set_cons_succ])
  refine wpAnyQ_takeN 8 (v := ?_) nth8 (by kernel_rfl) (fun _ _ _ _ _ h => h) (by rfl) hS5 ?_ ?_
  rotate_left
  (focus ((intro w hSw; (try dsimp only at hSw); (try go_split_ands); go_simp); try with_reducible rfl))
  (try simp only [Act.put, List.setIfInBounds_toArray, List.set_cons_zero, List.set_cons_succ])
  refine wpAnyQ_takeN 9 (v := ?_) nth9 (by kernel_rfl) (fun _ _ _ _ _ h => h) (by rfl) hS5 ?_ ?_
  rotate_left
  (focus ((intro w hSw; (try dsimp only at hSw); (try go_split_ands); go_simp); try with_reducible rfl))
  (try simp only [Act.put, List.setIfInBounds_toArray, List.set_cons_zero, List.set_cons_succ])
  refine wpAnyQ_takeN 10 (v := ?_) nth10 (by kernel_rfl) (fun _ _ _ _ _ h => h) (by rfl) hS5 ?_ ?_
  rotate_left
  (focus ((intro w hSw; (try dsimp only at hSw); (try go_split_ands); go_simp); try with_reducible rfl))
  (try simp only [Act.put, List.setIfInBounds_toArray, List.set_cons_zero, List.set_cons_succ])
  refine wpAnyQ_takeN 11 (v := ?_) nth11 (by kernel_rfl) (fun _ _ _ _ _ h => h) (by rfl) hS5 ?_ ?_
  rotate_left
  (focus ((intro w hSw; (try dsimp only at hSw); (try go_split_ands); go_simp); try with_reducible rfl))
  (try simp only [Act.put, List.setIfInBounds_toArray, List.set_cons_zero, List.set_cons_succ])
  refine wpAnyQ_takeN 12 (v := ?_) nth12 (by kernel_rfl) (fun _ _ _ _ _ h => h) (by rfl) hS5 ?_ ?_
  rotate_left
  (focus ((intro w hSw; (try dsimp only at hSw); (try go_split_ands); go_simp); try with_reducible rfl))
  (try simp only [Act.put, List.setIfInBounds_toArray, List.set_cons_zero, List.set_cons_succ])
  refine wpAnyQ_takeN 13 (v := ?_) nth13 (by kernel_rfl) (fun _ _ _ _ _ h => h) (by rfl) hS5 ?_ ?_
  rotate_left
  (focus ((intro w hSw; (try dsimp only at hSw); (try go_split_ands); go_simp); try with_reducible rfl))
  (try simp only [Act.put, List.setIfInBounds_toArray, List.set_cons_zero, List.set_cons_succ])
  refine wpAnyQ_takeN 14 (v := ?_) nth14 (by kernel_rfl) (fun _ _ _ _ _ h => h) (by rfl) hS5 ?_ ?_
  rotate_left
  (focus ((intro w hSw; (try dsimp only at hSw); (try go_split_ands); go_simp); try with_reducible rfl))
  (try simp only [Act.put, List.setIfInBounds_toArray, List.set_cons_zero, List.set_cons_succ])
  refine wpAnyQ_takeN 15 (v := ?_) nth15 (by kernel_rfl) (fun _ _ _ _ _ h => h) (by rfl) hS5 ?_ ?_
  rotate_left
  (focus ((intro w hSw; (try dsimp only at hSw); (try go_split_ands); go_simp); try with_reducible rfl))
  (try simp only [Act.put, List.setIfInBounds_toArray, List.set_cons_zero, List.set_cons_succ])
  refine wpAnyQ_takeN 16 (v := ?_) nth16 (by kernel_rfl) (fun _ _ _ _ _ h => h) (by rfl) hS5 ?_ ?_
  rotate_left
  (focus ((intro w hSw; (try dsimp only at hSw); (try go_split_ands); go_simp); try with_reducible rfl))
  (try simp only [Act.put, List.setIfInBounds_toArray, List.set_cons_zero, List.set_cons_succ])
  refine wpAnyQ_end (by kernel_rfl) (NoPanic.normal ?_)
  go_wp2_with fail
  have hu12 := (Upd.refl (fun _ => False) w1).alloc (.cells #[.int .u64 0, .int .u32 0, .bool false, .slice none 0 0] 32)
  have b7 := Blk.new w1 32 #[.int .u64 0, .int .u32 0, .bool false, .slice none 0 0]
  have l31 := b31.lt
  have l41 := b41.lt
  have b32 := b31.upd hu12 (fun h => h)
  have b42 := b41.upd hu12 (fun h => h)
  have hn2 : NodeB _ nb place 0 true d vm mm tb wm := Blk.upd hn1 hu12 (fun h => h)
  generalize hb7 : w1.heap.size = n7 at *
  generalize (World.alloc w1 _) = w2 at *
  have hu02 := (hu0.then hu01 (fun _ _ h => h)).then hu12 (fun _ _ h => h)
  clear hS4 hS5
  have hS7 : w2.drew.cell? ⟨nb, 1, none⟩ = some (.int .i64 0) ∧ w2.drew.cell? ⟨w.heap.size, 4, none⟩ = some (.int .i64 0) := ⟨Blk.cell hn2 1, b32.cell 4⟩
  refine wp_region_noPanic ?_
  refine wp_region_S 7 (fun W => W.cell? ⟨nb, 1, none⟩ = some (.int .i64 0) ∧ W.cell? ⟨w.heap.size, 4, none⟩ = some (.int .i64 0)) (by kernel_rfl) rfl false ?_
  refine wpAnyQ_takeN 0 (v := ?_) nth0 (by kernel_rfl) (fun _ _ _ _ _ h => h) (by rfl) hS7 ?_ ?_
  rotate_left
  (focus ((intro w hSw; (try dsimp only at hSw); (try go_split_ands); go_simp); try with_reducible rfl))
  (try simp only [Act.put, List.setIfInBounds_toArray, List.set_cons_zero, List.set_cons_succ])
  refine wpAnyQ_takeN 1 (v := ?_) nth1 (by kernel_rfl) (fun _ _ _ _ _ h => h) (by rfl) hS7 ?_ ?_
  rotate_left
  (focus ((intro w hSw; (try dsimp only at hSw); (try go_split_ands); go_simp); try with_reducible rfl))
  (try simp only [Act.put, List.setIfInBounds_toArray, List.set_cons_zero, List.set_cons_succ])
  refine wpAnyQ_takeN 2 (v := ?_) nth2 (by kernel_rfl) (fun _ _ _ _ _ h => h) (by rfl) hS7 ?_ ?_
  rotate_left
  (focus ((intro w hSw; (try dsimp only at hSw); (try go_split_ands); go_simp); try with_reducible rfl))
  (try simp only [Act.put, List.setIfInBounds_toArray, List.set_cons_zero, List.set_cons_succ])
  refine wpAnyQ_takeN 3 (v := ?_) nth3 (by kernel_rfl) (fun _ _ _ _ _ h => h) (by rfl) hS7 ?_ ?_
  rotate_left
  (focus ((intro w hSw; (try dsimp only at hSw); (try go_split_ands); go_simp); try with_reducible rfl))
  (try simp only [Act.put, List.setIfInBounds_toArray, List.set_cons_zero, List.set_cons_succ])
  refine wpAnyQ_takeN 4 (v := ?_) nth4 (by kernel_rfl) (fun _ _ _ _ _ h => h) (by rfl) hS7 ?_ ?_
  rotate_left
  (focus ((intro w hSw; (try dsimp only at hSw); (try go_split_ands); go_simp); try with_reducible rfl))
  (try simp only [Act.put, List.setIfInBounds_toArray, List.set_cons_zero, List.set_cons_succ])
  refine wpAnyQ_takeN 5 (v := ?_) nth5 (by kernel_rfl) (fun _ _ _ _ _ h => h) (by rfl) hS7 ?_ ?_
  rotate_left
  (focus ((intro w hSw; (try dsimp only at hSw); (try go_split_ands); go_simp); try with_reducible rfl))
  (try simp only [Act.put, List.setIfInBounds_toArray, List.set_cons_zero, List.set_cons_succ])
  refine wpAnyQ_takeN 6 (v := ?_) nth6 (by kernel_rfl) (fun _ _ _ _ _ h => h) (by rfl) hS7 ?_ ?_
  rotate_left
  (focus ((intro w hSw; (try dsimp only at hSw); (try go_split_ands); go_simp); try with_reducible rfl))
  (try simp only [Act.put, List.setIfInBounds_toArray, List.set_cons_zero, List.set_cons_succ])
  refine wpAnyQ_end (by kernel_rfl) (NoPanic.normal ?_)
  go_upto_region 10 with fail
  have hu23 := (Upd.refl (fun _ => False) w2).drew
  have hu03 := hu02.drew
  have b73 := b7.drew
  have b33 := b32.drew
  have b43 := b42.drew
  have hn3 : NodeB w2.drew nb place 0 true d vm mm tb wm := hn2
  clear hS7 hu23
  generalize hw3 : w2.drew = w3 at *
  have ht3 : TabB w3 tb km := Blk.upd ht hu03 (fun h => h)
  have hm3 := hm.upd hu03 (fun h => h)
  go_cut [8, 9] (fun s8 s9 wx => s9 = .iface 72 (.int .i64 6) ∧ (∃ n8 : Nat, s8 = .pointer (some ⟨n8, 0, none⟩)) ∧ Upd (fun _ => False) w3 wx)
  case first =>
    have hS10 : w3.drew.cell? ⟨nb, 6, none⟩ = some (.pointer (some ⟨tb, 0, none⟩)) ∧ w3.drew.cell? ⟨w.heap.size, 0, none⟩ = some (.int .i64 fr) ∧ w3.drew.cell? ⟨w.heap.size, 5, none⟩ = some (.int .u64 id) := ⟨Blk.cell hn3 6, b33.cell 0, b33.cell 5⟩
    refine wp_region_noPanic ?_
    refine wp_region_S 15 (fun W => W.cell? ⟨nb, 6, none⟩ = some (.pointer (some ⟨tb, 0, none⟩)) ∧ W.cell? ⟨w.heap.size, 0, none⟩ = some (.int .i64 fr) ∧ W.cell? ⟨w.heap.size, 5, none⟩ = some (.int .u64 id)) (by kernel_rfl) rfl false ?_
    refine wpAnyQ_takeN 0 (v := ?_) nth0 (by kernel_rfl) (fun _ _ _ _ _ h => h) (by rfl) hS10 ?_ ?_
    rotate_left
    (focus ((intro w hSw; (try dsimp only at hSw); (try go_split_ands); go_simp); try with_reducible rfl))
    (try simp only [Act.put, List.setIfInBounds_toArray, List.set_cons_zero, List.set_cons_succ])
    refine wpAnyQ_takeN 1 (v := ?_) nth1 (by kernel_rfl) (fun _ _ _ _ _ h => h) (by rfl) hS10 ?_ ?_
    rotate_left
    (focus ((intro w hSw; (try dsimp only at hSw); (try go_split_ands); go_simp); try with_reducible rfl))
    (try simp only [Act.put, List.setIfInBounds_toArray, List.set_cons_zero, List.set_cons_succ])
    refine wpAnyQ_takeN 2 (v := ?_) nth2 (by kernel_rfl) (fun _ _ _ _ _ h => h) (by rfl) hS10 ?_ ?_
    rotate_left
    (focus ((intro w hSw; (try dsimp only at hSw); (try go_split_ands); go_simp); try with_reducible rfl))
    (try simp only [Act.put, List.setIfInBounds_toArray, List.set_cons_zero, List.set_cons_succ])
    refine wpAnyQ_takeN 3 (v := ?_) nth3 (by kernel_rfl) (fun _ _ _ _ _ h => h) (by rfl) hS10 ?_ ?_
    rotate_left
    (focus ((intro w hSw; (try dsimp only at hSw); (try go_split_ands); go_simp); try with_reducible rfl))
    (try simp only [Act.put, List.setIfInBounds_toArray, List.set_cons_zero, List.set_cons_succ])
    refine wpAnyQ_takeN 4 (v := ?_) nth4 (by kernel_rfl) (fun _ _ _ _ _ h => h) (by rfl) hS10 ?_ ?_
    rotate_left
    (focus ((intro w hSw; (try dsimp only at hSw); (try go_split_ands); go_simp); try with_reducible rfl))
    (try simp only [Act.put, List.setIfInBounds_toArray, List.set_cons_zero, List.set_cons_succ])
    refine wpAnyQ_takeN 5 (v := ?_) nth5 (by kernel_rfl) (fun _ _ _ _ _ h => h) (by rfl) hS10 ?_ ?_
    rotate_left
    (focus ((intro w hSw; (try dsimp only at hSw); (try go_split_ands); go_simp); try with_reducible rfl))
    (try simp only [Act.put, List.setIfInBounds_toArray, List.set_cons_zero, List.set_cons_succ])
    refine wpAnyQ_takeN 6 (v := ?_) nth6 (by kernel_rfl) (fun _ _ _ _ _ h => h) (by rfl) hS10 ?_ ?_
    rotate_left
    (focus ((intro w hSw; (try dsimp only at hSw); (try go_split_ands); go_simp); try with_reducible rfl))
    (try simp only [Act.put, List.setIfInBounds_toArray, List.set_cons_zero, List.set_cons_succ])
    refine wpAnyQ_takeN 7 (v := ?_) nth7 (by kernel_rfl) (fun _ _ _ _ _ h => h) (by rfl) hS10 ?_ ?_
    rotate_left
    (focus ((intro w hSw; (try dsimp only at hSw); (try go_split_ands); go_simp); try with_reducible rfl))
    (try simp only [Act.put, List.setIfInBounds_toArray, List.set_cons_zero, List.set_cons_succ])
    refine wpAnyQ_do2 8 12 nth8 nth12 (by kernel_rfl) ?fa ?fb
    case' fa =>
      go_wp2_with (go_at_call 25; go_must (refine (HF.out w3.drew ht3 hm3).mono ?_; unfold msgZ msgV; rintro e w4 ⟨rfl, hu4⟩))
      have hu34 : Upd (fun _ => False) w3 w4 := ((Upd.refl (fun _ => False) w3).drew).then hu4 (fun _ _ h => h)
      have b74 := b73.upd hu34 (fun h => h)
      have b34 := b33.upd hu34 (fun h => h)
      have b44 := b43.upd hu34 (fun h => h)
      have hn4 : NodeB w4 nb place 0 true d vm mm tb wm := Blk.upd hn3 hu34 (fun h => h)
      have hS11 : w4.cell? ⟨nb, 6, none⟩ = some (.pointer (some ⟨tb, 0, none⟩)) ∧ w4.cell? ⟨w.heap.size, 0, none⟩ = some (.int .i64 fr) ∧ w4.cell? ⟨w.heap.size, 5, none⟩ = some (.int .u64 id) := ⟨Blk.cell hn4 6, b34.cell 0, b34.cell 5⟩
      refine doK_next hS11 ?_
      refine wpAnyQ_takeN 9 (v := ?_) nth9 (by kernel_rfl) (fun _ _ _ _ _ h => h) (by rfl) hS11 ?_ ?_
      rotate_left
      (focus ((intro w hSw; (try dsimp only at hSw); (try go_split_ands); go_simp); try with_reducible rfl))
      (try simp only [Act.put, List.setIfInBounds_toArray, List.set_cons_zero, List.set_cons_succ])
      refine wpAnyQ_takeN 10 (v := ?_) nth10 (by kernel_rfl) (fun _ _ _ _ _ h => h) (by rfl) hS11 ?_ ?_
      rotate_left
      (focus ((intro w hSw; (try dsimp only at hSw); (try go_split_ands); go_simp); try with_reducible rfl))
      (try simp only [Act.put, List.setIfInBounds_toArray, List.set_cons_zero, List.set_cons_succ])
      refine wpAnyQ_takeN 11 (v := ?_) nth11 (by kernel_rfl) (fun _ _ _ _ _ h => h) (by rfl) hS11 ?_ ?_
      rotate_left
      (focus ((intro w hSw; (try dsimp only at hSw); (try go_split_ands); go_simp); try with_reducible rfl))
      (try simp only [Act.put, List.setIfInBounds_toArray, List.set_cons_zero, List.set_cons_succ])
      refine wpAnyQ_doN 12 nth12 (by kernel_rfl) ?_
      go_wp2
      have hu45 := (Upd.refl (fun _ => False) w4).alloc (.cells #[.int .i64 0, .int .i64 0, .int .i64 0, .int .i64 0, .int .i64 0, .int .u64 0, .int .i64 0, .bool false, .int .u64 0, .int .u32 0, .bool false, .slice none 0 0] 34)
      have b85 := Blk.new w4 34 #[.int .i64 0, .int .i64 0, .int .i64 0, .int .i64 0, .int .i64 0, .int .u64 0, .int .i64 0, .bool false, .int .u64 0, .int .u32 0, .bool false, .slice none 0 0]
      have hu35 := hu34.then hu45 (fun _ _ h => h)
      have q1 : w3.heap.size ≤ w4.heap.size := hu34.size
      have q2 : w.heap.size + 1 < w4.heap.size := b44.lt
      generalize w4.heap.size = n8 at *
      generalize (World.alloc w4 _) = w5 at *
      have b75 := b74.upd hu45 (fun h => h)
      have b35 := b34.upd hu45 (fun h => h)
      have b45 := b44.upd hu45 (fun h => h)
      have hn5 : NodeB w5 nb place 0 true d vm mm tb wm := Blk.upd hn4 hu45 (fun h => h)
      have hS12 : w5.cell? ⟨nb, 6, none⟩ = some (.pointer (some ⟨tb, 0, none⟩)) ∧ w5.cell? ⟨w.heap.size, 0, none⟩ = some (.int .i64 fr) ∧ w5.cell? ⟨w.heap.size, 5, none⟩ = some (.int .u64 id) := ⟨Blk.cell hn5 6, b35.cell 0, b35.cell 5⟩
      refine doK_next hS12 ?_
      clear hS11 hu45 hu34 hn4 b74 b34 b44
    case' fb =>
      go_wp2
      have hu34 := ((Upd.refl (fun _ => False) w3).alloc (.cells #[.int .i64 0, .int .i64 0, .int .i64 0, .int .i64 0, .int .i64 0, .int .u64 0, .int .i64 0, .bool false, .int .u64 0, .int .u32 0, .bool false, .slice none 0 0] 34)).drew
      have b84 := (Blk.new w3 34 #[.int .i64 0, .int .i64 0, .int .i64 0, .int .i64 0, .int .i64 0, .int .u64 0, .int .i64 0, .bool false, .int .u64 0, .int .u32 0, .bool false, .slice none 0 0]).drew
      have q2 : w.heap.size + 1 < w3.heap.size := b43.lt
      generalize hq : w3.heap.size = n8 at *
      have q1 : w3.heap.size ≤ n8 := Nat.le_of_eq hq
      clear hq
      generalize (World.drew (World.alloc w3 _)) = w4 at *
      have b74 := b73.upd hu34 (fun h => h)
      have b34 := b33.upd hu34 (fun h => h)
      have b44 := b43.upd hu34 (fun h => h)
      have hn4 : NodeB w4 nb place 0 true d vm mm tb wm := Blk.upd hn3 hu34 (fun h => h)
      have hS11 : w4.cell? ⟨nb, 6, none⟩ = some (.pointer (some ⟨tb, 0, none⟩)) ∧ w4.cell? ⟨w.heap.size, 0, none⟩ = some (.int .i64 fr) ∧ w4.cell? ⟨w.heap.size, 5, none⟩ = some (.int .u64 id) := ⟨Blk.cell hn4 6, b34.cell 0, b34.cell 5⟩
      refine doK_next hS11 ?_
      refine wpAnyQ_doN 8 nth8 (by kernel_rfl) ?_
      go_wp2_with (go_at_call 25; go_must (refine (HF.out w4 (Blk.upd ht3 hu34 (fun h => h)) (hm3.upd hu34 (fun h => h))).mono ?_; unfold msgZ msgV; rintro e w5 ⟨rfl, hu45⟩))
      have hu35 := hu34.then hu45 (fun _ _ h => h)
      have b75 := b74.upd hu45 (fun h => h)
      have b35 := b34.upd hu45 (fun h => h)
      have b45 := b44.upd hu45 (fun h => h)
      have b85 := b84.upd hu45 (fun h => h)
      have hn5 : NodeB w5 nb place 0 true d vm mm tb wm := Blk.upd hn4 hu45 (fun h => h)
      have hS12 : w5.cell? ⟨nb, 6, none⟩ = some (.pointer (some ⟨tb, 0, none⟩)) ∧ w5.cell? ⟨w.heap.size, 0, none⟩ = some (.int .i64 fr) ∧ w5.cell? ⟨w.heap.size, 5, none⟩ = some (.int .u64 id) := ⟨Blk.cell hn5 6, b35.cell 0, b35.cell 5⟩
      refine doK_next hS12 ?_
      refine wpAnyQ_takeN 9 (v := ?_) nth9 (by kernel_rfl) (fun _ _ _ _ _ h => h) (by rfl) hS12 ?_ ?_
      rotate_left
      (focus ((intro w hSw; (try dsimp only at hSw); (try go_split_ands); go_simp); try with_reducible rfl))
      (try simp only [Act.put, List.setIfInBounds_toArray, List.set_cons_zero, List.set_cons_succ])
      refine wpAnyQ_takeN 10 (v := ?_) nth10 (by kernel_rfl) (fun _ _ _ _ _ h => h) (by rfl) hS12 ?_ ?_
      rotate_left
      (focus ((intro w hSw; (try dsimp only at hSw); (try go_split_ands); go_simp); try with_reducible rfl))
      (try simp only [Act.put, List.setIfInBounds_toArray, List.set_cons_zero, List.set_cons_succ])
      refine wpAnyQ_takeN 11 (v := ?_) nth11 (by kernel_rfl) (fun _ _ _ _ _ h => h) (by rfl) hS12 ?_ ?_
      rotate_left
      (focus ((intro w hSw; (try dsimp only at hSw); (try go_split_ands); go_simp); try with_reducible rfl))
      (try simp only [Act.put, List.setIfInBounds_toArray, List.set_cons_zero, List.set_cons_succ])
      clear hS11 hu45 hu34 hn4 b74 b34 b44 b84
    all_goals
      refine wpAnyQ_doN 13 nth13 (by kernel_rfl) ?_
      go_wp2_with (refine wpList_store_blk rfl _ _ _ rfl _ _ _ #[.int .i64 0, .int .i64 0, .int .i64 0, .int .i64 0, .int .i64 0, .int .u64 0, .int .i64 0, .bool false, .int .u64 0, .int .u32 0, .bool false, .slice none 0 0] rfl rfl b85 rfl (by kernel_rfl) (by simp [Value.oneCell']) ?_; intro w6 b86 hu56)
      have b36 := b35.upd hu56 (fun e => by have e : w.heap.size = n8 := e; omega)
      have hn6 : NodeB w6 nb place 0 true d vm mm tb wm := Blk.upd hn5 hu56 (Blk.ne_ hn5 b85 (by decide))
      have hS13 : w6.cell? ⟨nb, 6, none⟩ = some (.pointer (some ⟨tb, 0, none⟩)) ∧ w6.cell? ⟨w.heap.size, 0, none⟩ = some (.int .i64 fr) ∧ w6.cell? ⟨w.heap.size, 5, none⟩ = some (.int .u64 id) := ⟨Blk.cell hn6 6, b36.cell 0, b36.cell 5⟩
      refine doK_next hS13 ?_
      refine wpAnyQ_takeN 14 (v := ?_) nth14 (by kernel_rfl) (fun _ _ _ _ _ h => h) (by rfl) hS13 ?_ ?_
      rotate_left
      (focus ((intro w hSw; (try dsimp only at hSw); (try go_split_ands); go_simp); try with_reducible rfl))
      (try simp only [Act.put, List.setIfInBounds_toArray, List.set_cons_zero, List.set_cons_succ])
      refine wpAnyQ_end (by kernel_rfl) (NoPanic.normal ?_)
      go_wp2_with fail
      go_meet
      refine ⟨rfl, ⟨n8, rfl⟩, ?_⟩
      exact hu35.then hu56 (fun i hi e => by have e : i = n8 := e; omega)
  case rest =>
    obtain ⟨rfl, ⟨n8, rfl⟩, hu36⟩ := hcut
    generalize wc = w6 at *
    have hu06 := hu03.then hu36 (fun _ _ h => h)
    have b76 := b73.upd hu36 (fun h => h)
    have b36 := b33.upd hu36 (fun h => h)
    have b46 := b43.upd hu36 (fun h => h)
    have hn6 : NodeB w6 nb place 0 true d vm mm tb wm := Blk.upd h hu06 (fun h => h)
    have ht6 : TabB w6 tb km := Blk.upd ht hu06 (fun h => h)
    have hm6 := hm.upd hu06 (fun h => h)
    have hvm6 := hvm.upd hu06 (fun h => h)
    have hd6 := hd.upd hu06 (fun h => h)
    clear b73 b33 b43 hn3 ht3 hm3
    have k6 : w6.cell? ⟨nb, 6, none⟩ = some (.pointer (some ⟨tb, 0, none⟩)) := Blk.cell hn6 6
    go_wp2_with fail
    refine (HR.out w6 ht6 hm6).mono ?_
    rintro e w7 ⟨rfl, hu67⟩
    have hu07 := hu06.then hu67 (fun _ _ h => h)
    have b77 := b76.upd hu67 (fun h => h)
    have b37 := b36.upd hu67 (fun h => h)
    have b47 := b46.upd hu67 (fun h => h)
    have q3 := b77.lt
    have q4 := b47.lt
    have j0 := b77.cell 0
    have j1 := b77.cell 1
    have j2 := b77.cell 2
    have j3 := b77.cell 3
    have hu78 := (Upd.refl (fun _ => False) w7).alloc (.cells #[.int .u64 0, .int .u32 0, .bool false, .slice none 0 0] 32)
    have b10 := Blk.new w7 32 #[.int .u64 0, .int .u32 0, .bool false, .slice none 0 0]
    have b38 := b37.upd hu78 (fun h => h)
    have b48 := b47.upd hu78 (fun h => h)
    have b78 := b77.upd hu78 (fun h => h)
    have j7 := b38.cell 7
    go_wp2_with fail
    have hu08 := hu07.then hu78 (fun _ _ h => h)
    clear k6 j0 j1 j2 j3 j7 hu78 hu67 b76 b36 b46 b77 b37 b47
    generalize w7.heap.size = n10 at *
    generalize (World.alloc w7 _) = w8 at *
    have hn8 : NodeB w8 nb place 0 true d vm mm tb wm := Blk.upd h hu08 (fun h => h)
    have ht8 : TabB w8 tb km := Blk.upd ht hu08 (fun h => h)
    have hm8 := hm.upd hu08 (fun h => h)
    have hvm8 := hvm.upd hu08 (fun h => h)
    have hd8 := hd.upd hu08 (fun h => h)
    have hS17 : w8.drew.cell? ⟨nb, 4, none⟩ = some (.map (some vm)) ∧ (Instr.lookup 66 (.map (some vm)) (.int .i64 vol) false).run Tryz.prog w8.drew = .ok (.pointer (some ⟨vb, 0, none⟩)) w8.drew ∧ w8.drew.cell? ⟨w.heap.size, 0, none⟩ = some (.int .i64 fr) ∧ w8.drew.cell? ⟨w.heap.size, 1, none⟩ = some (.int .i64 place) ∧ w8.drew.cell? ⟨w.heap.size, 2, none⟩ = some (.int .i64 1) ∧ w8.drew.cell? ⟨w.heap.size, 3, none⟩ = some (.int .i64 vol) ∧ w8.drew.cell? ⟨w.heap.size, 4, none⟩ = some (.int .i64 0) ∧ w8.drew.cell? ⟨w.heap.size, 5, none⟩ = some (.int .u64 id) ∧ w8.drew.cell? ⟨w.heap.size, 6, none⟩ = some (.int .i64 0) ∧ w8.drew.cell? ⟨w.heap.size, 7, none⟩ = some (.bool true) ∧ w8.drew.cell? ⟨w.heap.size, 8, none⟩ = some (.int .u64 key) ∧ w8.drew.cell? ⟨w.heap.size, 9, none⟩ = some (.int .u32 cookie) ∧ w8.drew.cell? ⟨w.heap.size, 10, none⟩ = some (.bool false) ∧ w8.drew.cell? ⟨w.heap.size, 11, none⟩ = some (.slice A n c) := ⟨Blk.cell hn8 4, HL.out _ hvm8.drew, b38.cell 0, b38.cell 1, b38.cell 2, b38.cell 3, b38.cell 4, b38.cell 5, b38.cell 6, b38.cell 7, b38.cell 8, b38.cell 9, b38.cell 10, b38.cell 11⟩
    refine wp_region_noPanic ?_
    refine wp_region_S 16 (fun W => W.cell? ⟨nb, 4, none⟩ = some (.map (some vm)) ∧ (Instr.lookup 66 (.map (some vm)) (.int .i64 vol) false).run Tryz.prog W = .ok (.pointer (some ⟨vb, 0, none⟩)) W ∧ W.cell? ⟨w.heap.size, 0, none⟩ = some (.int .i64 fr) ∧ W.cell? ⟨w.heap.size, 1, none⟩ = some (.int .i64 place) ∧ W.cell? ⟨w.heap.size, 2, none⟩ = some (.int .i64 1) ∧ W.cell? ⟨w.heap.size, 3, none⟩ = some (.int .i64 vol) ∧ W.cell? ⟨w.heap.size, 4, none⟩ = some (.int .i64 0) ∧ W.cell? ⟨w.heap.size, 5, none⟩ = some (.int .u64 id) ∧ W.cell? ⟨w.heap.size, 6, none⟩ = some (.int .i64 0) ∧ W.cell? ⟨w.heap.size, 7, none⟩ = some (.bool true) ∧ W.cell? ⟨w.heap.size, 8, none⟩ = some (.int .u64 key) ∧ W.cell? ⟨w.heap.size, 9, none⟩ = some (.int .u32 cookie) ∧ W.cell? ⟨w.heap.size, 10, none⟩ = some (.bool false) ∧ W.cell? ⟨w.heap.size, 11, none⟩ = some (.slice A n c)) (by kernel_rfl) rfl false ?_
    refine wpAnyQ_takeN 0 (v := ?_) nth0 (by kernel_rfl) (fun _ _ _ _ _ h => h) (by rfl) hS17 ?_ ?_
    rotate_left
    (focus ((intro w hSw; (try dsimp only at hSw); (try go_split_ands); go_simp); try with_reducible rfl))
    (try simp only [Act.put, List.setIfInBounds_toArray, List.set_cons_zero, List.set_cons_succ])
    refine wpAnyQ_takeN 1 (v := ?_) nth1 (by kernel_rfl) (fun _ _ _ _ _ h => h) (by rfl) hS17 ?_ ?_
    rotate_left
    (focus ((intro w hSw; (try dsimp only at hSw); (try go_split_ands); go_simp); try with_reducible rfl))
    (try simp only [Act.put, List.setIfInBounds_toArray, List.set_cons_zero, List.set_cons_succ])
    refine wpAnyQ_takeN 2 (v := ?_) nth2 (by kernel_rfl) (fun _ _ _ _ _ h => h) (by rfl) hS17 ?_ ?_
    rotate_left
    (focus ((intro w hSw; (try dsimp only at hSw); (try go_split_ands); go_simp); try with_reducible rfl))
    (try simp only [Act.put, List.setIfInBounds_toArray, List.set_cons_zero, List.set_cons_succ])
    refine wpAnyQ_takeN 3 (v := ?_) nth3 (by kernel_rfl) (fun _ _ _ _ _ h => h) (by rfl) hS17 ?_ ?_
    rotate_left
    (focus ((intro w hSw; (try dsimp only at hSw); (try go_split_ands); go_simp); try with_reducible rfl))
    (try simp only [Act.put, List.setIfInBounds_toArray, List.set_cons_zero, List.set_cons_succ])
    refine wpAnyQ_takeN 4 (v := ?_) nth4 (by kernel_rfl) (fun _ _ _ _ _ h => h) (by rfl) hS17 ?_ ?_
    rotate_left
    (focus ((intro w hSw; (try dsimp only at hSw); (try go_split_ands); go_simp); try with_reducible rfl))
    (try simp only [Act.put, List.setIfInBounds_toArray, List.set_cons_zero, List.set_cons_succ])
    refine wpAnyQ_takeN 5 (v := ?_) nth5 (by kernel_rfl) (fun _ _ _ _ _ h => h) (by rfl) hS17 ?_ ?_
    rotate_left
    (focus ((intro w hSw; (try dsimp only at hSw); (try go_split_ands); go_simp); try with_reducible rfl))
    (try simp only [Act.put, List.setIfInBounds_toArray, List.set_cons_zero, List.set_cons_succ])
    refine wpAnyQ_takeN 6 (v := ?_) nth6 (by kernel_rfl) (fun _ _ _ _ _ h => h) (by rfl) hS17 ?_ ?_
    rotate_left
    (focus ((intro w hSw; (try dsimp only at hSw); (try go_split_ands); go_simp); try with_reducible rfl))
    (try simp only [Act.put, List.setIfInBounds_toArray, List.set_cons_zero, List.set_cons_succ])
    refine wpAnyQ_takeN 7 (v := ?_) nth7 (by kernel_rfl) (fun _ _ _ _ _ h => h) (by rfl) hS17 ?_ ?_
    rotate_left
    (focus ((intro w hSw; (try dsimp only at hSw); (try go_split_ands); go_simp); try with_reducible rfl))
    (try simp only [Act.put, List.setIfInBounds_toArray, List.set_cons_zero, List.set_cons_succ])
    refine wpAnyQ_doN 8 nth8 (by kernel_rfl) ?_
    go_wp2_with (go_at_call 27; go_must (refine (hdo.out w8.drew hu08.drew).mono ?_; unfold ndZ; rintro e w9 ⟨rfl, ⟨cap9, nx9, mn9, ml9, dv9, hd9⟩, hR9, hu9⟩))
    have hu89 : Upd S w8 w9 := ((Upd.refl (fun _ => False) w8).drew.mono (fun _ _ h => h.elim)).then hu9 (fun _ _ h => h)
    have b39 := b38.upd hu89 (fun h => by have := hS _ h; omega)
    have b49 := b48.upd hu89 (fun h => by have := hS _ h; omega)
    have b79 := b78.upd hu89 (fun h => by have := hS _ h; have := hu02.size; omega)
    have b19 := b10.upd hu89 (fun h => by have := hS _ h; omega)
    have hn9 : NodeB w9 nb place 0 true d vm mm tb wm := Blk.upd hn8 hu89 hSn.out.1
    have ht9 : TabB w9 tb km := Blk.upd ht8 hu89 hSn.out.2.1
    have hm9 := hm8.upd hu89 hSn.out.2.2.1
    have hvm9 := hvm8.upd hu89 hSn.out.2.2.2
    have hS18 : w9.cell? ⟨nb, 4, none⟩ = some (.map (some vm)) ∧ (Instr.lookup 66 (.map (some vm)) (.int .i64 vol) false).run Tryz.prog w9 = .ok (.pointer (some ⟨vb, 0, none⟩)) w9 ∧ w9.cell? ⟨w.heap.size, 0, none⟩ = some (.int .i64 fr) ∧ w9.cell? ⟨w.heap.size, 1, none⟩ = some (.int .i64 place) ∧ w9.cell? ⟨w.heap.size, 2, none⟩ = some (.int .i64 1) ∧ w9.cell? ⟨w.heap.size, 3, none⟩ = some (.int .i64 vol) ∧ w9.cell? ⟨w.heap.size, 4, none⟩ = some (.int .i64 0) ∧ w9.cell? ⟨w.heap.size, 5, none⟩ = some (.int .u64 id) ∧ w9.cell? ⟨w.heap.size, 6, none⟩ = some (.int .i64 0) ∧ w9.cell? ⟨w.heap.size, 7, none⟩ = some (.bool true) ∧ w9.cell? ⟨w.heap.size, 8, none⟩ = some (.int .u64 key) ∧ w9.cell? ⟨w.heap.size, 9, none⟩ = some (.int .u32 cookie) ∧ w9.cell? ⟨w.heap.size, 10, none⟩ = some (.bool false) ∧ w9.cell? ⟨w.heap.size, 11, none⟩ = some (.slice A n c) := ⟨Blk.cell hn9 4, HL.out _ hvm9, b39.cell 0, b39.cell 1, b39.cell 2, b39.cell 3, b39.cell 4, b39.cell 5, b39.cell 6, b39.cell 7, b39.cell 8, b39.cell 9, b39.cell 10, b39.cell 11⟩
    refine doK_next hS18 ?_
    refine wpAnyQ_takeN 9 (v := ?_) nth9 (by kernel_rfl) (fun _ _ _ _ _ h => h) (by rfl) hS18 ?_ ?_
    rotate_left
    (focus ((intro w hSw; (try dsimp only at hSw); (try go_split_ands); go_simp); try with_reducible rfl))
    (try simp only [Act.put, List.setIfInBounds_toArray, List.set_cons_zero, List.set_cons_succ])
    refine wpAnyQ_takeN 10 (v := ?_) nth10 (by kernel_rfl) (fun _ _ _ _ _ h => h) (by rfl) hS18 ?_ ?_
    rotate_left
    (focus ((intro w hSw; (try dsimp only at hSw); (try go_split_ands); go_simp); try with_reducible rfl))
    (try simp only [Act.put, List.setIfInBounds_toArray, List.set_cons_zero, List.set_cons_succ])
    refine wpAnyQ_takeN 11 (v := ?_) nth11 (by kernel_rfl) (fun _ _ _ _ _ h => h) (by rfl) hS18 ?_ ?_
    rotate_left
    (focus ((intro w hSw; (try dsimp only at hSw); (try go_split_ands); go_simp); try with_reducible rfl))
    (try simp only [Act.put, List.setIfInBounds_toArray, List.set_cons_zero, List.set_cons_succ])
    refine wpAnyQ_takeN 12 (v := ?_) nth12 (by kernel_rfl) (fun _ _ _ _ _ h => h) (by rfl) hS18 ?_ ?_
    rotate_left
    (focus ((intro w hSw; (try dsimp only at hSw); (try go_split_ands); go_simp); try with_reducible rfl))
    (try simp only [Act.put, List.setIfInBounds_toArray, List.set_cons_zero, List.set_cons_succ])
    refine wpAnyQ_doN 13 nth13 (by kernel_rfl) ?_
    go_wp2_with (refine wpList_store_blk rfl _ _ _ rfl _ _ _ #[.int .u64 0, .int .u32 0, .bool false, .slice none 0 0] rfl rfl b19 rfl (by kernel_rfl) (by simp [Value.oneCell']) ?_; intro wa b1a hu9a)
    have b3a := b39.upd hu9a (fun e => by have e : w.heap.size = n10 := e; omega)
    have b4a := b49.upd hu9a (fun e => by have e : w.heap.size + 1 = n10 := e; omega)
    have b7a := b79.upd hu9a (fun e => by have e : n7 = n10 := e; omega)
    have hna : NodeB wa nb place 0 true d vm mm tb wm := Blk.upd hn9 hu9a (Blk.ne_ hn9 b19 (by decide))
    have hta : TabB wa tb km := Blk.upd ht9 hu9a (Blk.ne_ ht9 b19 (by decide))
    have hma := hm9.upd hu9a (Ne.symm (Blk.neM b19 hm9))
    have hvma := hvm9.upd hu9a (Ne.symm (Blk.neM b19 hvm9))
    have hda := hd9.upd hu9a (Blk.ne_ hd9 b19 (by decide))
    have hRa := hR.out w9 wa hR9 (hu9a.mono (fun _ _ e => Loc.nd b19 (by omega) e))
    have hSa : wa.cell? ⟨nb, 4, none⟩ = some (.map (some vm)) ∧ (Instr.lookup 66 (.map (some vm)) (.int .i64 vol) false).run Tryz.prog wa = .ok (.pointer (some ⟨vb, 0, none⟩)) wa ∧ wa.cell? ⟨w.heap.size, 0, none⟩ = some (.int .i64 fr) ∧ wa.cell? ⟨w.heap.size, 1, none⟩ = some (.int .i64 place) ∧ wa.cell? ⟨w.heap.size, 2, none⟩ = some (.int .i64 1) ∧ wa.cell? ⟨w.heap.size, 3, none⟩ = some (.int .i64 vol) ∧ wa.cell? ⟨w.heap.size, 4, none⟩ = some (.int .i64 0) ∧ wa.cell? ⟨w.heap.size, 5, none⟩ = some (.int .u64 id) ∧ wa.cell? ⟨w.heap.size, 6, none⟩ = some (.int .i64 0) ∧ wa.cell? ⟨w.heap.size, 7, none⟩ = some (.bool true) ∧ wa.cell? ⟨w.heap.size, 8, none⟩ = some (.int .u64 key) ∧ wa.cell? ⟨w.heap.size, 9, none⟩ = some (.int .u32 cookie) ∧ wa.cell? ⟨w.heap.size, 10, none⟩ = some (.bool false) ∧ wa.cell? ⟨w.heap.size, 11, none⟩ = some (.slice A n c) := ⟨Blk.cell hna 4, HL.out _ hvma, b3a.cell 0, b3a.cell 1, b3a.cell 2, b3a.cell 3, b3a.cell 4, b3a.cell 5, b3a.cell 6, b3a.cell 7, b3a.cell 8, b3a.cell 9, b3a.cell 10, b3a.cell 11⟩
    refine doK_next hSa ?_
    refine wpAnyQ_takeN 14 (v := ?_) nth14 (by kernel_rfl) (fun _ _ _ _ _ h => h) (by rfl) hSa ?_ ?_
    rotate_left
    (focus ((intro w hSw; (try dsimp only at hSw); (try go_split_ands); go_simp); try with_reducible rfl))
    (try simp only [Act.put, List.setIfInBounds_toArray, List.set_cons_zero, List.set_cons_succ])
    refine wpAnyQ_takeN 15 (v := ?_) nth15 (by kernel_rfl) (fun _ _ _ _ _ h => h) (by rfl) hSa ?_ ?_
    rotate_left
    (focus ((intro w hSw; (try dsimp only at hSw); (try go_split_ands); go_simp); try with_reducible rfl))
    (try simp only [Act.put, List.setIfInBounds_toArray, List.set_cons_zero, List.set_cons_succ])
    refine wpAnyQ_end (by kernel_rfl) (NoPanic.normal ?_)
    clear hS17 hS18 hSa
    have k3 : wa.cell? ⟨nb, 3, none⟩ = some (.pointer (some ⟨d, 0, none⟩)) := Blk.cell hna 3
    go_wp2_with fail
    refine (HD.out wa _ _ _ _ _ hda).mono ?_
    rintro e wb ⟨rfl, rfl⟩
    clear k3
    have j0 := b7a.cell 0
    have j1 := b7a.cell 1
    have j2 := b7a.cell 2
    have j3 := b7a.cell 3
    rw [show ((-1 : Int) == 0) = false from rfl]
    go_upto_region 22 with (refine wpList_store_blk rfl _ _ _ rfl _ _ _ #[.int .u64 0, .int .u32 0, .bool false, .slice none 0 0] rfl rfl b1a rfl (by kernel_rfl) (by simp [Value.oneCell']) ?_; intro wb b1b huab)
    have b3b := b3a.upd huab (fun e => by have e : w.heap.size = n10 := e; omega)
    have b4b := b4a.upd huab (fun e => by have e : w.heap.size + 1 = n10 := e; omega)
    have hnb : NodeB wb nb place 0 true d vm mm tb wm := Blk.upd hna huab (Blk.ne_ hna b1a (by decide))
    have htb : TabB wb tb km := Blk.upd hta huab (Blk.ne_ hta b1a (by decide))
    have hmb := hma.upd huab (Ne.symm (Blk.neM b1a hma))
    have hvmb := hvma.upd huab (Ne.symm (Blk.neM b1a hvma))
    have hdb := hda.upd huab (Blk.ne_ hda b1a (by decide))
    have hRb := hR.out wa wb hRa (huab.mono (fun _ _ e => Loc.nd b1a (by omega) e))
    have hSb : wb.drew.cell? ⟨n10, 0, none⟩ = some (.int .u64 0) ∧ wb.drew.cell? ⟨n10, 1, none⟩ = some (.int .u32 0) ∧ wb.drew.cell? ⟨n10, 2, none⟩ = some (.bool false) ∧ wb.drew.cell? ⟨n10, 3, none⟩ = some (.slice none 0 0) ∧ wb.drew.cell? ⟨w.heap.size, 0, none⟩ = some (.int .i64 fr) ∧ wb.drew.cell? ⟨w.heap.size, 1, none⟩ = some (.int .i64 place) ∧ wb.drew.cell? ⟨w.heap.size, 2, none⟩ = some (.int .i64 1) ∧ wb.drew.cell? ⟨w.heap.size, 3, none⟩ = some (.int .i64 vol) ∧ wb.drew.cell? ⟨w.heap.size, 4, none⟩ = some (.int .i64 0) ∧ wb.drew.cell? ⟨w.heap.size, 5, none⟩ = some (.int .u64 id) ∧ wb.drew.cell? ⟨w.heap.size, 6, none⟩ = some (.int .i64 0) ∧ wb.drew.cell? ⟨w.heap.size, 7, none⟩ = some (.bool true) ∧ wb.drew.cell? ⟨w.heap.size, 8, none⟩ = some (.int .u64 key) ∧ wb.drew.cell? ⟨w.heap.size, 9, none⟩ = some (.int .u32 cookie) ∧ wb.drew.cell? ⟨w.heap.size, 10, none⟩ = some (.bool false) ∧ wb.drew.cell? ⟨w.heap.size, 11, none⟩ = some (.slice A n c) := ⟨b1b.cell 0, b1b.cell 1, b1b.cell 2, b1b.cell 3, b3b.cell 0, b3b.cell 1, b3b.cell 2, b3b.cell 3, b3b.cell 4, b3b.cell 5, b3b.cell 6, b3b.cell 7, b3b.cell 8, b3b.cell 9, b3b.cell 10, b3b.cell 11⟩
    clear j0 j1 j2 j3
    have hu0a : Upd S w wa := ((hu08.mono (fun _ _ h => h.elim)).then hu89 (fun _ _ h => h)).then hu9a (fun i hi e => by have e : i = n10 := e; omega)
    have hu0b : Upd S w wb := hu0a.then huab (fun i hi e => by have e : i = n10 := e; omega)
    have hB : NodeB wb nb place 0 true d vm mm tb wm ∧ TabB wb tb km ∧ MBlk wb km #[] 0 ∧ MBlk wb vm #[{ key := .int .i64 vol, val := .pointer (some ⟨vb, 0, none⟩), born := 0 }] 1 ∧ (∃ cap nx mn ml dv, DiskB wb d cap nx mn ml dv (-1)) ∧ R wb ∧ Blk wb w.heap.size 34 #[.int .i64 fr, .int .i64 place, .int .i64 1, .int .i64 vol, .int .i64 0, .int .u64 id, .int .i64 0, .bool true, .int .u64 key, .int .u32 cookie, .bool false, .slice A n c] ∧ Blk wb (w.heap.size + 1) 34 #[.int .i64 0, .int .i64 0, .int .i64 0, .int .i64 0, .int .i64 0, .int .u64 0, .int .i64 0, .bool false, .int .u64 0, .int .u32 0, .bool false, .slice none 0 0] ∧ Blk wb n10 32 #[.int .u64 0, .int .u32 0, .bool false, .slice none 0 0] ∧ Upd S w wb := ⟨hnb, htb, hmb, hvmb, ⟨_, _, _, _, _, hdb⟩, hRb, b3b, b4b, b1b, hu0b⟩
    have hT : ∀ W W' : World, (NodeB W nb place 0 true d vm mm tb wm ∧ TabB W tb km ∧ MBlk W km #[] 0 ∧ MBlk W vm #[{ key := .int .i64 vol, val := .pointer (some ⟨vb, 0, none⟩), born := 0 }] 1 ∧ (∃ cap nx mn ml dv, DiskB W d cap nx mn ml dv (-1)) ∧ R W ∧ Blk W w.heap.size 34 #[.int .i64 fr, .int .i64 place, .int .i64 1, .int .i64 vol, .int .i64 0, .int .u64 id, .int .i64 0, .bool true, .int .u64 key, .int .u32 cookie, .bool false, .slice A n c] ∧ Blk W (w.heap.size + 1) 34 #[.int .i64 0, .int .i64 0, .int .i64 0, .int .i64 0, .int .i64 0, .int .u64 0, .int .i64 0, .bool false, .int .u64 0, .int .u32 0, .bool false, .slice none 0 0] ∧ Blk W n10 32 #[.int .u64 0, .int .u32 0, .bool false, .slice none 0 0] ∧ Upd S w W) → Upd (fun _ => False) W W' → (NodeB W' nb place 0 true d vm mm tb wm ∧ TabB W' tb km ∧ MBlk W' km #[] 0 ∧ MBlk W' vm #[{ key := .int .i64 vol, val := .pointer (some ⟨vb, 0, none⟩), born := 0 }] 1 ∧ (∃ cap nx mn ml dv, DiskB W' d cap nx mn ml dv (-1)) ∧ R W' ∧ Blk W' w.heap.size 34 #[.int .i64 fr, .int .i64 place, .int .i64 1, .int .i64 vol, .int .i64 0, .int .u64 id, .int .i64 0, .bool true, .int .u64 key, .int .u32 cookie, .bool false, .slice A n c] ∧ Blk W' (w.heap.size + 1) 34 #[.int .i64 0, .int .i64 0, .int .i64 0, .int .i64 0, .int .i64 0, .int .u64 0, .int .i64 0, .bool false, .int .u64 0, .int .u32 0, .bool false, .slice none 0 0] ∧ Blk W' n10 32 #[.int .u64 0, .int .u32 0, .bool false, .slice none 0 0] ∧ Upd S w W') := by
      rintro W W' ⟨a1, a2, a3, a4, ⟨x1, x2, x3, x4, x5, a5⟩, a6, a7, a8, a9, a10⟩ hu
      exact ⟨Blk.upd a1 hu (fun h => h), Blk.upd a2 hu (fun h => h), a3.upd hu (fun h => h), a4.upd hu (fun h => h), ⟨_, _, _, _, _, a5.upd hu (fun h => h)⟩, hR.out _ _ a6 (hu.mono (fun _ _ h => h.elim)), a7.upd hu (fun h => h), a8.upd hu (fun h => h), a9.upd hu (fun h => h), a10.then hu (fun _ _ h => h.elim)⟩
    have hV : ∀ W : World, (NodeB W nb place 0 true d vm mm tb wm ∧ TabB W tb km ∧ MBlk W km #[] 0 ∧ MBlk W vm #[{ key := .int .i64 vol, val := .pointer (some ⟨vb, 0, none⟩), born := 0 }] 1 ∧ (∃ cap nx mn ml dv, DiskB W d cap nx mn ml dv (-1)) ∧ R W ∧ Blk W w.heap.size 34 #[.int .i64 fr, .int .i64 place, .int .i64 1, .int .i64 vol, .int .i64 0, .int .u64 id, .int .i64 0, .bool true, .int .u64 key, .int .u32 cookie, .bool false, .slice A n c] ∧ Blk W (w.heap.size + 1) 34 #[.int .i64 0, .int .i64 0, .int .i64 0, .int .i64 0, .int .i64 0, .int .u64 0, .int .i64 0, .bool false, .int .u64 0, .int .u32 0, .bool false, .slice none 0 0] ∧ Blk W n10 32 #[.int .u64 0, .int .u32 0, .bool false, .slice none 0 0] ∧ Upd S w W) → W.cell? ⟨n10, 0, none⟩ = some (.int .u64 0) ∧ W.cell? ⟨n10, 1, none⟩ = some (.int .u32 0) ∧ W.cell? ⟨n10, 2, none⟩ = some (.bool false) ∧ W.cell? ⟨n10, 3, none⟩ = some (.slice none 0 0) ∧ W.cell? ⟨w.heap.size, 0, none⟩ = some (.int .i64 fr) ∧ W.cell? ⟨w.heap.size, 1, none⟩ = some (.int .i64 place) ∧ W.cell? ⟨w.heap.size, 2, none⟩ = some (.int .i64 1) ∧ W.cell? ⟨w.heap.size, 3, none⟩ = some (.int .i64 vol) ∧ W.cell? ⟨w.heap.size, 4, none⟩ = some (.int .i64 0) ∧ W.cell? ⟨w.heap.size, 5, none⟩ = some (.int .u64 id) ∧ W.cell? ⟨w.heap.size, 6, none⟩ = some (.int .i64 0) ∧ W.cell? ⟨w.heap.size, 7, none⟩ = some (.bool true) ∧ W.cell? ⟨w.heap.size, 8, none⟩ = some (.int .u64 key) ∧ W.cell? ⟨w.heap.size, 9, none⟩ = some (.int .u32 cookie) ∧ W.cell? ⟨w.heap.size, 10, none⟩ = some (.bool false) ∧ W.cell? ⟨w.heap.size, 11, none⟩ = some (.slice A n c) := by
      rintro W ⟨a1, a2, a3, a4, _, a6, a7, a8, a9, a10⟩
      exact ⟨a9.cell 0, a9.cell 1, a9.cell 2, a9.cell 3, a7.cell 0, a7.cell 1, a7.cell 2, a7.cell 3, a7.cell 4, a7.cell 5, a7.cell 6, a7.cell 7, a7.cell 8, a7.cell 9, a7.cell 10, a7.cell 11⟩
    replace hT := Lib.hid hT
    replace hV := Lib.hid hV
    clear hnb htb hmb hvmb hdb hRb b3b b4b b1b hSb hna hta hma hvma hda hRa b3a b4a b1a b7a hn9 ht9 hm9 hvm9 hd9 hR9 b39 b49 b79 b19 hn8 ht8 hm8 hvm8 hd8 b38 b48 b78 b10
    go_cut [13] (fun s13 wx => Hid (∃ n13 : Nat, s13 = .pointer (some ⟨n13, 0, none⟩) ∧ Blk wx n13 34 #[.int .i64 place, .int .i64 fr, .int .i64 5, .int .i64 vol, .int .i64 0, .int .u64 id, .int .i64 code, .bool false, .int .u64 0, .int .u32 0, .bool false, .slice none 0 0] ∧ w.heap.size + 1 < n13 ∧ NodeB wx nb place 0 true d vm mm tb wm ∧ TabB wx tb km ∧ MBlk wx km #[] 0 ∧ MBlk wx vm #[{ key := .int .i64 vol, val := .pointer (some ⟨vb, 0, none⟩), born := 0 }] 1 ∧ (∃ cap nx mn ml dv, DiskB wx d cap nx mn ml dv (-1)) ∧ R wx ∧ Blk wx w.heap.size 34 #[.int .i64 fr, .int .i64 place, .int .i64 1, .int .i64 vol, .int .i64 0, .int .u64 id, .int .i64 0, .bool true, .int .u64 key, .int .u32 cookie, .bool false, .slice A n c] ∧ Blk wx (w.heap.size + 1) 34 #[.int .i64 0, .int .i64 0, .int .i64 0, .int .i64 0, .int .i64 0, .int .u64 0, .int .i64 0, .bool false, .int .u64 0, .int .u32 0, .bool false, .slice none 0 0] ∧ Blk wx n10 32 #[.int .u64 0, .int .u32 0, .bool false, .slice none 0 0] ∧ Upd S w wx))
    case first =>
      refine wp_region_noPanic ?_
      refine wp_region_S 8 (fun W => W.cell? ⟨n10, 0, none⟩ = some (.int .u64 0) ∧ W.cell? ⟨n10, 1, none⟩ = some (.int .u32 0) ∧ W.cell? ⟨n10, 2, none⟩ = some (.bool false) ∧ W.cell? ⟨n10, 3, none⟩ = some (.slice none 0 0) ∧ W.cell? ⟨w.heap.size, 0, none⟩ = some (.int .i64 fr) ∧ W.cell? ⟨w.heap.size, 1, none⟩ = some (.int .i64 place) ∧ W.cell? ⟨w.heap.size, 2, none⟩ = some (.int .i64 1) ∧ W.cell? ⟨w.heap.size, 3, none⟩ = some (.int .i64 vol) ∧ W.cell? ⟨w.heap.size, 4, none⟩ = some (.int .i64 0) ∧ W.cell? ⟨w.heap.size, 5, none⟩ = some (.int .u64 id) ∧ W.cell? ⟨w.heap.size, 6, none⟩ = some (.int .i64 0) ∧ W.cell? ⟨w.heap.size, 7, none⟩ = some (.bool true) ∧ W.cell? ⟨w.heap.size, 8, none⟩ = some (.int .u64 key) ∧ W.cell? ⟨w.heap.size, 9, none⟩ = some (.int .u32 cookie) ∧ W.cell? ⟨w.heap.size, 10, none⟩ = some (.bool false) ∧ W.cell? ⟨w.heap.size, 11, none⟩ = some (.slice A n c)) (by kernel_rfl) rfl false ?_
      refine wpAnyQ_takeN 0 (v := ?_) nth0 (by kernel_rfl) (fun _ _ _ _ _ h => h) (by rfl) (hV.out _ (hT.out _ _ hB (Upd.refl _ _).drew)) ?_ ?_
      rotate_left
      (focus ((intro w hSw; (try dsimp only at hSw); (try go_split_ands); go_simp); try with_reducible rfl))
      (try simp only [Act.put, List.setIfInBounds_toArray, List.set_cons_zero, List.set_cons_succ])
      refine wpAnyQ_takeN 1 (v := ?_) nth1 (by kernel_rfl) (fun _ _ _ _ _ h => h) (by rfl) (hV.out _ (hT.out _ _ hB (Upd.refl _ _).drew)) ?_ ?_
      rotate_left
      (focus ((intro w hSw; (try dsimp only at hSw); (try go_split_ands); go_simp); try with_reducible rfl))
      (try simp only [Act.put, List.setIfInBounds_toArray, List.set_cons_zero, List.set_cons_succ])
      refine wpAnyQ_takeN 3 (v := ?_) nth3 (by kernel_rfl) (fun _ _ _ _ _ h => h) (by rfl) (hV.out _ (hT.out _ _ hB (Upd.refl _ _).drew)) ?_ ?_
      rotate_left
      (focus ((intro w hSw; (try dsimp only at hSw); (try go_split_ands); go_simp); try with_reducible rfl))
      (try simp only [Act.put, List.setIfInBounds_toArray, List.set_cons_zero, List.set_cons_succ])
      refine wpAnyQ_takeN 4 (v := ?_) nth4 (by kernel_rfl) (fun _ _ _ _ _ h => h) (by rfl) (hV.out _ (hT.out _ _ hB (Upd.refl _ _).drew)) ?_ ?_
      rotate_left
      (focus ((intro w hSw; (try dsimp only at hSw); (try go_split_ands); go_simp); try with_reducible rfl))
      (try simp only [Act.put, List.setIfInBounds_toArray, List.set_cons_zero, List.set_cons_succ])
      refine wpAnyQ_do2 2 6 nth2 nth6 (by kernel_rfl) ?_ ?_
      go_wp2_with (go_at_call 29; go_must (refine (hcode.out wb.drew (hT.out _ _ hB (Upd.refl _ _).drew).2.2.2.2.2.1).mono ?_; rintro e wc ⟨rfl, huc⟩))
      have hC : NodeB wc nb place 0 true d vm mm tb wm ∧ TabB wc tb km ∧ MBlk wc km #[] 0 ∧ MBlk wc vm #[{ key := .int .i64 vol, val := .pointer (some ⟨vb, 0, none⟩), born := 0 }] 1 ∧ (∃ cap nx mn ml dv, DiskB wc d cap nx mn ml dv (-1)) ∧ R wc ∧ Blk wc w.heap.size 34 #[.int .i64 fr, .int .i64 place, .int .i64 1, .int .i64 vol, .int .i64 0, .int .u64 id, .int .i64 0, .bool true, .int .u64 key, .int .u32 cookie, .bool false, .slice A n c] ∧ Blk wc (w.heap.size + 1) 34 #[.int .i64 0, .int .i64 0, .int .i64 0, .int .i64 0, .int .i64 0, .int .u64 0, .int .i64 0, .bool false, .int .u64 0, .int .u32 0, .bool false, .slice none 0 0] ∧ Blk wc n10 32 #[.int .u64 0, .int .u32 0, .bool false, .slice none 0 0] ∧ Upd S w wc := hT.out _ _ hB ((Upd.refl (fun _ => False) wb).drew.then huc (fun _ _ h => h))
      refine doK_next (hV.out _ hC) ?_
      refine wpAnyQ_do2 5 6 nth5 nth6 (by kernel_rfl) ?_ ?_
      go_wp2_with (go_at_call 24; go_must (refine (HY.out wc).mono ?_; rintro e wd ⟨rfl, hud⟩))
      have hD : NodeB wd nb place 0 true d vm mm tb wm ∧ TabB wd tb km ∧ MBlk wd km #[] 0 ∧ MBlk wd vm #[{ key := .int .i64 vol, val := .pointer (some ⟨vb, 0, none⟩), born := 0 }] 1 ∧ (∃ cap nx mn ml dv, DiskB wd d cap nx mn ml dv (-1)) ∧ R wd ∧ Blk wd w.heap.size 34 #[.int .i64 fr, .int .i64 place, .int .i64 1, .int .i64 vol, .int .i64 0, .int .u64 id, .int .i64 0, .bool true, .int .u64 key, .int .u32 cookie, .bool false, .slice A n c] ∧ Blk wd (w.heap.size + 1) 34 #[.int .i64 0, .int .i64 0, .int .i64 0, .int .i64 0, .int .i64 0, .int .u64 0, .int .i64 0, .bool false, .int .u64 0, .int .u32 0, .bool false, .slice none 0 0] ∧ Blk wd n10 32 #[.int .u64 0, .int .u32 0, .bool false, .slice none 0 0] ∧ Upd S w wd := hT.out _ _ hC hud
      refine doK_next (hV.out _ hD) ?_
      refine wpAnyQ_doN 6 nth6 (by kernel_rfl) ?_
      go_wp2
      have he := (Upd.refl (fun _ => False) wd).alloc (.cells #[.int .i64 0, .int .i64 0, .int .i64 0, .int .i64 0, .int .i64 0, .int .u64 0, .int .i64 0, .bool false, .int .u64 0, .int .u32 0, .bool false, .slice none 0 0] 34)
      have b13 := Blk.new wd 34 #[.int .i64 0, .int .i64 0, .int .i64 0, .int .i64 0, .int .i64 0, .int .u64 0, .int .i64 0, .bool false, .int .u64 0, .int .u32 0, .bool false, .slice none 0 0]
      have q5 := hD.2.2.2.2.2.2.2.1.lt
      have hE : NodeB (wd.alloc (.cells #[.int .i64 0, .int .i64 0, .int .i64 0, .int .i64 0, .int .i64 0, .int .u64 0, .int .i64 0, .bool false, .int .u64 0, .int .u32 0, .bool false, .slice none 0 0] 34)) nb place 0 true d vm mm tb wm ∧ TabB (wd.alloc (.cells #[.int .i64 0, .int .i64 0, .int .i64 0, .int .i64 0, .int .i64 0, .int .u64 0, .int .i64 0, .bool false, .int .u64 0, .int .u32 0, .bool false, .slice none 0 0] 34)) tb km ∧ MBlk (wd.alloc (.cells #[.int .i64 0, .int .i64 0, .int .i64 0, .int .i64 0, .int .i64 0, .int .u64 0, .int .i64 0, .bool false, .int .u64 0, .int .u32 0, .bool false, .slice none 0 0] 34)) km #[] 0 ∧ MBlk (wd.alloc (.cells #[.int .i64 0, .int .i64 0, .int .i64 0, .int .i64 0, .int .i64 0, .int .u64 0, .int .i64 0, .bool false, .int .u64 0, .int .u32 0, .bool false, .slice none 0 0] 34)) vm #[{ key := .int .i64 vol, val := .pointer (some ⟨vb, 0, none⟩), born := 0 }] 1 ∧ (∃ cap nx mn ml dv, DiskB (wd.alloc (.cells #[.int .i64 0, .int .i64 0, .int .i64 0, .int .i64 0, .int .i64 0, .int .u64 0, .int .i64 0, .bool false, .int .u64 0, .int .u32 0, .bool false, .slice none 0 0] 34)) d cap nx mn ml dv (-1)) ∧ R (wd.alloc (.cells #[.int .i64 0, .int .i64 0, .int .i64 0, .int .i64 0, .int .i64 0, .int .u64 0, .int .i64 0, .bool false, .int .u64 0, .int .u32 0, .bool false, .slice none 0 0] 34)) ∧ Blk (wd.alloc (.cells #[.int .i64 0, .int .i64 0, .int .i64 0, .int .i64 0, .int .i64 0, .int .u64 0, .int .i64 0, .bool false, .int .u64 0, .int .u32 0, .bool false, .slice none 0 0] 34)) w.heap.size 34 #[.int .i64 fr, .int .i64 place, .int .i64 1, .int .i64 vol, .int .i64 0, .int .u64 id, .int .i64 0, .bool true, .int .u64 key, .int .u32 cookie, .bool false, .slice A n c] ∧ Blk (wd.alloc (.cells #[.int .i64 0, .int .i64 0, .int .i64 0, .int .i64 0, .int .i64 0, .int .u64 0, .int .i64 0, .bool false, .int .u64 0, .int .u32 0, .bool false, .slice none 0 0] 34)) (w.heap.size + 1) 34 #[.int .i64 0, .int .i64 0, .int .i64 0, .int .i64 0, .int .i64 0, .int .u64 0, .int .i64 0, .bool false, .int .u64 0, .int .u32 0, .bool false, .slice none 0 0] ∧ Blk (wd.alloc (.cells #[.int .i64 0, .int .i64 0, .int .i64 0, .int .i64 0, .int .i64 0, .int .u64 0, .int .i64 0, .bool false, .int .u64 0, .int .u32 0, .bool false, .slice none 0 0] 34)) n10 32 #[.int .u64 0, .int .u32 0, .bool false, .slice none 0 0] ∧ Upd S w (wd.alloc (.cells #[.int .i64 0, .int .i64 0, .int .i64 0, .int .i64 0, .int .i64 0, .int .u64 0, .int .i64 0, .bool false, .int .u64 0, .int .u32 0, .bool false, .slice none 0 0] 34)) := hT.out _ _ hD he
      clear he hD hC
      generalize wd.heap.size = n13 at *
      generalize (World.alloc wd _) = we at *
      refine doK_next (hV.out _ hE) ?_
      rotate_left
      go_wp2
      have he := (Upd.refl (fun _ => False) wc).alloc (.cells #[.int .i64 0, .int .i64 0, .int .i64 0, .int .i64 0, .int .i64 0, .int .u64 0, .int .i64 0, .bool false, .int .u64 0, .int .u32 0, .bool false, .slice none 0 0] 34)
      have b12 := Blk.new wc 34 #[.int .i64 0, .int .i64 0, .int .i64 0, .int .i64 0, .int .i64 0, .int .u64 0, .int .i64 0, .bool false, .int .u64 0, .int .u32 0, .bool false, .slice none 0 0]
      have q5 := hC.2.2.2.2.2.2.2.1.lt
      have hD : NodeB (wc.alloc (.cells #[.int .i64 0, .int .i64 0, .int .i64 0, .int .i64 0, .int .i64 0, .int .u64 0, .int .i64 0, .bool false, .int .u64 0, .int .u32 0, .bool false, .slice none 0 0] 34)) nb place 0 true d vm mm tb wm ∧ TabB (wc.alloc (.cells #[.int .i64 0, .int .i64 0, .int .i64 0, .int .i64 0, .int .i64 0, .int .u64 0, .int .i64 0, .bool false, .int .u64 0, .int .u32 0, .bool false, .slice none 0 0] 34)) tb km ∧ MBlk (wc.alloc (.cells #[.int .i64 0, .int .i64 0, .int .i64 0, .int .i64 0, .int .i64 0, .int .u64 0, .int .i64 0, .bool false, .int .u64 0, .int .u32 0, .bool false, .slice none 0 0] 34)) km #[] 0 ∧ MBlk (wc.alloc (.cells #[.int .i64 0, .int .i64 0, .int .i64 0, .int .i64 0, .int .i64 0, .int .u64 0, .int .i64 0, .bool false, .int .u64 0, .int .u32 0, .bool false, .slice none 0 0] 34)) vm #[{ key := .int .i64 vol, val := .pointer (some ⟨vb, 0, none⟩), born := 0 }] 1 ∧ (∃ cap nx mn ml dv, DiskB (wc.alloc (.cells #[.int .i64 0, .int .i64 0, .int .i64 0, .int .i64 0, .int .i64 0, .int .u64 0, .int .i64 0, .bool false, .int .u64 0, .int .u32 0, .bool false, .slice none 0 0] 34)) d cap nx mn ml dv (-1)) ∧ R (wc.alloc (.cells #[.int .i64 0, .int .i64 0, .int .i64 0, .int .i64 0, .int .i64 0, .int .u64 0, .int .i64 0, .bool false, .int .u64 0, .int .u32 0, .bool false, .slice none 0 0] 34)) ∧ Blk (wc.alloc (.cells #[.int .i64 0, .int .i64 0, .int .i64 0, .int .i64 0, .int .i64 0, .int .u64 0, .int .i64 0, .bool false, .int .u64 0, .int .u32 0, .bool false, .slice none 0 0] 34)) w.heap.size 34 #[.int .i64 fr, .int .i64 place, .int .i64 1, .int .i64 vol, .int .i64 0, .int .u64 id, .int .i64 0, .bool true, .int .u64 key, .int .u32 cookie, .bool false, .slice A n c] ∧ Blk (wc.alloc (.cells #[.int .i64 0, .int .i64 0, .int .i64 0, .int .i64 0, .int .i64 0, .int .u64 0, .int .i64 0, .bool false, .int .u64 0, .int .u32 0, .bool false, .slice none 0 0] 34)) (w.heap.size + 1) 34 #[.int .i64 0, .int .i64 0, .int .i64 0, .int .i64 0, .int .i64 0, .int .u64 0, .int .i64 0, .bool false, .int .u64 0, .int .u32 0, .bool false, .slice none 0 0] ∧ Blk (wc.alloc (.cells #[.int .i64 0, .int .i64 0, .int .i64 0, .int .i64 0, .int .i64 0, .int .u64 0, .int .i64 0, .bool false, .int .u64 0, .int .u32 0, .bool false, .slice none 0 0] 34)) n10 32 #[.int .u64 0, .int .u32 0, .bool false, .slice none 0 0] ∧ Upd S w (wc.alloc (.cells #[.int .i64 0, .int .i64 0, .int .i64 0, .int .i64 0, .int .i64 0, .int .u64 0, .int .i64 0, .bool false, .int .u64 0, .int .u32 0, .bool false, .slice none 0 0] 34)) := hT.out _ _ hC he
      clear he hC
      generalize wc.heap.size = n13 at *
      generalize (World.alloc wc _) = wd at *
      refine doK_next (hV.out _ hD) ?_
      refine wpAnyQ_doN 5 nth5 (by kernel_rfl) ?_
      go_wp2_with (go_at_call 24; go_must (refine (HY.out wd).mono ?_; rintro e we ⟨rfl, hue⟩))
      have b13 := b12.upd hue (fun h => h)
      have hE : NodeB we nb place 0 true d vm mm tb wm ∧ TabB we tb km ∧ MBlk we km #[] 0 ∧ MBlk we vm #[{ key := .int .i64 vol, val := .pointer (some ⟨vb, 0, none⟩), born := 0 }] 1 ∧ (∃ cap nx mn ml dv, DiskB we d cap nx mn ml dv (-1)) ∧ R we ∧ Blk we w.heap.size 34 #[.int .i64 fr, .int .i64 place, .int .i64 1, .int .i64 vol, .int .i64 0, .int .u64 id, .int .i64 0, .bool true, .int .u64 key, .int .u32 cookie, .bool false, .slice A n c] ∧ Blk we (w.heap.size + 1) 34 #[.int .i64 0, .int .i64 0, .int .i64 0, .int .i64 0, .int .i64 0, .int .u64 0, .int .i64 0, .bool false, .int .u64 0, .int .u32 0, .bool false, .slice none 0 0] ∧ Blk we n10 32 #[.int .u64 0, .int .u32 0, .bool false, .slice none 0 0] ∧ Upd S w we := hT.out _ _ hD hue
      clear hD
      refine doK_next (hV.out _ hE) ?_
      rotate_left
      go_wp2
      have he := ((Upd.refl (fun _ => False) wb).alloc (.cells #[.int .i64 0, .int .i64 0, .int .i64 0, .int .i64 0, .int .i64 0, .int .u64 0, .int .i64 0, .bool false, .int .u64 0, .int .u32 0, .bool false, .slice none 0 0] 34)).drew
      have b11 := (Blk.new wb 34 #[.int .i64 0, .int .i64 0, .int .i64 0, .int .i64 0, .int .i64 0, .int .u64 0, .int .i64 0, .bool false, .int .u64 0, .int .u32 0, .bool false, .slice none 0 0]).drew
      have q5 := hB.2.2.2.2.2.2.2.1.lt
      have hC : NodeB (wb.alloc (.cells #[.int .i64 0, .int .i64 0, .int .i64 0, .int .i64 0, .int .i64 0, .int .u64 0, .int .i64 0, .bool false, .int .u64 0, .int .u32 0, .bool false, .slice none 0 0] 34)).drew nb place 0 true d vm mm tb wm ∧ TabB (wb.alloc (.cells #[.int .i64 0, .int .i64 0, .int .i64 0, .int .i64 0, .int .i64 0, .int .u64 0, .int .i64 0, .bool false, .int .u64 0, .int .u32 0, .bool false, .slice none 0 0] 34)).drew tb km ∧ MBlk (wb.alloc (.cells #[.int .i64 0, .int .i64 0, .int .i64 0, .int .i64 0, .int .i64 0, .int .u64 0, .int .i64 0, .bool false, .int .u64 0, .int .u32 0, .bool false, .slice none 0 0] 34)).drew km #[] 0 ∧ MBlk (wb.alloc (.cells #[.int .i64 0, .int .i64 0, .int .i64 0, .int .i64 0, .int .i64 0, .int .u64 0, .int .i64 0, .bool false, .int .u64 0, .int .u32 0, .bool false, .slice none 0 0] 34)).drew vm #[{ key := .int .i64 vol, val := .pointer (some ⟨vb, 0, none⟩), born := 0 }] 1 ∧ (∃ cap nx mn ml dv, DiskB (wb.alloc (.cells #[.int .i64 0, .int .i64 0, .int .i64 0, .int .i64 0, .int .i64 0, .int .u64 0, .int .i64 0, .bool false, .int .u64 0, .int .u32 0, .bool false, .slice none 0 0] 34)).drew d cap nx mn ml dv (-1)) ∧ R (wb.alloc (.cells #[.int .i64 0, .int .i64 0, .int .i64 0, .int .i64 0, .int .i64 0, .int .u64 0, .int .i64 0, .bool false, .int .u64 0, .int .u32 0, .bool false, .slice none 0 0] 34)).drew ∧ Blk (wb.alloc (.cells #[.int .i64 0, .int .i64 0, .int .i64 0, .int .i64 0, .int .i64 0, .int .u64 0, .int .i64 0, .bool false, .int .u64 0, .int .u32 0, .bool false, .slice none 0 0] 34)).drew w.heap.size 34 #[.int .i64 fr, .int .i64 place, .int .i64 1, .int .i64 vol, .int .i64 0, .int .u64 id, .int .i64 0, .bool true, .int .u64 key, .int .u32 cookie, .bool false, .slice A n c] ∧ Blk (wb.alloc (.cells #[.int .i64 0, .int .i64 0, .int .i64 0, .int .i64 0, .int .i64 0, .int .u64 0, .int .i64 0, .bool false, .int .u64 0, .int .u32 0, .bool false, .slice none 0 0] 34)).drew (w.heap.size + 1) 34 #[.int .i64 0, .int .i64 0, .int .i64 0, .int .i64 0, .int .i64 0, .int .u64 0, .int .i64 0, .bool false, .int .u64 0, .int .u32 0, .bool false, .slice none 0 0] ∧ Blk (wb.alloc (.cells #[.int .i64 0, .int .i64 0, .int .i64 0, .int .i64 0, .int .i64 0, .int .u64 0, .int .i64 0, .bool false, .int .u64 0, .int .u32 0, .bool false, .slice none 0 0] 34)).drew n10 32 #[.int .u64 0, .int .u32 0, .bool false, .slice none 0 0] ∧ Upd S w (wb.alloc (.cells #[.int .i64 0, .int .i64 0, .int .i64 0, .int .i64 0, .int .i64 0, .int .u64 0, .int .i64 0, .bool false, .int .u64 0, .int .u32 0, .bool false, .slice none 0 0] 34)).drew := hT.out _ _ hB he
      clear he
      generalize wb.heap.size = n13 at *
      generalize (World.drew (World.alloc wb _)) = wc at *
      refine doK_next (hV.out _ hC) ?_
      refine wpAnyQ_doN 2 nth2 (by kernel_rfl) ?_
      go_wp2_with (go_at_call 29; go_must (refine (hcode.out wc hC.2.2.2.2.2.1).mono ?_; rintro e wd ⟨rfl, hud⟩))
      have hD : NodeB wd nb place 0 true d vm mm tb wm ∧ TabB wd tb km ∧ MBlk wd km #[] 0 ∧ MBlk wd vm #[{ key := .int .i64 vol, val := .pointer (some ⟨vb, 0, none⟩), born := 0 }] 1 ∧ (∃ cap nx mn ml dv, DiskB wd d cap nx mn ml dv (-1)) ∧ R wd ∧ Blk wd w.heap.size 34 #[.int .i64 fr, .int .i64 place, .int .i64 1, .int .i64 vol, .int .i64 0, .int .u64 id, .int .i64 0, .bool true, .int .u64 key, .int .u32 cookie, .bool false, .slice A n c] ∧ Blk wd (w.heap.size + 1) 34 #[.int .i64 0, .int .i64 0, .int .i64 0, .int .i64 0, .int .i64 0, .int .u64 0, .int .i64 0, .bool false, .int .u64 0, .int .u32 0, .bool false, .slice none 0 0] ∧ Blk wd n10 32 #[.int .u64 0, .int .u32 0, .bool false, .slice none 0 0] ∧ Upd S w wd := hT.out _ _ hC hud
      have b12 := b11.upd hud (fun h => h)
      clear hC
      refine doK_next (hV.out _ hD) ?_
      refine wpAnyQ_doN 5 nth5 (by kernel_rfl) ?_
      go_wp2_with (go_at_call 24; go_must (refine (HY.out wd).mono ?_; rintro e we ⟨rfl, hue⟩))
      have b13 := b12.upd hue (fun h => h)
      have hE : NodeB we nb place 0 true d vm mm tb wm ∧ TabB we tb km ∧ MBlk we km #[] 0 ∧ MBlk we vm #[{ key := .int .i64 vol, val := .pointer (some ⟨vb, 0, none⟩), born := 0 }] 1 ∧ (∃ cap nx mn ml dv, DiskB we d cap nx mn ml dv (-1)) ∧ R we ∧ Blk we w.heap.size 34 #[.int .i64 fr, .int .i64 place, .int .i64 1, .int .i64 vol, .int .i64 0, .int .u64 id, .int .i64 0, .bool true, .int .u64 key, .int .u32 cookie, .bool false, .slice A n c] ∧ Blk we (w.heap.size + 1) 34 #[.int .i64 0, .int .i64 0, .int .i64 0, .int .i64 0, .int .i64 0, .int .u64 0, .int .i64 0, .bool false, .int .u64 0, .int .u32 0, .bool false, .slice none 0 0] ∧ Blk we n10 32 #[.int .u64 0, .int .u32 0, .bool false, .slice none 0 0] ∧ Upd S w we := hT.out _ _ hD hue
      clear hD
      refine doK_next (hV.out _ hE) ?_
      all_goals
        refine wpAnyQ_doN 7 nth7 (by kernel_rfl) ?_
        go_wp2_with (refine wpList_store_blk rfl _ _ _ rfl _ _ _ #[.int .i64 place, .int .i64 fr, .int .i64 5, .int .i64 vol, .int .i64 0, .int .u64 id, .int .i64 code, .bool false, .int .u64 0, .int .u32 0, .bool false, .slice none 0 0] rfl rfl b13 rfl (by kernel_rfl) (by simp [Value.oneCell']) ?_; intro wf b1f hef)
        have hF : NodeB wf nb place 0 true d vm mm tb wm ∧ TabB wf tb km ∧ MBlk wf km #[] 0 ∧ MBlk wf vm #[{ key := .int .i64 vol, val := .pointer (some ⟨vb, 0, none⟩), born := 0 }] 1 ∧ (∃ cap nx mn ml dv, DiskB wf d cap nx mn ml dv (-1)) ∧ R wf ∧ Blk wf w.heap.size 34 #[.int .i64 fr, .int .i64 place, .int .i64 1, .int .i64 vol, .int .i64 0, .int .u64 id, .int .i64 0, .bool true, .int .u64 key, .int .u32 cookie, .bool false, .slice A n c] ∧ Blk wf (w.heap.size + 1) 34 #[.int .i64 0, .int .i64 0, .int .i64 0, .int .i64 0, .int .i64 0, .int .u64 0, .int .i64 0, .bool false, .int .u64 0, .int .u32 0, .bool false, .slice none 0 0] ∧ Blk wf n10 32 #[.int .u64 0, .int .u32 0, .bool false, .slice none 0 0] ∧ Upd S w wf := by
          obtain ⟨a1, a2, a3, a4, ⟨x1, x2, x3, x4, x5, a5⟩, a6, a7, a8, a9, a10⟩ := hE
          exact ⟨Blk.upd a1 hef (Blk.ne_ a1 b13 (by decide)), Blk.upd a2 hef (Blk.ne_ a2 b13 (by decide)), a3.upd hef (Ne.symm (Blk.neM b13 a3)), a4.upd hef (Ne.symm (Blk.neM b13 a4)), ⟨_, _, _, _, _, a5.upd hef (Blk.ne_ a5 b13 (by decide))⟩, hR.out _ _ a6 (hef.mono (fun _ _ e => Loc.ms b13 (by omega) e)),
            a7.upd hef (fun e => by have e : w.heap.size = n13 := e; omega), a8.upd hef (fun e => by have e : w.heap.size + 1 = n13 := e; omega), a9.upd hef (Blk.ne_ a9 b13 (by decide)), a10.then hef (fun i hi e => by have e : i = n13 := e; omega)⟩
        refine doK_lastS (hV.out _ hF) (by kernel_rfl) (NoPanic.normal ?_)
        go_wp2_with fail
        go_meet
        exact Lib.hid ⟨n13, rfl, b1f, q5, hF⟩
    case rest =>
      obtain ⟨n13, rfl, b13, q5, hF⟩ := hcut.out
      generalize wc = wx at *
      obtain ⟨a1, a2, a3, a4, ⟨x1, x2, x3, x4, x5, a5⟩, a6, a7, a8, a9, a10⟩ := hF
      go_wp2_with fail
      have hS23 : wx.drew.cell? ⟨nb, 6, none⟩ = some (.pointer (some ⟨tb, 0, none⟩)) ∧ wx.drew.cell? ⟨n13, 0, none⟩ = some (.int .i64 place) ∧ wx.drew.cell? ⟨n13, 1, none⟩ = some (.int .i64 fr) ∧ wx.drew.cell? ⟨n13, 2, none⟩ = some (.int .i64 5) ∧ wx.drew.cell? ⟨n13, 3, none⟩ = some (.int .i64 vol) ∧ wx.drew.cell? ⟨n13, 4, none⟩ = some (.int .i64 0) ∧ wx.drew.cell? ⟨n13, 5, none⟩ = some (.int .u64 id) ∧ wx.drew.cell? ⟨n13, 6, none⟩ = some (.int .i64 code) ∧ wx.drew.cell? ⟨n13, 7, none⟩ = some (.bool false) ∧ wx.drew.cell? ⟨n13, 8, none⟩ = some (.int .u64 0) ∧ wx.drew.cell? ⟨n13, 9, none⟩ = some (.int .u32 0) ∧ wx.drew.cell? ⟨n13, 10, none⟩ = some (.bool false) ∧ wx.drew.cell? ⟨n13, 11, none⟩ = some (.slice none 0 0) := ⟨Blk.cell a1 6, b13.cell 0, b13.cell 1, b13.cell 2, b13.cell 3, b13.cell 4, b13.cell 5, b13.cell 6, b13.cell 7, b13.cell 8, b13.cell 9, b13.cell 10, b13.cell 11⟩
      refine wp_region_noPanic ?_
      refine wp_region_S 6 (fun W => W.cell? ⟨nb, 6, none⟩ = some (.pointer (some ⟨tb, 0, none⟩)) ∧ W.cell? ⟨n13, 0, none⟩ = some (.int .i64 place) ∧ W.cell? ⟨n13, 1, none⟩ = some (.int .i64 fr) ∧ W.cell? ⟨n13, 2, none⟩ = some (.int .i64 5) ∧ W.cell? ⟨n13, 3, none⟩ = some (.int .i64 vol) ∧ W.cell? ⟨n13, 4, none⟩ = some (.int .i64 0) ∧ W.cell? ⟨n13, 5, none⟩ = some (.int .u64 id) ∧ W.cell? ⟨n13, 6, none⟩ = some (.int .i64 code) ∧ W.cell? ⟨n13, 7, none⟩ = some (.bool false) ∧ W.cell? ⟨n13, 8, none⟩ = some (.int .u64 0) ∧ W.cell? ⟨n13, 9, none⟩ = some (.int .u32 0) ∧ W.cell? ⟨n13, 10, none⟩ = some (.bool false) ∧ W.cell? ⟨n13, 11, none⟩ = some (.slice none 0 0)) (by kernel_rfl) rfl true ?_
      refine wpAnyQ_takeN 0 (v := ?_) nth0 (by kernel_rfl) (fun _ _ _ _ _ h => h) (by rfl) hS23 ?_ ?_
      rotate_left
      (focus ((intro w hSw; (try dsimp only at hSw); (try go_split_ands); go_simp); try with_reducible rfl))
      (try simp only [Act.put, List.setIfInBounds_toArray, List.set_cons_zero, List.set_cons_succ])
      refine wpAnyQ_takeN 1 (v := ?_) nth1 (by kernel_rfl) (fun _ _ _ _ _ h => h) (by rfl) hS23 ?_ ?_
      rotate_left
      (focus ((intro w hSw; (try dsimp only at hSw); (try go_split_ands); go_simp); try with_reducible rfl))
      (try simp only [Act.put, List.setIfInBounds_toArray, List.set_cons_zero, List.set_cons_succ])
      refine wpAnyQ_takeN 2 (v := ?_) nth2 (by kernel_rfl) (fun _ _ _ _ _ h => h) (by rfl) hS23 ?_ ?_
      rotate_left
      (focus ((intro w hSw; (try dsimp only at hSw); (try go_split_ands); go_simp); try with_reducible rfl))
      (try simp only [Act.put, List.setIfInBounds_toArray, List.set_cons_zero, List.set_cons_succ])
      refine wpAnyQ_takeN 3 (v := ?_) nth3 (by kernel_rfl) (fun _ _ _ _ _ h => h) (by rfl) hS23 ?_ ?_
      rotate_left
      (focus ((intro w hSw; (try dsimp only at hSw); (try go_split_ands); go_simp); try with_reducible rfl))
      (try simp only [Act.put, List.setIfInBounds_toArray, List.set_cons_zero, List.set_cons_succ])
      refine wpAnyQ_takeN 4 (v := ?_) nth4 (by kernel_rfl) (fun _ _ _ _ _ h => h) (by rfl) hS23 ?_ ?_
      rotate_left
      (focus ((intro w hSw; (try dsimp only at hSw); (try go_split_ands); go_simp); try with_reducible rfl))
      (try simp only [Act.put, List.setIfInBounds_toArray, List.set_cons_zero, List.set_cons_succ])
      refine wpAnyQ_doN 5 nth5 (by kernel_rfl) ?_
      go_wp2_with (go_at_call 30; go_must (refine (HK.out wx.drew a2 a3).mono ?_; rintro e wd ⟨rfl, htd, hmd, hud⟩))
      refine doK_last (by kernel_rfl) (by kernel_rfl) (NoPanic.normal ?_)
      have hu : Upd (fun k => k = km) wx wd := ((Upd.refl (fun _ => False) wx).drew.mono (fun _ _ h => h.elim)).then hud (fun _ _ h => h)
      have b13d := b13.upd hu (Blk.neM b13 a3)
      have b4d := a8.upd hu (Blk.neM a8 a3)
      clear hS23 hB
      have r0 := b13d.cell 0
      have r1 := b13d.cell 1
      have r2 := b13d.cell 2
      have r3 := b13d.cell 3
      have r4 := b13d.cell 4
      have r5 := b13d.cell 5
      have r6 := b13d.cell 6
      have r7 := b13d.cell 7
      have r8 := b13d.cell 8
      have r9 := b13d.cell 9
      have r10 := b13d.cell 10
      have r11 := b13d.cell 11
      go_wp2_with (refine wpList_store_blk rfl _ _ _ rfl _ _ _ #[.int .i64 place, .int .i64 fr, .int .i64 5, .int .i64 vol, .int .i64 0, .int .u64 id, .int .i64 code, .bool false, .int .u64 0, .int .u32 0, .bool false, .slice none 0 0] rfl rfl b4d rfl (by kernel_rfl) (by simp [Value.oneCell']) ?_; intro we b4e hde)
      have y0 := b4e.cell 0
      have y1 := b4e.cell 1
      have y2 := b4e.cell 2
      have y3 := b4e.cell 3
      have y4 := b4e.cell 4
      have y5 := b4e.cell 5
      have y6 := b4e.cell 6
      have y7 := b4e.cell 7
      have y8 := b4e.cell 8
      have y9 := b4e.cell 9
      have y10 := b4e.cell 10
      have y11 := b4e.cell 11
      have hRd := hR.out _ _ a6 (hu.mono (fun _ _ e => Or.inl e))
      have hRe := hR.out _ _ hRd (hde.mono (fun _ _ e => Loc.ms b4d (by omega) e))
      have a1d : NodeB wd nb place 0 true d vm mm tb wm := Blk.upd a1 hu (Blk.neM a1 a3)
      have a4d : MBlk wd vm #[{ key := .int .i64 vol, val := .pointer (some ⟨vb, 0, none⟩), born := 0 }] 1 := a4.upd hu hvk
      have a5d := a5.upd hu (Blk.neM a5 a3)
      refine bodyPost_ret (v := .tuple #[.agg #[.int .i64 place, .int .i64 fr, .int .i64 5, .int .i64 vol, .int .i64 0, .int .u64 id, .int .i64 code, .bool false, .int .u64 0, .int .u32 0, .bool false, .slice none 0 0], .nilIface]) (by simp [results, Tryz.results5, go_sem, y0, y1, y2, y3, y4, y5, y6, y7, y8, y9, y10, y11]) rfl ⟨rfl, hRe, Blk.upd a1d hde (Blk.ne_ a1d b4d (by decide)), ⟨_, _, _, _, _, a5d.upd hde (Blk.ne_ a5d b4d (by decide))⟩, Blk.upd htd hde (Blk.ne_ htd b4d (by decide)), hmd.upd hde (Ne.symm (Blk.neM b4d hmd)), a4d.upd hde (Ne.symm (Blk.neM b4d a4d)), ?_⟩
      exact (((a10.mono (fun _ _ h => Or.inl h)).then hu (fun _ _ h => Or.inr h)).then hde (fun i hi e => by have e : i = w.heap.size + 1 := e; omega))
end Go.Proofs.YtlbmoafdialigaaGreatDoor
