/- package vol: file, state, room, found, Info. -/
import Derived.Test.YtlbmoafdialigaaGreatDoorIdx
import Derived.BigQuiet
import Derived.Deep.QuietTactic
namespace Go.Proofs.YtlbmoafdialigaaGreatDoor
open Go Go.RowKit Go.MapKept

/-- A volume's own block. -/
def VolB (w : World) (vb d v g ep : Nat) (sealed : Bool) (most size xb : Nat) : Prop :=
  Blk w vb 101 #[.pointer (some ⟨d, 0, none⟩), .int .i64 v, .int .i64 g, .int .i64 ep, .bool sealed, .int .i64 most, .int .i64 size, .pointer (some ⟨xb, 0, none⟩)]

section
variable {w : World} {vb d v g ep most size xb : Nat} {sealed : Bool}

theorem VolB.cells (h : VolB w vb d v g ep sealed most size xb) : w.cell? ⟨vb, 0, none⟩ = some (.pointer (some ⟨d, 0, none⟩)) ∧ w.cell? ⟨vb, 1, none⟩ = some (.int .i64 v) ∧ w.cell? ⟨vb, 2, none⟩ = some (.int .i64 g) ∧ w.cell? ⟨vb, 3, none⟩ = some (.int .i64 ep) ∧
    w.cell? ⟨vb, 4, none⟩ = some (.bool sealed) ∧ w.cell? ⟨vb, 5, none⟩ = some (.int .i64 most) ∧ w.cell? ⟨vb, 6, none⟩ = some (.int .i64 size) ∧ w.cell? ⟨vb, 7, none⟩ = some (.pointer (some ⟨xb, 0, none⟩)) :=
  ⟨Blk.cell h 0, Blk.cell h 1, Blk.cell h 2, Blk.cell h 3, Blk.cell h 4, Blk.cell h 5, Blk.cell h 6, Blk.cell h 7⟩

set_option maxRecDepth 100000 in
set_option maxHeartbeats 4000000 in
theorem file_ok (h : VolB w vb d v g ep sealed most size xb) (hv : v < 100) (hg : g < 100) :
    Calls Tryz.prog 86 #[.pointer (some ⟨vb, 0, none⟩)] w fun e w' => e = .returned (.string (nmData v g)) ∧ Upd (fun _ => False) w w' := by
  obtain ⟨c0, c1, c2, c3, c4, c5, c6, c7⟩ := h.cells
  have HN := Lib.hid (fun W => names_small v g hv hg W)
  clear h
  go_enter Tryz.func86, Tryz.ntmps86
  go_wp2_with fail
  have hS : w.drew.cell? ⟨vb, 1, none⟩ = some (.int .i64 v) ∧ w.drew.cell? ⟨vb, 2, none⟩ = some (.int .i64 g) := ⟨c1, c2⟩
  refine wp_region_noPanic ?_
  refine wp_region_S 20 (fun W => W.cell? ⟨vb, 1, none⟩ = some (.int .i64 v) ∧ W.cell? ⟨vb, 2, none⟩ = some (.int .i64 g)) (by kernel_rfl) rfl false ?_
  refine wpAnyQ_takeN 0 (v := ?_) nth0 (by kernel_rfl) (fun _ _ _ _ _ h => h) (by rfl) hS ?_ ?_
  rotate_left
  (focus ((intro w hSw; (try dsimp only at hSw); (try go_split_ands); go_simp); try with_reducible rfl))
  (try simp only [Act.put, List.setIfInBounds_toArray, List.set_cons_zero, List.set_cons_succ])
  refine wpAnyQ_takeN 1 (v := ?_) nth1 (by kernel_rfl) (fun _ _ _ _ _ h => h) (by rfl) hS ?_ ?_
  rotate_left
  (focus ((intro w hSw; (try dsimp only at hSw); (try go_split_ands); go_simp); try with_reducible rfl))
  (try simp only [Act.put, List.setIfInBounds_toArray, List.set_cons_zero, List.set_cons_succ])
  refine wpAnyQ_takeN 2 (v := ?_) nth2 (by kernel_rfl) (fun _ _ _ _ _ h => h) (by rfl) hS ?_ ?_
  rotate_left
  (focus ((intro w hSw; (try dsimp only at hSw); (try go_split_ands); go_simp); try with_reducible rfl))
  (try simp only [Act.put, List.setIfInBounds_toArray, List.set_cons_zero, List.set_cons_succ])
  refine wpAnyQ_takeN 3 (v := ?_) nth3 (by kernel_rfl) (fun _ _ _ _ _ h => h) (by rfl) hS ?_ ?_
  rotate_left
  (focus ((intro w hSw; (try dsimp only at hSw); (try go_split_ands); go_simp); try with_reducible rfl))
  (try simp only [Act.put, List.setIfInBounds_toArray, List.set_cons_zero, List.set_cons_succ])
  refine wpAnyQ_takeN 4 (v := ?_) nth4 (by kernel_rfl) (fun _ _ _ _ _ h => h) (by rfl) hS ?_ ?_
  rotate_left
  (focus ((intro w hSw; (try dsimp only at hSw); (try go_split_ands); go_simp); try with_reducible rfl))
  (try simp only [Act.put, List.setIfInBounds_toArray, List.set_cons_zero, List.set_cons_succ])
  refine wpAnyQ_takeN 5 (v := ?_) nth5 (by kernel_rfl) (fun _ _ _ _ _ h => h) (by rfl) hS ?_ ?_
  rotate_left
  (focus ((intro w hSw; (try dsimp only at hSw); (try go_split_ands); go_simp); try with_reducible rfl))
  (try simp only [Act.put, List.setIfInBounds_toArray, List.set_cons_zero, List.set_cons_succ])
  refine wpAnyQ_takeN 6 (v := ?_) nth6 (by kernel_rfl) (fun _ _ _ _ _ h => h) (by rfl) hS ?_ ?_
  rotate_left
  (focus ((intro w hSw; (try dsimp only at hSw); (try go_split_ands); go_simp); try with_reducible rfl))
  (try simp only [Act.put, List.setIfInBounds_toArray, List.set_cons_zero, List.set_cons_succ])
  refine wpAnyQ_takeN 7 (v := ?_) nth7 (by kernel_rfl) (fun _ _ _ _ _ h => h) (by rfl) hS ?_ ?_
  rotate_left
  (focus ((intro w hSw; (try dsimp only at hSw); (try go_split_ands); go_simp); try with_reducible rfl))
  (try simp only [Act.put, List.setIfInBounds_toArray, List.set_cons_zero, List.set_cons_succ])
  refine wpAnyQ_takeN 8 (v := ?_) nth8 (by kernel_rfl) (fun _ _ _ _ _ h => h) (by rfl) hS ?_ ?_
  rotate_left
  (focus ((intro w hSw; (try dsimp only at hSw); (try go_split_ands); go_simp); try with_reducible rfl))
  (try simp only [Act.put, List.setIfInBounds_toArray, List.set_cons_zero, List.set_cons_succ])
  refine wpAnyQ_takeN 9 (v := ?_) nth9 (by kernel_rfl) (fun _ _ _ _ _ h => h) (by rfl) hS ?_ ?_
  rotate_left
  (focus ((intro w hSw; (try dsimp only at hSw); (try go_split_ands); go_simp); try with_reducible rfl))
  (try simp only [Act.put, List.setIfInBounds_toArray, List.set_cons_zero, List.set_cons_succ])
  refine wpAnyQ_takeCN 10 nth10 (by kernel_rfl) (fun _ _ _ _ _ h => h) (by rfl) hS ?_ (fun W _ => HN.out W) ?_
  (focus ((intro w hSw; (try dsimp only at hSw); (try go_split_ands); go_simp); try with_reducible rfl))
  (try simp only [Act.put, List.setIfInBounds_toArray, List.set_cons_zero, List.set_cons_succ])
  refine wpAnyQ_takeN 11 (v := ?_) nth11 (by kernel_rfl) (fun _ _ _ _ _ h => h) (by rfl) hS ?_ ?_
  rotate_left
  (focus ((intro w hSw; (try dsimp only at hSw); (try go_split_ands); go_simp); try with_reducible rfl))
  (try simp only [Act.put, List.setIfInBounds_toArray, List.set_cons_zero, List.set_cons_succ])
  refine wpAnyQ_takeN 12 (v := ?_) nth12 (by kernel_rfl) (fun _ _ _ _ _ h => h) (by rfl) hS ?_ ?_
  rotate_left
  (focus ((intro w hSw; (try dsimp only at hSw); (try go_split_ands); go_simp); try with_reducible rfl))
  (try simp only [Act.put, List.setIfInBounds_toArray, List.set_cons_zero, List.set_cons_succ])
  refine wpAnyQ_takeN 13 (v := ?_) nth13 (by kernel_rfl) (fun _ _ _ _ _ h => h) (by rfl) hS ?_ ?_
  rotate_left
  (focus ((intro w hSw; (try dsimp only at hSw); (try go_split_ands); go_simp); try with_reducible rfl))
  (try simp only [Act.put, List.setIfInBounds_toArray, List.set_cons_zero, List.set_cons_succ])
  refine wpAnyQ_takeN 14 (v := ?_) nth14 (by kernel_rfl) (fun _ _ _ _ _ h => h) (by rfl) hS ?_ ?_
  rotate_left
  (focus ((intro w hSw; (try dsimp only at hSw); (try go_split_ands); go_simp); try with_reducible rfl))
  (try simp only [Act.put, List.setIfInBounds_toArray, List.set_cons_zero, List.set_cons_succ])
  refine wpAnyQ_takeN 15 (v := ?_) nth15 (by kernel_rfl) (fun _ _ _ _ _ h => h) (by rfl) hS ?_ ?_
  rotate_left
  (focus ((intro w hSw; (try dsimp only at hSw); (try go_split_ands); go_simp); try with_reducible rfl))
  (try simp only [Act.put, List.setIfInBounds_toArray, List.set_cons_zero, List.set_cons_succ])
  refine wpAnyQ_takeN 16 (v := ?_) nth16 (by kernel_rfl) (fun _ _ _ _ _ h => h) (by rfl) hS ?_ ?_
  rotate_left
  (focus ((intro w hSw; (try dsimp only at hSw); (try go_split_ands); go_simp); try with_reducible rfl))
  (try simp only [Act.put, List.setIfInBounds_toArray, List.set_cons_zero, List.set_cons_succ])
  refine wpAnyQ_takeN 17 (v := ?_) nth17 (by kernel_rfl) (fun _ _ _ _ _ h => h) (by rfl) hS ?_ ?_
  rotate_left
  (focus ((intro w hSw; (try dsimp only at hSw); (try go_split_ands); go_simp); try with_reducible rfl))
  (try simp only [Act.put, List.setIfInBounds_toArray, List.set_cons_zero, List.set_cons_succ])
  refine wpAnyQ_takeN 18 (v := ?_) nth18 (by kernel_rfl) (fun _ _ _ _ _ h => h) (by rfl) hS ?_ ?_
  rotate_left
  (focus ((intro w hSw; (try dsimp only at hSw); (try go_split_ands); go_simp); try with_reducible rfl))
  (try simp only [Act.put, List.setIfInBounds_toArray, List.set_cons_zero, List.set_cons_succ])
  refine wpAnyQ_takeN 19 (v := ?_) nth19 (by kernel_rfl) (fun _ _ _ _ _ h => h) (by rfl) hS ?_ ?_
  rotate_left
  (focus ((intro w hSw; (try dsimp only at hSw); (try go_split_ands); go_simp); try with_reducible rfl))
  (try simp only [Act.put, List.setIfInBounds_toArray, List.set_cons_zero, List.set_cons_succ])
  refine wpAnyQ_end (by kernel_rfl) (NoPanic.normal ?_)
  go_wp2
  go_ret
  exact ⟨rfl, (Upd.refl _ _).drew⟩

theorem state_nil (h : VolB w vb d v g ep sealed most size xb) (hx : Idx0 w xb) (key : Nat) :
    Calls Tryz.prog 81 #[.pointer (some ⟨vb, 0, none⟩), .int .u64 key] w fun e w' => e = .returned .nilIface ∧ Upd (fun _ => False) w w' := by
  obtain ⟨c0, c1, c2, c3, c4, c5, c6, c7⟩ := h.cells
  have HF := Lib.hid (fun W (a : Idx0 W xb) => find_nil key a)
  go_enter Tryz.func81, Tryz.ntmps81
  go_wp2_with (go_at_call 79; refine (HF.out _ hx).mono ?_; unfold posZ; rintro e w1 ⟨rfl, hu⟩)
  go_ret
  exact ⟨rfl, hu.alloc _⟩

set_option maxRecDepth 100000 in
set_option maxHeartbeats 4000000 in
theorem room_nil (h : VolB w vb d v g ep sealed most size xb) (hx : Idx0 w xb) (key n : Nat) (hn : n + size ≤ most) (hm : most ≤ 16777216) :
    Calls Tryz.prog 123 #[.pointer (some ⟨vb, 0, none⟩), .int .u64 key, .int .i64 n] w fun e w' => e = .returned (.bool true) ∧ Upd (fun _ => False) w w' := by
  obtain ⟨c0, c1, c2, c3, c4, c5, c6, c7⟩ := h.cells
  have HF := Lib.hid (fun W (a : Idx0 W xb) => find_nil key a)
  have HL := Lib.hid (fun W (a : Idx0 W xb) => len_nil a)
  go_enter Tryz.func123, Tryz.ntmps123
  go_wp2_with fail
  refine (HF.out _ hx).mono ?_
  unfold posZ
  rintro e w1 ⟨rfl, hu⟩
  have h1 : VolB w1 vb d v g ep sealed most size xb := Blk.upd h hu id
  have hx1 : Idx0 w1 xb := Blk.upd hx hu id
  clear c0 c1 c2 c3 c4 c5 c6 c7
  have h2 : VolB (w1.alloc (.cells #[.int .u64 0, .int .i64 0, .int .i64 0, .int .u32 0, .bool false] 170)) vb d v g ep sealed most size xb := Blk.alloc h1 _
  have hx2 : Idx0 (w1.alloc (.cells #[.int .u64 0, .int .i64 0, .int .i64 0, .int .u32 0, .bool false] 170)) xb := Blk.alloc hx1 _
  have hu2 := hu.alloc (.cells #[.int .u64 0, .int .i64 0, .int .i64 0, .int .u32 0, .bool false] 170)
  obtain ⟨c0, c1, c2, c3, c4, c5, c6, c7⟩ := h2.cells
  go_wp2_with fail
  refine (HL.out _ hx2).mono ?_
  generalize (World.alloc _ _) = w2 at *
  rintro e w3 ⟨rfl, rfl⟩
  go_wp2_with fail
  have hwr : IntKind.i64.wrap ((most : Int) - size) = most - size := IntWalk.i64_in _ (by omega)
  have hle : (n : Int) ≤ most - size := by omega
  have hde : decide ((n : Int) ≤ most - size) = true := decide_eq_true hle
  have hS : w2.drew.cell? ⟨vb, 5, none⟩ = some (.int .i64 most) ∧ w2.drew.cell? ⟨vb, 6, none⟩ = some (.int .i64 size) := ⟨c5, c6⟩
  refine wp_region_noPanic ?_
  refine wp_region_S 22 (fun W => W.cell? ⟨vb, 5, none⟩ = some (.int .i64 most) ∧ W.cell? ⟨vb, 6, none⟩ = some (.int .i64 size)) (by kernel_rfl) rfl false ?_
  refine wpAnyQ_takeN 0 (v := ?_) nth0 (by kernel_rfl) (fun _ _ _ _ _ h => h) (by rfl) hS ?_ ?_
  rotate_left
  (focus ((intro w hSw; (try dsimp only at hSw); (try go_split_ands); go_simp); try with_reducible rfl))
  (try simp only [Act.put, List.setIfInBounds_toArray, List.set_cons_zero, List.set_cons_succ])
  refine wpAnyQ_takeN 1 (v := ?_) nth1 (by kernel_rfl) (fun _ _ _ _ _ h => h) (by rfl) hS ?_ ?_
  rotate_left
  (focus ((intro w hSw; (try dsimp only at hSw); (try go_split_ands); go_simp); try with_reducible rfl))
  (try simp only [Act.put, List.setIfInBounds_toArray, List.set_cons_zero, List.set_cons_succ])
  refine wpAnyQ_takeN 2 (v := ?_) nth2 (by kernel_rfl) (fun _ _ _ _ _ h => h) (by rfl) hS ?_ ?_
  rotate_left
  (focus ((intro w hSw; (try dsimp only at hSw); (try go_split_ands); go_simp); try with_reducible rfl))
  (try simp only [Act.put, List.setIfInBounds_toArray, List.set_cons_zero, List.set_cons_succ])
  refine wpAnyQ_takeN 3 (v := ?_) nth3 (by kernel_rfl) (fun _ _ _ _ _ h => h) (by rfl) hS ?_ ?_
  rotate_left
  (focus ((intro w hSw; (try dsimp only at hSw); (try go_split_ands); go_simp); try with_reducible rfl))
  (try simp only [Act.put, List.setIfInBounds_toArray, List.set_cons_zero, List.set_cons_succ])
  refine wpAnyQ_takeN 4 (v := ?_) nth4 (by kernel_rfl) (fun _ _ _ _ _ h => h) (by rfl) hS ?_ ?_
  rotate_left
  (focus ((intro w hSw; (try dsimp only at hSw); (try go_split_ands); go_simp); try with_reducible rfl))
  (try simp only [Act.put, List.setIfInBounds_toArray, List.set_cons_zero, List.set_cons_succ])
  refine wpAnyQ_takeN 5 (v := ?_) nth5 (by kernel_rfl) (fun _ _ _ _ _ h => h) (by rfl) hS ?_ ?_
  rotate_left
  (focus ((intro w hSw; (try dsimp only at hSw); (try go_split_ands); go_simp); try with_reducible rfl))
  (try simp only [Act.put, List.setIfInBounds_toArray, List.set_cons_zero, List.set_cons_succ])
  refine wpAnyQ_takeN 6 (v := ?_) nth6 (by kernel_rfl) (fun _ _ _ _ _ h => h) (by rfl) hS ?_ ?_
  rotate_left
  (focus ((intro w hSw; (try dsimp only at hSw); (try go_split_ands); go_simp); try with_reducible rfl))
  (try simp only [Act.put, List.setIfInBounds_toArray, List.set_cons_zero, List.set_cons_succ])
  refine wpAnyQ_takeN 7 (v := ?_) nth7 (by kernel_rfl) (fun _ _ _ _ _ h => h) (by rfl) hS ?_ ?_
  rotate_left
  (focus ((intro w hSw; (try dsimp only at hSw); (try go_split_ands); go_simp); try with_reducible rfl))
  (try simp only [Act.put, List.setIfInBounds_toArray, List.set_cons_zero, List.set_cons_succ])
  refine wpAnyQ_takeN 8 (v := ?_) nth8 (by kernel_rfl) (fun _ _ _ _ _ h => h) (by rfl) hS ?_ ?_
  rotate_left
  (focus ((intro w hSw; (try dsimp only at hSw); (try go_split_ands); go_simp); try with_reducible rfl))
  (try simp only [Act.put, List.setIfInBounds_toArray, List.set_cons_zero, List.set_cons_succ])
  refine wpAnyQ_takeN 9 (v := ?_) nth9 (by kernel_rfl) (fun _ _ _ _ _ h => h) (by rfl) hS ?_ ?_
  rotate_left
  (focus ((intro w hSw; (try dsimp only at hSw); (try go_split_ands); go_simp); try with_reducible rfl))
  (try simp only [Act.put, List.setIfInBounds_toArray, List.set_cons_zero, List.set_cons_succ])
  refine wpAnyQ_takeN 10 (v := ?_) nth10 (by kernel_rfl) (fun _ _ _ _ _ h => h) (by rfl) hS ?_ ?_
  rotate_left
  (focus ((intro w hSw; (try dsimp only at hSw); (try go_split_ands); go_simp); try with_reducible rfl))
  (try simp only [Act.put, List.setIfInBounds_toArray, List.set_cons_zero, List.set_cons_succ])
  refine wpAnyQ_takeN 11 (v := ?_) nth11 (by kernel_rfl) (fun _ _ _ _ _ h => h) (by rfl) hS ?_ ?_
  rotate_left
  (focus ((intro w hSw; (try dsimp only at hSw); (try go_split_ands); go_simp); try with_reducible rfl))
  (try simp only [Act.put, List.setIfInBounds_toArray, List.set_cons_zero, List.set_cons_succ])
  refine wpAnyQ_takeN 12 (v := ?_) nth12 (by kernel_rfl) (fun _ _ _ _ _ h => h) (by rfl) hS ?_ ?_
  rotate_left
  (focus ((intro w hSw; (try dsimp only at hSw); (try go_split_ands); go_simp); try with_reducible rfl))
  (try simp only [Act.put, List.setIfInBounds_toArray, List.set_cons_zero, List.set_cons_succ])
  refine wpAnyQ_takeN 13 (v := ?_) nth13 (by kernel_rfl) (fun _ _ _ _ _ h => h) (by rfl) hS ?_ ?_
  rotate_left
  (focus ((intro w hSw; (try dsimp only at hSw); (try go_split_ands); go_simp); try with_reducible rfl))
  (try simp only [Act.put, List.setIfInBounds_toArray, List.set_cons_zero, List.set_cons_succ])
  refine wpAnyQ_takeN 14 (v := ?_) nth14 (by kernel_rfl) (fun _ _ _ _ _ h => h) (by rfl) hS ?_ ?_
  rotate_left
  (focus ((intro w hSw; (try dsimp only at hSw); (try go_split_ands); go_simp); try with_reducible rfl))
  (try simp only [Act.put, List.setIfInBounds_toArray, List.set_cons_zero, List.set_cons_succ])
  refine wpAnyQ_takeN 15 (v := ?_) nth15 (by kernel_rfl) (fun _ _ _ _ _ h => h) (by rfl) hS ?_ ?_
  rotate_left
  (focus ((intro w hSw; (try dsimp only at hSw); (try go_split_ands); go_simp); try with_reducible rfl))
  (try simp only [Act.put, List.setIfInBounds_toArray, List.set_cons_zero, List.set_cons_succ])
  refine wpAnyQ_takeN 16 (v := ?_) nth16 (by kernel_rfl) (fun _ _ _ _ _ h => h) (by rfl) hS ?_ ?_
  rotate_left
  (focus ((intro w hSw; (try dsimp only at hSw); (try go_split_ands); go_simp); try with_reducible rfl))
  (try simp only [Act.put, List.setIfInBounds_toArray, List.set_cons_zero, List.set_cons_succ])
  refine wpAnyQ_takeN 17 (v := ?_) nth17 (by kernel_rfl) (fun _ _ _ _ _ h => h) (by rfl) hS ?_ ?_
  rotate_left
  (focus ((intro w hSw; (try dsimp only at hSw); (try go_split_ands); go_simp); try with_reducible rfl))
  (try simp only [Act.put, List.setIfInBounds_toArray, List.set_cons_zero, List.set_cons_succ])
  refine wpAnyQ_takeN 18 (v := ?_) nth18 (by kernel_rfl) (fun _ _ _ _ _ h => h) (by rfl) hS ?_ ?_
  rotate_left
  (focus ((intro w hSw; (try dsimp only at hSw); (try go_split_ands); go_simp); try with_reducible rfl))
  (try simp only [Act.put, List.setIfInBounds_toArray, List.set_cons_zero, List.set_cons_succ])
  refine wpAnyQ_takeN 19 (v := ?_) nth19 (by kernel_rfl) (fun _ _ _ _ _ h => h) (by rfl) hS ?_ ?_
  rotate_left
  (focus ((intro w hSw; (try dsimp only at hSw); (try go_split_ands); go_simp); try with_reducible rfl))
  (try simp only [Act.put, List.setIfInBounds_toArray, List.set_cons_zero, List.set_cons_succ])
  refine wpAnyQ_takeN 20 (v := ?_) nth20 (by kernel_rfl) (fun _ _ _ _ _ h => h) (by rfl) hS ?_ ?_
  rotate_left
  (focus ((intro w hSw; (try dsimp only at hSw); (try go_split_ands); go_simp); try with_reducible rfl))
  (try simp only [Act.put, List.setIfInBounds_toArray, List.set_cons_zero, List.set_cons_succ])
  refine wpAnyQ_takeN 21 (v := ?_) nth21 (by kernel_rfl) (fun _ _ _ _ _ h => h) (by rfl) hS ?_ ?_
  rotate_left
  (focus ((intro w hSw; (try dsimp only at hSw); (try go_split_ands); go_simp); try with_reducible rfl))
  (try simp only [Act.put, List.setIfInBounds_toArray, List.set_cons_zero, List.set_cons_succ])
  refine wpAnyQ_end (by kernel_rfl) (NoPanic.normal ?_)
  go_wp2
  go_ret
  exact ⟨rfl, hu2.drew⟩

theorem found_any {key cookie n c off : Nat} {A : Option Addr} (gone : Bool) (w : World) :
    Calls Tryz.prog 85 #[.agg #[.int .i64 off, .int .i64 0, .int .u64 key, .int .u32 cookie, .bool gone, .slice A n c]] w fun e w' => e = .returned (.agg (posC key off n cookie gone).toArray) ∧ Upd (fun _ => False) w w' := by
  go_enter Tryz.func85, Tryz.ntmps85
  go_wp2
  refine bodyPost_ret (v := .agg (posC key off n cookie gone).toArray) (by simp [results, Tryz.results85, go_sem, posC]) rfl ⟨rfl, ((Upd.refl _ _).alloc _).alloc _⟩
end
end Go.Proofs.YtlbmoafdialigaaGreatDoor
