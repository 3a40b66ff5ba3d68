/- vol.write of the first needle without room on the disk; vol.Put of the first needle; vol.Info. -/
import Derived.Test.YtlbmoafdialigaaGreatDoorVol2
import Derived.Test.YtlbmoafdialigaaGreatDoorStore
namespace Go.Proofs.YtlbmoafdialigaaGreatDoor
open Go Go.RowKit Go.MapKept

set_option maxRecDepth 100000 in
set_option maxHeartbeats 8000000 in
theorem write_full {w : World} {vb d v most xb mn ml clk i f1 c1 key cookie n c : Nat} {cap nx num lst : Int} {dv : Value} {A1 A : Option Addr} {lx l : List UInt8} {es : Array MapEntry} {fl : Value → Nat}
    (h : VolB w vb d v 1 0 false most 16 xb) (hx : Idx0 w xb) (hv : v < 100) (hmost : most ≤ 16777216)
    (hd : DiskB w d cap nx mn ml dv (-1)) (hm : MBlk w mn es clk) (hok : MOk .string es clk) (hfl : Files w fl es) (htot : totN fl es.toList ≤ 1073741824) (hc0 : 0 ≤ cap) (hc1 : cap ≤ 1073741824)
    (hf : Instr.findNow .string (.string (nmData v 1)) es.toList 0 = some (some (i, .pointer (some ⟨f1, 0, none⟩))))
    (hfb : FileB w f1 num A1 16 c1 lst) (hb : Bytes w A1 16 c1 lx)
    (hkey : key < 18446744073709551616) (hck : cookie < 4294967296) (hn : n ≤ 4096) (hs : Sees w A n l) (hA : A = none → c = 0)
    (hroom : cap - totN fl es.toList < ((32 + n + padN (32 + n) : Nat) : Int)) (hfit : 32 + n + padN (32 + n) + 16 ≤ most) :
    Calls Tryz.prog 80 #[.pointer (some ⟨vb, 0, none⟩), .agg #[.int .u64 key, .int .u32 cookie, .bool false, .slice A n c]] w fun e w' => e = .returned (.iface 72 (.int .i64 11)) ∧ Upd (fun _ => False) w w' := by
  have hpl : padN (32 + n) ≤ 8 := by unfold padN; omega
  have HP := Lib.hid (fun (W : World) (a : Sees W A n l) => put_any (c := c) false hkey hck hn (fun h => by cases h) a hA)
  have HR := Lib.hid (fun (W : World) (a : VolB W vb d v 1 0 false most 16 xb) (b : Idx0 W xb) (m : Nat) (hm : m + 16 ≤ most) => room_nil a b key m hm hmost)
  have HF := Lib.hid (fun (W : World) (s : Nat) (a : VolB W vb d v 1 0 false most s xb) => file_ok a hv (by decide))
  generalize hmv : 32 + n + padN (32 + n) = m at *
  go_enter Tryz.func80, Tryz.ntmps80
  go_wp2_with fail
  generalize hw0 : World.alloc _ _ = w0
  have hu0 : Upd (fun _ => False) w w0 := hw0 ▸ (Upd.refl _ w).alloc _
  have b0 : Blk w0 w.heap.size 32 #[.int .u64 key, .int .u32 cookie, .bool false, .slice A n c] := hw0 ▸ Blk.new w _ _
  clear hw0
  refine (HP.out _ (hs.upd hu0 (fun _ _ h => h))).mono ?_
  rintro e w1 ⟨B, cb, rfl, hb1, hu1⟩
  have hu01 := hu0.then hu1 (fun _ _ h => h)
  have b1 := b0.upd hu1 id
  have k0 := b1.cell 0
  go_wp2_with fail
  refine (HR.out _ (Blk.upd h hu01 id) (Blk.upd hx hu01 id) m hfit).mono ?_
  rintro e w2 ⟨rfl, hu2⟩
  have hu02 := hu01.then hu2 (fun _ _ h => h)
  have b2 := b1.upd hu2 id
  have hb2 := hb1.upd hu2 (fun _ _ h => h)
  have h2 : VolB w2 vb d v 1 0 false most 16 xb := Blk.upd h hu02 id
  clear HP HR k0
  go_wp2_with fail
  have e0 : w2.drew.cell? ⟨vb, 0, none⟩ = some (.pointer (some ⟨d, 0, none⟩)) := h2.cells.1
  refine wp_region_noPanic ?_
  refine wp_region_S 9 (fun W => W.cell? ⟨vb, 0, none⟩ = some (.pointer (some ⟨d, 0, none⟩))) (by kernel_rfl) rfl true ?_
  refine wpAnyQ_takeN 0 (v := ?_) nth0 (by kernel_rfl) (fun _ _ _ _ _ h => h) (by rfl) e0 ?_ ?_
  rotate_left
  (focus ((intro w hSw; (try dsimp only at hSw); (try go_split_ands); go_simp); try with_reducible rfl))
  (try simp only [Act.put, List.setIfInBounds_toArray, List.set_cons_zero, List.set_cons_succ])
  refine wpAnyQ_takeN 1 (v := ?_) nth1 (by kernel_rfl) (fun _ _ _ _ _ h => h) (by rfl) e0 ?_ ?_
  rotate_left
  (focus ((intro w hSw; (try dsimp only at hSw); (try go_split_ands); go_simp); try with_reducible rfl))
  (try simp only [Act.put, List.setIfInBounds_toArray, List.set_cons_zero, List.set_cons_succ])
  refine wpAnyQ_takeN 2 (v := ?_) nth2 (by kernel_rfl) (fun _ _ _ _ _ h => h) (by rfl) e0 ?_ ?_
  rotate_left
  (focus ((intro w hSw; (try dsimp only at hSw); (try go_split_ands); go_simp); try with_reducible rfl))
  (try simp only [Act.put, List.setIfInBounds_toArray, List.set_cons_zero, List.set_cons_succ])
  refine wpAnyQ_takeN 3 (v := ?_) nth3 (by kernel_rfl) (fun _ _ _ _ _ h => h) (by rfl) e0 ?_ ?_
  rotate_left
  (focus ((intro w hSw; (try dsimp only at hSw); (try go_split_ands); go_simp); try with_reducible rfl))
  (try simp only [Act.put, List.setIfInBounds_toArray, List.set_cons_zero, List.set_cons_succ])
  refine wpAnyQ_takeN 4 (v := ?_) nth4 (by kernel_rfl) (fun _ _ _ _ _ h => h) (by rfl) e0 ?_ ?_
  rotate_left
  (focus ((intro w hSw; (try dsimp only at hSw); (try go_split_ands); go_simp); try with_reducible rfl))
  (try simp only [Act.put, List.setIfInBounds_toArray, List.set_cons_zero, List.set_cons_succ])
  refine wpAnyQ_takeN 6 (v := ?_) nth6 (by kernel_rfl) (fun _ _ _ _ _ h => h) (by rfl) e0 ?_ ?_
  rotate_left
  (focus ((intro w hSw; (try dsimp only at hSw); (try go_split_ands); go_simp); try with_reducible rfl))
  (try simp only [Act.put, List.setIfInBounds_toArray, List.set_cons_zero, List.set_cons_succ])
  refine wpAnyQ_doN 5 nth5 (by kernel_rfl) ?_
  go_wp2_with (go_at_call 86; go_must (refine (HF.out w2.drew 16 h2).mono ?_; rintro e w3 ⟨rfl, hu3⟩))
  have hu23 : Upd (fun _ => False) w2 w3 := ((Upd.refl (fun _ => False) w2).drew).then hu3 (fun _ _ h => h)
  have hu03 := hu02.then hu23 (fun _ _ h => h)
  have h3 : VolB w3 vb d v 1 0 false most 16 xb := Blk.upd h hu03 id
  have hx3 : Idx0 w3 xb := Blk.upd hx hu03 id
  have hd3 := hd.upd hu03 id
  have hm3 := hm.upd hu03 id
  have hfl3 := hfl.upd hu03 (fun _ _ _ h => h)
  have hfb3 := hfb.upd hu03 id
  have hbx3 := hb.upd hu03 (fun _ _ h => h)
  have hbb3 := hb2.upd hu23 (fun _ _ h => h)
  have b3 := b2.upd hu23 id
  have HA := Lib.hid (append_full (m := m) (c := c1) (cb := cb) (B := B) (nmData v 1) hd3 (by decide) hm3 hok hfl3 htot hc0 hc1 hf hfb3 (by omega) (by omega) hroom)
  refine doK_next h3.cells.1 ?_
  refine wpAnyQ_doN 7 nth7 (by kernel_rfl) ?_
  go_wp2_with (go_at_call 101; go_must (refine (HA.out).mono ?_; rintro e w4 ⟨rfl, hu4⟩))
  have h4 : VolB w4 vb d v 1 0 false most 16 xb := Blk.upd h3 hu4 id
  refine doK_next h4.cells.1 ?_
  refine wpAnyQ_doN 8 nth8 (by kernel_rfl) ?_
  go_wp2
  refine doK_last (by kernel_rfl) (by kernel_rfl) (NoPanic.normal ?_)
  clear HA e0
  go_wp2
  go_ret
  exact ⟨rfl, hu03.then hu4 (fun _ _ h => h)⟩

set_option maxRecDepth 100000 in
set_option maxHeartbeats 4000000 in
/-- vol.Put of the first needle is what vol.write of it is. -/
theorem vput_of {w : World} {vb d v most xb key cookie n c : Nat} {A : Option Addr} {R : Ending → World → Prop}
    (h : VolB w vb d v 1 0 false most 16 xb) (hx : Idx0 w xb) (hn : n ≤ 4096)
    (hw : ∀ W, Upd (fun _ => False) w W → Calls Tryz.prog 80 #[.pointer (some ⟨vb, 0, none⟩), .agg #[.int .u64 key, .int .u32 cookie, .bool false, .slice A n c]] W fun e w' => (∃ r, e = .returned r) ∧ R e w') :
    Calls Tryz.prog 49 #[.pointer (some ⟨vb, 0, none⟩), .agg #[.int .u64 key, .int .u32 cookie, .bool false, .slice A n c]] w R := by
  have HC := Lib.hid (fun W => check_ok (key := key) (cookie := cookie) (c := c) (A := A) false hn (fun h => by cases h) W)
  have HS := Lib.hid (fun (W : World) (hu : Upd (fun _ => False) w W) => state_nil (Blk.upd h hu id : VolB W vb d v 1 0 false most 16 xb) (Blk.upd hx hu id : Idx0 W xb) key)
  have HW := Lib.hid hw
  clear hw
  go_enter Tryz.func49, Tryz.ntmps49
  go_wp2_with fail
  generalize hw0 : World.alloc _ _ = w0
  have hu0 : Upd (fun _ => False) w w0 := hw0 ▸ (Upd.refl _ w).alloc _
  have b0 : Blk w0 w.heap.size 32 #[.int .u64 key, .int .u32 cookie, .bool false, .slice A n c] := hw0 ▸ Blk.new w _ _
  clear hw0
  refine (HC.out w0).mono ?_
  rintro e w1 ⟨rfl, hu1⟩
  have hu01 := hu0.then hu1 (fun _ _ h => h)
  have b1 := b0.upd hu1 id
  have k0 := b1.cell 0
  have k4 := Blk.cell (Blk.upd h hu01 id : VolB w1 vb d v 1 0 false most 16 xb) 4
  go_wp2_with fail
  refine (HS.out w1 hu01).mono ?_
  rintro e w2 ⟨rfl, hu2⟩
  have hu02 := hu01.then hu2 (fun _ _ h => h)
  have b2 := b1.upd hu2 id
  clear k0 k4
  have k0 := b2.cell 0
  have k1 := b2.cell 1
  have k2 := b2.cell 2
  have k3 := b2.cell 3
  go_wp2_with fail
  refine (HW.out w2 hu02).mono ?_
  rintro e w3 ⟨⟨r, rfl⟩, hR⟩
  go_wp2
  exact hR

def infoV (v g ep size live gone : Nat) (sealed : Bool) : Value := .agg #[.int .i64 v, .int .i64 g, .int .i64 ep, .int .i64 size, .int .i64 live, .int .i64 gone, .bool sealed]
theorem info_none (w : World) : Calls Tryz.prog 19 #[.pointer none] w fun e w' => e = .returned (infoV 0 0 0 0 0 0 false) ∧ Upd (fun _ => False) w w' := by
  go_enter Tryz.func19, Tryz.ntmps19
  go_wp2
  refine bodyPost_ret (v := infoV 0 0 0 0 0 0 false) (by simp [results, Tryz.results19, go_sem, infoV]) rfl ⟨rfl, (Upd.refl _ _).alloc _⟩

set_option maxRecDepth 100000 in
set_option maxHeartbeats 4000000 in
theorem info_of {w : World} {vb d v g ep most size xb live gone : Nat} {sealed : Bool} (h : VolB w vb d v g ep sealed most size xb)
    (hl : ∀ W, Upd (fun _ => False) w W → Calls Tryz.prog 43 #[.pointer (some ⟨xb, 0, none⟩)] W fun e w' => e = .returned (.tuple #[.int .i64 live, .int .i64 gone]) ∧ Upd (fun _ => False) W w') :
    Calls Tryz.prog 19 #[.pointer (some ⟨vb, 0, none⟩)] w fun e w' => e = .returned (infoV v g ep size live gone sealed) ∧ Upd (fun _ => False) w w' := by
  have HL := Lib.hid hl
  clear hl
  go_enter Tryz.func19, Tryz.ntmps19
  have h0 : VolB (w.alloc (.cells #[.int .i64 0, .int .i64 0, .int .i64 0, .int .i64 0, .int .i64 0, .int .i64 0, .bool false] 60)) vb d v g ep sealed most size xb := Blk.alloc h _
  have k7 := Blk.cell h0 7
  go_wp2_with fail
  have hu0 : Upd (fun _ => False) w (w.alloc (.cells #[.int .i64 0, .int .i64 0, .int .i64 0, .int .i64 0, .int .i64 0, .int .i64 0, .bool false] 60)) := (Upd.refl _ w).alloc _
  have b0 : Blk (w.alloc (.cells #[.int .i64 0, .int .i64 0, .int .i64 0, .int .i64 0, .int .i64 0, .int .i64 0, .bool false] 60)) w.heap.size 60 #[.int .i64 0, .int .i64 0, .int .i64 0, .int .i64 0, .int .i64 0, .int .i64 0, .bool false] := Blk.new w _ _
  refine (HL.out _ hu0).mono ?_
  generalize (World.alloc w _) = w0 at *
  rintro e w1 ⟨rfl, hu1⟩
  have h1 : VolB w1 vb d v g ep sealed most size xb := Blk.upd h0 hu1 id
  have b1 := b0.upd hu1 id
  clear k7
  obtain ⟨c0, c1, c2, c3, c4, c5, c6, c7⟩ := h1.cells
  go_wp2_with fail
  have hS : w1.drew.cell? ⟨vb, 1, none⟩ = some (.int .i64 v) ∧ w1.drew.cell? ⟨vb, 2, none⟩ = some (.int .i64 g) ∧ w1.drew.cell? ⟨vb, 3, none⟩ = some (.int .i64 ep) ∧ w1.drew.cell? ⟨vb, 4, none⟩ = some (.bool sealed) ∧ w1.drew.cell? ⟨vb, 6, none⟩ = some (.int .i64 size) := ⟨c1, c2, c3, c4, c6⟩
  refine wp_region_noPanic ?_
  refine wp_region_S 28 (fun W => W.cell? ⟨vb, 1, none⟩ = some (.int .i64 v) ∧ W.cell? ⟨vb, 2, none⟩ = some (.int .i64 g) ∧ W.cell? ⟨vb, 3, none⟩ = some (.int .i64 ep) ∧ W.cell? ⟨vb, 4, none⟩ = some (.bool sealed) ∧ W.cell? ⟨vb, 6, none⟩ = some (.int .i64 size)) (by kernel_rfl) rfl true ?_
  refine wpAnyQ_takeN 0 (v := ?_) nth0 (by kernel_rfl) (fun _ _ _ _ _ h => h) (by rfl) hS ?_ ?_
  rotate_left
  (focus ((intro w hSw; (try dsimp only at hSw); (try go_split_ands); go_simp); try with_reducible rfl))
  (try simp only [Act.put, List.setIfInBounds_toArray, List.set_cons_zero, List.set_cons_succ])
  refine wpAnyQ_takeN 1 (v := ?_) nth1 (by kernel_rfl) (fun _ _ _ _ _ h => h) (by rfl) hS ?_ ?_
  rotate_left
  (focus ((intro w hSw; (try dsimp only at hSw); (try go_split_ands); go_simp); try with_reducible rfl))
  (try simp only [Act.put, List.setIfInBounds_toArray, List.set_cons_zero, List.set_cons_succ])
  refine wpAnyQ_takeN 2 (v := ?_) nth2 (by kernel_rfl) (fun _ _ _ _ _ h => h) (by rfl) hS ?_ ?_
  rotate_left
  (focus ((intro w hSw; (try dsimp only at hSw); (try go_split_ands); go_simp); try with_reducible rfl))
  (try simp only [Act.put, List.setIfInBounds_toArray, List.set_cons_zero, List.set_cons_succ])
  refine wpAnyQ_takeN 3 (v := ?_) nth3 (by kernel_rfl) (fun _ _ _ _ _ h => h) (by rfl) hS ?_ ?_
  rotate_left
  (focus ((intro w hSw; (try dsimp only at hSw); (try go_split_ands); go_simp); try with_reducible rfl))
  (try simp only [Act.put, List.setIfInBounds_toArray, List.set_cons_zero, List.set_cons_succ])
  refine wpAnyQ_takeN 4 (v := ?_) nth4 (by kernel_rfl) (fun _ _ _ _ _ h => h) (by rfl) hS ?_ ?_
  rotate_left
  (focus ((intro w hSw; (try dsimp only at hSw); (try go_split_ands); go_simp); try with_reducible rfl))
  (try simp only [Act.put, List.setIfInBounds_toArray, List.set_cons_zero, List.set_cons_succ])
  refine wpAnyQ_takeN 5 (v := ?_) nth5 (by kernel_rfl) (fun _ _ _ _ _ h => h) (by rfl) hS ?_ ?_
  rotate_left
  (focus ((intro w hSw; (try dsimp only at hSw); (try go_split_ands); go_simp); try with_reducible rfl))
  (try simp only [Act.put, List.setIfInBounds_toArray, List.set_cons_zero, List.set_cons_succ])
  refine wpAnyQ_takeN 6 (v := ?_) nth6 (by kernel_rfl) (fun _ _ _ _ _ h => h) (by rfl) hS ?_ ?_
  rotate_left
  (focus ((intro w hSw; (try dsimp only at hSw); (try go_split_ands); go_simp); try with_reducible rfl))
  (try simp only [Act.put, List.setIfInBounds_toArray, List.set_cons_zero, List.set_cons_succ])
  refine wpAnyQ_takeN 7 (v := ?_) nth7 (by kernel_rfl) (fun _ _ _ _ _ h => h) (by rfl) hS ?_ ?_
  rotate_left
  (focus ((intro w hSw; (try dsimp only at hSw); (try go_split_ands); go_simp); try with_reducible rfl))
  (try simp only [Act.put, List.setIfInBounds_toArray, List.set_cons_zero, List.set_cons_succ])
  refine wpAnyQ_takeN 8 (v := ?_) nth8 (by kernel_rfl) (fun _ _ _ _ _ h => h) (by rfl) hS ?_ ?_
  rotate_left
  (focus ((intro w hSw; (try dsimp only at hSw); (try go_split_ands); go_simp); try with_reducible rfl))
  (try simp only [Act.put, List.setIfInBounds_toArray, List.set_cons_zero, List.set_cons_succ])
  refine wpAnyQ_takeN 9 (v := ?_) nth9 (by kernel_rfl) (fun _ _ _ _ _ h => h) (by rfl) hS ?_ ?_
  rotate_left
  (focus ((intro w hSw; (try dsimp only at hSw); (try go_split_ands); go_simp); try with_reducible rfl))
  (try simp only [Act.put, List.setIfInBounds_toArray, List.set_cons_zero, List.set_cons_succ])
  refine wpAnyQ_takeN 10 (v := ?_) nth10 (by kernel_rfl) (fun _ _ _ _ _ h => h) (by rfl) hS ?_ ?_
  rotate_left
  (focus ((intro w hSw; (try dsimp only at hSw); (try go_split_ands); go_simp); try with_reducible rfl))
  (try simp only [Act.put, List.setIfInBounds_toArray, List.set_cons_zero, List.set_cons_succ])
  refine wpAnyQ_takeN 11 (v := ?_) nth11 (by kernel_rfl) (fun _ _ _ _ _ h => h) (by rfl) hS ?_ ?_
  rotate_left
  (focus ((intro w hSw; (try dsimp only at hSw); (try go_split_ands); go_simp); try with_reducible rfl))
  (try simp only [Act.put, List.setIfInBounds_toArray, List.set_cons_zero, List.set_cons_succ])
  refine wpAnyQ_takeN 12 (v := ?_) nth12 (by kernel_rfl) (fun _ _ _ _ _ h => h) (by rfl) hS ?_ ?_
  rotate_left
  (focus ((intro w hSw; (try dsimp only at hSw); (try go_split_ands); go_simp); try with_reducible rfl))
  (try simp only [Act.put, List.setIfInBounds_toArray, List.set_cons_zero, List.set_cons_succ])
  refine wpAnyQ_takeN 13 (v := ?_) nth13 (by kernel_rfl) (fun _ _ _ _ _ h => h) (by rfl) hS ?_ ?_
  rotate_left
  (focus ((intro w hSw; (try dsimp only at hSw); (try go_split_ands); go_simp); try with_reducible rfl))
  (try simp only [Act.put, List.setIfInBounds_toArray, List.set_cons_zero, List.set_cons_succ])
  refine wpAnyQ_takeN 14 (v := ?_) nth14 (by kernel_rfl) (fun _ _ _ _ _ h => h) (by rfl) hS ?_ ?_
  rotate_left
  (focus ((intro w hSw; (try dsimp only at hSw); (try go_split_ands); go_simp); try with_reducible rfl))
  (try simp only [Act.put, List.setIfInBounds_toArray, List.set_cons_zero, List.set_cons_succ])
  refine wpAnyQ_takeN 15 (v := ?_) nth15 (by kernel_rfl) (fun _ _ _ _ _ h => h) (by rfl) hS ?_ ?_
  rotate_left
  (focus ((intro w hSw; (try dsimp only at hSw); (try go_split_ands); go_simp); try with_reducible rfl))
  (try simp only [Act.put, List.setIfInBounds_toArray, List.set_cons_zero, List.set_cons_succ])
  refine wpAnyQ_takeN 16 (v := ?_) nth16 (by kernel_rfl) (fun _ _ _ _ _ h => h) (by rfl) hS ?_ ?_
  rotate_left
  (focus ((intro w hSw; (try dsimp only at hSw); (try go_split_ands); go_simp); try with_reducible rfl))
  (try simp only [Act.put, List.setIfInBounds_toArray, List.set_cons_zero, List.set_cons_succ])
  refine wpAnyQ_takeN 17 (v := ?_) nth17 (by kernel_rfl) (fun _ _ _ _ _ h => h) (by rfl) hS ?_ ?_
  rotate_left
  (focus ((intro w hSw; (try dsimp only at hSw); (try go_split_ands); go_simp); try with_reducible rfl))
  (try simp only [Act.put, List.setIfInBounds_toArray, List.set_cons_zero, List.set_cons_succ])
  refine wpAnyQ_takeN 18 (v := ?_) nth18 (by kernel_rfl) (fun _ _ _ _ _ h => h) (by rfl) hS ?_ ?_
  rotate_left
  (focus ((intro w hSw; (try dsimp only at hSw); (try go_split_ands); go_simp); try with_reducible rfl))
  (try simp only [Act.put, List.setIfInBounds_toArray, List.set_cons_zero, List.set_cons_succ])
  refine wpAnyQ_takeN 19 (v := ?_) nth19 (by kernel_rfl) (fun _ _ _ _ _ h => h) (by rfl) hS ?_ ?_
  rotate_left
  (focus ((intro w hSw; (try dsimp only at hSw); (try go_split_ands); go_simp); try with_reducible rfl))
  (try simp only [Act.put, List.setIfInBounds_toArray, List.set_cons_zero, List.set_cons_succ])
  refine wpAnyQ_takeN 20 (v := ?_) nth20 (by kernel_rfl) (fun _ _ _ _ _ h => h) (by rfl) hS ?_ ?_
  rotate_left
  (focus ((intro w hSw; (try dsimp only at hSw); (try go_split_ands); go_simp); try with_reducible rfl))
  (try simp only [Act.put, List.setIfInBounds_toArray, List.set_cons_zero, List.set_cons_succ])
  refine wpAnyQ_takeN 21 (v := ?_) nth21 (by kernel_rfl) (fun _ _ _ _ _ h => h) (by rfl) hS ?_ ?_
  rotate_left
  (focus ((intro w hSw; (try dsimp only at hSw); (try go_split_ands); go_simp); try with_reducible rfl))
  (try simp only [Act.put, List.setIfInBounds_toArray, List.set_cons_zero, List.set_cons_succ])
  refine wpAnyQ_takeN 22 (v := ?_) nth22 (by kernel_rfl) (fun _ _ _ _ _ h => h) (by rfl) hS ?_ ?_
  rotate_left
  (focus ((intro w hSw; (try dsimp only at hSw); (try go_split_ands); go_simp); try with_reducible rfl))
  (try simp only [Act.put, List.setIfInBounds_toArray, List.set_cons_zero, List.set_cons_succ])
  refine wpAnyQ_takeN 23 (v := ?_) nth23 (by kernel_rfl) (fun _ _ _ _ _ h => h) (by rfl) hS ?_ ?_
  rotate_left
  (focus ((intro w hSw; (try dsimp only at hSw); (try go_split_ands); go_simp); try with_reducible rfl))
  (try simp only [Act.put, List.setIfInBounds_toArray, List.set_cons_zero, List.set_cons_succ])
  refine wpAnyQ_takeN 24 (v := ?_) nth24 (by kernel_rfl) (fun _ _ _ _ _ h => h) (by rfl) hS ?_ ?_
  rotate_left
  (focus ((intro w hSw; (try dsimp only at hSw); (try go_split_ands); go_simp); try with_reducible rfl))
  (try simp only [Act.put, List.setIfInBounds_toArray, List.set_cons_zero, List.set_cons_succ])
  refine wpAnyQ_takeN 25 (v := ?_) nth25 (by kernel_rfl) (fun _ _ _ _ _ h => h) (by rfl) hS ?_ ?_
  rotate_left
  (focus ((intro w hSw; (try dsimp only at hSw); (try go_split_ands); go_simp); try with_reducible rfl))
  (try simp only [Act.put, List.setIfInBounds_toArray, List.set_cons_zero, List.set_cons_succ])
  refine wpAnyQ_takeN 26 (v := ?_) nth26 (by kernel_rfl) (fun _ _ _ _ _ h => h) (by rfl) hS ?_ ?_
  rotate_left
  (focus ((intro w hSw; (try dsimp only at hSw); (try go_split_ands); go_simp); try with_reducible rfl))
  (try simp only [Act.put, List.setIfInBounds_toArray, List.set_cons_zero, List.set_cons_succ])
  refine wpAnyQ_doN 27 nth27 (by kernel_rfl) ?_
  refine wpList_store_blk rfl _ _ _ rfl w.heap.size 60 _ #[.int .i64 v, .int .i64 g, .int .i64 ep, .int .i64 size, .int .i64 live, .int .i64 gone, .bool sealed] rfl rfl (b1.drew) rfl (by kernel_rfl) (by simp [Value.oneCell']) ?_
  intro w2 b2 hu2
  go_wp2
  refine doK_last (by kernel_rfl) (by kernel_rfl) (NoPanic.normal ?_)
  go_wp2
  have q0 := b2.cell 0
  have q1 := b2.cell 1
  have q2 := b2.cell 2
  have q3 := b2.cell 3
  have q4 := b2.cell 4
  have q5 := b2.cell 5
  have q6 := b2.cell 6
  refine bodyPost_ret (v := infoV v g ep size live gone sealed) (by simp [results, Tryz.results19, go_sem, infoV, q0, q1, q2, q3, q4, q5, q6]) rfl ⟨rfl, ?_⟩
  refine ((hu0.then hu1 (fun _ _ h => h)).drew).then hu2 (fun i hi e => ?_)
  have e : i = w.heap.size := e
  omega
end Go.Proofs.YtlbmoafdialigaaGreatDoor
