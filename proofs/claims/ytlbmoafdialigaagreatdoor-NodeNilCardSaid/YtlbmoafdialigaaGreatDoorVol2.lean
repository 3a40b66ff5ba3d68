/- vol.write of the first needle: with room on the disk, and without. -/
import Derived.Test.YtlbmoafdialigaaGreatDoorVol1
import Derived.Test.YtlbmoafdialigaaGreatDoorNeedle
import Derived.Test.YtlbmoafdialigaaGreatDoorKeep
namespace Go.Proofs.YtlbmoafdialigaaGreatDoor
open Go Go.RowKit Go.MapKept

set_option maxRecDepth 100000 in
set_option maxHeartbeats 8000000 in
theorem write_ok {w : World} {vb d v most xb mn ml clk i f1 c1 key cookie n c : Nat} {cap nx num lst : Int} {dv : Value} {A1 A : Option Addr} {lx l : List UInt8} {es : Array MapEntry} {fl : Value → Nat}
    (h : VolB w vb d v 1 0 false most 16 xb) (hx : Idx0 w xb) (hv : v < 100) (hmost : most ≤ 16777216)
    (hd : DiskB w d cap nx mn ml dv (-1)) (hm : MBlk w mn es clk) (hok : MOk .string es clk) (hfl : Files w fl es) (htot : totN fl es.toList ≤ 1073741824) (hc0 : 0 ≤ cap) (hc1 : cap ≤ 1073741824)
    (hf : Instr.findNow .string (.string (nmData v 1)) es.toList 0 = some (some (i, .pointer (some ⟨f1, 0, none⟩))))
    (hfb : FileB w f1 num A1 16 c1 lst) (hb : Bytes w A1 16 c1 lx)
    (hkey : key < 18446744073709551616) (hck : cookie < 4294967296) (hn : n ≤ 4096) (hs : Sees w A n l) (hA : A = none → c = 0)
    (hroom : ((32 + n + padN (32 + n) : Nat) : Int) ≤ cap - totN fl es.toList) (hfit : 32 + n + padN (32 + n) + 16 ≤ most) :
    Calls Tryz.prog 80 #[.pointer (some ⟨vb, 0, none⟩), .agg #[.int .u64 key, .int .u32 cookie, .bool false, .slice A n c]] w fun e w' => e = .returned .nilIface ∧
      ∃ g cg A1' c1', VolB w' vb d v 1 0 false most (16 + (32 + n + padN (32 + n))) xb ∧ Blk w' xb 168 #[.slice (some ⟨g, 0, none⟩) 1 cg] ∧ w'.ownsRow 0 170 5 (.slice (some ⟨g, 0, none⟩) 1 cg) 1 (posC key 16 n cookie false) ∧
      DiskB w' d cap nx mn ml dv (-1) ∧ MBlk w' mn es clk ∧ FileB w' f1 num A1' (16 + (32 + n + padN (32 + n))) c1' ((16 + (32 + n + padN (32 + n)) : Nat) : Int) ∧ Bytes w' A1' (16 + (32 + n + padN (32 + n))) c1' (lx ++ needleL key cookie false l) ∧
      Upd (fun k => k = vb ∨ k = xb ∨ k = d ∨ k = f1 ∨ (Value.slice A1 16 c1).ownBlock = some k) w w' := by
  have hpl : padN (32 + n) ≤ 8 := by unfold padN; omega
  have HP := Lib.hid (fun (W : World) (a : Sees W A n l) => put_any (c := c) false hkey hck hn (fun h => by cases h) a hA)
  have HR := Lib.hid (fun (W : World) (a : VolB W vb d v 1 0 false most 16 xb) (b : Idx0 W xb) (m : Nat) (hm : m + 16 ≤ most) => room_nil a b key m hm hmost)
  have HF := Lib.hid (fun (W : World) (s : Nat) (a : VolB W vb d v 1 0 false most s xb) => file_ok a hv (by decide))
  have HO := Lib.hid (fun (W : World) => found_any (key := key) (cookie := cookie) (n := n) (c := c) (off := 16) (A := A) false W)
  have HI := Lib.hid (fun (W : World) (a : Idx0 W xb) => idxPut_nil key 16 n cookie false a)
  generalize hmv : 32 + n + padN (32 + n) = m at *
  go_enter Tryz.func80, Tryz.ntmps80
  go_wp2_with fail
  generalize hw0 : World.alloc _ _ = w0
  have hu0 : Upd (fun _ => False) w w0 := hw0 ▸ (Upd.refl _ w).alloc _
  have b0 : Blk w0 w.heap.size 32 #[.int .u64 key, .int .u32 cookie, .bool false, .slice A n c] := hw0 ▸ Blk.new w _ _
  clear hw0
  refine (HP.out _ (hs.upd hu0 (fun _ _ h => h))).mono ?_
  rintro e w1 ⟨B, cb, rfl, hb1, hu1⟩
  have hu01 := hu0.then hu1 (fun _ _ h => h)
  have b1 := b0.upd hu1 id
  have k0 := b1.cell 0
  go_wp2_with fail
  refine (HR.out _ (Blk.upd h hu01 id) (Blk.upd hx hu01 id) m hfit).mono ?_
  rintro e w2 ⟨rfl, hu2⟩
  have hu02 := hu01.then hu2 (fun _ _ h => h)
  have b2 := b1.upd hu2 id
  have hb2 := hb1.upd hu2 (fun _ _ h => h)
  have h2 : VolB w2 vb d v 1 0 false most 16 xb := Blk.upd h hu02 id
  clear HP HR k0
  go_wp2_with fail
  have e0 : w2.drew.cell? ⟨vb, 0, none⟩ = some (.pointer (some ⟨d, 0, none⟩)) := h2.cells.1
  refine wp_region_noPanic ?_
  refine wp_region_S 9 (fun W => W.cell? ⟨vb, 0, none⟩ = some (.pointer (some ⟨d, 0, none⟩))) (by kernel_rfl) rfl true ?_
  refine wpAnyQ_takeN 0 (v := ?_) nth0 (by kernel_rfl) (fun _ _ _ _ _ h => h) (by rfl) e0 ?_ ?_
  rotate_left
  (focus ((intro w hSw; (try dsimp only at hSw); (try go_split_ands); go_simp); try with_reducible rfl))
  (try simp only [Act.put, List.setIfInBounds_toArray, List.set_cons_zero, List.set_cons_succ])
  refine wpAnyQ_takeN 1 (v := ?_) nth1 (by kernel_rfl) (fun _ _ _ _ _ h => h) (by rfl) e0 ?_ ?_
  rotate_left
  (focus ((intro w hSw; (try dsimp only at hSw); (try go_split_ands); go_simp); try with_reducible rfl))
  (try simp only [Act.put, List.setIfInBounds_toArray, List.set_cons_zero, List.set_cons_succ])
  refine wpAnyQ_takeN 2 (v := ?_) nth2 (by kernel_rfl) (fun _ _ _ _ _ h => h) (by rfl) e0 ?_ ?_
  rotate_left
  (focus ((intro w hSw; (try dsimp only at hSw); (try go_split_ands); go_simp); try with_reducible rfl))
  (try simp only [Act.put, List.setIfInBounds_toArray, List.set_cons_zero, List.set_cons_succ])
  refine wpAnyQ_takeN 3 (v := ?_) nth3 (by kernel_rfl) (fun _ _ _ _ _ h => h) (by rfl) e0 ?_ ?_
  rotate_left
  (focus ((intro w hSw; (try dsimp only at hSw); (try go_split_ands); go_simp); try with_reducible rfl))
  (try simp only [Act.put, List.setIfInBounds_toArray, List.set_cons_zero, List.set_cons_succ])
  refine wpAnyQ_takeN 4 (v := ?_) nth4 (by kernel_rfl) (fun _ _ _ _ _ h => h) (by rfl) e0 ?_ ?_
  rotate_left
  (focus ((intro w hSw; (try dsimp only at hSw); (try go_split_ands); go_simp); try with_reducible rfl))
  (try simp only [Act.put, List.setIfInBounds_toArray, List.set_cons_zero, List.set_cons_succ])
  refine wpAnyQ_takeN 6 (v := ?_) nth6 (by kernel_rfl) (fun _ _ _ _ _ h => h) (by rfl) e0 ?_ ?_
  rotate_left
  (focus ((intro w hSw; (try dsimp only at hSw); (try go_split_ands); go_simp); try with_reducible rfl))
  (try simp only [Act.put, List.setIfInBounds_toArray, List.set_cons_zero, List.set_cons_succ])
  refine wpAnyQ_doN 5 nth5 (by kernel_rfl) ?_
  go_wp2_with (go_at_call 86; go_must (refine (HF.out w2.drew 16 h2).mono ?_; rintro e w3 ⟨rfl, hu3⟩))
  have hu23 : Upd (fun _ => False) w2 w3 := ((Upd.refl (fun _ => False) w2).drew).then hu3 (fun _ _ h => h)
  have hu03 := hu02.then hu23 (fun _ _ h => h)
  have h3 : VolB w3 vb d v 1 0 false most 16 xb := Blk.upd h hu03 id
  have hx3 : Idx0 w3 xb := Blk.upd hx hu03 id
  have hd3 := hd.upd hu03 id
  have hm3 := hm.upd hu03 id
  have hfl3 := hfl.upd hu03 (fun _ _ _ h => h)
  have hfb3 := hfb.upd hu03 id
  have hbx3 := hb.upd hu03 (fun _ _ h => h)
  have hbb3 := hb2.upd hu23 (fun _ _ h => h)
  have b3 := b2.upd hu23 id
  have HA := Lib.hid (append_ok (nmData v 1) hd3 (by decide) (by decide) (by decide) hm3 hok hfl3 htot hc0 hc1 hf hfb3 hbx3 hbb3 (by omega) (by omega) hroom)
  refine doK_next h3.cells.1 ?_
  refine wpAnyQ_doN 7 nth7 (by kernel_rfl) ?_
  go_wp2_with (go_at_call 101; go_must (refine (HA.out).mono ?_; rintro e w4 ⟨rfl, A1', c1', hfb4, hbx4, hd4, _, hu4⟩))
  have hneg : didA (-1) = -1 := by decide
  rw [hneg] at hd4
  have nS : ∀ g cs t, Blk w3 g t cs → t ≠ 125 → t ≠ 156 → t ≠ 5 → ¬ SFile d f1 (.slice A1 16 c1) g := fun g cs t hb a b c => SFile.notBlk hb hd3 hfb3 hbx3 a b c
  have h4 : VolB w4 vb d v 1 0 false most 16 xb := Blk.upd h3 hu4 (nS _ _ _ h3 (by decide) (by decide) (by decide))
  have hx4 : Idx0 w4 xb := Blk.upd hx3 hu4 (nS _ _ _ hx3 (by decide) (by decide) (by decide))
  have b4 := b3.upd hu4 (nS _ _ _ b3 (by decide) (by decide) (by decide))
  have hm4 := hm3.upd hu4 (SFile.notMap hm3 hd3 hfb3 hbx3)
  refine doK_next h4.cells.1 ?_
  refine wpAnyQ_doN 8 nth8 (by kernel_rfl) ?_
  go_wp2
  refine doK_last (by kernel_rfl) (by kernel_rfl) (NoPanic.normal ?_)
  clear HA e0
  go_wp2_with fail
  have e7 : w4.drew.cell? ⟨vb, 7, none⟩ = some (.pointer (some ⟨xb, 0, none⟩)) ∧ w4.drew.cell? ⟨vb, 6, none⟩ = some (.int .i64 (16 : Nat)) ∧ w4.drew.cell? ⟨w.heap.size, 0, none⟩ = some (.int .u64 key) ∧ w4.drew.cell? ⟨w.heap.size, 1, none⟩ = some (.int .u32 cookie) ∧ w4.drew.cell? ⟨w.heap.size, 2, none⟩ = some (.bool false) ∧ w4.drew.cell? ⟨w.heap.size, 3, none⟩ = some (.slice A n c) :=
    ⟨Blk.cell h4 7, Blk.cell h4 6, b4.cell 0, b4.cell 1, b4.cell 2, b4.cell 3⟩
  refine wp_region_noPanic ?_
  refine wp_region_S 12 (fun W => W.cell? ⟨vb, 7, none⟩ = some (.pointer (some ⟨xb, 0, none⟩)) ∧ W.cell? ⟨vb, 6, none⟩ = some (.int .i64 (16 : Nat)) ∧ W.cell? ⟨w.heap.size, 0, none⟩ = some (.int .u64 key) ∧ W.cell? ⟨w.heap.size, 1, none⟩ = some (.int .u32 cookie) ∧ W.cell? ⟨w.heap.size, 2, none⟩ = some (.bool false) ∧ W.cell? ⟨w.heap.size, 3, none⟩ = some (.slice A n c)) (by kernel_rfl) rfl true ?_
  refine wpAnyQ_takeN 0 (v := ?_) nth0 (by kernel_rfl) (fun _ _ _ _ _ h => h) (by rfl) e7 ?_ ?_
  rotate_left
  (focus ((intro w hSw; (try dsimp only at hSw); (try go_split_ands); go_simp); try with_reducible rfl))
  (try simp only [Act.put, List.setIfInBounds_toArray, List.set_cons_zero, List.set_cons_succ])
  refine wpAnyQ_takeN 1 (v := ?_) nth1 (by kernel_rfl) (fun _ _ _ _ _ h => h) (by rfl) e7 ?_ ?_
  rotate_left
  (focus ((intro w hSw; (try dsimp only at hSw); (try go_split_ands); go_simp); try with_reducible rfl))
  (try simp only [Act.put, List.setIfInBounds_toArray, List.set_cons_zero, List.set_cons_succ])
  refine wpAnyQ_takeN 2 (v := ?_) nth2 (by kernel_rfl) (fun _ _ _ _ _ h => h) (by rfl) e7 ?_ ?_
  rotate_left
  (focus ((intro w hSw; (try dsimp only at hSw); (try go_split_ands); go_simp); try with_reducible rfl))
  (try simp only [Act.put, List.setIfInBounds_toArray, List.set_cons_zero, List.set_cons_succ])
  refine wpAnyQ_takeN 3 (v := ?_) nth3 (by kernel_rfl) (fun _ _ _ _ _ h => h) (by rfl) e7 ?_ ?_
  rotate_left
  (focus ((intro w hSw; (try dsimp only at hSw); (try go_split_ands); go_simp); try with_reducible rfl))
  (try simp only [Act.put, List.setIfInBounds_toArray, List.set_cons_zero, List.set_cons_succ])
  refine wpAnyQ_takeN 4 (v := ?_) nth4 (by kernel_rfl) (fun _ _ _ _ _ h => h) (by rfl) e7 ?_ ?_
  rotate_left
  (focus ((intro w hSw; (try dsimp only at hSw); (try go_split_ands); go_simp); try with_reducible rfl))
  (try simp only [Act.put, List.setIfInBounds_toArray, List.set_cons_zero, List.set_cons_succ])
  refine wpAnyQ_takeN 5 (v := ?_) nth5 (by kernel_rfl) (fun _ _ _ _ _ h => h) (by rfl) e7 ?_ ?_
  rotate_left
  (focus ((intro w hSw; (try dsimp only at hSw); (try go_split_ands); go_simp); try with_reducible rfl))
  (try simp only [Act.put, List.setIfInBounds_toArray, List.set_cons_zero, List.set_cons_succ])
  refine wpAnyQ_takeN 6 (v := ?_) nth6 (by kernel_rfl) (fun _ _ _ _ _ h => h) (by rfl) e7 ?_ ?_
  rotate_left
  (focus ((intro w hSw; (try dsimp only at hSw); (try go_split_ands); go_simp); try with_reducible rfl))
  (try simp only [Act.put, List.setIfInBounds_toArray, List.set_cons_zero, List.set_cons_succ])
  refine wpAnyQ_takeN 7 (v := ?_) nth7 (by kernel_rfl) (fun _ _ _ _ _ h => h) (by rfl) e7 ?_ ?_
  rotate_left
  (focus ((intro w hSw; (try dsimp only at hSw); (try go_split_ands); go_simp); try with_reducible rfl))
  (try simp only [Act.put, List.setIfInBounds_toArray, List.set_cons_zero, List.set_cons_succ])
  refine wpAnyQ_takeN 8 (v := ?_) nth8 (by kernel_rfl) (fun _ _ _ _ _ h => h) (by rfl) e7 ?_ ?_
  rotate_left
  (focus ((intro w hSw; (try dsimp only at hSw); (try go_split_ands); go_simp); try with_reducible rfl))
  (try simp only [Act.put, List.setIfInBounds_toArray, List.set_cons_zero, List.set_cons_succ])
  refine wpAnyQ_takeN 9 (v := ?_) nth9 (by kernel_rfl) (fun _ _ _ _ _ h => h) (by rfl) e7 ?_ ?_
  rotate_left
  (focus ((intro w hSw; (try dsimp only at hSw); (try go_split_ands); go_simp); try with_reducible rfl))
  (try simp only [Act.put, List.setIfInBounds_toArray, List.set_cons_zero, List.set_cons_succ])
  refine wpAnyQ_doN 10 nth10 (by kernel_rfl) ?_
  go_wp2_with (go_at_call 85; go_must (refine (HO.out w4.drew).mono ?_; rintro e w5 ⟨rfl, hu5⟩))
  have hu45 : Upd (fun _ => False) w4 w5 := ((Upd.refl (fun _ => False) w4).drew).then hu5 (fun _ _ h => h)
  have h5 : VolB w5 vb d v 1 0 false most 16 xb := Blk.upd h4 hu45 id
  have hx5 : Idx0 w5 xb := Blk.upd hx4 hu45 id
  have b5 := b4.upd hu45 id
  refine doK_next (And.intro (Blk.cell h5 7) (And.intro (Blk.cell h5 6) (And.intro (b5.cell 0) (And.intro (b5.cell 1) (And.intro (b5.cell 2) (b5.cell 3)))))) ?_
  refine wpAnyQ_doN 11 nth11 (by kernel_rfl) ?_
  go_wp2_with (go_at_call 108; go_must (refine (HI.out w5 hx5).mono ?_; rintro e w6 ⟨rfl, g, cg, hx6, hrow6, hlg, hu6⟩))
  refine doK_last (by kernel_rfl) (by kernel_rfl) (NoPanic.normal ?_)
  have h6 : VolB w6 vb d v 1 0 false most 16 xb := Blk.upd h5 hu6 (Blk.ne_ h5 hx5 (by decide))
  have hd5 := hd4.upd hu45 id
  have hm5 := hm4.upd hu45 id
  have hfb5 := hfb4.upd hu45 id
  have hbx5 := hbx4.upd hu45 (fun _ _ h => h)
  have hd6 := hd5.upd hu6 (Blk.ne_ hd5 hx5 (by decide))
  have hm6 := hm5.upd hu6 (Ne.symm (Blk.neM hx5 hm5))
  have hfb6 := hfb5.upd hu6 (Blk.ne_ hfb5 hx5 (by decide))
  have ox5 := own_blk_ne hbx5 hx5 (by decide)
  have hbx6 := hbx5.upd hu6 (fun k e h => ox5 (by rw [e, h]))
  clear HO HI
  have k6 := Blk.cell h6 6
  have z6 := Blk.frozen h6 6
  have hwr : IntKind.i64.wrap (16 + (m : Int)) = 16 + m := IntWalk.i64_in _ (by omega)
  go_wp2_with fail
  have hu67 : Upd (fun k => k = vb) w6 (w6.setCell ⟨vb, 6, none⟩ (.int .i64 (16 + (m : Int)))) := (Upd.refl (fun k => k = vb) w6).setCell (p := ⟨vb, 6, none⟩) (fun _ => rfl) _
  have h7 : VolB (w6.setCell ⟨vb, 6, none⟩ (.int .i64 (16 + (m : Int)))) vb d v 1 0 false most (16 + m) xb := by
    unfold VolB
    rw [Int.natCast_add]
    exact Blk.set_ h6 6 _
  generalize (World.setCell w6 _ _) = w7 at *
  have hd7 := hd6.upd hu67 (Blk.ne_ hd6 h6 (by decide))
  have hm7 := hm6.upd hu67 (Ne.symm (Blk.neM h6 hm6))
  have hfb7 := hfb6.upd hu67 (Blk.ne_ hfb6 h6 (by decide))
  have ox6 := own_blk_ne hbx6 h6 (by decide)
  have hbx7 := hbx6.upd hu67 (fun k e h => ox6 (by rw [e, h]))
  have hx7 := hx6.upd hu67 (Blk.ne_ hx6 h6 (by decide))
  have or6 := own_blk_ne hrow6 h6 (by decide)
  have hrow7 := own_upd hrow6 hu67 (fun k e h => or6 (by rw [e, h]))
  have e0 : w7.drew.cell? ⟨vb, 0, none⟩ = some (.pointer (some ⟨d, 0, none⟩)) := h7.cells.1
  clear k6 z6 hwr e7
  refine wp_region_noPanic ?_
  refine wp_region_S 8 (fun W => W.cell? ⟨vb, 0, none⟩ = some (.pointer (some ⟨d, 0, none⟩))) (by kernel_rfl) rfl true ?_
  refine wpAnyQ_takeN 0 (v := ?_) nth0 (by kernel_rfl) (fun _ _ _ _ _ h => h) (by rfl) e0 ?_ ?_
  rotate_left
  (focus ((intro w hSw; (try dsimp only at hSw); (try go_split_ands); go_simp); try with_reducible rfl))
  (try simp only [Act.put, List.setIfInBounds_toArray, List.set_cons_zero, List.set_cons_succ])
  refine wpAnyQ_takeN 1 (v := ?_) nth1 (by kernel_rfl) (fun _ _ _ _ _ h => h) (by rfl) e0 ?_ ?_
  rotate_left
  (focus ((intro w hSw; (try dsimp only at hSw); (try go_split_ands); go_simp); try with_reducible rfl))
  (try simp only [Act.put, List.setIfInBounds_toArray, List.set_cons_zero, List.set_cons_succ])
  refine wpAnyQ_takeN 2 (v := ?_) nth2 (by kernel_rfl) (fun _ _ _ _ _ h => h) (by rfl) e0 ?_ ?_
  rotate_left
  (focus ((intro w hSw; (try dsimp only at hSw); (try go_split_ands); go_simp); try with_reducible rfl))
  (try simp only [Act.put, List.setIfInBounds_toArray, List.set_cons_zero, List.set_cons_succ])
  refine wpAnyQ_takeN 3 (v := ?_) nth3 (by kernel_rfl) (fun _ _ _ _ _ h => h) (by rfl) e0 ?_ ?_
  rotate_left
  (focus ((intro w hSw; (try dsimp only at hSw); (try go_split_ands); go_simp); try with_reducible rfl))
  (try simp only [Act.put, List.setIfInBounds_toArray, List.set_cons_zero, List.set_cons_succ])
  refine wpAnyQ_takeN 4 (v := ?_) nth4 (by kernel_rfl) (fun _ _ _ _ _ h => h) (by rfl) e0 ?_ ?_
  rotate_left
  (focus ((intro w hSw; (try dsimp only at hSw); (try go_split_ands); go_simp); try with_reducible rfl))
  (try simp only [Act.put, List.setIfInBounds_toArray, List.set_cons_zero, List.set_cons_succ])
  refine wpAnyQ_doN 5 nth5 (by kernel_rfl) ?_
  go_wp2_with (go_at_call 86; go_must (refine (HF.out w7.drew (16 + m) h7).mono ?_; rintro e w8 ⟨rfl, hu8⟩))
  have hu78 : Upd (fun _ => False) w7 w8 := ((Upd.refl (fun _ => False) w7).drew).then hu8 (fun _ _ h => h)
  have h8 : VolB w8 vb d v 1 0 false most (16 + m) xb := Blk.upd h7 hu78 id
  have hd8 := hd7.upd hu78 id
  have hm8 := hm7.upd hu78 id
  have hfb8 := hfb7.upd hu78 id
  have hbx8 := hbx7.upd hu78 (fun _ _ h => h)
  have hx8 := hx7.upd hu78 id
  have hrow8 := own_upd hrow7 hu78 (fun _ _ h => h)
  have HY := Lib.hid (sync_ok (nmData v 1) hd8 (by decide) (by decide) (by decide) hm8 hf hfb8)
  refine doK_next h8.cells.1 ?_
  refine wpAnyQ_doN 6 nth6 (by kernel_rfl) ?_
  go_wp2_with (go_at_call 103; go_must (refine (HY.out).mono ?_; rintro e w9 ⟨rfl, hfb9, hd9, hu9⟩))
  rw [hneg] at hd9
  have nY : ∀ g cs t, Blk w8 g t cs → t ≠ 125 → t ≠ 156 → ¬ (g = d ∨ g = f1) := fun g cs t hb a b e => e.elim (fun e => Blk.ne_ hb hd8 a e) (fun e => Blk.ne_ hb hfb8 b e)
  have h9 : VolB w9 vb d v 1 0 false most (16 + m) xb := Blk.upd h8 hu9 (nY _ _ _ h8 (by decide) (by decide))
  have hx9 := hx8.upd hu9 (nY _ _ _ hx8 (by decide) (by decide))
  refine doK_next h9.cells.1 ?_
  refine wpAnyQ_doN 7 nth7 (by kernel_rfl) ?_
  go_wp2
  refine doK_last (by kernel_rfl) (by kernel_rfl) (NoPanic.normal ?_)
  go_wp2
  go_ret
  have rY : ∀ {base : Nat} {e : TypeId} {size n : Nat} {v : Value} {xs : List Value}, w8.ownsRow base e size v n xs → e ≠ 125 → e ≠ 156 → w9.ownsRow base e size v n xs := fun {base e size n v xs} hr a b =>
    own_upd hr hu9 (fun k ek h => h.elim (fun h => own_blk_ne hr hd8 a (by rw [ek, h])) (fun h => own_blk_ne hr hfb8 b (by rw [ek, h])))
  have hm9 := hm8.upd hu9 (fun e => e.elim (fun e => Blk.neM hd8 hm8 e.symm) (fun e => Blk.neM hfb8 hm8 e.symm))
  have hs04 := hu03.size
  refine ⟨rfl, g, cg, A1', c1', h9, hx9, rY hrow8 (by decide) (by decide), hd9, hm9, hfb9, rY hbx8 (by decide) (by decide), ?_⟩
  refine ((((((hu03.mono (S' := fun k => k = vb ∨ k = xb ∨ k = d ∨ k = f1 ∨ (Value.slice A1 16 c1).ownBlock = some k) (fun _ _ h => h.elim)).then hu4 ?_).then hu45 (fun _ _ h => h.elim)).then hu6 (fun _ _ h => .inr (.inl h))).then hu67 (fun _ _ h => .inl h)).then hu78 (fun _ _ h => h.elim)).then hu9 (fun _ _ h => h.elim (fun h => .inr (.inr (.inl h))) (fun h => .inr (.inr (.inr (.inl h)))))
  rintro i _ (h | h | h)
  · exact .inr (.inr (.inl h))
  · exact .inr (.inr (.inr (.inl h)))
  · exact .inr (.inr (.inr (.inr h)))
end Go.Proofs.YtlbmoafdialigaaGreatDoor
