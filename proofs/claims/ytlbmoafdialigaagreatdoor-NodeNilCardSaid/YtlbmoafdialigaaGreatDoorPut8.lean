/- pack.Put at the size 8. -/
import Derived.Test.YtlbmoafdialigaaGreatDoorPut
namespace Go.Proofs.YtlbmoafdialigaaGreatDoor
open Go Go.RowKit Go.Shelf Go.MapKept
attribute [local go_sem] Oper.semAt_some

set_option maxRecDepth 100000 in
set_option maxHeartbeats 4000000 in
theorem put_8 {w : World} {A : Option Addr} {n c v : Nat} {l : List UInt8} (hb : Bytes w A n c l) (h0 : 0 < n ∨ (A = none ∧ c = 0)) (hn : n ≤ 100000000) (hv : v < 18446744073709551616) :
    Calls Tryz.prog 137 #[.slice A n c, .int .u64 v, .int .i64 8] w fun e w' => ∃ A' c', e = .returned (.tuple #[.slice A' (n + 8) c', .nilIface]) ∧ Bytes w' A' (n + 8) c' (l ++ le v 8) ∧ (∀ k, (Value.slice A' (n + 8) c').ownBlock = some k → w.heap.size ≤ k) ∧ Upd (fun _ => False) w w' := by
  obtain ⟨i0, hi, hz0, hz1, hz2⟩ := info_parts bytes_info
  have hS := Lib.hid (fun W => sized_8 W)
  have hF := Lib.hid (fun W => fits_8 v W)
  have hC := Lib.hid (fun (W : World) (a : Bytes W A n c l) => clone_any a h0 (by omega))
  have hP := Lib.hid (fun (W : World) (nb : Nat) (h : W.cell? ⟨nb, 0, none⟩ = some (.int .u64 v)) (i : Int) (k : Nat) (hi : i = k) (hk : k ≤ 7) => part_int hi hk (show v < 18446744073709551616 by omega) h)
  have hK := Lib.hid (fun W g1 m1 c1 => back_any (some ⟨g1, 1, none⟩) m1 c1 W)
  refine (callsIn_wide (n := 6)).1 ?_
  refine callsIn_of_wp_marks Tryz.func137 rfl trivial ?_ rfl
  simp only [Tryz.ntmps137, List.size_toArray, List.length_cons, List.length_nil, Nat.reduceAdd, Nat.reduceSub, Array.replicate_succ, Array.replicate_zero, List.push_toArray, List.append_toArray, List.nil_append, List.cons_append]
  refine wpIn_wide.2 ?_
  go_wp2_with (first
    | (go_at_call 170; refine (hS.out _).mono ?_; rintro e w' ⟨rfl, rfl⟩)
    | (go_at_call 179; refine (hF.out _).mono ?_; rintro e w' ⟨rfl, rfl⟩)
    | (go_at_call 180; refine (hC.out _ (hb.alloc _)).mono ?_; rintro e w1 ⟨A1, c1, rfl, hb1, hf1, hu1⟩; have B4 : Blk w1 w.heap.size 22 #[.int .u64 v] := (Blk.new w 22 #[.int .u64 v]).upd hu1 id)
    | (go_at_call 181; go_must (refine (hP.out _ _ ((B4.alloc _).cell 0) _ 0 (by rfl) (by omega)).mono ?_; rintro e w' ⟨rfl, rfl⟩)))
  have hz : w.heap.size + 1 ≤ w1.heap.size := by have := hu1.size; simpa using this
  have hf1' : ∀ k, (Value.slice A1 n c1).ownBlock = some k → w.heap.size + 1 ≤ k := fun k e => by have := hf1 k e; simpa using this
  generalize hw2 : World.alloc _ _ = u0
  have hs : PutS w u0 w.heap.size w1.heap.size (w1.heap.size + 1 + 1) v A1 n c1 l (some ⟨w1.heap.size + 1, 0, none⟩) 1 1 [byteOf v 0] := by
    rw [← hw2]
    have hb1l : ∀ k, (Value.slice A1 n c1).ownBlock = some k → k < w1.heap.size := fun k e => (World.ownsRow.lt hb1 k e).2
    refine ⟨((B4.alloc _).alloc _).alloc _, ((Blk.new w1 _ _).alloc _).alloc _, Blk.new2 w1 _ _ _ _, ((hb1.alloc _).alloc _).alloc _, ?_, ((((Upd.refl _ w).alloc _).then hu1 (fun _ _ h => h)).alloc _ |>.alloc _ |>.alloc _), by omega, ?_, by omega, by omega, ?_, ?_⟩
    · have := World.ownsRow_made (base := 0) (e := 5) (size := 1) (w1.alloc (.cells #[.slice A1 n c1] 24)) #[.int .u8 (byteOf v 0).toNat] 1 (Nat.zero_le _) (by decide) rfl
      refine World.ownsRow.alloc (?_ : World.ownsRow _ _ _ _ _ _ _) _
      refine ⟨rfl, .inr ⟨w1.heap.size + 1, 1, #[.int .u8 (byteOf v 0).toNat], rfl, Nat.zero_le _, Blk.new1 w1 _ _ _, Nat.le_refl _, by decide, rfl, rfl⟩⟩
    · intro k e e'
      have e2 : w1.heap.size + 1 = k := by simpa [Value.ownBlock] using e'
      have := hb1l k e
      omega
    · intro k e
      have := hf1' k e
      omega
    · intro k e'
      have e2 : w1.heap.size + 1 = k := by simpa [Value.ownBlock] using e'
      omega
  have hz' := Lib.hid hz
  clear hw2 B4 hb1 hu1 hC hF hS hf1 hf1' hb h0 hz
  have c4 := hs.b4.cell 0
  have c10 := hs.b10.cell 0
  refine wp_region_noPanic ?_
  refine wp_region_head 9 (fun W => W.cell? ⟨w1.heap.size + 1 + 1, 0, none⟩ = some (.slice (some ⟨w1.heap.size + 1, 0, none⟩) 1 1) ∧ W.cell? ⟨w.heap.size, 0, none⟩ = some (.int .u64 v)) _ _ (by kernel_rfl) rfl (by kernel_rfl) (fun _ _ _ _ _ h => h) ⟨c10, c4⟩ ?_
  simp only [List.take_succ_cons, List.take_zero]
  refine wpHead_step (v := ?_) (by rfl) ?_ ?_
  rotate_left
  (focus ((intro w hSw; (try dsimp only at hSw); (try go_split_ands); go_simp); try with_reducible rfl))
  (try simp only [Act.put, List.setIfInBounds_toArray, List.set_cons_zero, List.set_cons_succ])
  refine wpHead_step (v := ?_) (by rfl) ?_ ?_
  rotate_left
  (focus ((intro w hSw; (try dsimp only at hSw); (try go_split_ands); go_simp); try with_reducible rfl))
  (try simp only [Act.put, List.setIfInBounds_toArray, List.set_cons_zero, List.set_cons_succ])
  refine wpHead_call (by rfl) ?_ (fun W hS => hP.out W _ hS.2 _ 7 (by rfl) (by omega)) ?_
  (focus ((intro w hSw; (try dsimp only at hSw); (try go_split_ands); go_simp); try with_reducible rfl))
  (try simp only [Act.put, List.setIfInBounds_toArray, List.set_cons_zero, List.set_cons_succ])
  refine wpHead_step (v := ?_) (by rfl) ?_ ?_
  rotate_left
  (focus ((intro w hSw; (try dsimp only at hSw); (try go_split_ands); go_simp); try with_reducible rfl))
  (try simp only [Act.put, List.setIfInBounds_toArray, List.set_cons_zero, List.set_cons_succ])
  refine wpHead_call (by rfl) ?_ (fun W hS => hP.out W _ hS.2 _ 6 (by rfl) (by omega)) ?_
  (focus ((intro w hSw; (try dsimp only at hSw); (try go_split_ands); go_simp); try with_reducible rfl))
  (try simp only [Act.put, List.setIfInBounds_toArray, List.set_cons_zero, List.set_cons_succ])
  refine wpHead_step (v := ?_) (by rfl) ?_ ?_
  rotate_left
  (focus ((intro w hSw; (try dsimp only at hSw); (try go_split_ands); go_simp); try with_reducible rfl))
  (try simp only [Act.put, List.setIfInBounds_toArray, List.set_cons_zero, List.set_cons_succ])
  refine wpHead_call (by rfl) ?_ (fun W hS => hP.out W _ hS.2 _ 5 (by rfl) (by omega)) ?_
  (focus ((intro w hSw; (try dsimp only at hSw); (try go_split_ands); go_simp); try with_reducible rfl))
  (try simp only [Act.put, List.setIfInBounds_toArray, List.set_cons_zero, List.set_cons_succ])
  refine wpHead_step (v := ?_) (by rfl) ?_ ?_
  rotate_left
  (focus ((intro w hSw; (try dsimp only at hSw); (try go_split_ands); go_simp); try with_reducible rfl))
  (try simp only [Act.put, List.setIfInBounds_toArray, List.set_cons_zero, List.set_cons_succ])
  refine wpHead_call (by rfl) ?_ (fun W hS => hP.out W _ hS.2 _ 4 (by rfl) (by omega)) ?_
  (focus ((intro w hSw; (try dsimp only at hSw); (try go_split_ands); go_simp); try with_reducible rfl))
  (try simp only [Act.put, List.setIfInBounds_toArray, List.set_cons_zero, List.set_cons_succ])
  refine wpHead_nil ?_
  go_wp2
  have hu3 : Upd (fun _ => False) u0 (u0.alloc (.cells #[.int .u8 (byteOf v 7).toNat, .int .u8 (byteOf v 6).toNat, .int .u8 (byteOf v 5).toNat, .int .u8 (byteOf v 4).toNat] 5)).drew := ((Upd.refl _ _).alloc _).drew
  refine tailK_next ⟨(hs.b10.upd hu3 id).cell 0, (hs.b4.upd hu3 id).cell 0⟩ ?_
  go_wp2_with (at_builtin; go_must (refine wpList_append_own_at _ rfl _ _ 24 rfl 0 5 i0 _ 1 1 Tryz.underlying24 hi hz0 hz1 hz2 rfl (by decide) _ _ _ rfl (hs.r.upd hu3 (fun _ _ h => h)) ⟨u0.heap.size, 0, none⟩ 4 4 (bytesV [byteOf v 7, byteOf v 6, byteOf v 5, byteOf v 4]) rfl rfl (news_blk (Blk.new _ _ _).drew) (bytesV_one _) (by decide) (by decide) (Nat.zero_le _) ?_; intro v' y0 hown' hgrow _ hat; obtain ⟨g1, cp1, rfl, _, _⟩ := own_form hown' (by omega); rw [← bytesV_append] at hown'; obtain ⟨hs', b10, b4⟩ := hs.pushR hu3 hgrow hown' (hat.imp (fun e => e.symm) (fun e => by simpa [Value.ownBlock] using e)); clear hown' hgrow hat))
  refine tailK_next ⟨b10.cell 0, b4.cell 0⟩ ?_
  have k10 := b10.cell 0
  have z10 := b10.frozen 0
  go_wp2
  refine tailK_last (NoPanic.normal ?_)
  clear hu3 hs c4 c10 b10 b4 k10 z10
  have hs := hs'
  clear hs'
  simp only [List.cons_append, List.nil_append, Nat.reduceAdd] at hs
  generalize (World.setCell y0 _ _) = u1 at hs ⊢
  go_wp2
  have c4 := hs.b4.cell 0
  have c10 := hs.b10.cell 0
  refine wp_region_noPanic ?_
  refine wp_region_head 5 (fun W => W.cell? ⟨w1.heap.size + 1 + 1, 0, none⟩ = some (.slice (some ⟨g1, 0, none⟩) 5 cp1) ∧ W.cell? ⟨w.heap.size, 0, none⟩ = some (.int .u64 v)) _ _ (by kernel_rfl) rfl (by kernel_rfl) (fun _ _ _ _ _ h => h) ⟨c10, c4⟩ ?_
  simp only [List.take_succ_cons, List.take_zero]
  refine wpHead_step (v := ?_) (by rfl) ?_ ?_
  rotate_left
  (focus ((intro w hSw; (try dsimp only at hSw); (try go_split_ands); go_simp); try with_reducible rfl))
  (try simp only [Act.put, List.setIfInBounds_toArray, List.set_cons_zero, List.set_cons_succ])
  refine wpHead_step (v := ?_) (by rfl) ?_ ?_
  rotate_left
  (focus ((intro w hSw; (try dsimp only at hSw); (try go_split_ands); go_simp); try with_reducible rfl))
  (try simp only [Act.put, List.setIfInBounds_toArray, List.set_cons_zero, List.set_cons_succ])
  refine wpHead_call (by rfl) ?_ (fun W hS => hP.out W _ hS.2 _ 3 (by rfl) (by omega)) ?_
  (focus ((intro w hSw; (try dsimp only at hSw); (try go_split_ands); go_simp); try with_reducible rfl))
  (try simp only [Act.put, List.setIfInBounds_toArray, List.set_cons_zero, List.set_cons_succ])
  refine wpHead_step (v := ?_) (by rfl) ?_ ?_
  rotate_left
  (focus ((intro w hSw; (try dsimp only at hSw); (try go_split_ands); go_simp); try with_reducible rfl))
  (try simp only [Act.put, List.setIfInBounds_toArray, List.set_cons_zero, List.set_cons_succ])
  refine wpHead_call (by rfl) ?_ (fun W hS => hP.out W _ hS.2 _ 2 (by rfl) (by omega)) ?_
  (focus ((intro w hSw; (try dsimp only at hSw); (try go_split_ands); go_simp); try with_reducible rfl))
  (try simp only [Act.put, List.setIfInBounds_toArray, List.set_cons_zero, List.set_cons_succ])
  refine wpHead_nil ?_
  go_wp2
  have hu3 : Upd (fun _ => False) u1 (u1.alloc (.cells #[.int .u8 (byteOf v 3).toNat, .int .u8 (byteOf v 2).toNat] 5)).drew := ((Upd.refl _ _).alloc _).drew
  refine tailK_next ⟨(hs.b10.upd hu3 id).cell 0, (hs.b4.upd hu3 id).cell 0⟩ ?_
  go_wp2_with (at_builtin; go_must (refine wpList_append_own_at _ rfl _ _ 24 rfl 0 5 i0 _ 1 1 Tryz.underlying24 hi hz0 hz1 hz2 rfl (by decide) _ _ _ rfl (hs.r.upd hu3 (fun _ _ h => h)) ⟨u1.heap.size, 0, none⟩ 2 2 (bytesV [byteOf v 3, byteOf v 2]) rfl rfl (news_blk (Blk.new _ _ _).drew) (bytesV_one _) (by decide) (by decide) (Nat.zero_le _) ?_; intro v' y1 hown' hgrow _ hat; obtain ⟨g2, cp2, rfl, _, _⟩ := own_form hown' (by omega); rw [← bytesV_append] at hown'; obtain ⟨hs', b10, b4⟩ := hs.pushR hu3 hgrow hown' (hat.imp (fun e => e.symm) (fun e => by simpa [Value.ownBlock] using e)); clear hown' hgrow hat))
  refine tailK_next ⟨b10.cell 0, b4.cell 0⟩ ?_
  have k10 := b10.cell 0
  have z10 := b10.frozen 0
  go_wp2
  refine tailK_last (NoPanic.normal ?_)
  clear hu3 hs c4 c10 b10 b4 k10 z10
  have hs := hs'
  clear hs'
  simp only [List.cons_append, List.nil_append, Nat.reduceAdd] at hs
  generalize (World.setCell y1 _ _) = u2 at hs ⊢
  go_wp2
  have c4 := hs.b4.cell 0
  have c10 := hs.b10.cell 0
  refine wp_region_noPanic ?_
  refine wp_region_head 3 (fun W => W.cell? ⟨w1.heap.size + 1 + 1, 0, none⟩ = some (.slice (some ⟨g2, 0, none⟩) 7 cp2) ∧ W.cell? ⟨w.heap.size, 0, none⟩ = some (.int .u64 v)) _ _ (by kernel_rfl) rfl (by kernel_rfl) (fun _ _ _ _ _ h => h) ⟨c10, c4⟩ ?_
  simp only [List.take_succ_cons, List.take_zero]
  refine wpHead_step (v := ?_) (by rfl) ?_ ?_
  rotate_left
  (focus ((intro w hSw; (try dsimp only at hSw); (try go_split_ands); go_simp); try with_reducible rfl))
  (try simp only [Act.put, List.setIfInBounds_toArray, List.set_cons_zero, List.set_cons_succ])
  refine wpHead_step (v := ?_) (by rfl) ?_ ?_
  rotate_left
  (focus ((intro w hSw; (try dsimp only at hSw); (try go_split_ands); go_simp); try with_reducible rfl))
  (try simp only [Act.put, List.setIfInBounds_toArray, List.set_cons_zero, List.set_cons_succ])
  refine wpHead_call (by rfl) ?_ (fun W hS => hP.out W _ hS.2 _ 1 (by rfl) (by omega)) ?_
  (focus ((intro w hSw; (try dsimp only at hSw); (try go_split_ands); go_simp); try with_reducible rfl))
  (try simp only [Act.put, List.setIfInBounds_toArray, List.set_cons_zero, List.set_cons_succ])
  refine wpHead_nil ?_
  go_wp2
  have hu3 : Upd (fun _ => False) u2 (u2.alloc (.cells #[.int .u8 (byteOf v 1).toNat] 5)).drew := ((Upd.refl _ _).alloc _).drew
  refine tailK_next ⟨(hs.b10.upd hu3 id).cell 0, (hs.b4.upd hu3 id).cell 0⟩ ?_
  go_wp2_with (at_builtin; go_must (refine wpList_append_own_at _ rfl _ _ 24 rfl 0 5 i0 _ 1 1 Tryz.underlying24 hi hz0 hz1 hz2 rfl (by decide) _ _ _ rfl (hs.r.upd hu3 (fun _ _ h => h)) ⟨u2.heap.size, 0, none⟩ 1 1 (bytesV [byteOf v 1]) rfl rfl (news_blk (Blk.new _ _ _).drew) (bytesV_one _) (by decide) (by decide) (Nat.zero_le _) ?_; intro v' y2 hown' hgrow _ hat; obtain ⟨g3, cp3, rfl, _, _⟩ := own_form hown' (by omega); rw [← bytesV_append] at hown'; obtain ⟨hs', b10, b4⟩ := hs.pushR hu3 hgrow hown' (hat.imp (fun e => e.symm) (fun e => by simpa [Value.ownBlock] using e)); clear hown' hgrow hat))
  refine tailK_next ⟨b10.cell 0, b4.cell 0⟩ ?_
  have k10 := b10.cell 0
  have z10 := b10.frozen 0
  go_wp2
  refine tailK_last (NoPanic.normal ?_)
  clear hu3 hs c4 c10 b10 b4 k10 z10
  have hs := hs'
  clear hs'
  simp only [List.cons_append, List.nil_append, Nat.reduceAdd] at hs
  generalize (World.setCell y2 _ _) = u3 at hs ⊢
  go_wp2
  have c8 := hs.b8.cell 0
  have c10 := hs.b10.cell 0
  have e0 : u3.cell? ⟨g3, 0, none⟩ = some (.int .u8 (byteOf v 0).toNat) := World.ownsRow.cellAt hs.r 0 (by decide)
  refine wp_region_noPanic ?_
  refine wp_region_head 4 (fun W => W.cell? ⟨w1.heap.size, 0, none⟩ = some (.slice A1 n c1) ∧ W.cell? ⟨w1.heap.size + 1 + 1, 0, none⟩ = some (.slice (some ⟨g3, 0, none⟩) 8 cp3) ∧ W.cell? ⟨g3, 0, none⟩ = some (.int .u8 (byteOf v 0).toNat)) _ _ (by kernel_rfl) rfl (by kernel_rfl) (fun _ _ _ _ _ h => h) ⟨c8, c10, e0⟩ ?_
  simp only [List.take_succ_cons, List.take_zero]
  refine wpHead_step (v := ?_) (by rfl) ?_ ?_
  rotate_left
  (focus ((intro w hSw; (try dsimp only at hSw); (try go_split_ands); go_simp); try with_reducible rfl))
  (try simp only [Act.put, List.setIfInBounds_toArray, List.set_cons_zero, List.set_cons_succ])
  refine wpHead_step (v := ?_) (by rfl) ?_ ?_
  rotate_left
  (focus ((intro w hSw; (try dsimp only at hSw); (try go_split_ands); go_simp); try with_reducible rfl))
  (try simp only [Act.put, List.setIfInBounds_toArray, List.set_cons_zero, List.set_cons_succ])
  refine wpHead_step (v := ?_) (by rfl) ?_ ?_
  rotate_left
  (focus ((intro w hSw; (try dsimp only at hSw); (try go_split_ands); go_simp); try with_reducible rfl))
  (try simp only [Act.put, List.setIfInBounds_toArray, List.set_cons_zero, List.set_cons_succ])
  refine wpHead_step (v := ?_) (by rfl) ?_ ?_
  rotate_left
  (focus ((intro w hSw; (try dsimp only at hSw); (try go_split_ands); go_simp); try with_reducible rfl))
  (try simp only [Act.put, List.setIfInBounds_toArray, List.set_cons_zero, List.set_cons_succ])
  refine wpHead_nil ?_
  go_wp2
  have hu3 : Upd (fun _ => False) u3 (u3.alloc (.cells #[.int .u8 (byteOf v 0).toNat] 5)).drew := ((Upd.refl _ _).alloc _).drew
  refine tailK_next ⟨(hs.b8.upd hu3 id).cell 0, (hs.b10.upd hu3 id).cell 0, World.ownsRow.cellAt (hs.r.upd hu3 (fun _ _ h => h)) 0 (by decide)⟩ ?_
  go_wp2_with (at_builtin; go_must (refine wpList_append_own_at _ rfl _ _ 24 rfl 0 5 i0 _ 1 1 Tryz.underlying24 hi hz0 hz1 hz2 rfl (by decide) _ _ _ rfl (hs.o.upd hu3 (fun _ _ h => h)) ⟨u3.heap.size, 0, none⟩ 1 1 (bytesV [byteOf v 0]) rfl rfl (news_blk (Blk.new _ _ _).drew) (bytesV_one _) (by unfold maxLen; omega) (by omega) (Nat.zero_le _) ?_; intro v' y3 hown' hgrow _ hat; obtain ⟨h1, d1, rfl, _, _⟩ := own_form hown' (by omega); rw [← bytesV_append] at hown'; obtain ⟨hs', b8, b10, rr⟩ := hs.pushO hu3 hgrow hown' (hat.imp (fun e => e.symm) (fun e => by simpa [Value.ownBlock] using e)); clear hown' hgrow hat))
  refine tailK_next ⟨b8.cell 0, b10.cell 0, World.ownsRow.cellAt rr 0 (by decide)⟩ ?_
  have k8 := b8.cell 0
  have z8 := b8.frozen 0
  go_wp2
  refine tailK_last (NoPanic.normal ?_)
  clear hu3 hs c8 c10 b8 b10 rr k8 z8 e0
  have hs := hs'
  generalize (World.setCell y3 _ _) = u4 at hs hs' ⊢
  have c10 := hs.b10.cell 0
  have hcap : 8 ≤ cp3 := own_cap hs.r
  go_wp2_with (go_at_call 171; refine (hK.out _ _ _ _).mono ?_; rintro e w' ⟨rfl, rfl⟩)
  have bb := Blk.new u4 24 #[.slice (some ⟨g3, 1, none⟩) 7 (cp3 - 1)]
  have hs := hs.alloc (.cells #[.slice (some ⟨g3, 1, none⟩) 7 (cp3 - 1)] 24)
  have hp8 : w1.heap.size < u4.heap.size := hs'.b8.lt
  generalize hU : World.alloc _ _ = U at hs bb ⊢
  generalize hBs : u4.heap.size = Bs at bb hp8 ⊢
  clear hU hBs c10 hK
  have hBU := bb.lt
  have hgU : g3 < U.heap.size := (World.ownsRow.lt hs.r g3 rfl).2
  have hwU := hs.u.size
  have hcell : ∀ x : Fin 7, U.cell? ⟨g3, 1 + x.val, none⟩ = some (.int .u8 (restAt [byteOf v 0, byteOf v 7, byteOf v 6, byteOf v 5, byteOf v 4, byteOf v 3, byteOf v 2, byteOf v 1] x.val).toNat) := by
    intro x
    rw [World.ownsRow.cellAt hs.r (1 + x.val) (by omega)]
    exact restAt_cell _ _ (by simp; omega)
  refine (wpIn_wide (n := 6)).1 ?_
  refine wpIn_rangeFunc_ownG rfl (by decide) (gf := 195) (lb := #[.pointer (some ⟨Bs, 0, none⟩)]) rfl trivial (enters_of Tryz.func195 (by kernel_rfl) rfl)
    (back_stops (6 - 1) (by decide) Bs g3 1 7 (cp3 - 1) (fun x => restAt [byteOf v 0, byteOf v 7, byteOf v 6, byteOf v 5, byteOf v 4, byteOf v 3, byteOf v 2, byteOf v 1] x.val) (by decide) U (bb.cell 0) hcell) Keep2.trans (fun W l o o' hl h1 _ _ => keep2_put hl hBU hgU) (Below.refl _ _) (fun _ => rfl)
    (fun pre W => (∃ A' c', PutS w W w.heap.size w1.heap.size (w1.heap.size + 1 + 1) v A' (n + 1 + pre.length) c' (l ++ [byteOf v 0] ++ pre.map fun x => restAt [byteOf v 0, byteOf v 7, byteOf v 6, byteOf v 5, byteOf v 4, byteOf v 3, byteOf v 2, byteOf v 1] x.val) (some ⟨g3, 0, none⟩) 8 cp3 [byteOf v 0, byteOf v 7, byteOf v 6, byteOf v 5, byteOf v 4, byteOf v 3, byteOf v 2, byteOf v 1]) ∧ Keep2 Bs g3 U W)
    (fun _ _ _ => False)
    (fun s X Y row hI hg hr => ⟨by obtain ⟨A', c', h⟩ := hI.1; exact ⟨A', c', h.noncells hg hr hwU⟩, hI.2.trans (keep2_grown hg (fun r e => (hr r e).1) hBU hgU hI.2.size)⟩)
    (fun _ _ _ _ _ hs _ _ => hs)
    ⟨⟨_, _, by simpa using hs⟩, Keep2.refl _ _ _⟩
    ?a1 ?assign ?body ?done ?stop
  case assign =>
    intro l x W K hK
    gi_wp2
    exact hK
  case body =>
    rintro lp pre x W ⟨⟨A', c', hI⟩, hKU⟩ hlen
    have hx := x.isLt
    have c8 := hI.b8.cell 0
    have c10 := hI.b10.cell 0
    have er : ∀ {W : World}, Bytes W (some ⟨g3, 0, none⟩) 8 cp3 [byteOf v 0, byteOf v 7, byteOf v 6, byteOf v 5, byteOf v 4, byteOf v 3, byteOf v 2, byteOf v 1] → W.cell? ⟨g3, x.val + 1, none⟩ = some (.int .u8 (restAt [byteOf v 0, byteOf v 7, byteOf v 6, byteOf v 5, byteOf v 4, byteOf v 3, byteOf v 2, byteOf v 1] x.val).toNat) := fun {W} h => by
      rw [World.ownsRow.cellAt h (x.val + 1) (by omega), Nat.add_comm]
      exact restAt_cell _ _ (by simp; omega)
    have e0 := er hI.r
    generalize hrest : restAt [byteOf v 0, byteOf v 7, byteOf v 6, byteOf v 5, byteOf v 4, byteOf v 3, byteOf v 2, byteOf v 1] x.val = rx at *
    generalize hxv : x.val = xv at *
    have hwr : IntKind.i64.wrap ((xv : Int) + 1) = xv + 1 := IntWalk.i64_in _ (by omega)
    have ht1 : ((xv : Int) + 1).toNat = xv + 1 := by omega
    have ht2 : (0 : Int) ≤ (xv : Int) + 1 := by omega
    have ht3 : (xv : Int) + 1 < 8 := by omega
    gi_wp2
    refine wpIn_region_head 6 (fun W => W.cell? ⟨w1.heap.size, 0, none⟩ = some (.slice A' (n + 1 + pre.length) c') ∧ W.cell? ⟨w1.heap.size + 1 + 1, 0, none⟩ = some (.slice (some ⟨g3, 0, none⟩) 8 cp3) ∧ W.cell? ⟨g3, xv + 1, none⟩ = some (.int .u8 rx.toNat)) _ _ (by kernel_rfl) (by kernel_rfl) (fun ⟨_, _, h⟩ => h) rfl (by kernel_rfl) (fun _ _ _ _ _ h => h) ⟨c8, c10, e0⟩ ?_
    simp only [List.take_succ_cons, List.take_zero]
    refine wpHead_step (v := ?_) (by rfl) ?_ ?_
    rotate_left
    (focus ((intro w hSw; (try dsimp only at hSw); (try go_split_ands); go_simp); try with_reducible rfl))
    (try simp only [Act.put, List.setIfInBounds_toArray, List.set_cons_zero, List.set_cons_succ])
    refine wpHead_step (v := ?_) (by rfl) ?_ ?_
    rotate_left
    (focus ((intro w hSw; (try dsimp only at hSw); (try go_split_ands); go_simp); try with_reducible rfl))
    (try simp only [Act.put, List.setIfInBounds_toArray, List.set_cons_zero, List.set_cons_succ])
    refine wpHead_step (v := ?_) (by rfl) ?_ ?_
    rotate_left
    (focus ((intro w hSw; (try dsimp only at hSw); (try go_split_ands); go_simp); try with_reducible rfl))
    (try simp only [Act.put, List.setIfInBounds_toArray, List.set_cons_zero, List.set_cons_succ])
    refine wpHead_step (v := ?_) (by rfl) ?_ ?_
    rotate_left
    (focus ((intro w hSw; (try dsimp only at hSw); (try go_split_ands); go_simp); try with_reducible rfl))
    (try simp only [Act.put, List.setIfInBounds_toArray, List.set_cons_zero, List.set_cons_succ])
    refine wpHead_step (v := ?_) (by rfl) ?_ ?_
    rotate_left
    (focus ((intro w hSw; (try dsimp only at hSw); (try go_split_ands); go_simp); try with_reducible rfl))
    (try simp only [Act.put, List.setIfInBounds_toArray, List.set_cons_zero, List.set_cons_succ])
    refine wpHead_step (v := ?_) (by rfl) ?_ ?_
    rotate_left
    (focus ((intro w hSw; (try dsimp only at hSw); (try go_split_ands); go_simp); try with_reducible rfl))
    (try simp only [Act.put, List.setIfInBounds_toArray, List.set_cons_zero, List.set_cons_succ])
    refine wpHead_nil ?_
    go_wp2
    have hu3 : Upd (fun _ => False) W (W.alloc (.cells #[.int .u8 rx.toNat] 5)).drew := ((Upd.refl _ _).alloc _).drew
    refine tailK_next ⟨(hI.b8.upd hu3 id).cell 0, (hI.b10.upd hu3 id).cell 0, er (hI.r.upd hu3 (fun _ _ h => h))⟩ ?_
    go_wp2_with (at_builtin; go_must (refine wpList_append_own_at _ rfl _ _ 24 rfl 0 5 i0 _ 1 1 Tryz.underlying24 hi hz0 hz1 hz2 rfl (by decide) _ _ _ rfl (hI.o.upd hu3 (fun _ _ h => h)) ⟨W.heap.size, 0, none⟩ 1 1 (bytesV [rx]) rfl rfl (news_blk (Blk.new _ _ _).drew) (bytesV_one _) (by unfold maxLen; omega) (by omega) (Nat.zero_le _) ?_; intro v' y hown' hgrow _ hat; obtain ⟨h1, d1, rfl, _, _⟩ := own_form hown' (by omega); rw [← bytesV_append] at hown'; obtain ⟨hs', b8, b10, rr⟩ := hI.pushO hu3 hgrow hown' (hat.imp (fun e => e.symm) (fun e => by simpa [Value.ownBlock] using e))))
    refine tailK_next ⟨b8.cell 0, b10.cell 0, er rr⟩ ?_
    have k8 := b8.cell 0
    have z8 := b8.frozen 0
    go_wp2
    refine tailK_last ?_
    have hBsW : Blk W Bs 24 _ := hKU.one.trans bb
    have oX := hI.o.upd hu3 (fun _ _ h => h)
    have k2 : Keep2 Bs g3 W (y.setCell ⟨w1.heap.size, 0, none⟩ (.slice (some ⟨h1, 0, none⟩) (n + 1 + pre.length + 1) d1)) := by
      refine ⟨by have := hu3.size; have := hgrow.size; simp; omega, ?_, ?_⟩
      · exact (Below.heap_setCell _ _ _ _ (by dsimp only; omega)).trans ((hgrow.block Bs (hBsW.upd hu3 id).lt (Ne.symm (own_blk_ne oX (hBsW.upd hu3 id) (by decide)))).trans (hu3.block Bs hBsW.lt id))
      · have hgl := (World.ownsRow.lt hI.r g3 rfl).2
        exact (Below.heap_setCell _ _ _ _ (fun e => own_blk_ne hI.r hI.b8 (by decide) (congrArg some e))).trans ((hgrow.block g3 (Nat.lt_of_lt_of_le hgl hu3.size) (fun e => hI.nrow _ e.symm rfl)).trans (hu3.block g3 hgl id))
    have hI2 : ∃ A' c', PutS w (y.setCell ⟨w1.heap.size, 0, none⟩ (.slice (some ⟨h1, 0, none⟩) (n + 1 + pre.length + 1) d1)) w.heap.size w1.heap.size (w1.heap.size + 1 + 1) v A' (n + 1 + (pre ++ [x]).length) c' (l ++ [byteOf v 0] ++ (pre ++ [x]).map fun x => restAt [byteOf v 0, byteOf v 7, byteOf v 6, byteOf v 5, byteOf v 4, byteOf v 3, byteOf v 2, byteOf v 1] x.val) (some ⟨g3, 0, none⟩) 8 cp3 [byteOf v 0, byteOf v 7, byteOf v 6, byteOf v 5, byteOf v 4, byteOf v 3, byteOf v 2, byteOf v 1] := by
      refine ⟨some ⟨h1, 0, none⟩, d1, ?_⟩
      rw [List.length_append, List.map_append, List.length_singleton, List.map_singleton, hxv, hrest, ← List.append_assoc, ← Nat.add_assoc]
      exact hs'
    exact ⟨⟨k2.size, fun k o _ hk ho => hI.keeps hu3 hgrow _ k o hk ho⟩, k2, hI2, hKU.trans k2⟩
  case done =>
    rintro D ys W hD hys ⟨⟨A', c', hI⟩, _⟩ hDD
    have c8 := hI.b8.cell 0
    go_wp2
    refine ⟨by simp, .inl ⟨_, _, rfl, run_takeDeferred hDD, ?_⟩⟩
    have hl3 : ys.length = 7 := by rw [← List.length_map (f := Fin.val), hys, downTo_len]
    have hI' := hI.noncells (grownBy_putObj' W D (.deferred none)) (fun r e => by cases e; exact ⟨hD, _, hDD, rfl⟩) hwU
    refine ⟨.tuple #[.slice A' (n + 1 + ys.length) c', .nilIface], by simp [results, Tryz.results137, go_sem], A', c', by rw [hl3], ?_, ?_, hI'.u⟩
    rotate_left
    · have hfo := hI'.fo
      rw [hl3] at hfo
      exact hfo
    have ho := hI'.o
    rw [hl3] at ho
    have hbs : [byteOf v 0] ++ ys.map (fun x => restAt [byteOf v 0, byteOf v 7, byteOf v 6, byteOf v 5, byteOf v 4, byteOf v 3, byteOf v 2, byteOf v 1] x.val) = le v 8 := by
      have : ys.map (fun x => restAt [byteOf v 0, byteOf v 7, byteOf v 6, byteOf v 5, byteOf v 4, byteOf v 3, byteOf v 2, byteOf v 1] x.val) = (ys.map Fin.val).map (fun k => restAt [byteOf v 0, byteOf v 7, byteOf v 6, byteOf v 5, byteOf v 4, byteOf v 3, byteOf v 2, byteOf v 1] k) := by simp
      rw [this, hys]
      rfl
    rw [List.append_assoc, hbs] at ho
    exact ho
  case stop =>
    rintro D c pre W _ _ h _
    exact h.elim
end Go.Proofs.YtlbmoafdialigaaGreatDoor
