/- node.do of a Put that went through, or met a full disk. -/
import Derived.Test.YtlbmoafdialigaaGreatDoorNode3
import Derived.Test.YtlbmoafdialigaaGreatDoorErr2
import Derived.Test.YtlbmoafdialigaaGreatDoorStore
namespace Go.Proofs.YtlbmoafdialigaaGreatDoor
open Go Go.RowKit Go.MapKept

def ndZ : Value := .agg #[.int .u64 0, .int .u32 0, .bool false, .slice none 0 0]
set_option maxRecDepth 100000 in
set_option maxHeartbeats 4000000 in
theorem do_put_ok {w : World} {vb : Nat} {fr to vol life id key cookie : Int} {A : Option Addr} {n c : Nat} {R : World → Prop} {S : Nat → Prop} (hS : ∀ k, S k → k < w.heap.size)
    (hp : ∀ W, Upd (fun _ => False) w W → Calls Tryz.prog 49 #[.pointer (some ⟨vb, 0, none⟩), .agg #[.int .u64 key, .int .u32 cookie, .bool false, .slice A n c]] W fun e w' => e = .returned .nilIface ∧ R w' ∧ Upd S W w') :
    Calls Tryz.prog 27 #[.pointer (some ⟨vb, 0, none⟩), msgV fr to 1 vol life id 0 true key cookie false (.slice A n c)] w fun e w' => e = .returned (.tuple #[ndZ, .bool false, .nilIface]) ∧ ∃ w1, R w1 ∧ Blk w1 (w.heap.size + 1) 32 #[.int .u64 0, .int .u32 0, .bool false, .slice none 0 0] ∧ Upd (fun k => k = w.heap.size + 1) w1 w' := by
  have HP := Lib.hid hp
  have HC := Lib.hid (fun W => code_nil W)
  clear hp
  unfold msgV
  go_enter Tryz.func27, Tryz.ntmps27
  go_wp2_with fail
  generalize hw0 : World.alloc _ _ = w0
  have hu0 : Upd (fun _ => False) w w0 := hw0 ▸ (((Upd.refl _ w).alloc _).alloc _).alloc _
  have b4 : Blk w0 (w.heap.size + 1) 32 #[.int .u64 0, .int .u32 0, .bool false, .slice none 0 0] := hw0 ▸ (Blk.new1 w _ _ _).alloc _
  have b7 : Blk w0 (w.heap.size + 1 + 1) 32 #[.int .u64 0, .int .u32 0, .bool false, .slice none 0 0] := hw0 ▸ Blk.new2 w _ _ _ _
  clear hw0
  refine (HP.out w0 hu0).mono ?_
  rintro e w1 ⟨rfl, hR, hu1⟩
  have b41 := b4.upd hu1 (fun h => by have := hS _ h; omega)
  have b71 := b7.upd hu1 (fun h => by have := hS _ h; omega)
  go_wp2_with fail
  refine (HC.out w1).mono ?_
  rintro e w2 ⟨rfl, hu2⟩
  have b42 := b41.upd hu2 (fun h => h)
  have b72 := b71.upd hu2 (fun h => h)
  have k0 := b72.cell 0
  have k1 := b72.cell 1
  have k2 := b72.cell 2
  have k3 := b72.cell 3
  go_wp2_with (refine wpList_store_blk rfl _ _ _ rfl _ _ _ #[.int .u64 0, .int .u32 0, .bool false, .slice none 0 0] rfl rfl b42 rfl (by kernel_rfl) (by simp [Value.oneCell']) ?_; intro w3 b43 hu3)
  have q0 := b43.cell 0
  have q1 := b43.cell 1
  have q2 := b43.cell 2
  have q3 := b43.cell 3
  refine bodyPost_ret (v := .tuple #[ndZ, .bool false, .nilIface]) (by simp [results, Tryz.results27, go_sem, ndZ, q0, q1, q2, q3]) rfl ⟨rfl, w1, hR, b41, ?_⟩
  exact (hu2.mono (fun _ _ h => h.elim)).then hu3 (fun _ _ h => h)
set_option maxRecDepth 100000 in
set_option maxHeartbeats 4000000 in
theorem do_put_full {w : World} {vb : Nat} {fr to vol life id key cookie : Int} {A : Option Addr} {n c : Nat} (hg : w.cell? ⟨0, 0, none⟩ = some (rt 36))
    (hp : ∀ W, Upd (fun _ => False) w W → Calls Tryz.prog 49 #[.pointer (some ⟨vb, 0, none⟩), .agg #[.int .u64 key, .int .u32 cookie, .bool false, .slice A n c]] W fun e w' => e = .returned (.iface 72 (.int .i64 11)) ∧ Upd (fun _ => False) W w') :
    Calls Tryz.prog 27 #[.pointer (some ⟨vb, 0, none⟩), msgV fr to 1 vol life id 0 true key cookie false (.slice A n c)] w fun e w' => e = .returned (.tuple #[ndZ, .bool false, .iface 72 (.int .i64 11)]) ∧ Upd (fun _ => False) w w' := by
  have HP := Lib.hid hp
  have HC := Lib.hid (fun (W : World) (h : W.cell? ⟨0, 0, none⟩ = some (rt 36)) => code_code 11 h)
  clear hp
  unfold msgV
  go_enter Tryz.func27, Tryz.ntmps27
  go_wp2_with fail
  generalize hw0 : World.alloc _ _ = w0
  have hu0 : Upd (fun _ => False) w w0 := hw0 ▸ (((Upd.refl _ w).alloc _).alloc _).alloc _
  have b4 : Blk w0 (w.heap.size + 1) 32 #[.int .u64 0, .int .u32 0, .bool false, .slice none 0 0] := hw0 ▸ (Blk.new1 w _ _ _).alloc _
  have b7 : Blk w0 (w.heap.size + 1 + 1) 32 #[.int .u64 0, .int .u32 0, .bool false, .slice none 0 0] := hw0 ▸ Blk.new2 w _ _ _ _
  clear hw0
  refine (HP.out w0 hu0).mono ?_
  rintro e w1 ⟨rfl, hu1⟩
  have b41 := b4.upd hu1 (fun h => h)
  have b71 := b7.upd hu1 (fun h => h)
  go_wp2_with fail
  refine (HC.out w1 (cell_upd0 (hu0.then hu1 (fun _ _ h => h)) hg)).mono ?_
  rintro e w2 ⟨rfl, hu2⟩
  have b42 := b41.upd hu2 (fun h => h)
  have b72 := b71.upd hu2 (fun h => h)
  have k0 := b72.cell 0
  have k1 := b72.cell 1
  have k2 := b72.cell 2
  have k3 := b72.cell 3
  go_wp2_with (refine wpList_store_blk rfl _ _ _ rfl _ _ _ #[.int .u64 0, .int .u32 0, .bool false, .slice none 0 0] rfl rfl b42 rfl (by kernel_rfl) (by simp [Value.oneCell']) ?_; intro w3 b43 hu3)
  have q0 := b43.cell 0
  have q1 := b43.cell 1
  have q2 := b43.cell 2
  have q3 := b43.cell 3
  refine bodyPost_ret (v := .tuple #[ndZ, .bool false, .iface 72 (.int .i64 11)]) (by simp [results, Tryz.results27, go_sem, ndZ, q0, q1, q2, q3]) rfl ⟨rfl, ?_⟩
  exact ((hu0.then hu1 (fun _ _ h => h)).then hu2 (fun _ _ h => h)).then hu3 (fun i hi e => by have e : i = w.heap.size + 1 := e; omega)
end Go.Proofs.YtlbmoafdialigaaGreatDoor
