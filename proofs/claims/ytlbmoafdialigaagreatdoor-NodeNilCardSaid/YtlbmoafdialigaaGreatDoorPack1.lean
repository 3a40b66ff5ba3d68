/- package pack: the small functions: sized, fits, part, slices.Clone of bytes. -/
import Derived.Test.YtlbmoafdialigaaGreatDoorKeep
import Derived.Test.YtlbmoafdialigaaGreatDoorHeld
import Derived.Lib.SliceRun
import Derived.Maps.AppendAt
import Derived.Deep.Onto
namespace Go.Proofs.YtlbmoafdialigaaGreatDoor
open Go Go.RowKit Go.MapKept

/-- Byte k of a number. -/
def byteOf (n k : Nat) : UInt8 := UInt8.ofNat (n / 2 ^ (8 * k))
theorem byteOf_toNat (n k : Nat) : (byteOf n k).toNat = n / 2 ^ (8 * k) % 256 := by simp [byteOf]

theorem part_any {w : World} {nb : Nat} {n : Nat} (k : Nat) (hk : k ≤ 7) (hn : n < 18446744073709551616) (hb : w.cell? ⟨nb, 0, none⟩ = some (.int .u64 n)) :
    Calls Tryz.prog 181 #[.int .i64 k, .pointer (some ⟨nb, 0, none⟩)] w fun e w' => e = .returned (.int .u8 (byteOf n k).toNat) ∧ w = w' := by
  go_enter Tryz.func181, Tryz.ntmps181
  go_wp2
  go_ret
  exact ⟨ret_int (by rw [byteOf_toNat]; simp), rfl⟩

theorem sized_4 (w : World) : Calls Tryz.prog 170 #[.int .i64 4] w fun e w' => e = .returned (.bool true) ∧ w = w' := by
  go_enter Tryz.func170, Tryz.ntmps170
  go_wp2
  go_ret
  exact ⟨rfl, rfl⟩
theorem sized_8 (w : World) : Calls Tryz.prog 170 #[.int .i64 8] w fun e w' => e = .returned (.bool true) ∧ w = w' := by
  go_enter Tryz.func170, Tryz.ntmps170
  go_wp2
  go_ret
  exact ⟨rfl, rfl⟩
theorem fits_4 {n : Nat} (hn : n < 4294967296) (w : World) : Calls Tryz.prog 179 #[.int .u64 n, .int .i64 4] w fun e w' => e = .returned (.bool true) ∧ w = w' := by
  have h : (n : Int) / 4294967296 = 0 := by omega
  go_enter Tryz.func179, Tryz.ntmps179
  go_wp2
  go_ret
  exact ⟨rfl, rfl⟩
theorem fits_8 (n : Nat) (w : World) : Calls Tryz.prog 179 #[.int .u64 n, .int .i64 8] w fun e w' => e = .returned (.bool true) ∧ w = w' := by
  go_enter Tryz.func179, Tryz.ntmps179
  go_wp2
  go_ret
  exact ⟨rfl, rfl⟩

theorem clone_nil (w : World) : Calls Tryz.prog 180 #[.slice none 0 0] w fun e w' => e = .returned (.slice none 0 0) ∧ w = w' := by
  have h := fun (W : World) => Lib.run_eql_slice_nil (P := Tryz.prog) W 24 5 none 0 0 0 0 Tryz.underlying24
  go_enter Tryz.func180, Tryz.ntmps180
  go_wp2
  go_ret
  exact ⟨rfl, rfl⟩

theorem clone_bytes {w : World} {A : Option Addr} {n c : Nat} {l : List UInt8} (h : Bytes w A n c l) (h0 : 0 < n) (hn : n ≤ 1000000000) :
    Calls Tryz.prog 180 #[.slice A n c] w fun e w' => ∃ A' c', e = .returned (.slice A' n c') ∧ Bytes w' A' n c' l ∧ (∀ k, (Value.slice A' n c').ownBlock = some k → w.heap.size ≤ k) ∧ Upd (fun _ => False) w w' := by
  obtain ⟨i0, hi, hz0, hz1, hz2⟩ := info_parts bytes_info
  obtain ⟨g, c', hv, _, _⟩ := own_form h h0
  obtain ⟨rfl, rfl⟩ : A = some ⟨g, 0, none⟩ ∧ c = c' := by injection hv with e1 e2 e3; exact ⟨e1, e3⟩
  clear hv
  have hq := fun (W : World) => Lib.run_eql_slice_nil (P := Tryz.prog) W 24 5 (some ⟨g, 0, none⟩) n c 0 0 Tryz.underlying24
  go_enter Tryz.func180, Tryz.ntmps180
  go_wp2_with (at_builtin; go_must (refine wpList_append_own_at _ rfl _ _ 24 rfl w.heap.size 5 i0 _ 1 1 Tryz.underlying24 hi hz0 hz1 hz2 rfl (by decide) _ _ _ rfl (World.ownsRow_made w #[] 0 (Nat.le_refl _) (Nat.zero_le _) rfl) ⟨g, 0, none⟩ n c (bytesV l) rfl (by rw [bytesV_len, h.len]; omega) ((h.alloc _).cells rfl) (bytesV_one l) (by unfold maxLen; omega) (by omega) (by simp) ?_; intro v' w2 hown' hgrow _ hat))
  go_ret
  obtain ⟨g', cap', rfl, hb, _⟩ := own_form hown' (by omega)
  rw [Nat.zero_add] at *
  exact ⟨_, _, rfl, (show Bytes w2 _ _ _ l from by simpa [Bytes] using World.ownsRow.mono hown' (Nat.zero_le _)), fun k hk => by simp [Value.ownBlock] at hk; omega, ((Upd.refl _ w).alloc _).grown hgrow (fun k e hk => by have e' : some w.heap.size = some k := e; injection e' with e'; omega)⟩
end Go.Proofs.YtlbmoafdialigaaGreatDoor
