/- errors.Is between two api.Codes; the laws' Code. -/
import Derived.Test.YtlbmoafdialigaaGreatDoorErr
import Derived.LoopN
import Derived.Lib.IfaceEq
namespace Go.Proofs.YtlbmoafdialigaaGreatDoor
open Go Go.RowKit Go.MapKept

theorem noIs (v : Value) (xT : TypeId) (w : World) : (Instr.typeAssert (.iface 72 v) xT 204 true).run Tryz.prog w = .ok (.tuple #[.nilIface, .bool false]) w := run_typeAssert_lacksB Tryz.underlying204 (by kernel_rfl) (by kernel_rfl) v xT w
theorem noUnwrap (v : Value) (xT : TypeId) (w : World) : (Instr.typeAssert (.iface 72 v) xT 207 true).run Tryz.prog w = .ok (.tuple #[.nilIface, .bool false]) w := run_typeAssert_lacksB Tryz.underlying207 (by kernel_rfl) (by kernel_rfl) v xT w
theorem noUnwraps (v : Value) (xT : TypeId) (w : World) : (Instr.typeAssert (.iface 72 v) xT 208 true).run Tryz.prog w = .ok (.tuple #[.nilIface, .bool false]) w := run_typeAssert_lacksB Tryz.underlying208 (by kernel_rfl) (by kernel_rfl) v xT w
theorem eqCode (n k : Int) (w : World) : (binOp .eql 36 (.iface 72 (.int .i64 n)) (.iface 72 (.int .i64 k))).run Tryz.prog w = .ok (.bool (n == k)) w := Lib.run_eql_iface_int w n k Tryz.underlying36 (by kernel_rfl) Tryz.underlying72
theorem x_cmpC (w : World) : (method 486 202 (.agg #[.pointer (some ⟨5, 72, none⟩)]) "Comparable").run Tryz.prog w = .ok (300, .agg #[.pointer (some ⟨5, 72, none⟩)]) w := by kernel_rfl
theorem x_cmp1 (w : World) : (callFunc 300 #[.agg #[.pointer (some ⟨5, 72, none⟩)]]).run Tryz.prog w = .ok (.value (.bool true)) w := by kernel_rfl

set_option maxRecDepth 100000 in
theorem is1_code (n k : Int) (w : World) : Calls Tryz.prog 57 #[.iface 72 (.int .i64 n), .iface 72 (.int .i64 k), .bool true] w fun e w' => e = .returned (.bool (n == k)) ∧ w = w' := by
  have h1 := fun W => eqCode n k W
  have h2 := fun W => noIs (.int .i64 n) 36 W
  have h3 := fun W => noUnwrap (.int .i64 n) 36 W
  have h4 := fun W => noUnwraps (.int .i64 n) 36 W
  cases hb : (n == k)
  all_goals
    rw [hb] at h1
    go_enter Tryz.func57, Tryz.ntmps57
    go_wp2_with fail
    refine wp_loop_rounds 1 ?_
    rw [rounds_succ]
    go_wp2
    go_ret
    exact ⟨rfl, rfl⟩
set_option maxRecDepth 100000 in
theorem is_code (n k : Int) (w : World) : Calls Tryz.prog 32 #[.iface 72 (.int .i64 n), .iface 72 (.int .i64 k)] w fun e w' => e = .returned (.bool (n == k)) ∧ w = w' := by
  have h1 := fun W => x_typeOf k W
  have h2 := fun W => x_cmpC W
  have h3 := fun W => x_cmp1 W
  unfold rt at h1
  have HI := Lib.hid (fun W => is1_code n k W)
  go_enter Tryz.func32, Tryz.ntmps32
  go_wp2_with (go_at_call 57; refine (HI.out _).mono ?_; rintro e w' ⟨rfl, rfl⟩)
  go_ret
  exact ⟨rfl, rfl⟩

theorem lawCode_nil (w : World) : Calls Tryz.prog 8 #[.nilIface] w fun e w' => e = .returned (.int .i64 0) ∧ w = w' := by
  go_enter Tryz.func8, Tryz.ntmps8
  go_wp2
  go_ret
  exact ⟨rfl, rfl⟩
set_option maxRecDepth 100000 in
theorem lawCode (n : Nat) (h1 : 1 ≤ n) (h2 : n ≤ 17) (w : World) : Calls Tryz.prog 8 #[.iface 72 (.int .i64 n)] w fun e w' => e = .returned (.int .i64 n) ∧ w = w' := by
  have HI := Lib.hid (fun k W => is_code n k W)
  go_enter Tryz.func8, Tryz.ntmps8
  go_wp2_with fail
  go_loop [3] (fun i => ∃ k : Nat, 1 ≤ k ∧ k ≤ n ∧ i = .int .i64 k) (fun i => n - (intOf i).toNat)
  case atStart => exact ⟨1, Nat.le_refl _, h1, rfl⟩
  case round =>
    obtain ⟨k, hk1, hk2, rfl⟩ := hrel
    have hle : (k : Int) ≤ 17 := by omega
    by_cases hkn : k = n
    · have hb : ((n : Int) == (k : Int)) = true := by simp [hkn]
      go_wp2_with (go_at_call 32; refine (HI.out _ _).mono ?_; rintro e w' ⟨rfl, rfl⟩)
      go_ret
      exact ⟨ret_int (by omega), rfl⟩
    · have hb : ((n : Int) == (k : Int)) = false := by simp; omega
      go_wp2_with (go_at_call 32; refine (HI.out _ _).mono ?_; rintro e w' ⟨rfl, rfl⟩)
      go_round
      case rel => exact ⟨k + 1, by omega, by omega, by go_num⟩
      case measure => simp [intOf]; omega
end Go.Proofs.YtlbmoafdialigaaGreatDoor
