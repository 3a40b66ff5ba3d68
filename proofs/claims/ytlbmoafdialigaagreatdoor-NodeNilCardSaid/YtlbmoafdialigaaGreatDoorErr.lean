/- node.code: errors.As at a target of type *api.Code. -/
import Derived.Test.YtlbmoafdialigaaGreatDoorDisk1
import Derived.Stop.Asserts
import Derived.Great.BuildSlice
namespace Go.Proofs.YtlbmoafdialigaaGreatDoor
open Go Go.RowKit Go.MapKept

theorem as_nil (t : Value) (w : World) : Calls Tryz.prog 53 #[.nilIface, t] w fun e w' => e = .returned (.bool false) ∧ w = w' := by
  go_enter Tryz.func53, Tryz.ntmps53
  go_wp2
  go_ret
  exact ⟨rfl, rfl⟩

theorem code_nil (w : World) : Calls Tryz.prog 29 #[.nilIface] w fun e w' => e = .returned (.int .i64 0) ∧ Upd (fun _ => False) w w' := by
  go_enter Tryz.func29, Tryz.ntmps29
  go_wp2_with (go_at_call 53; refine (as_nil _ _).mono ?_; rintro e w' ⟨rfl, rfl⟩)
  go_ret
  exact ⟨rfl, (Upd.refl _ _).alloc _⟩

def rt (t : Nat) : Value := .iface 202 (.agg #[.pointer (some ⟨5, t, none⟩)])
theorem x_valueOf (p : Option Addr) (w : World) : (callFunc 88 #[.iface 127 (.pointer p)]).run Tryz.prog w =
    .ok (.value (.agg #[.pointer (some ⟨5, 127, none⟩), .pointer (some ⟨w.heap.size, 0, none⟩), .int .u64 150])) (w.alloc (.cells #[.pointer p] 127)) := by kernel_rfl
theorem x_valueOfC (n : Int) (w : World) : (callFunc 88 #[.iface 72 (.int .i64 n)]).run Tryz.prog w =
    .ok (.value (.agg #[.pointer (some ⟨5, 72, none⟩), .pointer (some ⟨w.heap.size, 0, none⟩), .int .u64 130])) (w.alloc (.cells #[.int .i64 n] 72)) := by kernel_rfl
theorem x_type (b : Nat) (w : World) : (callFunc 89 #[.agg #[.pointer (some ⟨5, 127, none⟩), .pointer (some ⟨b, 0, none⟩), .int .u64 150]]).run Tryz.prog w = .ok (.value (rt 127)) w := by kernel_rfl
theorem x_typeOf (n : Int) (w : World) : (callFunc 56 #[.iface 72 (.int .i64 n)]).run Tryz.prog w = .ok (.value (rt 72)) w := by kernel_rfl

theorem m_of (t : Nat) : True := trivial
theorem x_kindP (w : World) : (method 486 202 (.agg #[.pointer (some ⟨5, 127, none⟩)]) "Kind").run Tryz.prog w = .ok (246, .pointer (some ⟨5, 127, none⟩)) w := by kernel_rfl
theorem x_kindC (w : World) : (method 486 202 (.agg #[.pointer (some ⟨5, 72, none⟩)]) "Kind").run Tryz.prog w = .ok (246, .pointer (some ⟨5, 72, none⟩)) w := by kernel_rfl
theorem x_elemP (w : World) : (method 486 202 (.agg #[.pointer (some ⟨5, 127, none⟩)]) "Elem").run Tryz.prog w = .ok (301, .agg #[.pointer (some ⟨5, 127, none⟩)]) w := by kernel_rfl
theorem x_implC (w : World) : (method 486 202 (.agg #[.pointer (some ⟨5, 72, none⟩)]) "Implements").run Tryz.prog w = .ok (302, .agg #[.pointer (some ⟨5, 72, none⟩)]) w := by kernel_rfl
theorem x_asgC (w : World) : (method 486 202 (.agg #[.pointer (some ⟨5, 72, none⟩)]) "AssignableTo").run Tryz.prog w = .ok (299, .agg #[.pointer (some ⟨5, 72, none⟩)]) w := by kernel_rfl
theorem x_kind1 (w : World) : (callFunc 246 #[.pointer (some ⟨5, 127, none⟩)]).run Tryz.prog w = .ok (.value (.int .u8 22)) w := by kernel_rfl
theorem x_kind2 (w : World) : (callFunc 246 #[.pointer (some ⟨5, 72, none⟩)]).run Tryz.prog w = .ok (.value (.int .u8 2)) w := by kernel_rfl
theorem x_elem1 (w : World) : (callFunc 301 #[.agg #[.pointer (some ⟨5, 127, none⟩)]]).run Tryz.prog w = .ok (.value (rt 72)) w := by kernel_rfl
theorem x_impl1 (w : World) : (callFunc 302 #[.agg #[.pointer (some ⟨5, 72, none⟩)], rt 36]).run Tryz.prog w = .ok (.value (.bool true)) w := by kernel_rfl
theorem x_asg1 (w : World) : (callFunc 299 #[.agg #[.pointer (some ⟨5, 72, none⟩)], rt 72]).run Tryz.prog w = .ok (.value (.bool true)) w := by kernel_rfl

theorem lv_ptr {w : World} {b c : Nat} (h : w.heap[b]? = some (.cells #[.pointer (some ⟨c, 0, none⟩)] 127 (0, 0))) : (loadVar 127 ⟨b, 0, none⟩).run Tryz.prog w = .ok (.pointer (some ⟨c, 0, none⟩)) w := by
  have hc : w.cell? ⟨b, 0, none⟩ = some (.pointer (some ⟨c, 0, none⟩)) := cell_of_row w b 0 _ _ (0, 0) h
  go_simp
theorem x_isNil {w : World} {b c : Nat} (h : w.heap[b]? = some (.cells #[.pointer (some ⟨c, 0, none⟩)] 127 (0, 0))) :
    (callFunc 90 #[.agg #[.pointer (some ⟨5, 127, none⟩), .pointer (some ⟨b, 0, none⟩), .int .u64 150]]).run Tryz.prog w = .ok (.value (.bool false)) w := by
  have hl := lv_ptr h
  rw [run_callFunc_extern Tryz.func90 (by kernel_rfl) (by kernel_rfl) (by kernel_rfl) (e := Extern.ReflectliteValue.method (Extern.ReflectliteValue.valueError "reflectlite.Value.IsNil" 0) Extern.ReflectliteValue.isNil) (by kernel_rfl)]
  have h3 : (Extern.ReflectliteValue.method (Extern.ReflectliteValue.valueError "reflectlite.Value.IsNil" 0) Extern.ReflectliteValue.isNil #[.agg #[.pointer (some ⟨5, 127, none⟩), .pointer (some ⟨b, 0, none⟩), .int .u64 150]]).run Tryz.prog w =
      (Extern.ReflectliteValue.isNil 127 ⟨b, 0, none⟩ 150 22).run Tryz.prog w := by kernel_rfl
  rw [h3]
  simp [Extern.ReflectliteValue.isNil, hl]
theorem x_elemV {w : World} {b c : Nat} (h : w.heap[b]? = some (.cells #[.pointer (some ⟨c, 0, none⟩)] 127 (0, 0))) :
    (callFunc 131 #[.agg #[.pointer (some ⟨5, 127, none⟩), .pointer (some ⟨b, 0, none⟩), .int .u64 150]]).run Tryz.prog w =
      .ok (.value (.agg #[.pointer (some ⟨5, 72, none⟩), .pointer (some ⟨c, 0, none⟩), .int .u64 386])) w := by
  have hl := lv_ptr h
  rw [run_callFunc_extern Tryz.func131 (by kernel_rfl) (by kernel_rfl) (by kernel_rfl) (e := Extern.ReflectliteValue.method (Extern.ReflectliteValue.valueError "reflectlite.Value.Elem" 0) Extern.ReflectliteValue.elem) (by kernel_rfl)]
  have h3 : (Extern.ReflectliteValue.method (Extern.ReflectliteValue.valueError "reflectlite.Value.Elem" 0) Extern.ReflectliteValue.elem #[.agg #[.pointer (some ⟨5, 127, none⟩), .pointer (some ⟨b, 0, none⟩), .int .u64 150]]).run Tryz.prog w =
      (Extern.ReflectliteValue.elem 127 ⟨b, 0, none⟩ 150 22).run Tryz.prog w := by kernel_rfl
  rw [h3]
  have he : (Extern.Rtype.elem? 127).run Tryz.prog w = .ok (some 72) w := by kernel_rfl
  have hm : (Extern.ReflectliteValue.mk 72 ⟨c, 0, none⟩ Extern.ReflectliteValue.flagAddr).run Tryz.prog w = .ok (.agg #[.pointer (some ⟨5, 72, none⟩), .pointer (some ⟨c, 0, none⟩), .int .u64 386]) w := by kernel_rfl
  simp [Extern.ReflectliteValue.elem, hl, he, hm]
theorem x_set {w : World} {b c : Nat} {n o : Int} (h : w.heap[b]? = some (.cells #[.int .i64 n] 72 (0, 0))) (hc : w.heap[c]? = some (.cells #[.int .i64 o] 72 (0, 0))) :
    (callFunc 132 #[.agg #[.pointer (some ⟨5, 72, none⟩), .pointer (some ⟨c, 0, none⟩), .int .u64 386], .agg #[.pointer (some ⟨5, 72, none⟩), .pointer (some ⟨b, 0, none⟩), .int .u64 130]]).run Tryz.prog w =
      .ok (.value (.tuple #[])) (w.setRow c #[.int .i64 n]) := by
  have hb : w.cell? ⟨b, 0, none⟩ = some (.int .i64 n) := cell_of_row w b 0 _ _ (0, 0) h
  have hl : (loadVar 72 ⟨b, 0, none⟩).run Tryz.prog w = .ok (.int .i64 n) w := by go_simp
  have hs : (storeVar 72 ⟨c, 0, none⟩ (.int .i64 n)).run Tryz.prog w = .ok () (w.setRow c #[.int .i64 n]) := run_storeVar_one w c _ _ _ _ hc (by kernel_rfl) rfl
  rw [run_callFunc_extern Tryz.func132 (by kernel_rfl) (by kernel_rfl) (by kernel_rfl) (e := Extern.ReflectliteValue.set) (by kernel_rfl)]
  have h3 : (Extern.ReflectliteValue.set #[.agg #[.pointer (some ⟨5, 72, none⟩), .pointer (some ⟨c, 0, none⟩), .int .u64 386], .agg #[.pointer (some ⟨5, 72, none⟩), .pointer (some ⟨b, 0, none⟩), .int .u64 130]]).run Tryz.prog w =
      (do let val ← loadVar 72 ⟨b, 0, none⟩; storeVar 72 ⟨c, 0, none⟩ val; pure (Value.tuple #[])).run Tryz.prog w := by kernel_rfl
  rw [h3]
  simp [hl, hs]
end Go.Proofs.YtlbmoafdialigaaGreatDoor
