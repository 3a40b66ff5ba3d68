/- A node: Start when it is up; Handle when it is down; Arm(0); Life, Vol. -/
import Derived.Test.YtlbmoafdialigaaGreatDoorNode1
namespace Go.Proofs.YtlbmoafdialigaaGreatDoor
open Go Go.RowKit Go.MapKept

section
variable {w : World} {nb place life d vm mm tb wm mn ml : Nat} {cap nx ar : Int} {dv : Value}
theorem start_busy (h : NodeB w nb place life true d vm mm tb wm) :
    Calls Tryz.prog 12 #[.pointer (some ⟨nb, 0, none⟩)] w fun e w' => e = .returned (.iface 72 (.int .i64 14)) ∧ w = w' := by
  obtain ⟨c0, c1, c2, c3, c4, c5, c6, c7⟩ := h.cells
  go_enter Tryz.func12, Tryz.ntmps12
  go_wp2
  go_ret
  exact ⟨rfl, rfl⟩
set_option maxRecDepth 100000 in
theorem handle_down (h : NodeB w nb place life true d vm mm tb wm) (hd : DiskB w d cap nx mn ml dv 0) (fr to kind vol lf id code : Int) (has : Bool) (key cookie : Int) (gone : Bool) (A : Option Addr) (n c : Nat) :
    Calls Tryz.prog 5 #[.pointer (some ⟨nb, 0, none⟩), msgV fr to kind vol lf id code has key cookie gone (.slice A n c)] w fun e w' => e = .returned (.tuple #[msgZ, .iface 72 (.int .i64 12)]) ∧ Upd (fun _ => False) w w' := by
  have HA := Lib.hid (fun (W : World) (a : NodeB W nb place life true d vm mm tb wm) (b : DiskB W d cap nx mn ml dv 0) => ask_down a b)
  unfold msgV
  go_enter Tryz.func5, Tryz.ntmps5
  go_wp2_with (go_at_call 22; refine (HA.out _ (Blk.alloc (Blk.alloc h _) _) (DiskB.alloc (DiskB.alloc hd _) _)).mono ?_; rintro e w' ⟨rfl, rfl⟩)
  refine bodyPost_ret (v := .tuple #[msgZ, .iface 72 (.int .i64 12)]) (by simp [results, Tryz.results5, go_sem, msgZ, msgV]) rfl ⟨rfl, ((Upd.refl _ _).alloc _).alloc _⟩
theorem arm_0 (h : NodeB w nb place life true d vm mm tb wm) (hd : DiskB w d cap nx mn ml dv ar) (ha : ar ≠ 0) :
    Calls Tryz.prog 10 #[.pointer (some ⟨nb, 0, none⟩), .int .i64 0] w fun e w' => e = .returned .nilIface ∧ DiskB w' d cap nx mn ml dv 0 ∧ Upd (fun k => k = d) w w' := by
  obtain ⟨c0, c1, c2, c3, c4, c5, c6, c7⟩ := h.cells
  have HA := Lib.hid (ask_up h hd ha)
  have HD := Lib.hid (diskArm_0 hd ha)
  go_enter Tryz.func10, Tryz.ntmps10
  go_wp2_with (first
    | (go_at_call 22; refine (HA.out).mono ?_; rintro e w' ⟨rfl, rfl⟩)
    | (go_at_call 34; refine (HD.out).mono ?_; rintro e w1 ⟨rfl, hd1, hu1⟩))
  go_ret
  exact ⟨rfl, hd1, hu1⟩
end
end Go.Proofs.YtlbmoafdialigaaGreatDoor
