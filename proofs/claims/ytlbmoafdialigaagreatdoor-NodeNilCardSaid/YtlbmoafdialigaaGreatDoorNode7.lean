/- Small calls of NodeNil: law14.Of, node.New of no place, wire.Same of two alike, node.Vol, law09.Far of nothing. -/
import Derived.Test.YtlbmoafdialigaaGreatDoorNode6
import Derived.Test.YtlbmoafdialigaaGreatDoorIs
import Derived.Test.YtlbmoafdialigaaGreatDoorVol3
namespace Go.Proofs.YtlbmoafdialigaaGreatDoor
open Go Go.RowKit Go.MapKept

set_option maxRecDepth 100000 in
theorem of14 (fr dst kind vol life id code : Int) (has : Bool) (key cookie : Int) (gone : Bool) (A : Option Addr) (n c : Nat) (w : World) :
    Calls Tryz.prog 6 #[msgV fr dst kind vol life id code has key cookie gone (.slice A n c)] w fun e w' => e = .returned (msgV fr dst kind vol life id code has key cookie gone (.slice A n c)) ∧ Upd (fun _ => False) w w' := by
  unfold msgV
  go_enter Tryz.func6, Tryz.ntmps6
  go_wp2
  refine bodyPost_ret (v := msgV fr dst kind vol life id code has key cookie gone (.slice A n c)) (by simp [results, Tryz.results6, go_sem, msgV]) rfl ⟨rfl, ?_⟩
  exact ((Upd.refl _ w).alloc _).alloc _

theorem nodeNew_bad (w : World) : Calls Tryz.prog 18 #[.int .i64 256, .int .i64 0] w fun e w' => e = .returned (.tuple #[.pointer none, .iface 72 (.int .i64 1)]) ∧ w = w' := by
  go_enter Tryz.func18, Tryz.ntmps18
  go_wp2
  go_ret2
  exact ⟨rfl, rfl⟩

set_option maxRecDepth 100000 in
theorem wireSame_same (fr dst kind vol life id code : Int) (has : Bool) (w : World) :
    Calls Tryz.prog 21 #[msgV fr dst kind vol life id code has 0 0 false (.slice none 0 0), msgV fr dst kind vol life id code has 0 0 false (.slice none 0 0)] w fun e w' => e = .returned (.bool true) ∧ Upd (fun _ => False) w w' := by
  have HS := Lib.hid (fun W => same_nil W)
  unfold msgV
  go_enter Tryz.func21, Tryz.ntmps21
  go_wp2_with (go_at_call 44; refine (HS.out _).mono ?_; rintro e w1 ⟨rfl, hu1⟩)
  go_ret
  exact ⟨rfl, (((Upd.refl _ w).alloc _).alloc _).then hu1 (fun _ _ h => h)⟩

theorem vol_of {w : World} {nb place d vm mm tb wm vb v : Nat} (h : NodeB w nb place 0 true d vm mm tb wm) (hvm : MBlk w vm #[{ key := .int .i64 v, val := .pointer (some ⟨vb, 0, none⟩), born := 0 }] 1) :
    Calls Tryz.prog 15 #[.pointer (some ⟨nb, 0, none⟩), .int .i64 v] w fun e w' => e = .returned (.pointer (some ⟨vb, 0, none⟩)) ∧ w = w' := by
  have c4 : w.cell? ⟨nb, 4, none⟩ = some (.map (some vm)) := Blk.cell h 4
  have hl := run_lookup_some (P := Tryz.prog) (d := .int .i64) (key := .int .i64 v) (i := 0) (v := .pointer (some ⟨vb, 0, none⟩)) Tryz.underlying66 Tryz.underlying3 rfl hvm (by simp [Instr.findNow, Instr.sameNow])
  go_enter Tryz.func15, Tryz.ntmps15
  go_wp2
  go_ret
  exact ⟨rfl, rfl⟩

theorem far_nil (w : World) : Calls Tryz.prog 20 #[.slice none 0 0] w fun e w' => e = .returned (.bool false) ∧ w = w' := by
  go_enter Tryz.func20, Tryz.ntmps20
  go_wp2
  go_loop [3] (fun i => i = .int .i64 0) (fun _ => 0)
  case atStart => rfl
  case round =>
    obtain rfl := hrel
    go_wp2
    go_ret
    exact ⟨rfl, rfl⟩
end Go.Proofs.YtlbmoafdialigaaGreatDoor
