/- A live node and a down one: Up, ask; Arm; Work, Start, Make when down; bytes.Clone of nil, once.own. -/
import Derived.Test.YtlbmoafdialigaaGreatDoorWire
namespace Go.Proofs.YtlbmoafdialigaaGreatDoor
open Go Go.RowKit Go.MapKept

theorem bclone_nil (w : World) : Calls Tryz.prog 78 #[.slice none 0 0] w fun e w' => e = .returned (.slice none 0 0) ∧ w = w' := by
  have h := fun (W : World) => Lib.run_eql_slice_nil (P := Tryz.prog) W 24 5 none 0 0 0 0 Tryz.underlying24
  go_enter Tryz.func78, Tryz.ntmps78
  go_wp2
  go_ret
  exact ⟨rfl, rfl⟩
set_option maxRecDepth 100000 in
theorem own_nil (fr to kind vol life id code : Int) (has : Bool) (key cookie : Int) (gone : Bool) (w : World) :
    Calls Tryz.prog 47 #[msgV fr to kind vol life id code has key cookie gone (.slice none 0 0)] w fun e w' => e = .returned (msgV fr to kind vol life id code has key cookie gone (.slice none 0 0)) ∧ Upd (fun _ => False) w w' := by
  have HB := Lib.hid (fun W => bclone_nil W)
  unfold msgV
  go_enter Tryz.func47, Tryz.ntmps47
  go_wp2_with (go_at_call 78; refine (HB.out _).mono ?_; rintro e w' ⟨rfl, rfl⟩)
  refine bodyPost_ret (v := msgV fr to kind vol life id code has key cookie gone (.slice none 0 0)) (by simp [results, Tryz.results47, go_sem, msgV]) rfl ⟨rfl, ?_⟩
  first
    | exact ((Upd.refl _ _).alloc _).alloc _
    | exact (((Upd.refl _ w).alloc _).alloc _).setCell (fun h => by simp at h) _

theorem NodeB.cells {w : World} {nb place life : Nat} {up : Bool} {d vm mm tb wm : Nat} (h : NodeB w nb place life up d vm mm tb wm) :
    w.cell? ⟨nb, 0, none⟩ = some (.int .i64 place) ∧ w.cell? ⟨nb, 1, none⟩ = some (.int .i64 life) ∧ w.cell? ⟨nb, 2, none⟩ = some (.bool up) ∧ w.cell? ⟨nb, 3, none⟩ = some (.pointer (some ⟨d, 0, none⟩)) ∧
    w.cell? ⟨nb, 4, none⟩ = some (.map (some vm)) ∧ w.cell? ⟨nb, 5, none⟩ = some (.map (some mm)) ∧ w.cell? ⟨nb, 6, none⟩ = some (.pointer (some ⟨tb, 0, none⟩)) ∧ w.cell? ⟨nb, 7, none⟩ = some (.map (some wm)) :=
  ⟨Blk.cell h 0, Blk.cell h 1, Blk.cell h 2, Blk.cell h 3, Blk.cell h 4, Blk.cell h 5, Blk.cell h 6, Blk.cell h 7⟩

section
variable {w : World} {nb place life d vm mm tb wm mn ml : Nat} {cap nx ar : Int} {dv : Value}
theorem nodeUp (h : NodeB w nb place life true d vm mm tb wm) (hd : DiskB w d cap nx mn ml dv ar) :
    Calls Tryz.prog 13 #[.pointer (some ⟨nb, 0, none⟩)] w fun e w' => e = .returned (.bool (!(ar == 0))) ∧ w = w' := by
  obtain ⟨c0, c1, c2, c3, c4, c5, c6, c7⟩ := h.cells
  have HD := Lib.hid (down_of hd)
  cases hb : (ar == 0)
  all_goals
    rw [hb] at HD
    go_enter Tryz.func13, Tryz.ntmps13
    go_wp2_with (go_at_call 28; refine (HD.out).mono ?_; rintro e w' ⟨rfl, rfl⟩)
    go_ret
    exact ⟨rfl, rfl⟩
theorem ask_up (h : NodeB w nb place life true d vm mm tb wm) (hd : DiskB w d cap nx mn ml dv ar) (ha : ar ≠ 0) :
    Calls Tryz.prog 22 #[.pointer (some ⟨nb, 0, none⟩)] w fun e w' => e = .returned .nilIface ∧ w = w' := by
  have hb : (ar == 0) = false := by simpa using ha
  have HU := Lib.hid (nodeUp h hd)
  rw [hb] at HU
  go_enter Tryz.func22, Tryz.ntmps22
  go_wp2_with (go_at_call 13; refine (HU.out).mono ?_; rintro e w' ⟨rfl, rfl⟩)
  go_ret
  exact ⟨rfl, rfl⟩
theorem ask_down (h : NodeB w nb place life true d vm mm tb wm) (hd : DiskB w d cap nx mn ml dv 0) :
    Calls Tryz.prog 22 #[.pointer (some ⟨nb, 0, none⟩)] w fun e w' => e = .returned (.iface 72 (.int .i64 12)) ∧ w = w' := by
  have HU := Lib.hid (nodeUp h hd)
  have hb : ((0 : Int) == 0) = true := rfl
  rw [hb] at HU
  go_enter Tryz.func22, Tryz.ntmps22
  go_wp2_with (go_at_call 13; refine (HU.out).mono ?_; rintro e w' ⟨rfl, rfl⟩)
  go_ret
  exact ⟨rfl, rfl⟩
theorem make_down (h : NodeB w nb place life true d vm mm tb wm) (hd : DiskB w d cap nx mn ml dv 0) (a b : Int) :
    Calls Tryz.prog 9 #[.pointer (some ⟨nb, 0, none⟩), .int .i64 a, .int .i64 b] w fun e w' => e = .returned (.iface 72 (.int .i64 12)) ∧ w = w' := by
  have HA := Lib.hid (ask_down h hd)
  go_enter Tryz.func9, Tryz.ntmps9
  go_wp2_with (go_at_call 22; refine (HA.out).mono ?_; rintro e w' ⟨rfl, rfl⟩)
  go_ret
  exact ⟨rfl, rfl⟩
theorem work_down (h : NodeB w nb place life true d vm mm tb wm) (hd : DiskB w d cap nx mn ml dv 0) (a b : Int) :
    Calls Tryz.prog 7 #[.pointer (some ⟨nb, 0, none⟩), .int .i64 a, .int .i64 b] w fun e w' => e = .returned (.tuple #[.bool false, .iface 72 (.int .i64 12)]) ∧ w = w' := by
  have HA := Lib.hid (ask_down h hd)
  go_enter Tryz.func7, Tryz.ntmps7
  go_wp2_with (go_at_call 22; refine (HA.out).mono ?_; rintro e w' ⟨rfl, rfl⟩)
  go_ret2
  exact ⟨rfl, rfl⟩
end
end Go.Proofs.YtlbmoafdialigaaGreatDoor
