/- A node that is nobody; disk.New, Arm, Down. -/
import Derived.Test.YtlbmoafdialigaaGreatDoorDisk1
namespace Go.Proofs.YtlbmoafdialigaaGreatDoor
open Go Go.RowKit Go.MapKept

def msgV (fr to kind vol life id code : Int) (has : Bool) (key cookie : Int) (gone : Bool) (data : Value) : Value :=
  .agg #[.int .i64 fr, .int .i64 to, .int .i64 kind, .int .i64 vol, .int .i64 life, .int .u64 id, .int .i64 code, .bool has, .int .u64 key, .int .u32 cookie, .bool gone, data]
def msgZ : Value := msgV 0 0 0 0 0 0 0 false 0 0 false (.slice none 0 0)

theorem ask_none (w : World) : Calls Tryz.prog 22 #[.pointer none] w fun e w' => e = .returned (.iface 72 (.int .i64 15)) ∧ w = w' := by
  go_enter Tryz.func22, Tryz.ntmps22
  go_wp2
  go_ret
  exact ⟨rfl, rfl⟩
theorem up_none (w : World) : Calls Tryz.prog 13 #[.pointer none] w fun e w' => e = .returned (.bool false) ∧ w = w' := by
  go_enter Tryz.func13, Tryz.ntmps13
  go_wp2
  go_ret
  exact ⟨rfl, rfl⟩
theorem make_none (a b : Int) (w : World) : Calls Tryz.prog 9 #[.pointer none, .int .i64 a, .int .i64 b] w fun e w' => e = .returned (.iface 72 (.int .i64 15)) ∧ w = w' := by
  go_enter Tryz.func9, Tryz.ntmps9
  go_wp2_with (go_at_call 22; refine (ask_none _).mono ?_; rintro e w' ⟨rfl, rfl⟩)
  go_ret
  exact ⟨rfl, rfl⟩
theorem arm_none (a : Int) (w : World) : Calls Tryz.prog 10 #[.pointer none, .int .i64 a] w fun e w' => e = .returned (.iface 72 (.int .i64 15)) ∧ w = w' := by
  go_enter Tryz.func10, Tryz.ntmps10
  go_wp2_with (go_at_call 22; refine (ask_none _).mono ?_; rintro e w' ⟨rfl, rfl⟩)
  go_ret
  exact ⟨rfl, rfl⟩
theorem work_none (a b : Int) (w : World) : Calls Tryz.prog 7 #[.pointer none, .int .i64 a, .int .i64 b] w fun e w' => e = .returned (.tuple #[.bool false, .iface 72 (.int .i64 15)]) ∧ w = w' := by
  go_enter Tryz.func7, Tryz.ntmps7
  go_wp2_with (go_at_call 22; refine (ask_none _).mono ?_; rintro e w' ⟨rfl, rfl⟩)
  go_ret2
  exact ⟨rfl, rfl⟩
theorem crash_none (n : Int) (A : Value) (w : World) (hA : A = .slice none 0 0) : Calls Tryz.prog 11 #[.pointer none, .agg #[.int .i64 n, A]] w fun e w' => e = .returned (.iface 72 (.int .i64 15)) ∧ Upd (fun _ => False) w w' := by
  subst hA
  go_enter Tryz.func11, Tryz.ntmps11
  go_wp2
  go_ret
  exact ⟨rfl, (Upd.refl _ _).alloc _⟩
theorem start_none (w : World) : Calls Tryz.prog 12 #[.pointer none] w fun e w' => e = .returned (.iface 72 (.int .i64 15)) ∧ w = w' := by
  go_enter Tryz.func12, Tryz.ntmps12
  go_wp2
  go_ret
  exact ⟨rfl, rfl⟩
theorem life_none (w : World) : Calls Tryz.prog 14 #[.pointer none] w fun e w' => e = .returned (.int .i64 0) ∧ w = w' := by
  go_enter Tryz.func14, Tryz.ntmps14
  go_wp2
  go_ret
  exact ⟨rfl, rfl⟩
theorem vol_none (n : Int) (w : World) : Calls Tryz.prog 15 #[.pointer none, .int .i64 n] w fun e w' => e = .returned (.pointer none) ∧ w = w' := by
  go_enter Tryz.func15, Tryz.ntmps15
  go_wp2
  go_ret
  exact ⟨rfl, rfl⟩
theorem disk_none (w : World) : Calls Tryz.prog 16 #[.pointer none] w fun e w' => e = .returned (.pointer none) ∧ w = w' := by
  go_enter Tryz.func16, Tryz.ntmps16
  go_wp2
  go_ret
  exact ⟨rfl, rfl⟩
theorem volumes_none (w : World) : Calls Tryz.prog 17 #[.pointer none] w fun e w' => e = .returned (.slice none 0 0) ∧ w = w' := by
  go_enter Tryz.func17, Tryz.ntmps17
  go_wp2
  go_ret
  exact ⟨rfl, rfl⟩
set_option maxRecDepth 100000 in
theorem handle_none (fr to kind vol life id code : Int) (has : Bool) (key cookie : Int) (gone : Bool) (A : Option Addr) (n c : Nat) (w : World) :
    Calls Tryz.prog 5 #[.pointer none, msgV fr to kind vol life id code has key cookie gone (.slice A n c)] w fun e w' => e = .returned (.tuple #[msgZ, .iface 72 (.int .i64 15)]) ∧ Upd (fun _ => False) w w' := by
  unfold msgV
  go_enter Tryz.func5, Tryz.ntmps5
  go_wp2_with (go_at_call 22; refine (ask_none _).mono ?_; rintro e w' ⟨rfl, rfl⟩)
  refine bodyPost_ret (v := .tuple #[msgZ, .iface 72 (.int .i64 15)]) (by simp [results, Tryz.results5, go_sem, msgZ, msgV]) rfl ⟨rfl, ((Upd.refl _ _).alloc _).alloc _⟩

theorem down_of {w : World} {d mn ml : Nat} {cap nx ar : Int} {dv : Value} (h : DiskB w d cap nx mn ml dv ar) : Calls Tryz.prog 28 #[.pointer (some ⟨d, 0, none⟩)] w fun e w' => e = .returned (.bool (ar == 0)) ∧ w = w' := by
  have c5 := h.cells.2.2.2.2.2
  cases hb : (ar == 0)
  all_goals
    go_enter Tryz.func28, Tryz.ntmps28
    go_wp2
    go_ret
    exact ⟨rfl, rfl⟩
theorem diskArm_0 {w : World} {d mn ml : Nat} {cap nx ar : Int} {dv : Value} (h : DiskB w d cap nx mn ml dv ar) (h0 : ar ≠ 0) : Calls Tryz.prog 34 #[.pointer (some ⟨d, 0, none⟩), .int .i64 0] w fun e w' => e = .returned .nilIface ∧ DiskB w' d cap nx mn ml dv 0 ∧ Upd (fun k => k = d) w w' := by
  have HU := Lib.hid (up_ok h h0)
  have c5 := h.cells.2.2.2.2.2
  have z5 := Blk.frozen h 5
  go_enter Tryz.func34, Tryz.ntmps34
  go_wp2_with (go_at_call 66; refine (HU.out).mono ?_; rintro e w' ⟨rfl, rfl⟩)
  go_ret
  exact ⟨rfl, h.put5 0, (Upd.refl (fun k => k = d) w).setCell (p := ⟨d, 5, none⟩) (fun _ => rfl) _⟩
theorem diskNew {cap : Nat} (h : cap ≤ 1073741824) (w : World) : Calls Tryz.prog 41 #[.int .i64 cap] w fun e w' => e = .returned (.tuple #[.pointer (some ⟨w.heap.size + 1 + 1, 0, none⟩), .nilIface]) ∧
    DiskB w' (w.heap.size + 1 + 1) cap 0 w.heap.size (w.heap.size + 1) (.slice none 0 0) (-1) ∧ MBlk w' w.heap.size #[] 0 ∧ MBlk w' (w.heap.size + 1) #[] 0 ∧ Upd (fun _ => False) w w' := by
  have h1 : ¬ ((cap : Int) < 0) := by omega
  have h2 : ¬ ((1073741824 : Int) < cap) := by omega
  have hmm := @run_makeMap Tryz.prog
  go_enter Tryz.func41, Tryz.ntmps41
  go_wp2
  go_ret2
  refine ⟨rfl, Blk.new2 w _ _ _ _, ((MBlk.new w _ _).alloc _).alloc _, ?_, (((Upd.refl _ w).alloc _).alloc _).alloc _⟩
  have := MBlk.new (w.alloc (.map #[] 0)) #[] 0
  rw [World.size_alloc] at this
  exact this.alloc _

theorem onceNew (w : World) : Calls Tryz.prog 42 #[.int .i64 4096] w fun e w' => e = .returned (.tuple #[.pointer (some ⟨w.heap.size + 1, 0, none⟩), .nilIface]) ∧
    Blk w' (w.heap.size + 1) 112 #[.int .i64 4096, .map (some w.heap.size)] ∧ MBlk w' w.heap.size #[] 0 ∧ Upd (fun _ => False) w w' := by
  have hmm := @run_makeMap Tryz.prog
  go_enter Tryz.func42, Tryz.ntmps42
  go_wp2
  go_ret2
  exact ⟨rfl, Blk.new1 w _ _ _, (MBlk.new w _ _).alloc _, ((Upd.refl _ w).alloc _).alloc _⟩

/-- A node's own block. -/
def NodeB (w : World) (nb place life : Nat) (up : Bool) (d vm mm tb wm : Nat) : Prop :=
  Blk w nb 71 #[.int .i64 place, .int .i64 life, .bool up, .pointer (some ⟨d, 0, none⟩), .map (some vm), .map (some mm), .pointer (some ⟨tb, 0, none⟩), .map (some wm)]

set_option maxRecDepth 100000 in
theorem nodeNew {place cap : Nat} (hp : place ≤ 255) (h : cap ≤ 1073741824) (w : World) : Calls Tryz.prog 18 #[.int .i64 place, .int .i64 cap] w fun e w' => ∃ nb d mn ml vm mm tb km wm : Nat, e = .returned (.tuple #[.pointer (some ⟨nb, 0, none⟩), .nilIface]) ∧
    NodeB w' nb place 0 true d vm mm tb wm ∧ DiskB w' d cap 0 mn ml (.slice none 0 0) (-1) ∧ MBlk w' mn #[] 0 ∧ MBlk w' ml #[] 0 ∧ MBlk w' vm #[] 0 ∧ MBlk w' mm #[] 0 ∧ MBlk w' wm #[] 0 ∧ Blk w' tb 112 #[.int .i64 4096, .map (some km)] ∧ MBlk w' km #[] 0 ∧
    (w.heap.size ≤ mn ∧ mn < ml ∧ ml < km ∧ km < vm ∧ vm < mm ∧ mm < wm ∧ w.heap.size ≤ d) ∧ Upd (fun _ => False) w w' := by
  have h1 : ¬ ((place : Int) < 0) := by omega
  have h2 : ¬ ((255 : Int) < place) := by omega
  have hmm := @run_makeMap Tryz.prog
  have HD := Lib.hid (diskNew h w)
  have HO := Lib.hid (fun W => onceNew W)
  go_enter Tryz.func18, Tryz.ntmps18
  go_wp2_with (first
    | (go_at_call 41; refine (HD.out).mono ?_; rintro e w1 ⟨rfl, hd, hm1, hm2, hu1⟩)
    | (go_at_call 42; refine (HO.out _).mono ?_; rintro e w2 ⟨rfl, ht, hm3, hu2⟩))
  have hu3 := ((((Upd.refl (fun _ => False) w2).alloc (.map #[] 0)).alloc (.map #[] 0)).alloc (.map #[] 0)).alloc (.cells #[.int .i64 place, .int .i64 0, .bool true, .pointer (some ⟨w.heap.size + 1 + 1, 0, none⟩), .map (some w2.heap.size), .map (some (w2.heap.size + 1)), .pointer (some ⟨w1.heap.size + 1, 0, none⟩), .map (some (w2.heap.size + 1 + 1))] 71)
  have hu23 := hu2.then hu3 (fun _ _ h => h)
  have l2 := hm2.lt
  have l3 := hm3.lt
  have e1 : MBlk (((w2.alloc (.map #[] 0)).alloc (.map #[] 0)).alloc (.map #[] 0)) (w2.heap.size + 1) #[] 0 := by
    have := MBlk.new (w2.alloc (.map #[] 0)) #[] 0
    rw [World.size_alloc] at this
    exact this.alloc _
  have e2 : MBlk (((w2.alloc (.map #[] 0)).alloc (.map #[] 0)).alloc (.map #[] 0)) (w2.heap.size + 1 + 1) #[] 0 := by
    have := MBlk.new ((w2.alloc (.map #[] 0)).alloc (.map #[] 0)) #[] 0
    rw [World.size_alloc, World.size_alloc] at this
    exact this
  refine bodyPost_ret (v := .tuple #[.pointer (some ⟨w2.heap.size + 1 + 1 + 1, 0, none⟩), .nilIface]) (by simp [results, Tryz.results18, go_sem]) rfl ⟨_, _, _, _, _, _, _, _, _, rfl, Blk.new3 w2 _ _ _ _ _, hd.upd hu23 id, hm1.upd hu23 id, hm2.upd hu23 id, (((MBlk.new w2 _ _).alloc _).alloc _).alloc _, e1.alloc _, e2.alloc _, ht.upd hu3 id, hm3.upd hu3 id, ?_, ?_⟩
  · refine ⟨Nat.le_refl _, by omega, by omega, by omega, by omega, by omega, by omega⟩
  · exact hu1.then hu23 (fun _ _ h => h)
end Go.Proofs.YtlbmoafdialigaaGreatDoor
