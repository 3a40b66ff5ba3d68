/- package disk: Sync, Rename, SyncNames, Names. -/
import Derived.Test.YtlbmoafdialigaaGreatDoorDisk4
import Derived.Test.YtlbmoafdialigaaGreatDoorDisk2
import Derived.Shelf.SlMaps.Clone
namespace Go.Proofs.YtlbmoafdialigaaGreatDoor
open Go Go.RowKit Go.MapKept

set_option maxRecDepth 100000 in
theorem sync_ok {w : World} {d mn ml clk i f n c : Nat} {cap nx ar num l : Int} {dv : Value} {A : Option Addr} {es : Array MapEntry} (name : ByteArray)
    (hd : DiskB w d cap nx mn ml dv ar) (h1 : -1 ≤ ar) (h2 : ar ≤ 1000000) (h0 : ar ≠ 0) (hm : MBlk w mn es clk)
    (hf : Instr.findNow .string (.string name) es.toList 0 = some (some (i, .pointer (some ⟨f, 0, none⟩)))) (hfb : FileB w f num A n c l) :
    Calls Tryz.prog 103 #[.pointer (some ⟨d, 0, none⟩), .string name] w fun e w' => e = .returned .nilIface ∧
      FileB w' f num A n c n ∧ DiskB w' d cap nx mn ml dv (didA ar) ∧ Upd (fun k => k = d ∨ k = f) w w' := by
  have hfi := Lib.hid (find_ok name hd h0 hm hf)
  have HD := Lib.hid (fun (W : World) (a : DiskB W d cap nx mn ml dv ar) => did_any a h1 h2)
  obtain ⟨f0, f1, f2⟩ := hfb.cells
  have z2 := Blk.frozen hfb 2
  have nfd : f ≠ d := Blk.ne_ hfb hd (by decide)
  have hd3 : DiskB (w.setCell ⟨f, 2, none⟩ (.int .i64 n)) d cap nx mn ml dv ar := Blk.far hd (Ne.symm nfd) _
  go_enter Tryz.func103, Tryz.ntmps103
  go_wp2_with (first
    | (go_at_call 142; refine (hfi.out).mono ?_; rintro e w' ⟨rfl, rfl⟩)
    | (go_at_call 144; refine (HD.out _ hd3).mono ?_; rintro e w3 ⟨rfl, hd4, hu4⟩))
  go_ret
  have hfb3 := (hfb.put2 n).upd hu4 nfd
  exact ⟨rfl, hfb3, hd4, (((Upd.refl (fun k => k = d ∨ k = f) w).setCell (p := ⟨f, 2, none⟩) (fun _ => .inr rfl) _).then hu4 (fun _ _ e => .inl e))⟩

set_option maxRecDepth 100000 in
set_option maxHeartbeats 1000000 in
theorem rename_ok {w : World} {d mn ml n c clk i f : Nat} {cap nx ar : Int} {A : Option Addr} {dxs : List Value} {es : Array MapEntry} (name to : ByteArray) (hto : NameOk to)
    (hd : DiskB w d cap nx mn ml (.slice A n c) ar) (h1 : -1 ≤ ar) (h2 : ar ≤ 1000000) (h0 : ar ≠ 0) (hm : MBlk w mn es clk) (hok : MOk .string es clk)
    (hf : Instr.findNow .string (.string name) es.toList 0 = some (some (i, .pointer (some ⟨f, 0, none⟩))))
    (hdv : w.ownsRow 0 151 1 (.slice A n c) n dxs) (hn2 : n ≤ 1000000) :
    Calls Tryz.prog 106 #[.pointer (some ⟨d, 0, none⟩), .string name, .string to] w fun e w' => e = .returned .nilIface ∧
      ∃ A' c' fv, DiskB w' d cap nx mn ml (.slice A' (n + 1) c') (didA ar) ∧ w'.ownsRow 0 151 1 (.slice A' (n + 1) c') (n + 1) (dxs ++ [fv]) ∧
      MBlk w' mn (mput .string (mdel .string es (.string name)) clk (.string to) (.pointer (some ⟨f, 0, none⟩))) (mclock .string (mdel .string es (.string name)) clk (.string to)) ∧ RowOf w (.slice A n c) (.slice A' (n + 1) c') ∧
      Upd (fun k => k = d ∨ k = mn ∨ (Value.slice A n c).ownBlock = some k) w w' := by
  have hfi := Lib.hid (fun (W : World) (a : DiskB W d cap nx mn ml (.slice A n c) ar) (b : MBlk W mn es clk) => find_ok name a h0 b hf)
  have hno := Lib.hid (fun W => named_ok to W hto)
  go_enter Tryz.func106, Tryz.ntmps106
  go_wp2_with (first
    | (go_at_call 142; refine (hfi.out _ (DiskB.alloc (DiskB.alloc hd _) _) ((hm.alloc _).alloc _)).mono ?_; rintro e w' ⟨rfl, rfl⟩)
    | (go_at_call 139; refine (hno.out _).mono ?_; rintro e w' ⟨rfl, rfl⟩))
  refine (turn_rename (DiskB.alloc (DiskB.alloc (DiskB.alloc hd _) _) _) h1 h2 (((hm.alloc _).alloc _).alloc _) hok (((Blk.new w 9 #[.string name]).alloc _).alloc _) ((Blk.new1 w _ 9 #[.string to]).alloc _) (Blk.new2 w _ _ 152 #[.pointer (some ⟨f, 0, none⟩)]) (((hdv.alloc _).alloc _).alloc _) hn2).mono ?_
  rintro e w3 ⟨rfl, ⟨A', c', hd3, hdv3, hrw⟩, hm3, hu3⟩
  clear hfi hno
  go_wp2
  go_ret
  exact ⟨rfl, A', c', _, hd3, hdv3, hm3, hrw.mono (by simp; omega), ((((Upd.refl (fun k => k = d ∨ k = mn ∨ (Value.slice A n c).ownBlock = some k) w).alloc _).alloc _).alloc _).then hu3 (fun _ _ h => h)⟩

set_option maxRecDepth 100000 in
theorem clone_ok {w : World} {mn clk : Nat} {es : Array MapEntry} (hm : MBlk w mn es clk) :
    Calls Tryz.prog 68 #[.map (some mn)] w fun e w' => e = .returned (.map (some w.heap.size)) ∧ (w.alloc (.map es clk)) = w' := by
  have hq : ∀ (w : World) (r : Option Nat), (binOp .eql 122 (.map r) (.map none)).run Tryz.prog w = .ok (.bool r.isNone) w := fun w r => run_eql_map_nil w _ _ _ r Tryz.underlying122
  have hc : (callFunc 109 #[.iface 122 (.map (some mn))]).run Tryz.prog w = .ok (.value (.iface 122 (.map (some w.heap.size)))) (w.alloc (.map es clk)) := by
    rw [run_callFunc_extern Tryz.func109 (by kernel_rfl) (by kernel_rfl) (by kernel_rfl) (e := Extern.MapsClone.clone) (by kernel_rfl), run_maps_clone_sl w 122 hm]
    rfl
  have ht : ∀ W v, (Instr.typeAssert (.iface 122 v) 20 122 false).run Tryz.prog W = .ok v W := fun W v => run_typeAssert_map_sl W 122 20 _ _ v Tryz.underlying122
  go_enter Tryz.func68, Tryz.ntmps68
  go_wp2
  go_ret
  exact ⟨rfl, rfl⟩

set_option maxRecDepth 100000 in
theorem syncNames_ok {w : World} {d mn ml clk : Nat} {cap nx ar : Int} {A : Option Addr} {n c : Nat} {es : Array MapEntry}
    (hd : DiskB w d cap nx mn ml (.slice A n c) ar) (h1 : -1 ≤ ar) (h2 : ar ≤ 1000000) (h0 : ar ≠ 0) (hm : MBlk w mn es clk) :
    Calls Tryz.prog 107 #[.pointer (some ⟨d, 0, none⟩)] w fun e w' => e = .returned .nilIface ∧
      ∃ ml', DiskB w' d cap nx mn ml' (.slice none 0 0) (didA ar) ∧ MBlk w' ml' es clk ∧ MBlk w' mn es clk ∧ w.heap.size ≤ ml' ∧ Upd (fun k => k = d) w w' := by
  have hu := Lib.hid (up_ok hd h0)
  obtain ⟨c0, c1, c2, c3, c4, c5⟩ := hd.cells
  have z3 := Blk.frozen hd 3
  have z4 := Blk.frozen hd 4
  have hdl := hd.lt
  go_enter Tryz.func107, Tryz.ntmps107
  go_wp2_with (first
    | (go_at_call 66; refine (hu.out).mono ?_; rintro e w' ⟨rfl, rfl⟩)
    | (go_at_call 68; refine (clone_ok hm).mono ?_; rintro e w' ⟨rfl, rfl⟩))
  have hd3 := (hd.put3 w.heap.size).put4 (.slice none 0 0)
  have hm3 := (hm.far ⟨d, 3, none⟩ (.map (some w.heap.size))).far ⟨d, 4, none⟩ (.slice none 0 0)
  have hz3 : ((w.setCell ⟨d, 3, none⟩ (.map (some w.heap.size))).setCell ⟨d, 4, none⟩ (.slice none 0 0)).heap.size = w.heap.size := by simp
  have hu3 := (((Upd.refl (fun k => k = d) w).setCell (p := ⟨d, 3, none⟩) (fun _ => rfl) (.map (some w.heap.size))).setCell (p := ⟨d, 4, none⟩) (fun _ => rfl) (.slice none 0 0)).alloc (.map es clk)
  have hn3 := MBlk.new ((w.setCell ⟨d, 3, none⟩ (.map (some w.heap.size))).setCell ⟨d, 4, none⟩ (.slice none 0 0)) es clk
  have ndm := Blk.neM hd hm
  rw [hz3] at hn3
  refine (did_any (DiskB.alloc hd3 (.map es clk)) h1 h2).mono ?_
  rintro e w3 ⟨rfl, hd4, hu4⟩
  have r1 := hn3.upd hu4 (by omega)
  have r2 := (hm3.alloc (.map es clk)).upd hu4 (Ne.symm ndm)
  have r3 := hu3.then hu4 (fun _ _ h => h)
  clear c0 c1 c2 c3 c4 c5 z3 z4 hd3 hm3 hz3 hu3 hn3 hu hu4
  go_wp2
  go_ret
  exact ⟨rfl, w.heap.size, hd4, r1, r2, Nat.le_refl _, r3⟩
end Go.Proofs.YtlbmoafdialigaaGreatDoor
