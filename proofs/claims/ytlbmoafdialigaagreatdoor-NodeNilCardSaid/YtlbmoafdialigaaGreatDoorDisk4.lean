/- package disk: Append onto a file that is there, with room and without. -/
import Derived.Test.YtlbmoafdialigaaGreatDoorDisk3
import Derived.Deep.RegionHeld3
import Derived.Maps.AppendAt
namespace Go.Proofs.YtlbmoafdialigaaGreatDoor
open Go Go.RowKit Go.MapKept

theorem bytes_info : (Tryz.prog.info? 5).map (fun i => (i.zero, i.size, i.bytes)) = some (some (.int .u8 0), 1, 1) := by kernel_rfl

/-- Bytes as a slice's cells. -/
def bytesV (l : List UInt8) : List Value := l.map fun b => .int .u8 b.toNat
theorem bytesV_append (a b : List UInt8) : bytesV (a ++ b) = bytesV a ++ bytesV b := List.map_append
theorem bytesV_len (a : List UInt8) : (bytesV a).length = a.length := List.length_map ..
theorem bytesV_one (a : List UInt8) : ∀ u ∈ bytesV a, u.oneCell' = true := fun u hu => by
  obtain ⟨b, _, rfl⟩ := List.mem_map.1 hu
  rfl
/-- A slice of bytes that some call of ours made. -/
def Bytes (w : World) (A : Option Addr) (n c : Nat) (l : List UInt8) : Prop := w.ownsRow 0 5 1 (.slice A n c) n (bytesV l)
theorem Bytes.len {w : World} {A : Option Addr} {n c : Nat} {l : List UInt8} (h : Bytes w A n c l) : l.length = n := by
  have := h.1
  rw [bytesV_len] at this
  omega
theorem Bytes.upd {w w' : World} {A : Option Addr} {n c : Nat} {l : List UInt8} {S : Nat → Prop} (h : Bytes w A n c l) (hu : Upd S w w') (hn : ∀ k, (Value.slice A n c).ownBlock = some k → ¬ S k) : Bytes w' A n c l := own_upd h hu hn

theorem FileB.alloc {w : World} {f : Nat} {num : Int} {A : Option Addr} {n c : Nat} {l : Int} (h : FileB w f num A n c l) (o : Obj) : FileB (w.alloc o) f num A n c l := Blk.alloc h o
theorem FileB.upd {w w' : World} {f : Nat} {num : Int} {A : Option Addr} {n c : Nat} {l : Int} {S : Nat → Prop} (h : FileB w f num A n c l) (hu : Upd S w w') (hg : ¬ S f) : FileB w' f num A n c l := Blk.upd h hu hg
theorem FileB.put1 {w : World} {f : Nat} {num : Int} {A : Option Addr} {n c : Nat} {l : Int} (h : FileB w f num A n c l) (A' : Option Addr) (n' c' : Nat) : FileB (w.setCell ⟨f, 1, none⟩ (.slice A' n' c')) f num A' n' c' l := by simpa [FileB] using Blk.set_ h 1 (.slice A' n' c')
theorem FileB.put2 {w : World} {f : Nat} {num : Int} {A : Option Addr} {n c : Nat} {l : Int} (h : FileB w f num A n c l) (l' : Int) : FileB (w.setCell ⟨f, 2, none⟩ (.int .i64 l')) f num A n c l' := by simpa [FileB] using Blk.set_ h 2 (.int .i64 l')

set_option maxRecDepth 100000 in
set_option maxHeartbeats 1000000 in
theorem append_ok {w : World} {d mn ml clk i f n c m cb : Nat} {cap nx ar num l : Int} {dv : Value} {A B : Option Addr} {lx ly : List UInt8} {es : Array MapEntry} {fl : Value → Nat} (name : ByteArray)
    (hd : DiskB w d cap nx mn ml dv ar) (h1 : -1 ≤ ar) (h2 : ar ≤ 1000000) (h0 : ar ≠ 0)
    (hm : MBlk w mn es clk) (hok : MOk .string es clk) (hfs : Files w fl es) (htot : totN fl es.toList ≤ 1073741824) (hc0 : 0 ≤ cap) (hc1 : cap ≤ 1073741824)
    (hf : Instr.findNow .string (.string name) es.toList 0 = some (some (i, .pointer (some ⟨f, 0, none⟩))))
    (hfb : FileB w f num A n c l) (hx : Bytes w A n c lx) (hy : Bytes w B m cb ly) (hm0 : 0 < m)
    (hlen : n + m ≤ 16777216) (hroom : (m : Int) ≤ cap - totN fl es.toList) :
    Calls Tryz.prog 101 #[.pointer (some ⟨d, 0, none⟩), .string name, .slice B m cb] w fun e w' => e = .returned .nilIface ∧
      ∃ A' c', FileB w' f num A' (n + m) c' l ∧ Bytes w' A' (n + m) c' (lx ++ ly) ∧ DiskB w' d cap nx mn ml dv (didA ar) ∧ RowOf w (.slice A n c) (.slice A' (n + m) c') ∧
      Upd (fun k => k = d ∨ k = f ∨ (Value.slice A n c).ownBlock = some k) w w' := by
  obtain ⟨i0, hi, hz0, hz1, hz2⟩ := info_parts bytes_info
  have hfi := Lib.hid (find_ok name hd h0 hm hf)
  have hU := Lib.hid (fun (W : World) (a : DiskB W d cap nx mn ml dv ar) (b : MBlk W mn es clk) (cc : Files W fl es) => used_any a b hok cc (show totN fl es.toList ≤ 1152921504606846976 by omega))
  obtain ⟨c0, c1, c2, c3, c4, c5⟩ := hd.cells
  obtain ⟨f0, f1, f2⟩ := hfb.cells
  have t1 : ¬ ((16777216 : Int) - n < m) := by omega
  have t2 : ¬ (cap - (totN fl es.toList : Int) < m) := by omega
  obtain ⟨gy, cy, ey, _, _⟩ := own_form hy hm0
  obtain ⟨rfl, rfl⟩ : B = some ⟨gy, 0, none⟩ ∧ cb = cy := by injection ey with e1 e2 e3; exact ⟨e1, e3⟩
  clear ey
  go_enter Tryz.func101, Tryz.ntmps101
  go_wp2_with (go_at_call 142; refine (hfi.out).mono ?_; rintro e w' ⟨rfl, rfl⟩)
  have hwr : IntKind.i64.wrap (cap - (totN fl es.toList : Int)) = cap - (totN fl es.toList : Int) := IntWalk.i64_in _ (by omega)
  go_region_held3 (fun w' => w'.cell? ⟨d, 0, none⟩ = some (.int .i64 cap)) (first | go_keep | assumption)
    (first | (go_at_call 143; refine (hU.out _ ?_ ?_ ?_).mono ?_; exact hd; exact hm; exact hfs; rintro e w1 ⟨rfl, hu1⟩; have g0 := cell_upd0 hu1 c0))
  have hu : Upd (fun _ => False) w w1 := ⟨hu1.os, hu1.output, hu1.size, hu1.block⟩
  have hd1 := hd.upd hu id
  have hfb1 := hfb.upd hu id
  have hx1 := hx.upd hu (fun _ _ h => h)
  have hy1 := hy.upd hu (fun _ _ h => h)
  clear hwr hu1 g0 hfi hU c0 c1 c2 c3 c4 c5 f0 f1 f2
  obtain ⟨f0, f1, f2⟩ := hfb1.cells
  have z1 := Blk.frozen hfb1 1
  have ofx := own_blk_ne hx1 hfb1 (by decide)
  have odx := own_blk_ne hx1 hd1 (by decide)
  have nfd : f ≠ d := Blk.ne_ hfb1 hd1 (by decide)
  have hmy : m ≤ 16777216 := by omega
  have HD := Lib.hid (fun (W : World) (a : DiskB W d cap nx mn ml dv ar) => did_any a h1 h2)
  go_wp2_with (first
    | (at_builtin; go_must (refine wpList_append_own_at _ rfl _ _ 24 rfl 0 5 i0 _ 1 1 Tryz.underlying24 hi hz0 hz1 hz2 rfl (by decide) _ _ _ rfl hx1 ⟨gy, 0, none⟩ m cb (bytesV ly) rfl (by rw [bytesV_len, hy1.len]; omega) (hy1.cells rfl) (bytesV_one ly) (by unfold maxLen; omega) (by omega) (Nat.zero_le _) ?_; intro v' w2 hown' hgrow _ hat; obtain ⟨g', cap', rfl, _, _⟩ := own_form hown' (by omega); have hd2 := hd1.grown hgrow (Ne.symm odx); have hfb2 : FileB w2 f num A n c l := Blk.grown hfb1 hgrow (Ne.symm ofx); have y1 := hfb2.cells.2.1; have y2 := Blk.frozen hfb2 1; have hd3 : DiskB (w2.setCell ⟨f, 1, none⟩ (.slice (some ⟨g', 0, none⟩) (n + m) cap')) d cap nx mn ml dv ar := Blk.far hd2 (Ne.symm nfd) _))
    | (go_at_call 144; refine (HD.out _ hd3).mono ?_; rintro e w3 ⟨rfl, hd4, hu4⟩))
  go_ret
  have hfb3 := (hfb2.put1 (some ⟨g', 0, none⟩) (n + m) cap').upd hu4 nfd
  have of2 := own_blk_ne hown' hfb2 (by decide)
  have od2 := own_blk_ne hown' hd2 (by decide)
  have ho : Bytes w3 (some ⟨g', 0, none⟩) (n + m) cap' (lx ++ ly) := by
    unfold Bytes
    rw [bytesV_append]
    exact own_upd (ownsRow_setCell_other hown' (a := ⟨f, 1, none⟩) of2 _) hu4 (fun k hk e => od2 (by rw [hk, e]))
  have hrow : RowOf w (.slice A n c) (.slice (some ⟨g', 0, none⟩) (n + m) cap') := fun k e => by
    rcases hat with hat | hat
    · exact .inl (hat.symm.trans e)
    · right
      have e2 : some w1.heap.size = some k := hat.symm.trans e
      injection e2 with e2
      have := hu.size
      omega
  refine ⟨rfl, _, _, hfb3, ho, hd4, hrow, ?_⟩
  exact (((hu.mono (S' := fun k => k = d ∨ k = f ∨ (Value.slice A n c).ownBlock = some k) (fun _ _ h => h.elim)).grown hgrow (fun k e _ => .inr (.inr e))).setCell (p := ⟨f, 1, none⟩) (fun _ => .inr (.inl rfl)) _).then hu4 (fun _ _ e => .inl e)
set_option maxRecDepth 100000 in
set_option maxHeartbeats 1000000 in
theorem append_full {w : World} {d mn ml clk i f n c m cb : Nat} {cap nx ar num l : Int} {dv : Value} {A B : Option Addr} {es : Array MapEntry} {fl : Value → Nat} (name : ByteArray)
    (hd : DiskB w d cap nx mn ml dv ar) (h0 : ar ≠ 0)
    (hm : MBlk w mn es clk) (hok : MOk .string es clk) (hfs : Files w fl es) (htot : totN fl es.toList ≤ 1073741824) (hc0 : 0 ≤ cap) (hc1 : cap ≤ 1073741824)
    (hf : Instr.findNow .string (.string name) es.toList 0 = some (some (i, .pointer (some ⟨f, 0, none⟩))))
    (hfb : FileB w f num A n c l) (hm0 : m ≤ 16777216)
    (hlen : n + m ≤ 16777216) (hroom : cap - totN fl es.toList < (m : Int)) :
    Calls Tryz.prog 101 #[.pointer (some ⟨d, 0, none⟩), .string name, .slice B m cb] w fun e w' => e = .returned (.iface 72 (.int .i64 11)) ∧ Upd (fun _ => False) w w' := by
  have hfi := Lib.hid (find_ok name hd h0 hm hf)
  have hU := Lib.hid (fun (W : World) (a : DiskB W d cap nx mn ml dv ar) (b : MBlk W mn es clk) (cc : Files W fl es) => used_any a b hok cc (show totN fl es.toList ≤ 1152921504606846976 by omega))
  obtain ⟨c0, c1, c2, c3, c4, c5⟩ := hd.cells
  obtain ⟨f0, f1, f2⟩ := hfb.cells
  have t1 : ¬ ((16777216 : Int) - n < m) := by omega
  have t2 : cap - (totN fl es.toList : Int) < m := by omega
  go_enter Tryz.func101, Tryz.ntmps101
  go_wp2_with (go_at_call 142; refine (hfi.out).mono ?_; rintro e w' ⟨rfl, rfl⟩)
  have hwr : IntKind.i64.wrap (cap - (totN fl es.toList : Int)) = cap - (totN fl es.toList : Int) := IntWalk.i64_in _ (by omega)
  go_region_held3 (fun w' => w'.cell? ⟨d, 0, none⟩ = some (.int .i64 cap)) (first | go_keep | assumption)
    (first | (go_at_call 143; refine (hU.out _ ?_ ?_ ?_).mono ?_; exact hd; exact hm; exact hfs; rintro e w1 ⟨rfl, hu1⟩; have g0 := cell_upd0 hu1 c0))
  have hu : Upd (fun _ => False) w w1 := ⟨hu1.os, hu1.output, hu1.size, hu1.block⟩
  clear hwr hu1 g0 hfi hU c0 c1 c2 c3 c4 c5 f0 f1 f2
  go_wp2
  go_ret
  exact ⟨rfl, hu⟩
end Go.Proofs.YtlbmoafdialigaaGreatDoor
