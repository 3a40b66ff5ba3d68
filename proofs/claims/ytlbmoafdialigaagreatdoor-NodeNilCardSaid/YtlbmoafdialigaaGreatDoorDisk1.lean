/- The small functions of package disk: did, up, named, find, and the deeds of names. -/
import Derived.Test.YtlbmoafdialigaaGreatDoorBase
import Derived.Test.YtlbmoafdialigaaGreatDoorChecked
namespace Go.Proofs.YtlbmoafdialigaaGreatDoor
open Go Go.RowKit Go.MapKept

theorem ret_int {k : IntKind} {a b : Int} (h : a = b) : Ending.returned (.int k a) = .returned (.int k b) := by rw [h]

/-- What a deed does to how a disk is armed. -/
def didA (ar : Int) : Int := if 0 < ar then ar - 1 else ar
theorem didA_bd {ar : Int} (h1 : -1 ≤ ar) (h2 : ar ≤ 1000000) : -1 ≤ didA ar ∧ didA ar ≤ 1000000 := by
  unfold didA
  by_cases h : 0 < ar
  · rw [if_pos h]; omega
  · rw [if_neg h]; omega
theorem didA_never : didA (-1) = -1 := rfl

def okByte (c : UInt8) : Prop := (97 ≤ c.toNat ∧ c.toNat ≤ 122) ∨ (48 ≤ c.toNat ∧ c.toNat ≤ 57) ∨ c.toNat = 46
def NameOk (s : ByteArray) : Prop := 0 < s.size ∧ s.size ≤ 32 ∧ ∀ i (h : i < s.size), okByte s[i]

/-- A disk's own block: its capacity, the next file's number, the blocks of both maps, the deeds, how it is armed. -/
def DiskB (w : World) (d : Nat) (cap nx : Int) (mn ml : Nat) (dv : Value) (ar : Int) : Prop :=
  Blk w d 125 #[.int .i64 cap, .int .i64 nx, .map (some mn), .map (some ml), dv, .int .i64 ar]

section
variable {w : World} {d mn ml : Nat} {cap nx ar : Int} {dv : Value}

theorem DiskB.cells (h : DiskB w d cap nx mn ml dv ar) :
    w.cell? ⟨d, 0, none⟩ = some (.int .i64 cap) ∧ w.cell? ⟨d, 1, none⟩ = some (.int .i64 nx) ∧ w.cell? ⟨d, 2, none⟩ = some (.map (some mn)) ∧ w.cell? ⟨d, 3, none⟩ = some (.map (some ml)) ∧
    w.cell? ⟨d, 4, none⟩ = some dv ∧ w.cell? ⟨d, 5, none⟩ = some (.int .i64 ar) :=
  ⟨Blk.cell h 0, Blk.cell h 1, Blk.cell h 2, Blk.cell h 3, Blk.cell h 4, Blk.cell h 5⟩

theorem DiskB.alloc (h : DiskB w d cap nx mn ml dv ar) (o : Obj) : DiskB (w.alloc o) d cap nx mn ml dv ar := Blk.alloc h o
theorem DiskB.lt (h : DiskB w d cap nx mn ml dv ar) : d < w.heap.size := Blk.lt h
theorem DiskB.upd {w' : World} {S : Nat → Prop} (h : DiskB w d cap nx mn ml dv ar) (hu : Upd S w w') (hg : ¬ S d) : DiskB w' d cap nx mn ml dv ar := Blk.upd h hu hg
theorem DiskB.grown {w' : World} {row : Option Nat} (h : DiskB w d cap nx mn ml dv ar) (hu : w.grownBy w' row) (hg : some d ≠ row) : DiskB w' d cap nx mn ml dv ar := Blk.grown h hu hg

theorem DiskB.put4 (h : DiskB w d cap nx mn ml dv ar) (v : Value) : DiskB (w.setCell ⟨d, 4, none⟩ v) d cap nx mn ml v ar := by simpa [DiskB] using Blk.set_ h 4 v
theorem DiskB.put1 (h : DiskB w d cap nx mn ml dv ar) (n : Int) : DiskB (w.setCell ⟨d, 1, none⟩ (.int .i64 n)) d cap n mn ml dv ar := by simpa [DiskB] using Blk.set_ h 1 (.int .i64 n)
theorem DiskB.put3 (h : DiskB w d cap nx mn ml dv ar) (r : Nat) : DiskB (w.setCell ⟨d, 3, none⟩ (.map (some r))) d cap nx mn r dv ar := by simpa [DiskB] using Blk.set_ h 3 (.map (some r))
theorem DiskB.put5 (h : DiskB w d cap nx mn ml dv ar) (n : Int) : DiskB (w.setCell ⟨d, 5, none⟩ (.int .i64 n)) d cap nx mn ml dv n := by simpa [DiskB] using Blk.set_ h 5 (.int .i64 n)

theorem did_any (hd : DiskB w d cap nx mn ml dv ar) (h1 : -1 ≤ ar) (h2 : ar ≤ 1000000) :
    Calls Tryz.prog 144 #[.pointer (some ⟨d, 0, none⟩)] w fun e w' => e = .returned (.tuple #[]) ∧
      DiskB w' d cap nx mn ml dv (didA ar) ∧ Upd (fun k => k = d) w w' := by
  have c5 := hd.cells.2.2.2.2.2
  have z5 := Blk.frozen hd 5
  by_cases h : 0 < ar
  · have e : didA ar = ar - 1 := by unfold didA; rw [if_pos h]
    have E := Lib.hid e
    clear e
    go_enter Tryz.func144, Tryz.ntmps144
    go_wp2
    go_end0
    rw [E.out]
    exact ⟨rfl, by simpa [DiskB] using Blk.set_ hd 5 _, (Upd.refl (fun k => k = d) w).setCell (p := ⟨d, 5, none⟩) (fun _ => rfl) _⟩
  · have e : didA ar = ar := by unfold didA; rw [if_neg h]
    have E := Lib.hid e
    clear e
    go_enter Tryz.func144, Tryz.ntmps144
    go_wp2
    go_end0
    rw [E.out]
    exact ⟨rfl, hd, Upd.refl _ _⟩

theorem up_nil (w : World) : Calls Tryz.prog 66 #[.pointer none] w fun e w' => e = .returned (.iface 72 (.int .i64 15)) ∧ w = w' := by
  go_enter Tryz.func66, Tryz.ntmps66
  go_wp2
  go_ret
  exact ⟨rfl, rfl⟩
theorem up_down (hd : DiskB w d cap nx mn ml dv 0) :
    Calls Tryz.prog 66 #[.pointer (some ⟨d, 0, none⟩)] w fun e w' => e = .returned (.iface 72 (.int .i64 12)) ∧ w = w' := by
  have c5 := hd.cells.2.2.2.2.2
  go_enter Tryz.func66, Tryz.ntmps66
  go_wp2
  go_ret
  exact ⟨rfl, rfl⟩
theorem up_ok (hd : DiskB w d cap nx mn ml dv ar) (h : ar ≠ 0) :
    Calls Tryz.prog 66 #[.pointer (some ⟨d, 0, none⟩)] w fun e w' => e = .returned .nilIface ∧ w = w' := by
  have c5 := hd.cells.2.2.2.2.2
  have hb : (ar == 0) = false := by simpa using h
  go_enter Tryz.func66, Tryz.ntmps66
  go_wp2
  go_ret
  exact ⟨rfl, rfl⟩

theorem find_ok {es : Array MapEntry} {clk i : Nat} {f : Nat} (name : ByteArray) (hd : DiskB w d cap nx mn ml dv ar) (h : ar ≠ 0)
    (hm : MBlk w mn es clk) (hf : Instr.findNow .string (.string name) es.toList 0 = some (some (i, .pointer (some ⟨f, 0, none⟩)))) :
    Calls Tryz.prog 142 #[.pointer (some ⟨d, 0, none⟩), .string name] w fun e w' => e = .returned (.tuple #[.pointer (some ⟨f, 0, none⟩), .nilIface]) ∧ w = w' := by
  have c2 := hd.cells.2.2.1
  have hl := run_lookup_some (P := Tryz.prog) Tryz.underlying122 Tryz.underlying9 (key := .string name) trivial hm hf
  have hu := Lib.hid (up_ok hd h)
  clear hd hm hf
  go_enter Tryz.func142, Tryz.ntmps142
  go_wp2_with (go_at_call 66; refine (hu.out).mono ?_; rintro e w' ⟨rfl, rfl⟩)
  go_ret2
  exact ⟨rfl, rfl⟩
theorem find_none {es : Array MapEntry} {clk : Nat} (name : ByteArray) (hd : DiskB w d cap nx mn ml dv ar) (h : ar ≠ 0)
    (hm : MBlk w mn es clk) (hf : Instr.findNow .string (.string name) es.toList 0 = some none) :
    Calls Tryz.prog 142 #[.pointer (some ⟨d, 0, none⟩), .string name] w fun e w' => e = .returned (.tuple #[.pointer none, .iface 72 (.int .i64 6)]) ∧ w = w' := by
  have c2 := hd.cells.2.2.1
  have hz : (zeroValue 152).run Tryz.prog w = .ok (.pointer none) w := by kernel_rfl
  have hl := run_lookup_none (P := Tryz.prog) Tryz.underlying122 Tryz.underlying9 (key := .string name) trivial hm hf hz
  have hu := Lib.hid (up_ok hd h)
  clear hd hm hf hz
  go_enter Tryz.func142, Tryz.ntmps142
  go_wp2_with (go_at_call 66; refine (hu.out).mono ?_; rintro e w' ⟨rfl, rfl⟩)
  go_ret2
  exact ⟨rfl, rfl⟩
theorem find_down {name : ByteArray} (hd : DiskB w d cap nx mn ml dv 0) :
    Calls Tryz.prog 142 #[.pointer (some ⟨d, 0, none⟩), .string name] w fun e w' => e = .returned (.tuple #[.pointer none, .iface 72 (.int .i64 12)]) ∧ w = w' := by
  have hu := Lib.hid (up_down hd)
  clear hd
  go_enter Tryz.func142, Tryz.ntmps142
  go_wp2_with (go_at_call 66; refine (hu.out).mono ?_; rintro e w' ⟨rfl, rfl⟩)
  go_ret2
  exact ⟨rfl, rfl⟩

theorem create1_any {es : Array MapEntry} {clk fb nb f : Nat} {name : ByteArray} (hn : w.cell? ⟨nb, 0, none⟩ = some (.string name)) (hf : w.cell? ⟨fb, 0, none⟩ = some (.pointer (some ⟨f, 0, none⟩)))
    (hm : MBlk w mn es clk) (hall : ∀ x ∈ es.toList, IsKey .string x.key) :
    Calls Tryz.prog 141 #[.map (some mn), .pointer (some ⟨fb, 0, none⟩), .pointer (some ⟨nb, 0, none⟩)] w fun e w' => e = .returned (.tuple #[]) ∧
      MBlk w' mn (mput .string es clk (.string name) (.pointer (some ⟨f, 0, none⟩))) (mclock .string es clk (.string name)) ∧ w.grownBy w' (some mn) := by
  go_enter Tryz.func141, Tryz.ntmps141
  go_wp2_with (at_mapUpdate; refine wpList_mapUpdate_k rfl _ _ _ 122 rfl Tryz.underlying122 Tryz.underlying9 rfl _ _ rfl rfl trivial hm hall ?_; intro w1 hm1 hg1)
  go_end0
  exact ⟨rfl, hm1, hg1⟩

theorem rename1_any {es : Array MapEntry} {clk fb nb tb f : Nat} {name to : ByteArray} (hn : Blk w nb 9 #[.string name]) (ht : Blk w tb 9 #[.string to]) (hf : Blk w fb 152 #[.pointer (some ⟨f, 0, none⟩)])
    (hm : MBlk w mn es clk) (hok : MOk .string es clk) :
    Calls Tryz.prog 146 #[.map (some mn), .pointer (some ⟨nb, 0, none⟩), .pointer (some ⟨fb, 0, none⟩), .pointer (some ⟨tb, 0, none⟩)] w fun e w' => e = .returned (.tuple #[]) ∧
      MBlk w' mn (mput .string (mdel .string es (.string name)) clk (.string to) (.pointer (some ⟨f, 0, none⟩))) (mclock .string (mdel .string es (.string name)) clk (.string to)) ∧ w.grownBy w' (some mn) := by
  have cn := hn.cell 0
  simp at cn
  have ht' := hn.neM hm
  have nt := ht.neM hm
  have nf := hf.neM hm
  have hok2 := hok.del (key := .string name) trivial
  go_enter Tryz.func146, Tryz.ntmps146
  go_wp2_with (first
    | (at_delete; refine wpList_delete_k rfl _ _ 122 9 rfl Tryz.underlying122 Tryz.underlying9 rfl _ rfl trivial hm hok.2 ?_; intro w1 hm1 hg1; have ct := (ht.grown hg1 (by simpa using nt)).cell 0; have cf := (hf.grown hg1 (by simpa using nf)).cell 0; simp at ct cf)
    | (at_mapUpdate; refine wpList_mapUpdate_k rfl _ _ _ 122 rfl Tryz.underlying122 Tryz.underlying9 rfl _ _ rfl rfl trivial hm1 hok2.2 ?_; intro w2 hm2 hg2))
  go_end0
  exact ⟨rfl, hm2, grown_trans hg1 hg2⟩
end
end Go.Proofs.YtlbmoafdialigaaGreatDoor
