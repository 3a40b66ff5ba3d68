/- law17.NodeNil: whatever the message and the room, it answers true. -/
import Derived.Test.YtlbmoafdialigaaGreatDoorLaw17a
namespace Go.Proofs.YtlbmoafdialigaaGreatDoor
open Go Go.RowKit Go.MapKept

theorem sees_rep {w : World} {g n : Nat} (h : Blk w g 5 (Array.replicate n (.int .u8 0))) : Sees w (some ⟨g, 0, none⟩) n (List.replicate n 0) := by
  refine ⟨by simp, .inr ⟨g, 0, rfl, fun j hj => ?_⟩⟩
  rw [Nat.zero_add, h.cell j]
  simp at hj
  simp [hj]
set_option maxHeartbeats 2000000 in
/-- The first Put of NodeNil: it goes through where there is room, else the disk is full. -/
theorem first_put {w : World} {nb d vm mm tb wm km vb xb mn ml f1 f2 c1 cap : Nat} {A1 : Option Addr} {nx : Int} {l lx : List UInt8} {A : Option Addr} {fl : Value → Nat}
    (h : NodeB w nb 0 0 true d vm mm tb wm) (ht : TabB w tb km) (hm : MBlk w km #[] 0) (hvm : MBlk w vm #[{ key := .int .i64 ((3 : Nat) : Int), val := .pointer (some ⟨vb, 0, none⟩), born := 0 }] 1) (hvk : vm ≠ km)
    (hv : VolB w vb d 3 1 0 false 1000 16 xb) (hx : Idx0 w xb) (hcap : cap ≤ 1000)
    (hd : DiskB w d cap nx mn ml (.slice none 0 0) (-1)) (hmn : MBlk w mn (((#[] : Array MapEntry).push { key := .string (nmData 3 1), val := .pointer (some ⟨f1, 0, none⟩), born := 0 }).push { key := .string (nmMan 3), val := .pointer (some ⟨f2, 0, none⟩), born := 0 + 1 + 1 }) (0 + 1 + 1 + 1)) (hmk : mn ≠ km)
    (hfl : Files w fl (((#[] : Array MapEntry).push { key := .string (nmData 3 1), val := .pointer (some ⟨f1, 0, none⟩), born := 0 }).push { key := .string (nmMan 3), val := .pointer (some ⟨f2, 0, none⟩), born := 0 + 1 + 1 }))
    (htot : totN fl (((#[] : Array MapEntry).push { key := .string (nmData 3 1), val := .pointer (some ⟨f1, 0, none⟩), born := 0 }).push { key := .string (nmMan 3), val := .pointer (some ⟨f2, 0, none⟩), born := 0 + 1 + 1 }).toList = 40)
    (hfb : FileB w f1 0 A1 16 c1 16) (hb : Bytes w A1 16 c1 lx) (h0 : w.cell? ⟨0, 0, none⟩ = some (rt 36)) (hs : Sees w A 100 l) (hA : A = none → (100 : Nat) = 0) :
    Calls Tryz.prog 5 #[.pointer (some ⟨nb, 0, none⟩), msgV 0 0 1 3 0 1 0 true 1 0 false (.slice A 100 100)] w fun e w' =>
      ∃ code live size : Nat, ((code = 0 ∧ live = 1 ∧ 176 ≤ cap) ∨ (code = 11 ∧ live = 0 ∧ cap < 176)) ∧ e = .returned (.tuple #[msgV 0 0 5 3 0 1 code false 0 0 false (.slice none 0 0), .nilIface]) ∧
      NodeB w' nb 0 0 true d vm mm tb wm ∧ (∃ cap nx mn ml dv, DiskB w' d cap nx mn ml dv (-1)) ∧ MBlk w' vm #[{ key := .int .i64 ((3 : Nat) : Int), val := .pointer (some ⟨vb, 0, none⟩), born := 0 }] 1 ∧
      (∀ W, Upd (fun _ => False) w' W → Calls Tryz.prog 19 #[.pointer (some ⟨vb, 0, none⟩)] W fun e W' => e = .returned (infoV 3 1 0 size live 0 false) ∧ Upd (fun _ => False) W W') ∧
      Upd (fun k => (k = vb ∨ k = xb ∨ k = d ∨ k = f1 ∨ (Value.slice A1 16 c1).ownBlock = some k) ∨ k = km) w w' := by
  by_cases hc : cap < 176
  · refine (handle_put_full (v := 3) (id := 1) (fr := 0) (place := 0) (key := 1) (cookie := 0) (n := 100) (c := 100) (A := A) (l := l) (cap := cap) h ht hm hvm hvk hv hx (by decide) (by decide) hd hmn (two_ok 3 f1 f2) hfl (by rw [htot]; decide) (by omega) (two_find 3 f1 f2) hfb hb h0 (by decide) (by decide) (by decide) (by decide) (by decide) hs hA (by rw [htot]; unfold padN; omega) (by decide)).mono ?_
    rintro e w' ⟨he, hR, hn', hd', ht', hk', hvm', hu⟩
    refine ⟨11, 0, 16, .inr ⟨rfl, rfl, hc⟩, he, hn', hd', hvm', ?_, hu.mono (fun _ _ e => e.elim (fun e => e.elim) .inr)⟩
    intro W hW
    exact info_of (live := 0) (gone := 0) (Blk.upd hR.1 hW (fun h => h)) (fun W2 hu2 => (len_nil (Blk.upd (Blk.upd hR.2.1 hW (fun h => h)) hu2 (fun h => h))).mono fun e w' ⟨a, b⟩ => by subst b; exact ⟨a, Upd.refl _ _⟩)
  · refine (handle_put_ok (v := 3) (id := 1) (fr := 0) (place := 0) (key := 1) (cookie := 0) (n := 100) (c := 100) (A := A) (l := l) (cap := cap) h ht hm hvm hvk hv hx (by decide) (by decide) hd hmn hmk (two_ok 3 f1 f2) hfl (by rw [htot]; decide) (by omega) (two_find 3 f1 f2) hfb hb (by decide) (by decide) (by decide) (by decide) (by decide) hs hA (by rw [htot]; unfold padN; omega) (by decide)).mono ?_
    rintro e w' ⟨he, ⟨g, cg, size, r1, r2, r3, _⟩, hn', hd', ht', hk', hvm', hu⟩
    refine ⟨0, 1, size, .inl ⟨rfl, rfl, by omega⟩, he, hn', hd', hvm', ?_, hu⟩
    intro W hW
    exact info_of (live := 1) (gone := 0) (Blk.upd r1 hW (fun h => h)) (fun W2 hu2 => len_one (Blk.upd (Blk.upd r2 hW (fun h => h)) hu2 (fun h => h)) (own_upd (own_upd r3 hW (fun _ _ h => h)) hu2 (fun _ _ h => h)))

set_option maxRecDepth 100000 in
set_option maxHeartbeats 8000000 in
theorem nodeNil_long (fr dst kind vol life id code : Int) (has : Bool) (key cookie : Int) (gone : Bool) (A : Option Addr) (n c r : Nat) (hn : 300 < n) (w : World) :
    Calls Tryz.prog 3 #[.agg #[.int .i64 fr, .int .i64 dst, .int .i64 kind, .int .i64 vol, .int .i64 life, .int .u64 id, .int .i64 code, .bool has, .int .u64 key, .int .u32 cookie, .bool gone, .slice A n c], .int .u16 r] w fun e w' => e = .returned (.bool true) ∧ Upd (fun _ => False) w w' := by
  have HA := Lib.hid (fun W => alive17 W)
  have hn' : (300 : Int) < n := by omega
  go_enter Tryz.func3, Tryz.ntmps3
  go_wp2_with fail
  have hu1 := (Upd.refl (fun _ => False) w).alloc (.cells #[.int .i64 fr, .int .i64 dst, .int .i64 kind, .int .i64 vol, .int .i64 life, .int .u64 id, .int .i64 code, .bool has, .int .u64 key, .int .u32 cookie, .bool gone, .slice A n c] 28)
  have b2 := Blk.new w 28 #[.int .i64 fr, .int .i64 dst, .int .i64 kind, .int .i64 vol, .int .i64 life, .int .u64 id, .int .i64 code, .bool has, .int .u64 key, .int .u32 cookie, .bool gone, .slice A n c]
  generalize (World.alloc w _) = w1 at *
  refine (HA.out w1).mono ?_
  rintro e w2 ⟨rfl, hu2⟩
  have b22 := b2.upd hu2 (fun h => h)
  have k11 := b22.cell 11
  go_wp2_with fail
  go_ret
  exact ⟨rfl, hu1.then hu2 (fun _ _ h => h)⟩

set_option maxRecDepth 100000 in
set_option maxHeartbeats 8000000 in
theorem nodeNil_short (fr dst kind vol life id code : Int) (has : Bool) (key cookie : Int) (gone : Bool) (A : Option Addr) (n c r : Nat) (hn : n ≤ 300) (hr : r < 65536) (w : World) (h0 : w.cell? ⟨0, 0, none⟩ = some (rt 36)) :
    Calls Tryz.prog 3 #[.agg #[.int .i64 fr, .int .i64 dst, .int .i64 kind, .int .i64 vol, .int .i64 life, .int .u64 id, .int .i64 code, .bool has, .int .u64 key, .int .u32 cookie, .bool gone, .slice A n c], .int .u16 r] w fun e w' => e = .returned (.bool true) ∧ Upd (fun _ => False) w w' := by
  have HA := Lib.hid (fun W => alive17 W)
  have HO := Lib.hid (fun W => of14 fr dst kind vol life id code has key cookie gone A n c W)
  have HH := Lib.hid (fun W => handle_none fr dst kind vol life id code has key cookie gone A n c W)
  unfold msgV at HO HH
  have hn' : ¬ (300 : Int) < n := by omega
  go_enter Tryz.func3, Tryz.ntmps3
  go_wp2_with fail
  have hu1 := (Upd.refl (fun _ => False) w).alloc (.cells #[.int .i64 fr, .int .i64 dst, .int .i64 kind, .int .i64 vol, .int .i64 life, .int .u64 id, .int .i64 code, .bool has, .int .u64 key, .int .u32 cookie, .bool gone, .slice A n c] 28)
  have b2 := Blk.new w 28 #[.int .i64 fr, .int .i64 dst, .int .i64 kind, .int .i64 vol, .int .i64 life, .int .u64 id, .int .i64 code, .bool has, .int .u64 key, .int .u32 cookie, .bool gone, .slice A n c]
  generalize (World.alloc w _) = w1 at *
  refine (HA.out w1).mono ?_
  rintro e w2 ⟨rfl, hu2⟩
  have b22 := b2.upd hu2 (fun h => h)
  have k0 := b22.cell 0
  have k1 := b22.cell 1
  have k2 := b22.cell 2
  have k3 := b22.cell 3
  have k4 := b22.cell 4
  have k5 := b22.cell 5
  have k6 := b22.cell 6
  have k7 := b22.cell 7
  have k8 := b22.cell 8
  have k9 := b22.cell 9
  have k10 := b22.cell 10
  have k11 := b22.cell 11
  go_wp2_with (go_at_call 6; refine (HO.out _).mono ?_; rintro e w3 ⟨rfl, hu3⟩)
  refine (HH.out w3).mono ?_
  unfold msgZ msgV
  rintro e w4 ⟨rfl, hu4⟩
  have hu24 := hu3.then hu4 (fun _ _ h => h)
  clear HO HH k0 k1 k2 k3 k4 k5 k6 k7 k8 k9 k10 k11
  have HL := Lib.hid (fun W => lawCode 15 (by decide) (by decide) W)
  have HC := Lib.hid (fun W => crash_none 0 (.slice none 0 0) W rfl)
  go_wp2_with (first
    | (go_at_call 8; refine (HL.out _).mono ?_; rintro e w' ⟨rfl, rfl⟩)
    | (go_at_call 7; refine (work_none _ _ _).mono ?_; rintro e w' ⟨rfl, rfl⟩)
    | (go_at_call 9; refine (make_none _ _ _).mono ?_; rintro e w' ⟨rfl, rfl⟩)
    | (go_at_call 10; refine (arm_none _ _).mono ?_; rintro e w' ⟨rfl, rfl⟩)
    | (go_at_call 11; refine (HC.out _).mono ?_; rintro e w5 ⟨rfl, hu5⟩)
    | (go_at_call 12; refine (start_none _).mono ?_; rintro e w' ⟨rfl, rfl⟩)
    | (go_at_call 13; refine (up_none _).mono ?_; rintro e w' ⟨rfl, rfl⟩)
    | (go_at_call 14; refine (life_none _).mono ?_; rintro e w' ⟨rfl, rfl⟩)
    | (go_at_call 15; refine (vol_none _ _).mono ?_; rintro e w' ⟨rfl, rfl⟩)
    | (go_at_call 16; refine (disk_none _).mono ?_; rintro e w' ⟨rfl, rfl⟩)
    | (go_at_call 17; refine (volumes_none _).mono ?_; rintro e w' ⟨rfl, rfl⟩))
  have hu05 : Upd (fun _ => False) w w5 := ((hu1.then hu2 (fun _ _ h => h)).then hu24 (fun _ _ h => h)).then (((Upd.refl (fun _ => False) w4).alloc _).then hu5 (fun _ _ h => h)) (fun _ _ h => h)
  have h05 := cell_upd0 hu05 h0
  clear hu1 hu2 hu3 hu4 hu24 hu5 b2 b22 HL HC HA
  have ec : (64 + (r : Int) % 200) = ((64 + r % 200 : Nat) : Int) := by omega
  rw [ec]
  clear ec
  generalize hcp : 64 + r % 200 = cap
  replace hcp := Lib.hid hcp
  have hc1 : 64 ≤ cap ∧ cap ≤ 263 := by have := hcp.out; omega
  refine (nodeNew (place := 0) (cap := cap) (by decide) (by omega) w5).mono ?_
  rintro e w6 ⟨nb, d, mn, ml, vm, mm, tb, km, wm, rfl, hn6, hd6, hmn6, hml6, hvm6, hmm6, hwm6, ht6, hk6, ⟨o1, o2, o3, o4, o5, o6, hdl⟩, hu6⟩
  have HM := Lib.hid (node_make (v := 3) (m := 1000) (cap := cap) hn6 hd6 hmn6 hvm6 hmm6 ⟨by omega, by omega, by omega⟩ (by decide) (by decide) (by omega))
  go_wp2_with fail
  refine (HM.out).mono ?_
  rintro e w7 ⟨rfl, vb, xb, f1, f2, ml', A1, c1, fl', hn7, hvm7, hv7, hx7, hd7, hmn7, hfl7, htot7, hfb7, hb7, l1, l2, l3, l4, hu7⟩
  clear HM
  have hS2 : ∀ g t cs, Blk w6 g t cs → t ≠ 125 → ¬ (g = d ∨ g = mn ∨ g = vm ∨ g = mm) := by
    rintro g t cs hg hne (e | e | e | e)
    · exact Blk.ne_ hg hd6 hne e
    · exact Blk.neM hg hmn6 e
    · exact Blk.neM hg hvm6 e
    · exact Blk.neM hg hmm6 e
  have ht7 : TabB w7 tb km := Blk.upd ht6 hu7 (hS2 _ _ _ ht6 (by decide))
  have hk7 := hk6.upd hu7 (by rintro (e | e | e | e); exact Blk.neM hd6 hk6 e.symm; all_goals omega)
  have hu57 : Upd (fun _ => False) w5 w7 := hu6.then hu7 (fun i hi e => by rcases e with e | e | e | e <;> omega)
  have h07 := cell_upd0 hu57 h05
  have hmk : ∀ W : World, (Instr.makeSlice 24 (.int .i64 100) (.int .i64 100)).run Tryz.prog W = .ok (.slice (some ⟨W.heap.size, 0, none⟩) 100 100) (W.alloc (.cells (Array.replicate 100 (.int .u8 0)) 5)) := fun W => by kernel_rfl
  go_wp2_with fail
  generalize hw8 : World.alloc _ _ = w8
  have hu78 : Upd (fun _ => False) w7 w8 := hw8 ▸ ((Upd.refl _ w7).alloc _).alloc _
  have b13 : Blk w8 (w7.heap.size + 1) 34 #[.int .i64 0, .int .i64 0, .int .i64 1, .int .i64 3, .int .i64 0, .int .u64 1, .int .i64 0, .bool true, .int .u64 1, .int .u32 0, .bool false, .slice (some ⟨w7.heap.size, 0, none⟩) 100 100] := hw8 ▸ Blk.new1 w7 _ _ _
  have bz : Blk w8 w7.heap.size 5 (Array.replicate 100 (.int .u8 0)) := hw8 ▸ (Blk.new w7 _ _).alloc _
  clear hw8
  have hs : Sees w8 (some ⟨w7.heap.size, 0, none⟩) 100 (List.replicate 100 0) := sees_rep bz
  have hvkm : vm ≠ km := by omega
  have hmkm : mn ≠ km := by omega
  have q7 := Blk.lt hv7
  have hn8 : NodeB w8 nb 0 0 true d vm mm tb wm := Blk.upd hn7 hu78 (fun h => h)
  have HH := first_put (w := w8) hn8 (Blk.upd ht7 hu78 (fun h => h)) (hk7.upd hu78 (fun h => h)) (hvm7.upd hu78 (fun h => h)) hvkm (Blk.upd hv7 hu78 (fun h => h)) (Blk.upd hx7 hu78 (fun h => h)) (by omega : cap ≤ 1000) (hd7.upd hu78 (fun h => h)) (hmn7.upd hu78 (fun h => h)) hmkm (hfl7.upd hu78 (fun _ _ _ h => h)) htot7 (hfb7.upd hu78 (fun h => h)) (hb7.upd hu78 (fun _ _ h => h)) (cell_upd0 hu78 h07) hs (fun e => by cases e)
  refine HH.mono ?_
  unfold msgV
  rintro e w9 ⟨cd, live, size, hcase, rfl, hn9, ⟨x1, x2, x3, x4, x5, hd9⟩, hvm9, hinfo, hu89⟩
  clear HH
  replace hinfo := Lib.hid hinfo
  replace hcase : ((cd : Int) = 0 ∧ live = 1 ∧ 176 ≤ cap) ∨ ((cd : Int) = 11 ∧ live = 0 ∧ cap < 176) := by
    rcases hcase with ⟨rfl, rfl, h⟩ | ⟨rfl, rfl, h⟩
    · exact .inl ⟨rfl, rfl, h⟩
    · exact .inr ⟨rfl, rfl, h⟩
  generalize (cd : Int) = ci at *
  replace hcase := Lib.hid hcase
  have hS8 : ¬ ((w7.heap.size + 1 = vb ∨ w7.heap.size + 1 = xb ∨ w7.heap.size + 1 = d ∨ w7.heap.size + 1 = f1 ∨ (Value.slice A1 16 c1).ownBlock = some (w7.heap.size + 1)) ∨ w7.heap.size + 1 = km) := by
    have := Blk.lt hx7
    have := hd7.lt
    have := Blk.lt hfb7
    have := hk7.lt
    obtain ⟨g, cp, e1, _, e3⟩ := own_form hb7 (by decide)
    rintro ((e | e | e | e | e) | e) <;> first | omega | skip
    rw [e1] at e
    have : g = w7.heap.size + 1 := by simpa [Value.ownBlock] using e
    omega
  have b139 := b13.upd hu89 hS8
  have hu59 : Upd (fun _ => False) w5 w9 := (hu57.then hu78 (fun _ _ h => h)).then hu89 (fun i hi e => by
    have := hu6.size
    rcases e with (e | e | e | e | e) | e
    · omega
    · omega
    · omega
    · omega
    · have := l4 i e; omega
    · omega)
  have hu09 := hu05.then hu59 (fun _ _ h => h)
  have hn5 : w5.heap.size ≤ d := hdl
  have q13 := b139.lt
  clear hS8 hs bz b13 hn8 hn7 hv7 hx7 hd7 hmn7 hfl7 htot7 hfb7 hb7 ht7 hk7 hvm7 hS2 hmk hn6 hd6 hmn6 hml6 hvm6 hmm6 hwm6 ht6 hk6 h07 h05 hu78 hu89 hu7 hu6 hu57
  have HL0 := Lib.hid (fun W => lawCode_nil W)
  have HL12 : Hid (∀ W, Calls Tryz.prog 8 #[.iface 72 (.int .i64 12)] W fun e w' => e = .returned (.int .i64 12) ∧ W = w') := Lib.hid (fun W => lawCode 12 (by decide) (by decide) W)
  have HL14 : Hid (∀ W, Calls Tryz.prog 8 #[.iface 72 (.int .i64 14)] W fun e w' => e = .returned (.int .i64 14) ∧ W = w') := Lib.hid (fun W => lawCode 14 (by decide) (by decide) W)
  have hu910 := (Upd.refl (fun _ => False) w9).alloc (.cells #[.int .i64 0, .int .i64 0, .int .i64 5, .int .i64 3, .int .i64 0, .int .u64 1, .int .i64 ci, .bool false, .int .u64 0, .int .u32 0, .bool false, .slice none 0 0] 34)
  have b14 := Blk.new w9 34 #[.int .i64 0, .int .i64 0, .int .i64 5, .int .i64 3, .int .i64 0, .int .u64 1, .int .i64 ci, .bool false, .int .u64 0, .int .u32 0, .bool false, .slice none 0 0]
  have hn10 : NodeB _ nb 0 0 true d vm mm tb wm := Blk.upd hn9 hu910 (fun h => h)
  have hd10 := hd9.upd hu910 (fun h => h)
  have hvm10 := hvm9.upd hu910 (fun h => h)
  have b1310 := b139.upd hu910 (fun h => h)
  have j6 := b14.cell 6
  have hinfo10 := hinfo.out _ hu910
  replace hinfo10 := Lib.hid hinfo10
  rcases hcase.out with ⟨rfl, rfl, hge⟩ | ⟨rfl, rfl, hlt⟩
  have hz : ¬ (64 + (r : Int) % 200 < 176) := by have := hcp.out; omega
  rotate_left
  have hz : 64 + (r : Int) % 200 < 176 := by have := hcp.out; omega
  all_goals
   go_wp2_with (go_at_call 8; refine (HL0.out _).mono ?_; rintro e w' ⟨rfl, rfl⟩)
   clear j6 b14
   generalize w9.heap.size = n14 at *
   generalize (World.alloc w9 _) = w10 at *
   refine (vol_of (v := 3) hn10 hvm10).mono ?_
   rintro e w' ⟨rfl, rfl⟩
   go_wp2_with fail
   refine hinfo10.out.mono ?_
   unfold infoV
   rintro e w11 ⟨rfl, hu1011⟩
   have hn11 : NodeB w11 nb 0 0 true d vm mm tb wm := Blk.upd hn10 hu1011 (fun h => h)
   have hd11 := hd10.upd hu1011 (fun h => h)
   have b1311 := b1310.upd hu1011 (fun h => h)
   have HAr := Lib.hid (arm_0 hn11 hd11 (by decide))
   have hfl0 := field_live 3 1 0 size 0 0 false w11
   have hfl1 := field_live 3 1 0 size 1 0 false w11
   go_wp2_with fail
   refine HAr.out.mono ?_
   rintro e w12 ⟨rfl, hd12, hu12⟩
   have hn12 : NodeB w12 nb 0 0 true d vm mm tb wm := Blk.upd hn11 hu12 (Blk.ne_ hn11 hd11 (by decide))
   have b1312 := b1311.upd hu12 (Blk.ne_ b1311 hd11 (by decide))
   have HHd := Lib.hid (handle_down hn12 hd12 0 0 1 3 0 1 0 true 1 0 false (some ⟨w7.heap.size, 0, none⟩) 100 100)
   unfold msgV msgZ msgV at HHd
   have y0 := b1312.cell 0
   have y1 := b1312.cell 1
   have y2 := b1312.cell 2
   have y3 := b1312.cell 3
   have y4 := b1312.cell 4
   have y5 := b1312.cell 5
   have y6 := b1312.cell 6
   have y7 := b1312.cell 7
   have y8 := b1312.cell 8
   have y9 := b1312.cell 9
   have y10 := b1312.cell 10
   have y11 := b1312.cell 11
   go_wp2_with fail
   refine HHd.out.mono ?_
   rintro e w13 ⟨rfl, hu13⟩
   clear y0 y1 y2 y3 y4 y5 y6 y7 y8 y9 y10 y11 HHd HAr hfl0 hfl1 hinfo hinfo10
   have hu1214 := hu13.then ((Upd.refl (fun _ => False) w13).alloc (.cells #[.int .i64 0, .int .i64 0, .int .i64 0, .int .i64 0, .int .i64 0, .int .u64 0, .int .i64 0, .bool false, .int .u64 0, .int .u32 0, .bool false, .slice none 0 0] 34)) (fun _ _ h => h)
   have hn14 : NodeB (w13.alloc (.cells #[.int .i64 0, .int .i64 0, .int .i64 0, .int .i64 0, .int .i64 0, .int .u64 0, .int .i64 0, .bool false, .int .u64 0, .int .u32 0, .bool false, .slice none 0 0] 34)) nb 0 0 true d vm mm tb wm := Blk.upd hn12 hu1214 (fun h => h)
   have hd14 := hd12.upd hu1214 (fun h => h)
   go_wp2_with fail
   generalize w13.heap.size = n18 at *
   generalize (World.alloc w13 _) = w14 at *
   refine (work_down hn14 hd14 _ _).mono ?_
   rintro e w' ⟨rfl, rfl⟩
   have HU : Calls Tryz.prog 13 #[.pointer (some ⟨nb, 0, none⟩)] w14 fun e w' => e = .returned (.bool false) ∧ w14 = w' := nodeUp hn14 hd14
   replace HU := Lib.hid HU
   have HMk := Lib.hid (make_down hn14 hd14 4 100)
   have HSt := Lib.hid (start_busy hn14)
   have HFa := Lib.hid (far_nil w14)
   go_wp2_with (first
    | (go_at_call 8; first | ((with_reducible refine (HL0.out _).mono ?_); rintro e w' ⟨rfl, rfl⟩) | ((with_reducible refine (HL12.out _).mono ?_); rintro e w' ⟨rfl, rfl⟩) | ((with_reducible refine (HL14.out _).mono ?_); rintro e w' ⟨rfl, rfl⟩))
    | (go_at_call 13; refine (HU.out).mono ?_; rintro e w' ⟨rfl, rfl⟩)
    | (go_at_call 9; refine (HMk.out).mono ?_; rintro e w' ⟨rfl, rfl⟩)
    | (go_at_call 12; refine (HSt.out).mono ?_; rintro e w' ⟨rfl, rfl⟩)
    | (go_at_call 20; refine (HFa.out).mono ?_; rintro e w' ⟨rfl, rfl⟩))
   go_ret
   refine ⟨rfl, ?_⟩
   exact (((hu09.then hu910 (fun _ _ h => h)).then hu1011 (fun _ _ h => h)).then hu12 (fun i hi e => by have e : i = d := e; have := hu05.size; omega)).then hu1214 (fun _ _ h => h)
end Go.Proofs.YtlbmoafdialigaaGreatDoor
