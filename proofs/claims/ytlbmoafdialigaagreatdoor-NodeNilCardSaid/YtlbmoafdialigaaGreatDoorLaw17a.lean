/- law17.alive: the chapter's example stands. -/
import Derived.Test.YtlbmoafdialigaaGreatDoorNode8
namespace Go.Proofs.YtlbmoafdialigaaGreatDoor
open Go Go.RowKit Go.MapKept

theorem two_ok (v f1 f2 : Nat) : MOk .string (((#[] : Array MapEntry).push { key := .string (nmData v 1), val := .pointer (some ⟨f1, 0, none⟩), born := 0 }).push { key := .string (nmMan v), val := .pointer (some ⟨f2, 0, none⟩), born := 0 + 1 + 1 }) (0 + 1 + 1 + 1) := by
  refine ⟨⟨?_, by simp, ?_⟩, ?_⟩
  · intro x hx
    simp at hx
    rcases hx with rfl | rfl <;> simp
  · simp
    exact txt_ne (by decide)
  · intro x hx
    simp at hx
    rcases hx with rfl | rfl <;> exact trivial
theorem two_find (v f1 f2 : Nat) : Instr.findNow .string (.string (nmData v 1)) (((#[] : Array MapEntry).push { key := .string (nmData v 1), val := .pointer (some ⟨f1, 0, none⟩), born := 0 }).push { key := .string (nmMan v), val := .pointer (some ⟨f2, 0, none⟩), born := 0 + 1 + 1 }).toList 0 = some (some (0, .pointer (some ⟨f1, 0, none⟩))) := by
  have : (nmData v 1 == nmData v 1) = true := by
    rw [beq_toListBytes]
    simp
  simp [Instr.findNow, Instr.sameNow, this]

theorem field_live (v g e s l x : Int) (b : Bool) (w : World) : (Instr.field 60 (.agg #[.int .i64 v, .int .i64 g, .int .i64 e, .int .i64 s, .int .i64 l, .int .i64 x, .bool b]) 4).run Tryz.prog w = .ok (.int .i64 l) w := by kernel_rfl

set_option maxRecDepth 100000 in
set_option maxHeartbeats 4000000 in
theorem alive17 (w : World) : Calls Tryz.prog 4 #[] w fun e w' => e = .returned (.bool true) ∧ Upd (fun _ => False) w w' := by
  have HN : Hid (∀ W, _) := Lib.hid (fun W => nodeNew (place := 1) (cap := 5000) (by decide) (by decide) W)
  have HB := Lib.hid (fun W => nodeNew_bad W)
  go_enter Tryz.func4, Tryz.ntmps4
  go_wp2_with fail
  refine (HN.out w).mono ?_
  rintro e w1 ⟨nb, d, mn, ml, vm, mm, tb, km, wm, rfl, hn1, hd1, hmn1, hml1, hvm1, hmm1, hwm1, ht1, hk1, ⟨o1, o2, o3, o4, o5, o6, hdl⟩, hu1⟩
  have HM := Lib.hid (node_make (v := 1) (m := 1000) (cap := 5000) hn1 hd1 hmn1 hvm1 hmm1 ⟨by omega, by omega, by omega⟩ (by decide) (by decide) (by decide))
  go_wp2_with fail
  refine (HM.out).mono ?_
  rintro e w2 ⟨rfl, vb, xb, f1, f2, ml', A1, c1, fl', hn2, hvm2, hv2, hx2, hd2, hmn2, hfl2, htot2, hfb2, hb2, l1, l2, l3, l4, hu2⟩
  clear HM HN
  have hS2 : ∀ g t cs, Blk w1 g t cs → t ≠ 125 → ¬ (g = d ∨ g = mn ∨ g = vm ∨ g = mm) := by
    rintro g t cs hg hne (e | e | e | e)
    · exact Blk.ne_ hg hd1 hne e
    · exact Blk.neM hg hmn1 e
    · exact Blk.neM hg hvm1 e
    · exact Blk.neM hg hmm1 e
  have ht2 : TabB w2 tb km := Blk.upd ht1 hu2 (hS2 _ _ _ ht1 (by decide))
  have hk2 := hk1.upd hu2 (by rintro (e | e | e | e); exact Blk.neM hd1 hk1 e.symm; all_goals omega)
  have hu02 : Upd (fun _ => False) w w2 := hu1.then (hu2.mono (fun i hi e => e) : Upd _ w1 w2) (fun i hi e => by
    have := hd1.lt
    rcases e with e | e | e | e <;> omega)
  go_wp2_with fail
  generalize hw3 : World.alloc w2 _ = w3
  have hu23 : Upd (fun _ => False) w2 w3 := hw3 ▸ (Upd.refl _ w2).alloc _
  have b4 : Blk w3 w2.heap.size 34 #[.int .i64 0, .int .i64 1, .int .i64 1, .int .i64 1, .int .i64 0, .int .u64 0, .int .i64 0, .bool true, .int .u64 1, .int .u32 0, .bool false, .slice none 0 0] := hw3 ▸ Blk.new w2 _ _
  clear hw3
  have hvkm : vm ≠ km := by omega
  have hmkm : mn ≠ km := by omega
  have hv3 : VolB w3 vb d 1 1 0 false 1000 16 xb := Blk.upd hv2 hu23 (fun h => h)
  have hx3 : Idx0 w3 xb := Blk.upd hx2 hu23 (fun h => h)
  have hfb3 := hfb2.upd hu23 (fun h => h)
  have hd3 := hd2.upd hu23 (fun h => h)
  have ht3 : TabB w3 tb km := Blk.upd ht2 hu23 (fun h => h)
  have hk3 := hk2.upd hu23 (fun h => h)
  have hb3 := hb2.upd hu23 (fun _ _ h => h)
  have HH := handle_put_ok (w := w3) (v := 1) (id := 0) (fr := 0) (place := 1) (key := 1) (cookie := 0) (n := 0) (c := 0) (A := none) (l := []) (cap := 5000) (Blk.upd hn2 hu23 (fun h => h)) ht3 hk3 (hvm2.upd hu23 (fun h => h)) hvkm hv3 hx3 (by decide) (by decide) hd3 (hmn2.upd hu23 (fun h => h)) hmkm (two_ok 1 f1 f2) (hfl2.upd hu23 (fun _ _ _ h => h)) (by rw [htot2]; decide) (by decide) (two_find 1 f1 f2) hfb3 hb3 (by decide) (by decide) (by decide) (by decide) (by decide) ⟨rfl, .inl rfl⟩ (fun _ => rfl) (by rw [htot2]; decide) (by decide)
  refine HH.mono ?_
  unfold msgV
  rintro e w4 ⟨rfl, hR4, hn4, ⟨x1, x2, x3, x4, x5, hd4⟩, ht4, hk4, hvm4, hu34⟩
  clear HH
  have hS3 : ¬ ((w2.heap.size = vb ∨ w2.heap.size = xb ∨ w2.heap.size = d ∨ w2.heap.size = f1 ∨ (Value.slice A1 16 c1).ownBlock = some w2.heap.size) ∨ w2.heap.size = km) := by
    have := Blk.lt hv2
    have := Blk.lt hx2
    have := hd2.lt
    have := Blk.lt hfb2
    have := hk2.lt
    obtain ⟨g, cp, e1, _, e3⟩ := own_form hb2 (by decide)
    rintro ((e | e | e | e | e) | e) <;> first | omega | skip
    rw [e1] at e
    have : g = w2.heap.size := by simpa [Value.ownBlock] using e
    omega
  have b44 := b4.upd hu34 hS3
  have q4 := b44.lt
  have hu45 := (Upd.refl (fun _ => False) w4).alloc (.cells #[.int .i64 1, .int .i64 0, .int .i64 5, .int .i64 1, .int .i64 0, .int .u64 0, .int .i64 0, .bool false, .int .u64 0, .int .u32 0, .bool false, .slice none 0 0] 34)
  have b55 := Blk.new w4 34 #[.int .i64 1, .int .i64 0, .int .i64 5, .int .i64 1, .int .i64 0, .int .u64 0, .int .i64 0, .bool false, .int .u64 0, .int .u32 0, .bool false, .slice none 0 0]
  have b45 := b44.upd hu45 (fun h => h)
  have z0 := b45.cell 0
  have z1 := b45.cell 1
  have z2 := b45.cell 2
  have z3 := b45.cell 3
  have z4 := b45.cell 4
  have z5 := b45.cell 5
  have z6 := b45.cell 6
  have z7 := b45.cell 7
  have z8 := b45.cell 8
  have z9 := b45.cell 9
  have z10 := b45.cell 10
  have z11 := b45.cell 11
  have HX : Hid (∀ W, _) := Lib.hid (fun (W : World) (a1 : NodeB W nb 1 0 true d vm mm tb wm) (a2 : DiskB W d x1 x2 x3 x4 x5 (-1)) (a3 : TabB W tb km) (a4 : MBlk W km #[{ key := .agg #[.int .i64 ((0 : Nat) : Int), .int .u64 ((0 : Nat) : Int)], val := msgV ((1 : Nat) : Int) ((0 : Nat) : Int) 5 ((1 : Nat) : Int) 0 ((0 : Nat) : Int) ((0 : Nat) : Int) false 0 0 false (.slice none 0 0), born := 0 }] 1) =>
    handle_again (fr := 0) (place := 1) (vol := 1) (id := 0) (key := 1) (cookie := 0) (n := 0) (c := 0) (A := none) a1 a2 a3 a4 (by decide) (by decide) (by decide) (by decide))
  go_wp2_with fail
  have hn5 : NodeB (w4.alloc (.cells #[.int .i64 1, .int .i64 0, .int .i64 5, .int .i64 1, .int .i64 0, .int .u64 0, .int .i64 0, .bool false, .int .u64 0, .int .u32 0, .bool false, .slice none 0 0] 34)) nb 1 0 true d vm mm tb wm := Blk.upd hn4 hu45 (fun h => h)
  refine (HX.out _ hn5 (hd4.upd hu45 (fun h => h)) (Blk.upd ht4 hu45 (fun h => h)) (hk4.upd hu45 (fun h => h))).mono ?_
  unfold msgV
  rintro e w6 ⟨rfl, hu56⟩
  clear HX z0 z1 z2 z3 z4 z5 z6 z7 z8 z9 z10 z11
  have hu46 := hu45.then hu56 (fun _ _ h => h)
  have b56 := b55.upd hu56 (fun h => h)
  have q5 := b56.lt
  have hu67 := (Upd.refl (fun _ => False) w6).alloc (.cells #[.int .i64 1, .int .i64 0, .int .i64 5, .int .i64 1, .int .i64 0, .int .u64 0, .int .i64 0, .bool false, .int .u64 0, .int .u32 0, .bool false, .slice none 0 0] 34)
  have b77 := Blk.new w6 34 #[.int .i64 1, .int .i64 0, .int .i64 5, .int .i64 1, .int .i64 0, .int .u64 0, .int .i64 0, .bool false, .int .u64 0, .int .u32 0, .bool false, .slice none 0 0]
  have b57 := b56.upd hu67 (fun h => h)
  go_wp2_with fail
  clear hu45 hu56
  generalize w4.heap.size = n5 at *
  generalize w6.heap.size = n7 at *
  generalize (World.alloc w6 _) = w7 at *
  refine (HB.out w7).mono ?_
  rintro e w' ⟨rfl, rfl⟩
  have hu47 := hu46.then hu67 (fun _ _ h => h)
  have hn7 : NodeB w7 nb 1 0 true d vm mm tb wm := Blk.upd hn4 hu47 (fun h => h)
  have hvm7 := hvm4.upd hu47 (fun h => h)
  have hR7 := hR4.loc (B := 0) (hu47.mono (fun _ _ h => h.elim))
  have y0 := b57.cell 0
  have y1 := b57.cell 1
  have y2 := b57.cell 2
  have y3 := b57.cell 3
  have y4 := b57.cell 4
  have y5 := b57.cell 5
  have y6 := b57.cell 6
  have y7 := b57.cell 7
  have y8 := b57.cell 8
  have y9 := b57.cell 9
  have y10 := b57.cell 10
  have y11 := b57.cell 11
  have x_0 := b77.cell 0
  have x_1 := b77.cell 1
  have x_2 := b77.cell 2
  have x_3 := b77.cell 3
  have x_4 := b77.cell 4
  have x_5 := b77.cell 5
  have x_6 := b77.cell 6
  have x_7 := b77.cell 7
  have x_8 := b77.cell 8
  have x_9 := b77.cell 9
  have x_10 := b77.cell 10
  have x_11 := b77.cell 11
  have HL0 := Lib.hid (fun W => lawCode_nil W)
  have HL1 := Lib.hid (fun W => lawCode 1 (by decide) (by decide) W)
  have HSm := Lib.hid (fun W => wireSame_same 1 0 5 1 0 0 0 false W)
  unfold msgV at HSm
  go_wp2_with (go_at_call 8; refine (HL0.out _).mono ?_; rintro e w' ⟨rfl, rfl⟩)
  refine (HSm.out w7).mono ?_
  rintro e w8 ⟨rfl, hu78⟩
  have hn8 : NodeB w8 nb 1 0 true d vm mm tb wm := Blk.upd hn7 hu78 (fun h => h)
  have hvm8 := hvm7.upd hu78 (fun h => h)
  have hR8 := hR7.loc (B := 0) (hu78.mono (fun _ _ h => h.elim))
  clear HSm y0 y1 y2 y3 y4 y5 y6 y7 y8 y9 y10 y11 x_0 x_1 x_2 x_3 x_4 x_5 x_6 x_7 x_8 x_9 x_10 x_11
  go_wp2_with fail
  refine (vol_of (v := 1) hn8 hvm8).mono ?_
  rintro e w' ⟨rfl, rfl⟩
  obtain ⟨g, cg, size, r1, r2, r3, _⟩ := hR8
  have HI := Lib.hid (info_of (live := 1) (gone := 0) r1 (fun W hu => len_one (Blk.upd r2 hu (fun h => h)) (own_upd r3 hu (fun _ _ h => h))))
  go_wp2_with fail
  refine HI.out.mono ?_
  unfold infoV
  rintro e w9 ⟨rfl, hu89⟩
  have hfl := field_live 1 1 0 size 1 0 false w9
  go_wp2_with (go_at_call 8; refine (HL1.out _).mono ?_; rintro e w' ⟨rfl, rfl⟩)
  go_ret
  refine ⟨rfl, ?_⟩
  have hu04 : Upd (fun _ => False) w w4 := (hu02.then hu23 (fun _ _ h => h)).then hu34 (fun i hi e => by
    have := hu1.size
    rcases e with (e | e | e | e | e) | e
    · omega
    · omega
    · omega
    · omega
    · have := l4 i e; omega
    · omega)
  exact ((hu04.then hu47 (fun _ _ h => h)).then hu78 (fun _ _ h => h)).then hu89 (fun _ _ h => h)
end Go.Proofs.YtlbmoafdialigaaGreatDoor
