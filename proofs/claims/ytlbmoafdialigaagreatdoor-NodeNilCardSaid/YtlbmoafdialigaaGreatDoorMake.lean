/- vol.Make on an unarmed disk with room and without the volume's names. -/
import Derived.Test.YtlbmoafdialigaaGreatDoorLay
namespace Go.Proofs.YtlbmoafdialigaaGreatDoor
open Go Go.RowKit Go.MapKept

theorem txt_ne {a b : UInt8} {l l' : List UInt8} (h : a ≠ b) : txt (a :: l) ≠ txt (b :: l') := fun e => by
  have := congrArg (fun s => s.data.toList) e
  simp [txt] at this
  exact h this.1
theorem find_push {es : Array MapEntry} (hall : ∀ x ∈ es.toList, IsKey .string x.key) {s s' : ByteArray} (hne : s' ≠ s) (val : Value) (b : Nat) (h : Instr.findNow .string (.string s) es.toList 0 = some none) :
    Instr.findNow .string (.string s) (es.push { key := .string s', val, born := b }).toList 0 = some none := by
  refine find_none_of (d := .string) (key := .string s) trivial ?_ ?_
  · intro x hx
    simp only [Array.toList_push, List.mem_append, List.mem_singleton] at hx
    rcases hx with hx | rfl
    · exact hall x hx
    · exact trivial
  · intro x hx
    simp only [Array.toList_push, List.mem_append, List.mem_singleton] at hx
    rcases hx with hx | rfl
    · exact ne_of_find (d := .string) (key := .string s) trivial hall h x hx
    · intro e
      injection e with e
      exact hne e

set_option maxRecDepth 100000 in
set_option maxHeartbeats 4000000 in
theorem make_ok {w : World} {d mn ml n c clk v m : Nat} {cap nx : Int} {A : Option Addr} {dxs : List Value} {es : Array MapEntry} {fl : Value → Nat} (hv : 1 ≤ v ∧ v < 100) (hmost : 16 ≤ m ∧ m ≤ 16777216)
    (hd : DiskB w d cap nx mn ml (.slice A n c) (-1)) (hnx0 : 0 ≤ nx) (hnx : nx ≤ 100000) (hm : MBlk w mn es clk) (hok : MOk .string es clk) (hsz : es.size < 60) (hk32 : Keys32 es)
    (hfd : Instr.findNow .string (.string (nmData v 1)) es.toList 0 = some none) (hfm : Instr.findNow .string (.string (nmMan v)) es.toList 0 = some none) (hfs : Instr.findNow .string (.string (nmShadow v)) es.toList 0 = some none)
    (hdv : w.ownsRow 0 151 1 (.slice A n c) n dxs) (hn2 : n ≤ 10000)
    (hfl : Files w fl es) (hc1 : cap ≤ 1073741824) (hroom : totN fl es.toList + (40 : Int) ≤ cap) :
    Calls Tryz.prog 33 #[.pointer (some ⟨d, 0, none⟩), .int .i64 v, .int .i64 m, .int .i64 0] w fun e w' =>
      ∃ vb xb f1 f2 ml' A1 c1 fl', e = .returned (.tuple #[.pointer (some ⟨vb, 0, none⟩), .nilIface]) ∧
      Blk w' vb 101 #[.pointer (some ⟨d, 0, none⟩), .int .i64 v, .int .i64 1, .int .i64 0, .bool false, .int .i64 m, .int .i64 16, .pointer (some ⟨xb, 0, none⟩)] ∧
      Blk w' xb 168 #[.slice none 0 0] ∧
      DiskB w' d cap (nx + 1 + 1) mn ml' (.slice none 0 0) (-1) ∧
      MBlk w' mn ((es.push { key := .string (nmData v 1), val := .pointer (some ⟨f1, 0, none⟩), born := clk }).push { key := .string (nmMan v), val := .pointer (some ⟨f2, 0, none⟩), born := clk + 1 + 1 }) (clk + 1 + 1 + 1) ∧
      Files w' fl' ((es.push { key := .string (nmData v 1), val := .pointer (some ⟨f1, 0, none⟩), born := clk }).push { key := .string (nmMan v), val := .pointer (some ⟨f2, 0, none⟩), born := clk + 1 + 1 }) ∧
      totN fl' ((es.push { key := .string (nmData v 1), val := .pointer (some ⟨f1, 0, none⟩), born := clk }).push { key := .string (nmMan v), val := .pointer (some ⟨f2, 0, none⟩), born := clk + 1 + 1 }).toList = totN fl es.toList + 40 ∧
      FileB w' f1 nx A1 16 c1 16 ∧ Bytes w' A1 16 c1 (superL v 1) ∧ w.heap.size ≤ f1 ∧ w.heap.size ≤ f2 ∧ f1 ≠ f2 ∧ w.heap.size ≤ vb ∧ w.heap.size ≤ xb ∧ (∀ k, (Value.slice A1 16 c1).ownBlock = some k → w.heap.size ≤ k) ∧
      Upd (SNames d mn (.slice A n c)) w w' := by
  have HN := Lib.hid (fun W => names_small v 1 hv.2 (by decide) W)
  have HV := Lib.hid (fun W => vright_ok (v := v) (m := m) (p := 0) (by omega) hmost (by omega) W)
  have HP := Lib.hid (fun W => putSuper_ok (v := v) (g := 1) (by omega) (by omega) W)
  have HK := Lib.hid (fun (W : World) (a : DiskB W d cap nx mn ml (.slice A n c) (-1)) (b : MBlk W mn es clk) => names_any a b hok (by omega) (fun e he s hs => by have := hk32 e he s hs; unfold maxLen; omega))
  have hnot := notin_names (x := 109 :: Lib.decDigits v) hok.2 hfm
  have HF := Lib.hid (fun (W : World) (B : Option Addr) (cb : Nat) (l : List UInt8) (a : DiskB W d cap nx mn ml (.slice A n c) (-1)) (b : MBlk W mn es clk) (cc : W.ownsRow 0 151 1 (.slice A n c) n dxs) (dd : Files W fl es) (ee : Bytes W B 16 cb l) =>
    fresh_ok (nmData v 1) (nmData_ok hv.2 (by decide)) a hnx0 (by omega) b hok (by omega) hfd cc (by omega) dd hc1 ee (by decide) (by decide) (by omega))
  go_enter Tryz.func33, Tryz.ntmps33
  go_wp2_with (first
    | (go_at_call 58; refine (HN.out _).mono ?_; rintro e w' ⟨rfl, rfl⟩)
    | (go_at_call 59; refine (HV.out _).mono ?_; rintro e w' ⟨rfl, rfl⟩)
    | (go_at_call 61; go_must (refine (HK.out _ hd hm).mono ?_; rintro e w2 ⟨vs, ss, rfl, hperm, hrow, hu2⟩; obtain ⟨As, cs, rfl⟩ := own_slice hrow))
    | (go_at_call 60; go_must (refine (contains_no hrow (by rw [hperm.length_eq]; simp [namesOf]; omega) _ (fun h => hnot (hperm.mem_iff.1 h))).mono ?_; rintro e w' ⟨rfl, rfl⟩))
    | (go_at_call 62; go_must (refine (HP.out _).mono ?_; rintro e w3 ⟨B, cb, rfl, hb3, hu3⟩)))
  have hu03 := hu2.then hu3 (fun _ _ h => h)
  have hd3 := hd.upd hu03 id
  have hm3 := hm.upd hu03 id
  have hdv3 := own_upd hdv hu03 (fun _ _ h => h)
  have hfs3 := hfl.upd hu03 (fun _ _ _ h => h)
  have hs03 := hu03.size
  refine (HF.out _ _ _ _ hd3 hm3 hdv3 hfs3 hb3).mono ?_
  rintro e w4 ⟨rfl, f1, A', c', fv, A1, c1, hd4, hdv4, hm4, hfb4, hb4, hlf, hnw4, hrw, hu4⟩
  clear HN HV HP HK
  go_wp2_with fail
  generalize hw5 : World.alloc _ _ = w5
  generalize hes4 : es.push { key := .string (nmData v 1), val := .pointer (some ⟨f1, 0, none⟩), born := clk } = es4 at *
  have hok4 : MOk .string es4 (clk + 1) := by
    have := hok.put (key := .string (nmData v 1)) trivial (.pointer (some ⟨f1, 0, none⟩))
    rw [mput_new hfd, mclock_new hfd, hes4] at this
    exact this
  have hS4 : ∀ f cs, Blk w3 f 156 cs → ¬ SNames d mn (.slice A n c) f := fun f cs hb => SNames.notBlk hb hd3 hm3 hdv3 (by decide) (by decide)
  have hfl4 : Files w4 (flset fl f1 16) es4 := hes4 ▸ hfs3.push hu4 hS4 hlf hfb4 (.string (nmData v 1)) clk
  have htot4 : totN (flset fl f1 16) es4.toList = totN fl es.toList + 16 := by
    rw [← hes4, totN_push, totN_flset hfs3 hlf, flset_same]
  have hu5 : Upd (fun _ => False) w4 w5 := hw5 ▸ (Upd.refl _ w4).alloc _
  have b5 : Blk w5 w4.heap.size 98 #[.int .i64 v, .int .i64 1, .int .i64 0, .bool false] := hw5 ▸ Blk.new w4 _ _
  clear hw5
  have hd5 := hd4.upd hu5 id
  have hm5 := hm4.upd hu5 id
  have hdv5 := own_upd hdv4 hu5 (fun _ _ h => h)
  have hfl5 := hfl4.upd hu5 (fun _ _ _ h => h)
  have hfb5 := hfb4.upd hu5 id
  have hb5 := hb4.upd hu5 (fun _ _ h => h)
  have hs45 := hu5.size
  have hs34 := hu4.size
  have hsz4 : es4.size = es.size + 1 := by rw [← hes4]; simp
  have hk4 : Keys32 es4 := hes4 ▸ hk32.push (nmData_ok hv.2 (by decide)) _ _
  have hfs4 : Instr.findNow .string (.string (nmShadow v)) es4.toList 0 = some none := hes4 ▸ find_push hok.2 (txt_ne (by decide)) _ _ hfs
  have hfm4 : Instr.findNow .string (.string (nmMan v)) es4.toList 0 = some none := hes4 ▸ find_push hok.2 (txt_ne (by decide)) _ _ hfm
  have HL := Lib.hid (lay_ok (v := v) (g := 1) (p := 0) false hv (by decide) (by decide) hd5 (by omega) (by omega) hm5 hok4 (by omega) hk4 hfs4 hdv5 (by omega) hfl5 hc1 (by rw [htot4]; omega))
  go_wp2_with (go_at_call 64; go_must (refine (HL.out).mono ?_; rintro e w6 ⟨rfl, f2, ml', A2, c2, hd6, hm6, hml6, hfb6, hb6, hlf2, hu6⟩; rw [mput_new hfm4, mclock_new hfm4] at hm6))
  have hS6 : ∀ g cs t, Blk w5 g t cs → t ≠ 125 → t ≠ 151 → ¬ SNames d mn (.slice A' (n + 1) c') g := fun g cs t hb a b => SNames.notBlk hb hd5 hm5 hdv5 a b
  have b6 := b5.upd hu6 (hS6 _ _ _ b5 (by decide) (by decide))
  have hfb16 := hfb5.upd hu6 (hS6 _ _ _ hfb5 (by decide) (by decide))
  have hb16 := hb5.upd hu6 (SNames.notRow hb5 hd5 hm5 hdv5 (by decide) (by decide))
  have hfl6 := hfl5.push hu6 (fun f cs hb => hS6 _ _ _ hb (by decide) (by decide)) hlf2 hfb6 (.string (nmMan v)) (clk + 1 + 1)
  have htot6 : totN (flset (flset fl f1 16) f2 24) (es4.push { key := .string (nmMan v), val := .pointer (some ⟨f2, 0, none⟩), born := clk + 1 + 1 }).toList = totN fl es.toList + 40 := by
    rw [totN_push, totN_flset hfl5 hlf2, flset_same, htot4]
  have hs56 := hu6.size
  clear HL HF
  have HI := Lib.hid (fun W => indexNew_nil W)
  have k0 := b6.cell 0
  have k1 := b6.cell 1
  have k2 := b6.cell 2
  have k3 := b6.cell 3
  refine wp_region_noPanic ?_
  refine wp_region_head 5 (fun W => W.cell? ⟨w4.heap.size, 0, none⟩ = some (.int .i64 v) ∧ W.cell? ⟨w4.heap.size, 1, none⟩ = some (.int .i64 1) ∧ W.cell? ⟨w4.heap.size, 2, none⟩ = some (.int .i64 0) ∧ W.cell? ⟨w4.heap.size, 3, none⟩ = some (.bool false)) _ _ (by kernel_rfl) rfl (by kernel_rfl) (fun _ _ _ _ _ h => h) ⟨k0, k1, k2, k3⟩ ?_
  simp only [List.take_succ_cons, List.take_zero]
  refine wpHead_step (v := ?_) (by rfl) ?_ ?_
  rotate_left
  (focus ((intro w hSw; (try dsimp only at hSw); (try go_split_ands); go_simp); try with_reducible rfl))
  (try simp only [Act.put, List.setIfInBounds_toArray, List.set_cons_zero, List.set_cons_succ])
  refine wpHead_step (v := ?_) (by rfl) ?_ ?_
  rotate_left
  (focus ((intro w hSw; (try dsimp only at hSw); (try go_split_ands); go_simp); try with_reducible rfl))
  (try simp only [Act.put, List.setIfInBounds_toArray, List.set_cons_zero, List.set_cons_succ])
  refine wpHead_step (v := ?_) (by rfl) ?_ ?_
  rotate_left
  (focus ((intro w hSw; (try dsimp only at hSw); (try go_split_ands); go_simp); try with_reducible rfl))
  (try simp only [Act.put, List.setIfInBounds_toArray, List.set_cons_zero, List.set_cons_succ])
  refine wpHead_step (v := ?_) (by rfl) ?_ ?_
  rotate_left
  (focus ((intro w hSw; (try dsimp only at hSw); (try go_split_ands); go_simp); try with_reducible rfl))
  (try simp only [Act.put, List.setIfInBounds_toArray, List.set_cons_zero, List.set_cons_succ])
  refine wpHead_step (v := ?_) (by rfl) ?_ ?_
  rotate_left
  (focus ((intro w hSw; (try dsimp only at hSw); (try go_split_ands); go_simp); try with_reducible rfl))
  (try simp only [Act.put, List.setIfInBounds_toArray, List.set_cons_zero, List.set_cons_succ])
  refine wpHead_nil ?_
  go_wp2_with (go_at_call 65; refine (HI.out _).mono ?_; rintro e w7 ⟨rfl, rfl⟩)
  have b7 : Blk (w6.alloc (.cells #[.slice none 0 0] 168)).drew w4.heap.size 98 #[.int .i64 v, .int .i64 1, .int .i64 0, .bool false] := (b6.alloc _).drew
  refine tailK_next ⟨b7.cell 0, b7.cell 1, b7.cell 2, b7.cell 3⟩ ?_
  go_wp2
  refine tailK_next ⟨b7.cell 0, b7.cell 1, b7.cell 2, b7.cell 3⟩ ?_
  go_wp2
  have b8 := b7.alloc (.cells #[.pointer (some ⟨d, 0, none⟩), .int .i64 v, .int .i64 1, .int .i64 0, .bool false, .int .i64 m, .int .i64 16, .pointer (some ⟨w6.heap.size, 0, none⟩)] 101)
  refine tailK_next ⟨b8.cell 0, b8.cell 1, b8.cell 2, b8.cell 3⟩ ?_
  go_wp2
  refine tailK_next ⟨b8.cell 0, b8.cell 1, b8.cell 2, b8.cell 3⟩ ?_
  go_wp2
  refine tailK_last (NoPanic.normal ?_)
  go_wp2
  clear b7 b8 k0 k1 k2 k3 HI
  refine bodyPost_ret (v := .tuple #[.pointer (some ⟨w6.heap.size + 1, 0, none⟩), .nilIface]) (by simp [results, Tryz.results33, go_sem]) rfl ⟨_, w6.heap.size, f1, f2, ml', A1, c1, flset (flset fl f1 16) f2 24, rfl, ?_⟩
  rw [hes4]
  have hu7 : Upd (fun _ => False) w6 ((w6.alloc (.cells #[.slice none 0 0] 168)).alloc (.cells #[.pointer (some ⟨d, 0, none⟩), .int .i64 v, .int .i64 1, .int .i64 0, .bool false, .int .i64 m, .int .i64 16, .pointer (some ⟨w6.heap.size, 0, none⟩)] 101)).drew := (((Upd.refl _ w6).alloc _).alloc _).drew
  have hvb := (Blk.new1 w6 (.cells #[.slice none 0 0] 168) 101 #[.pointer (some ⟨d, 0, none⟩), .int .i64 v, .int .i64 1, .int .i64 0, .bool false, .int .i64 m, .int .i64 16, .pointer (some ⟨w6.heap.size, 0, none⟩)]).drew
  have hxb := ((Blk.new w6 168 #[.slice none 0 0]).alloc (.cells #[.pointer (some ⟨d, 0, none⟩), .int .i64 v, .int .i64 1, .int .i64 0, .bool false, .int .i64 m, .int .i64 16, .pointer (some ⟨w6.heap.size, 0, none⟩)] 101)).drew
  have hf1l := Blk.lt hfb4
  refine ⟨hvb, hxb, hd6.upd hu7 id, hm6.upd hu7 id, hfl6.upd hu7 (fun _ _ _ h => h), htot6, hfb16.upd hu7 id, hb16.upd hu7 (fun _ _ h => h), by omega, by omega, by omega, by omega, by omega, fun k e => by have := hnw4 k e; have := hu03.size; omega, ?_⟩
  refine ((((hu03.mono (S' := SNames d mn (.slice A n c)) (fun _ _ h => h.elim)).then hu4 (fun _ _ h => h)).then hu5 (fun _ _ h => h.elim)).then hu6 ?_).then hu7 (fun _ _ h => h.elim)
  rintro i hi (h | h | h)
  · exact .inl h
  · exact .inr (.inl h)
  · rcases hrw i h with h | h
    · exact .inr (.inr h)
    · omega
end Go.Proofs.YtlbmoafdialigaaGreatDoor
