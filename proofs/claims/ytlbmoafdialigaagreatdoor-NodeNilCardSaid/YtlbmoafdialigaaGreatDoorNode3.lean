/- node.Make of the first volume of a node. -/
import Derived.Test.YtlbmoafdialigaaGreatDoorNode2
import Derived.Test.YtlbmoafdialigaaGreatDoorMake
import Derived.Test.YtlbmoafdialigaaGreatDoorMapE
import Derived.Test.YtlbmoafdialigaaGreatDoorHeldS
import Derived.Test.YtlbmoafdialigaaGreatDoorVol1
namespace Go.Proofs.YtlbmoafdialigaaGreatDoor
open Go Go.RowKit Go.MapKept

set_option maxRecDepth 100000 in
set_option maxHeartbeats 4000000 in
theorem node_make {w : World} {nb place d vm mm tb wm mn ml v m : Nat} {cap : Nat} (h : NodeB w nb place 0 true d vm mm tb wm) (hd : DiskB w d cap 0 mn ml (.slice none 0 0) (-1)) (hmn : MBlk w mn #[] 0) (hvm : MBlk w vm #[] 0) (hmm : MBlk w mm #[] 0)
    (hne : mn ≠ vm ∧ mn ≠ mm ∧ vm ≠ mm) (hv : 1 ≤ v ∧ v < 100) (hmost : 16 ≤ m ∧ m ≤ 16777216) (hcap : 40 ≤ cap ∧ cap ≤ 1073741824) :
    Calls Tryz.prog 9 #[.pointer (some ⟨nb, 0, none⟩), .int .i64 v, .int .i64 m] w fun e w' => e = .returned .nilIface ∧
      ∃ vb xb f1 f2 ml' A1 c1 fl', NodeB w' nb place 0 true d vm mm tb wm ∧ MBlk w' vm #[{ key := .int .i64 v, val := .pointer (some ⟨vb, 0, none⟩), born := 0 }] 1 ∧
      VolB w' vb d v 1 0 false m 16 xb ∧ Idx0 w' xb ∧ DiskB w' d cap (0 + 1 + 1) mn ml' (.slice none 0 0) (-1) ∧
      MBlk w' mn (((#[] : Array MapEntry).push { key := .string (nmData v 1), val := .pointer (some ⟨f1, 0, none⟩), born := 0 }).push { key := .string (nmMan v), val := .pointer (some ⟨f2, 0, none⟩), born := 0 + 1 + 1 }) (0 + 1 + 1 + 1) ∧
      Files w' fl' (((#[] : Array MapEntry).push { key := .string (nmData v 1), val := .pointer (some ⟨f1, 0, none⟩), born := 0 }).push { key := .string (nmMan v), val := .pointer (some ⟨f2, 0, none⟩), born := 0 + 1 + 1 }) ∧
      totN fl' (((#[] : Array MapEntry).push { key := .string (nmData v 1), val := .pointer (some ⟨f1, 0, none⟩), born := 0 }).push { key := .string (nmMan v), val := .pointer (some ⟨f2, 0, none⟩), born := 0 + 1 + 1 }).toList = 40 ∧
      FileB w' f1 0 A1 16 c1 16 ∧ Bytes w' A1 16 c1 (superL v 1) ∧ w.heap.size ≤ f1 ∧ w.heap.size ≤ vb ∧ w.heap.size ≤ xb ∧ (∀ k, (Value.slice A1 16 c1).ownBlock = some k → w.heap.size ≤ k) ∧
      Upd (fun k => k = d ∨ k = mn ∨ k = vm ∨ k = mm) w w' := by
  have HA := Lib.hid (ask_up h hd (by decide))
  have HM := Lib.hid (make_ok (v := v) (m := m) (cap := cap) (es := #[]) (clk := 0) (fl := fun _ => 0) (dxs := []) hv hmost hd (by decide) (by decide) hmn (MOk.empty _ _) (by decide) (by intro e he; simp at he) rfl rfl rfl (World.ownsRow_nil _ _ _ _) (by decide) (by intro e he; simp at he) (by omega) (by simp [totN]; omega))
  obtain ⟨c0, c1, c2, c3, c4, c5, c6, c7⟩ := h.cells
  go_enter Tryz.func9, Tryz.ntmps9
  go_wp2_with (first
    | (go_at_call 22; refine (HA.out).mono ?_; rintro e w' ⟨rfl, rfl⟩)
    | (go_at_call 33; go_must (refine (HM.out).mono ?_; rintro e w1 ⟨vb, xb, f1, f2, ml', A1, c1', fl', rfl, hvb, hxb, hd1, hmn1, hfl1, htot1, hfb1, hb1, hl1, hl2, hl3, hl4, hl5, hl6, hu1⟩)))
  have hS1 : ¬ SNames d mn (.slice none 0 0) nb := SNames.notBlk h hd hmn (World.ownsRow_nil _ _ _ _) (by decide) (by decide)
  have h1 : NodeB w1 nb place 0 true d vm mm tb wm := Blk.upd h hu1 hS1
  have hvm1 := hvm.upd hu1 (SNames.notMap hvm hd (World.ownsRow_nil _ _ _ _) (Ne.symm hne.1))
  have hmm1 := hmm.upd hu1 (SNames.notMap hmm hd (World.ownsRow_nil _ _ _ _) (Ne.symm hne.2.1))
  have hS : w1.drew.cell? ⟨nb, 4, none⟩ = some (.map (some vm)) ∧ w1.drew.cell? ⟨nb, 5, none⟩ = some (.map (some mm)) := ⟨Blk.cell h1 4, Blk.cell h1 5⟩
  refine wp_region_noPanic ?_
  refine wp_region_S 18 (fun W => W.cell? ⟨nb, 4, none⟩ = some (.map (some vm)) ∧ W.cell? ⟨nb, 5, none⟩ = some (.map (some mm))) (by kernel_rfl) rfl true ?_
  refine wpAnyQ_takeN 0 (v := ?_) nth0 (by kernel_rfl) (fun _ _ _ _ _ h => h) (by rfl) hS ?_ ?_
  rotate_left
  (focus ((intro w hSw; (try dsimp only at hSw); (try go_split_ands); go_simp); try with_reducible rfl))
  (try simp only [Act.put, List.setIfInBounds_toArray, List.set_cons_zero, List.set_cons_succ])
  refine wpAnyQ_takeN 1 (v := ?_) nth1 (by kernel_rfl) (fun _ _ _ _ _ h => h) (by rfl) hS ?_ ?_
  rotate_left
  (focus ((intro w hSw; (try dsimp only at hSw); (try go_split_ands); go_simp); try with_reducible rfl))
  (try simp only [Act.put, List.setIfInBounds_toArray, List.set_cons_zero, List.set_cons_succ])
  refine wpAnyQ_takeN 2 (v := ?_) nth2 (by kernel_rfl) (fun _ _ _ _ _ h => h) (by rfl) hS ?_ ?_
  rotate_left
  (focus ((intro w hSw; (try dsimp only at hSw); (try go_split_ands); go_simp); try with_reducible rfl))
  (try simp only [Act.put, List.setIfInBounds_toArray, List.set_cons_zero, List.set_cons_succ])
  refine wpAnyQ_takeN 3 (v := ?_) nth3 (by kernel_rfl) (fun _ _ _ _ _ h => h) (by rfl) hS ?_ ?_
  rotate_left
  (focus ((intro w hSw; (try dsimp only at hSw); (try go_split_ands); go_simp); try with_reducible rfl))
  (try simp only [Act.put, List.setIfInBounds_toArray, List.set_cons_zero, List.set_cons_succ])
  refine wpAnyQ_takeN 4 (v := ?_) nth4 (by kernel_rfl) (fun _ _ _ _ _ h => h) (by rfl) hS ?_ ?_
  rotate_left
  (focus ((intro w hSw; (try dsimp only at hSw); (try go_split_ands); go_simp); try with_reducible rfl))
  (try simp only [Act.put, List.setIfInBounds_toArray, List.set_cons_zero, List.set_cons_succ])
  refine wpAnyQ_takeN 5 (v := ?_) nth5 (by kernel_rfl) (fun _ _ _ _ _ h => h) (by rfl) hS ?_ ?_
  rotate_left
  (focus ((intro w hSw; (try dsimp only at hSw); (try go_split_ands); go_simp); try with_reducible rfl))
  (try simp only [Act.put, List.setIfInBounds_toArray, List.set_cons_zero, List.set_cons_succ])
  refine wpAnyQ_takeN 6 (v := ?_) nth6 (by kernel_rfl) (fun _ _ _ _ _ h => h) (by rfl) hS ?_ ?_
  rotate_left
  (focus ((intro w hSw; (try dsimp only at hSw); (try go_split_ands); go_simp); try with_reducible rfl))
  (try simp only [Act.put, List.setIfInBounds_toArray, List.set_cons_zero, List.set_cons_succ])
  refine wpAnyQ_takeN 7 (v := ?_) nth7 (by kernel_rfl) (fun _ _ _ _ _ h => h) (by rfl) hS ?_ ?_
  rotate_left
  (focus ((intro w hSw; (try dsimp only at hSw); (try go_split_ands); go_simp); try with_reducible rfl))
  (try simp only [Act.put, List.setIfInBounds_toArray, List.set_cons_zero, List.set_cons_succ])
  refine wpAnyQ_takeN 8 (v := ?_) nth8 (by kernel_rfl) (fun _ _ _ _ _ h => h) (by rfl) hS ?_ ?_
  rotate_left
  (focus ((intro w hSw; (try dsimp only at hSw); (try go_split_ands); go_simp); try with_reducible rfl))
  (try simp only [Act.put, List.setIfInBounds_toArray, List.set_cons_zero, List.set_cons_succ])
  refine wpAnyQ_takeN 9 (v := ?_) nth9 (by kernel_rfl) (fun _ _ _ _ _ h => h) (by rfl) hS ?_ ?_
  rotate_left
  (focus ((intro w hSw; (try dsimp only at hSw); (try go_split_ands); go_simp); try with_reducible rfl))
  (try simp only [Act.put, List.setIfInBounds_toArray, List.set_cons_zero, List.set_cons_succ])
  refine wpAnyQ_takeN 10 (v := ?_) nth10 (by kernel_rfl) (fun _ _ _ _ _ h => h) (by rfl) hS ?_ ?_
  rotate_left
  (focus ((intro w hSw; (try dsimp only at hSw); (try go_split_ands); go_simp); try with_reducible rfl))
  (try simp only [Act.put, List.setIfInBounds_toArray, List.set_cons_zero, List.set_cons_succ])
  refine wpAnyQ_takeN 11 (v := ?_) nth11 (by kernel_rfl) (fun _ _ _ _ _ h => h) (by rfl) hS ?_ ?_
  rotate_left
  (focus ((intro w hSw; (try dsimp only at hSw); (try go_split_ands); go_simp); try with_reducible rfl))
  (try simp only [Act.put, List.setIfInBounds_toArray, List.set_cons_zero, List.set_cons_succ])
  refine wpAnyQ_doN 12 nth12 (by kernel_rfl) ?_
  obtain ⟨w2, hr2, hvm2, hg2⟩ := run_mapEntry_0 (P := Tryz.prog) (w := w1.drew) Tryz.underlying66 Tryz.underlying3 (key := .int .i64 v) rfl hvm1 (z := .pointer none) (by kernel_rfl)
  go_wp2
  have h1d : NodeB w1.drew nb place 0 true d vm mm tb wm := h1
  have nv : some nb ≠ some vm := fun e => Blk.neM h1 hvm1 (by injection e)
  have nm : some nb ≠ some mm := fun e => Blk.neM h1 hmm1 (by injection e)
  have h2 : NodeB w2 nb place 0 true d vm mm tb wm := Blk.grown h1d hg2 nv
  have hmm2 : MBlk w2 mm #[] 0 := MBlk.grown (show MBlk w1.drew mm #[] 0 from hmm1) hg2 (fun e => hne.2.2 (by injection e with e; exact e.symm))
  have hS2 : w2.cell? ⟨nb, 4, none⟩ = some (.map (some vm)) ∧ w2.cell? ⟨nb, 5, none⟩ = some (.map (some mm)) := ⟨Blk.cell h2 4, Blk.cell h2 5⟩
  refine doK_next hS2 ?_
  refine wpAnyQ_takeN 13 (v := ?_) nth13 (by kernel_rfl) (fun _ _ _ _ _ h => h) (by rfl) hS2 ?_ ?_
  rotate_left
  (focus ((intro w hSw; (try dsimp only at hSw); (try go_split_ands); go_simp); try with_reducible rfl))
  (try simp only [Act.put, List.setIfInBounds_toArray, List.set_cons_zero, List.set_cons_succ])
  refine wpAnyQ_doN 14 nth14 (by kernel_rfl) ?_
  obtain ⟨w3, hr3, hvm3, hg3⟩ := run_entryStore_0 (P := Tryz.prog) (T := 66) hvm2 (.pointer (some ⟨vb, 0, none⟩))
  go_wp2
  have h3 : NodeB w3 nb place 0 true d vm mm tb wm := Blk.grown h2 hg3 nv
  have hmm3 : MBlk w3 mm #[] 0 := MBlk.grown hmm2 hg3 (fun e => hne.2.2 (by injection e with e; exact e.symm))
  have hS3 : w3.cell? ⟨nb, 4, none⟩ = some (.map (some vm)) ∧ w3.cell? ⟨nb, 5, none⟩ = some (.map (some mm)) := ⟨Blk.cell h3 4, Blk.cell h3 5⟩
  refine doK_next hS3 ?_
  refine wpAnyQ_doN 15 nth15 (by kernel_rfl) ?_
  obtain ⟨w4, hr4, hmm4, hg4⟩ := run_mapEntry_0 (P := Tryz.prog) (w := w3) Tryz.underlying67 Tryz.underlying3 (key := .int .i64 v) rfl hmm3 (z := .int .i64 0) (by kernel_rfl)
  go_wp2
  have h4 : NodeB w4 nb place 0 true d vm mm tb wm := Blk.grown h3 hg4 nm
  have hS4 : w4.cell? ⟨nb, 4, none⟩ = some (.map (some vm)) ∧ w4.cell? ⟨nb, 5, none⟩ = some (.map (some mm)) := ⟨Blk.cell h4 4, Blk.cell h4 5⟩
  refine doK_next hS4 ?_
  refine wpAnyQ_takeN 16 (v := ?_) nth16 (by kernel_rfl) (fun _ _ _ _ _ h => h) (by rfl) hS4 ?_ ?_
  rotate_left
  (focus ((intro w hSw; (try dsimp only at hSw); (try go_split_ands); go_simp); try with_reducible rfl))
  (try simp only [Act.put, List.setIfInBounds_toArray, List.set_cons_zero, List.set_cons_succ])
  refine wpAnyQ_doN 17 nth17 (by kernel_rfl) ?_
  obtain ⟨w5, hr5, hmm5, hg5⟩ := run_entryStore_0 (P := Tryz.prog) (T := 67) hmm4 (.int .i64 m)
  go_wp2
  refine doK_last (by kernel_rfl) (by kernel_rfl) (NoPanic.normal ?_)
  go_wp2
  go_ret
  have e2 : ∀ {a b : Nat}, (some a : Option Nat) = some b → b = a := fun e => by injection e with e; exact e.symm
  have hu15 : Upd (fun k => k = vm ∨ k = mm) w1 w5 := ((((((Upd.refl (fun k => k = vm ∨ k = mm) w1).drew).grown hg2 (fun k e _ => .inl (e2 e))).grown hg3 (fun k e _ => .inl (e2 e))).grown hg4 (fun k e _ => .inr (e2 e))).grown hg5 (fun k e _ => .inr (e2 e)))
  have nb5 : ∀ {g : Nat} {t : TypeId} {cs : Array Value}, Blk w1 g t cs → Blk w5 g t cs := fun {g t cs} hb => hb.upd hu15 (fun e => e.elim (fun e => Blk.neM hb hvm1 e) (fun e => Blk.neM hb hmm1 e))
  have hvm5 : MBlk w5 vm _ _ := MBlk.grown (MBlk.grown hvm3 hg4 (fun e => hne.2.2 (by injection e))) hg5 (fun e => hne.2.2 (by injection e))
  have hmn5 := hmn1.upd hu15 (fun e => e.elim hne.1 hne.2.1)
  refine ⟨rfl, vb, xb, f1, f2, ml', A1, c1', fl', nb5 h1, hvm5, nb5 hvb, nb5 hxb, nb5 hd1, hmn5, hfl1.upd hu15 (fun f cs hb e => e.elim (fun e => Blk.neM hb hvm1 e) (fun e => Blk.neM hb hmm1 e)), by simpa [totN] using htot1, nb5 hfb1, hb1.upd hu15 (fun k ek e => e.elim (fun e => own_mblk_ne hb1 hvm1 (by rw [ek, e])) (fun e => own_mblk_ne hb1 hmm1 (by rw [ek, e]))), hl1, hl4, hl5, hl6, ?_⟩
  refine (hu1.mono (S' := fun k => k = d ∨ k = mn ∨ k = vm ∨ k = mm) ?_).then hu15 (fun _ _ e => e.elim (fun e => .inr (.inr (.inl e))) (fun e => .inr (.inr (.inr e))))
  rintro k _ (e | e | e)
  · exact .inl e
  · exact .inr (.inl e)
  · cases e
end Go.Proofs.YtlbmoafdialigaaGreatDoor
