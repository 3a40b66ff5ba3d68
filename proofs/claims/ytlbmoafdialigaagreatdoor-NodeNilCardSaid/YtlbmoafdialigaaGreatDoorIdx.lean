/- package index: with nothing in it, and with one entry. -/
import Derived.Test.YtlbmoafdialigaaGreatDoorLay
import Derived.Test.YtlbmoafdialigaaGreatDoorHeldS
namespace Go.Proofs.YtlbmoafdialigaaGreatDoor
open Go Go.RowKit Go.MapKept

theorem search_nil (key : Nat) (w : World) : Calls Tryz.prog 165 #[.slice none 0 0, .int .u64 key, .func (.func 166) #[] #[]] w fun e w' => e = .returned (.tuple #[.int .i64 0, .bool false]) ∧ w = w' := by
  go_enter Tryz.func165, Tryz.ntmps165
  go_wp2
  go_loop [9, 10] (fun i j => i = .int .i64 0 ∧ j = .int .i64 0) (fun _ _ => 0)
  case atStart => exact ⟨rfl, rfl⟩
  case round =>
    obtain ⟨rfl, rfl⟩ := hrel
    go_wp2
    go_ret2
    exact ⟨rfl, rfl⟩

/-- An index with nothing in it. -/
def Idx0 (w : World) (xb : Nat) : Prop := Blk w xb 168 #[.slice none 0 0]

theorem place_nil {w : World} {xb : Nat} (key : Nat) (h : Idx0 w xb) : Calls Tryz.prog 121 #[.pointer (some ⟨xb, 0, none⟩), .int .u64 key] w fun e w' => e = .returned (.tuple #[.int .i64 0, .bool false]) ∧ w = w' := by
  have c0 := Blk.cell h 0
  have HS := Lib.hid (fun W => search_nil key W)
  go_enter Tryz.func121, Tryz.ntmps121
  go_wp2_with (go_at_call 165; refine (HS.out _).mono ?_; rintro e w' ⟨rfl, rfl⟩)
  go_ret2
  exact ⟨rfl, rfl⟩

def posZ : Value := .agg #[.int .u64 0, .int .i64 0, .int .i64 0, .int .u32 0, .bool false]
theorem find_nil {w : World} {xb : Nat} (key : Nat) (h : Idx0 w xb) : Calls Tryz.prog 79 #[.pointer (some ⟨xb, 0, none⟩), .int .u64 key] w fun e w' => e = .returned (.tuple #[posZ, .iface 72 (.int .i64 6)]) ∧ Upd (fun _ => False) w w' := by
  have HP := Lib.hid (fun (W : World) (a : Idx0 W xb) => place_nil key a)
  go_enter Tryz.func79, Tryz.ntmps79
  go_wp2_with (go_at_call 121; refine (HP.out _ (Blk.alloc h _)).mono ?_; rintro e w' ⟨rfl, rfl⟩)
  refine bodyPost_ret (v := .tuple #[posZ, .iface 72 (.int .i64 6)]) (by simp [results, Tryz.results79, go_sem, posZ]) rfl ⟨rfl, (Upd.refl _ _).alloc _⟩

theorem len_nil {w : World} {xb : Nat} (h : Idx0 w xb) : Calls Tryz.prog 43 #[.pointer (some ⟨xb, 0, none⟩)] w fun e w' => e = .returned (.tuple #[.int .i64 0, .int .i64 0]) ∧ w = w' := by
  have c0 := Blk.cell h 0
  go_enter Tryz.func43, Tryz.ntmps43
  go_wp2
  go_loop [3, 13] (fun g i => g = .int .i64 0 ∧ i = .int .i64 0) (fun _ _ => 0)
  case atStart => exact ⟨rfl, rfl⟩
  case round =>
    obtain ⟨rfl, rfl⟩ := hrel
    go_wp2
    go_ret2
    exact ⟨rfl, rfl⟩

/-- A place of a needle as a value, and as cells. -/
def posC (key off len cookie : Nat) (gone : Bool) : List Value := [.int .u64 key, .int .i64 off, .int .i64 len, .int .u32 cookie, .bool gone]
theorem pos_info : (Tryz.prog.info? 170).map (fun i => (i.zero, i.size, i.bytes)) = some (some posZ, 5, 32) := by kernel_rfl

theorem insert_nil {w : World} {g c : Nat} (key off len cookie : Nat) (gone : Bool) (h : Blk w g 170 (posC key off len cookie gone).toArray) :
    Calls Tryz.prog 147 #[.slice none 0 0, .int .i64 0, .slice (some ⟨g, 0, none⟩) 1 c] w fun e w' => ∃ g' c', e = .returned (.slice (some ⟨g', 0, none⟩) 1 c') ∧
      w'.ownsRow 0 170 5 (.slice (some ⟨g', 0, none⟩) 1 c') 1 (posC key off len cookie gone) ∧ w.heap.size ≤ g' ∧ Upd (fun _ => False) w w' := by
  obtain ⟨i0, hi, hz0, hz1, hz2⟩ := info_parts pos_info
  have hnews : ∀ j u, (posC key off len cookie gone)[j]? = some u → w.cell? ((⟨g, 0, none⟩ : Addr).add j) = some u := fun j u hj => by
    rw [Addr.add_lit, Blk.cell h, Nat.zero_add]
    simpa using hj
  go_enter Tryz.func147, Tryz.ntmps147
  go_wp2_with (at_builtin; go_must (refine wpList_append_own_at _ rfl _ _ 166 rfl 0 170 i0 _ 5 32 Tryz.underlying166 hi hz0 hz1 hz2 rfl (by decide) _ _ _ rfl (World.ownsRow_nil _ _ _ _) ⟨g, 0, none⟩ 1 c (posC key off len cookie gone) rfl rfl hnews (by intro u hu; simp [posC] at hu; rcases hu with rfl | rfl | rfl | rfl | rfl <;> rfl) (by decide) (by decide) (Nat.zero_le _) ?_; intro v' w2 hown' hgrow _ hat; obtain ⟨g', cap', rfl, _, _⟩ := own_form hown' (by omega)))
  go_ret
  have hg' : g' = w.heap.size := by
    rcases hat with hat | hat
    · cases hat
    · injection hat
  exact ⟨g', cap', rfl, by simpa using hown', by omega, (Upd.refl _ w).grown hgrow (fun k e => by cases e)⟩

set_option maxRecDepth 100000 in
theorem idxPut_nil {w : World} {xb : Nat} (key off len cookie : Nat) (gone : Bool) (h : Idx0 w xb) :
    Calls Tryz.prog 108 #[.pointer (some ⟨xb, 0, none⟩), .agg (posC key off len cookie gone).toArray] w fun e w' => e = .returned .nilIface ∧
      ∃ g c, Blk w' xb 168 #[.slice (some ⟨g, 0, none⟩) 1 c] ∧ w'.ownsRow 0 170 5 (.slice (some ⟨g, 0, none⟩) 1 c) 1 (posC key off len cookie gone) ∧ w.heap.size ≤ g ∧ Upd (fun k => k = xb) w w' := by
  have HP := Lib.hid (fun (W : World) (a : Idx0 W xb) => place_nil key a)
  have HI := Lib.hid (fun (W : World) (g : Nat) (a : Blk W g 170 (posC key off len cookie gone).toArray) => insert_nil (c := 1) key off len cookie gone a)
  unfold posC
  go_enter Tryz.func108, Tryz.ntmps108
  go_wp2_with fail
  generalize hw0 : World.alloc _ _ = w0
  have hu0 : Upd (fun _ => False) w w0 := hw0 ▸ (Upd.refl _ w).alloc _
  have b0 : Blk w0 w.heap.size 170 #[.int .u64 key, .int .i64 off, .int .i64 len, .int .u32 cookie, .bool gone] := hw0 ▸ Blk.new w _ _
  have x0 : Idx0 w0 xb := Blk.upd h hu0 id
  clear hw0
  have k0 := b0.cell 0
  have k1 := b0.cell 1
  have k2 := b0.cell 2
  have k3 := b0.cell 3
  have k4 := b0.cell 4
  have kx := Blk.cell x0 0
  go_wp2_with (go_at_call 121; refine (HP.out _ x0).mono ?_; rintro e w' ⟨rfl, rfl⟩)
  have hS : w0.drew.cell? ⟨xb, 0, none⟩ = some (.slice none 0 0) ∧ w0.drew.cell? ⟨w.heap.size, 0, none⟩ = some (.int .u64 key) ∧ w0.drew.cell? ⟨w.heap.size, 1, none⟩ = some (.int .i64 off) ∧ w0.drew.cell? ⟨w.heap.size, 2, none⟩ = some (.int .i64 len) ∧ w0.drew.cell? ⟨w.heap.size, 3, none⟩ = some (.int .u32 cookie) ∧ w0.drew.cell? ⟨w.heap.size, 4, none⟩ = some (.bool gone) := ⟨kx, k0, k1, k2, k3, k4⟩
  refine wp_region_noPanic ?_
  refine wp_region_S 12 (fun W => W.cell? ⟨xb, 0, none⟩ = some (.slice none 0 0) ∧ W.cell? ⟨w.heap.size, 0, none⟩ = some (.int .u64 key) ∧ W.cell? ⟨w.heap.size, 1, none⟩ = some (.int .i64 off) ∧ W.cell? ⟨w.heap.size, 2, none⟩ = some (.int .i64 len) ∧ W.cell? ⟨w.heap.size, 3, none⟩ = some (.int .u32 cookie) ∧ W.cell? ⟨w.heap.size, 4, none⟩ = some (.bool gone)) (by kernel_rfl) rfl true ?_
  refine wpAnyQ_takeN 0 (v := ?_) nth0 (by kernel_rfl) (fun _ _ _ _ _ h => h) (by rfl) hS ?_ ?_
  rotate_left
  (focus ((intro w hSw; (try dsimp only at hSw); (try go_split_ands); go_simp); try with_reducible rfl))
  (try simp only [Act.put, List.setIfInBounds_toArray, List.set_cons_zero, List.set_cons_succ])
  refine wpAnyQ_takeN 1 (v := ?_) nth1 (by kernel_rfl) (fun _ _ _ _ _ h => h) (by rfl) hS ?_ ?_
  rotate_left
  (focus ((intro w hSw; (try dsimp only at hSw); (try go_split_ands); go_simp); try with_reducible rfl))
  (try simp only [Act.put, List.setIfInBounds_toArray, List.set_cons_zero, List.set_cons_succ])
  refine wpAnyQ_takeN 2 (v := ?_) nth2 (by kernel_rfl) (fun _ _ _ _ _ h => h) (by rfl) hS ?_ ?_
  rotate_left
  (focus ((intro w hSw; (try dsimp only at hSw); (try go_split_ands); go_simp); try with_reducible rfl))
  (try simp only [Act.put, List.setIfInBounds_toArray, List.set_cons_zero, List.set_cons_succ])
  refine wpAnyQ_takeN 3 (v := ?_) nth3 (by kernel_rfl) (fun _ _ _ _ _ h => h) (by rfl) hS ?_ ?_
  rotate_left
  (focus ((intro w hSw; (try dsimp only at hSw); (try go_split_ands); go_simp); try with_reducible rfl))
  (try simp only [Act.put, List.setIfInBounds_toArray, List.set_cons_zero, List.set_cons_succ])
  refine wpAnyQ_takeN 4 (v := ?_) nth4 (by kernel_rfl) (fun _ _ _ _ _ h => h) (by rfl) hS ?_ ?_
  rotate_left
  (focus ((intro w hSw; (try dsimp only at hSw); (try go_split_ands); go_simp); try with_reducible rfl))
  (try simp only [Act.put, List.setIfInBounds_toArray, List.set_cons_zero, List.set_cons_succ])
  refine wpAnyQ_takeN 5 (v := ?_) nth5 (by kernel_rfl) (fun _ _ _ _ _ h => h) (by rfl) hS ?_ ?_
  rotate_left
  (focus ((intro w hSw; (try dsimp only at hSw); (try go_split_ands); go_simp); try with_reducible rfl))
  (try simp only [Act.put, List.setIfInBounds_toArray, List.set_cons_zero, List.set_cons_succ])
  refine wpAnyQ_takeN 6 (v := ?_) nth6 (by kernel_rfl) (fun _ _ _ _ _ h => h) (by rfl) hS ?_ ?_
  rotate_left
  (focus ((intro w hSw; (try dsimp only at hSw); (try go_split_ands); go_simp); try with_reducible rfl))
  (try simp only [Act.put, List.setIfInBounds_toArray, List.set_cons_zero, List.set_cons_succ])
  refine wpAnyQ_doN 7 nth7 (by kernel_rfl) ?_
  go_wp2
  have hu1 : Upd (fun _ => False) w0 (w0.alloc (.cells #[.int .u64 key, .int .i64 off, .int .i64 len, .int .u32 cookie, .bool gone] 170)).drew := ((Upd.refl _ w0).alloc _).drew
  have b1 := b0.upd hu1 id
  have x1 := Blk.upd x0 hu1 id
  have hS1 := And.intro (Blk.cell x1 0) (And.intro (b1.cell 0) (And.intro (b1.cell 1) (And.intro (b1.cell 2) (And.intro (b1.cell 3) (b1.cell 4)))))
  refine doK_next hS1 ?_
  refine wpAnyQ_doN 8 nth8 (by kernel_rfl) ?_
  go_wp2_with (go_at_call 147; go_must (refine (HI.out _ _ (Blk.new w0 _ _).drew).mono ?_; rintro e w2 ⟨g', c', rfl, hrow, hlt, hu2⟩))
  have hu02 := hu1.then hu2 (fun _ _ h => h)
  have b2 := b0.upd hu02 id
  have x2 := Blk.upd x0 hu02 id
  have hS2 := And.intro (Blk.cell x2 0) (And.intro (b2.cell 0) (And.intro (b2.cell 1) (And.intro (b2.cell 2) (And.intro (b2.cell 3) (b2.cell 4)))))
  refine doK_next hS2 ?_
  refine wpAnyQ_takeN 9 (v := ?_) nth9 (by kernel_rfl) (fun _ _ _ _ _ h => h) (by rfl) hS2 ?_ ?_
  rotate_left
  (focus ((intro w hSw; (try dsimp only at hSw); (try go_split_ands); go_simp); try with_reducible rfl))
  (try simp only [Act.put, List.setIfInBounds_toArray, List.set_cons_zero, List.set_cons_succ])
  refine wpAnyQ_takeN 10 (v := ?_) nth10 (by kernel_rfl) (fun _ _ _ _ _ h => h) (by rfl) hS2 ?_ ?_
  rotate_left
  (focus ((intro w hSw; (try dsimp only at hSw); (try go_split_ands); go_simp); try with_reducible rfl))
  (try simp only [Act.put, List.setIfInBounds_toArray, List.set_cons_zero, List.set_cons_succ])
  refine wpAnyQ_doN 11 nth11 (by kernel_rfl) ?_
  have kx2 := Blk.cell x2 0
  have zx2 := Blk.frozen x2 0
  go_wp2
  refine doK_last (by kernel_rfl) (by kernel_rfl) (NoPanic.normal ?_)
  go_wp2
  go_ret
  have hs1 := hu1.size
  have hs0 := hu0.size
  refine ⟨rfl, g', c', Blk.set_ x2 0 _, ?_, Nat.le_trans (Nat.le_trans hs0 hs1) hlt, ?_⟩
  · exact ownsRow_setCell_other hrow (a := ⟨xb, 0, none⟩) (own_blk_ne hrow x2 (by decide)) _
  · exact (hu0.then hu02 (fun _ _ h => h)).setCell' (p := ⟨xb, 0, none⟩) _ (fun _ => rfl)

theorem len_one {w : World} {xb g c key off len cookie : Nat} (h : Blk w xb 168 #[.slice (some ⟨g, 0, none⟩) 1 c]) (hr : w.ownsRow 0 170 5 (.slice (some ⟨g, 0, none⟩) 1 c) 1 (posC key off len cookie false)) :
    Calls Tryz.prog 43 #[.pointer (some ⟨xb, 0, none⟩)] w fun e w' => e = .returned (.tuple #[.int .i64 1, .int .i64 0]) ∧ Upd (fun _ => False) w w' := by
  have HC : ∀ W, Upd (fun _ => False) w W → (Blk W xb 168 #[.slice (some ⟨g, 0, none⟩) 1 c] ∧ W.ownsRow 0 170 5 (.slice (some ⟨g, 0, none⟩) 1 c) 1 (posC key off len cookie false)) := fun W hu => ⟨h.upd hu id, own_upd hr hu (fun _ _ h => h)⟩
  have HC := Lib.hid HC
  have c0 := h.cell 0
  go_enter Tryz.func43, Tryz.ntmps43
  go_wp2
  go_loopw [3, 13] (fun q i wr => q = .int .i64 0 ∧ (i = .int .i64 0 ∨ i = .int .i64 1) ∧ Upd (fun _ => False) w wr) (fun _ i _ => 1 - (intOf i).toNat)
  case atStart => exact ⟨rfl, .inl rfl, Upd.refl _ _⟩
  case round =>
    obtain ⟨rfl, hi, hu⟩ := hrel
    rcases hi with rfl | rfl
    · obtain ⟨hx, hr⟩ := HC.out _ hu
      have k0 := World.ownsRow.cellAt hr 0 (by decide)
      have k1 := World.ownsRow.cellAt hr 1 (by decide)
      have k2 := World.ownsRow.cellAt hr 2 (by decide)
      have k3 := World.ownsRow.cellAt hr 3 (by decide)
      have k4 := World.ownsRow.cellAt hr 4 (by decide)
      simp [posC] at k0 k1 k2 k3 k4
      go_wp2
      go_roundw
      case rel => exact ⟨rfl, .inr rfl, hu.alloc _⟩
      case measure => simp [intOf]
    · obtain ⟨hx, hr⟩ := HC.out _ hu
      have k0 := hx.cell 0
      go_wp2
      go_ret2
      exact ⟨rfl, hu⟩
end Go.Proofs.YtlbmoafdialigaaGreatDoor
