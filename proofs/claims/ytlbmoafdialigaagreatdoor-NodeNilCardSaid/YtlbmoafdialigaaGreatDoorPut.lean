/- pack.Put at the sizes 4 and 8. -/
import Derived.Test.YtlbmoafdialigaaGreatDoorBack
import Derived.IntWalk
namespace Go.Proofs.YtlbmoafdialigaaGreatDoor
open Go Go.RowKit Go.Shelf Go.MapKept
attribute [local go_sem] Oper.semAt_some

theorem clone_any {w : World} {A : Option Addr} {n c : Nat} {l : List UInt8} (h : Bytes w A n c l) (h0 : 0 < n ∨ (A = none ∧ c = 0)) (hn : n ≤ 1000000000) :
    Calls Tryz.prog 180 #[.slice A n c] w fun e w' => ∃ A' c', e = .returned (.slice A' n c') ∧ Bytes w' A' n c' l ∧ (∀ k, (Value.slice A' n c').ownBlock = some k → w.heap.size ≤ k) ∧ Upd (fun _ => False) w w' := by
  rcases h0 with h0 | ⟨rfl, rfl⟩
  · exact clone_bytes h h0 hn
  · have hn0 : n = 0 := by
      rcases h.2 with ⟨_, e⟩ | ⟨g, cap, cur, e, _⟩
      · exact e
      · cases e
    subst hn0
    refine (clone_nil w).mono ?_
    rintro e w' ⟨rfl, rfl⟩
    exact ⟨none, 0, rfl, h, (fun k e => by cases e), Upd.refl _ _⟩

theorem part_int {w : World} {nb n k : Nat} {i : Int} (hi : i = k) (hk : k ≤ 7) (hn : n < 18446744073709551616) (hb : w.cell? ⟨nb, 0, none⟩ = some (.int .u64 n)) :
    Calls Tryz.prog 181 #[.int .i64 i, .pointer (some ⟨nb, 0, none⟩)] w fun e w' => e = .returned (.int .u8 (byteOf n k).toNat) ∧ w = w' := by
  subst hi
  exact part_any k hk hn hb

/-- What lies while pack.Put runs. -/
structure PutS (w0 w : World) (p4 p8 p10 v : Nat) (A1 : Option Addr) (n c1 : Nat) (l : List UInt8) (A : Option Addr) (m c : Nat) (r : List UInt8) : Prop where
  b4 : Blk w p4 22 #[.int .u64 v]
  b8 : Blk w p8 24 #[.slice A1 n c1]
  b10 : Blk w p10 24 #[.slice A m c]
  o : Bytes w A1 n c1 l
  r : Bytes w A m c r
  u : Upd (fun _ => False) w0 w
  n810 : p8 ≠ p10
  nrow : ∀ k, (Value.slice A1 n c1).ownBlock = some k → (Value.slice A m c).ownBlock ≠ some k
  f8 : w0.heap.size ≤ p8
  f10 : w0.heap.size ≤ p10
  fo : ∀ k, (Value.slice A1 n c1).ownBlock = some k → w0.heap.size ≤ k
  fr : ∀ k, (Value.slice A m c).ownBlock = some k → w0.heap.size ≤ k

section
variable {w0 w W w3 : World} {p4 p8 p10 v n c1 m c g m' c' : Nat} {A1 A : Option Addr} {l r r' : List UInt8}
theorem PutS.pushR (hs : PutS w0 w p4 p8 p10 v A1 n c1 l A m c r) (hu : Upd (fun _ => False) w W) (hg : W.grownBy w3 (Value.slice A m c).ownBlock) (ho : Bytes w3 (some ⟨g, 0, none⟩) m' c' r')
    (hat : (Value.slice A m c).ownBlock = some g ∨ g = W.heap.size) :
    PutS w0 (w3.setCell ⟨p10, 0, none⟩ (.slice (some ⟨g, 0, none⟩) m' c')) p4 p8 p10 v A1 n c1 l (some ⟨g, 0, none⟩) m' c' r' ∧ Blk w3 p10 24 #[.slice A m c] ∧ Blk w3 p4 22 #[.int .u64 v] := by
  have rW : Bytes W A m c r := hs.r.upd hu (fun _ _ h => h)
  have n4 := own_blk_ne rW (hs.b4.upd hu id) (by decide)
  have n8 := own_blk_ne rW (hs.b8.upd hu id) (by decide)
  have n10 := own_blk_ne rW (hs.b10.upd hu id) (by decide)
  have b4 := (hs.b4.upd hu id).grown hg (Ne.symm n4)
  have b8 := (hs.b8.upd hu id).grown hg (Ne.symm n8)
  have b10 := (hs.b10.upd hu id).grown hg (Ne.symm n10)
  have hus := hu.size
  have hls := hs.u.size
  have oo := (hs.o.upd hu (fun _ _ h => h)).upd (w' := w3) (S := fun k => some k = (Value.slice A m c).ownBlock) ⟨hg.os, hg.output, hg.size, fun k hk hn => hg.block k hk hn⟩ (fun k e e' => hs.nrow k e e'.symm)
  have hsz : ∀ k, (Value.slice A1 n c1).ownBlock = some k → k < w.heap.size := fun k e => (World.ownsRow.lt hs.o k e).2
  refine ⟨⟨Blk.far b4 (p := ⟨p10, 0, none⟩) (Blk.ne_ b4 b10 (by decide)) _, Blk.far b8 (p := ⟨p10, 0, none⟩) hs.n810 _, Blk.set_ b10 0 _, ?_, ?_, ?_, hs.n810, ?_, hs.f8, hs.f10, hs.fo, ?_⟩, b10, b4⟩
  · exact ownsRow_setCell_other oo (a := ⟨p10, 0, none⟩) (own_blk_ne oo b10 (by decide)) _
  · exact ownsRow_setCell_other ho (a := ⟨p10, 0, none⟩) (own_blk_ne ho b10 (by decide)) _
  · exact ((hs.u.then hu (fun _ _ h => h)).grown hg (fun k e hk => by have := hs.fr k e; omega)).setCell (p := ⟨p10, 0, none⟩) (fun h => by have := hs.f10; dsimp only at h; omega) _
  · intro k e e'
    have e2 : g = k := by simpa [Value.ownBlock] using e'
    subst e2
    rcases hat with hat | hat
    · exact hs.nrow _ e hat
    · have := hsz _ e; omega
  · intro k e'
    have e2 : g = k := by simpa [Value.ownBlock] using e'
    subst e2
    rcases hat with hat | hat
    · exact hs.fr _ hat
    · omega
theorem PutS.pushO (hs : PutS w0 w p4 p8 p10 v A1 n c1 l A m c r) (hu : Upd (fun _ => False) w W) (hg : W.grownBy w3 (Value.slice A1 n c1).ownBlock) (ho : Bytes w3 (some ⟨g, 0, none⟩) m' c' r')
    (hat : (Value.slice A1 n c1).ownBlock = some g ∨ g = W.heap.size) :
    PutS w0 (w3.setCell ⟨p8, 0, none⟩ (.slice (some ⟨g, 0, none⟩) m' c')) p4 p8 p10 v (some ⟨g, 0, none⟩) m' c' r' A m c r ∧ Blk w3 p8 24 #[.slice A1 n c1] ∧ Blk w3 p10 24 #[.slice A m c] ∧ Bytes w3 A m c r := by
  have oW : Bytes W A1 n c1 l := hs.o.upd hu (fun _ _ h => h)
  have n4 := own_blk_ne oW (hs.b4.upd hu id) (by decide)
  have n8 := own_blk_ne oW (hs.b8.upd hu id) (by decide)
  have n10 := own_blk_ne oW (hs.b10.upd hu id) (by decide)
  have b4 := (hs.b4.upd hu id).grown hg (Ne.symm n4)
  have b8 := (hs.b8.upd hu id).grown hg (Ne.symm n8)
  have b10 := (hs.b10.upd hu id).grown hg (Ne.symm n10)
  have hus := hu.size
  have hls := hs.u.size
  have rr := (hs.r.upd hu (fun _ _ h => h)).upd (w' := w3) (S := fun k => some k = (Value.slice A1 n c1).ownBlock) ⟨hg.os, hg.output, hg.size, fun k hk hn => hg.block k hk hn⟩ (fun k e e' => hs.nrow k e'.symm e)
  have hsz : ∀ k, (Value.slice A m c).ownBlock = some k → k < w.heap.size := fun k e => (World.ownsRow.lt hs.r k e).2
  refine ⟨⟨Blk.far b4 (p := ⟨p8, 0, none⟩) (Blk.ne_ b4 b8 (by decide)) _, Blk.set_ b8 0 _, Blk.far b10 (p := ⟨p8, 0, none⟩) (Ne.symm hs.n810) _, ?_, ?_, ?_, hs.n810, ?_, hs.f8, hs.f10, ?_, hs.fr⟩, b8, b10, rr⟩
  · exact ownsRow_setCell_other ho (a := ⟨p8, 0, none⟩) (own_blk_ne ho b8 (by decide)) _
  · exact ownsRow_setCell_other rr (a := ⟨p8, 0, none⟩) (own_blk_ne rr b8 (by decide)) _
  · exact ((hs.u.then hu (fun _ _ h => h)).grown hg (fun k e hk => by have := hs.fo k e; omega)).setCell (p := ⟨p8, 0, none⟩) (fun h => by have := hs.f8; dsimp only at h; omega) _
  · intro k e e'
    have e2 : g = k := by simpa [Value.ownBlock] using e
    subst e2
    rcases hat with hat | hat
    · exact hs.nrow _ hat e'
    · have := hsz _ e'; omega
  · intro k e'
    have e2 : g = k := by simpa [Value.ownBlock] using e'
    subst e2
    rcases hat with hat | hat
    · exact hs.fo _ hat
    · omega
end
def restAt (r : List UInt8) (k : Nat) : UInt8 := r.getD (k + 1) 0
theorem restAt_cell (r : List UInt8) (k : Nat) (h : k + 1 < r.length) : (bytesV r)[1 + k]? = some (.int .u8 (restAt r k).toNat) := by
  rw [Nat.add_comm 1 k]
  simp [bytesV, restAt, List.getD, List.getElem?_map, List.getElem?_eq_getElem h]
theorem keep2_put {W w : World} {b c l : Nat} {o : Obj} (hl : w.heap.size ≤ l) (hb : b < w.heap.size) (hc : c < w.heap.size) : Keep2 b c W (W.putObj l o) :=
  ⟨by simp, World.putObj_heap_other (by omega), World.putObj_heap_other (by omega)⟩
theorem keep2_grown {W W' w : World} {b c : Nat} {row : Option Nat} (hg : W.grownBy W' row) (hr : ∀ r, row = some r → w.heap.size ≤ r) (hb : b < w.heap.size) (hc : c < w.heap.size) (hw : w.heap.size ≤ W.heap.size) : Keep2 b c W W' :=
  ⟨hg.size, hg.block b (by omega) (fun e => by have := hr b e.symm; omega), hg.block c (by omega) (fun e => by have := hr c e.symm; omega)⟩
theorem PutS.alloc {w0 w : World} {p4 p8 p10 v n c1 m c : Nat} {A1 A : Option Addr} {l r : List UInt8} (hs : PutS w0 w p4 p8 p10 v A1 n c1 l A m c r) (o : Obj) : PutS w0 (w.alloc o) p4 p8 p10 v A1 n c1 l A m c r :=
  ⟨hs.b4.alloc o, hs.b8.alloc o, hs.b10.alloc o, World.ownsRow.alloc hs.o o, World.ownsRow.alloc hs.r o, hs.u.alloc o, hs.n810, hs.nrow, hs.f8, hs.f10, hs.fo, hs.fr⟩
theorem PutS.noncells {w0 w W' : World} {p4 p8 p10 v n c1 m c B : Nat} {A1 A : Option Addr} {l r : List UInt8} {row : Option Nat} (hs : PutS w0 w p4 p8 p10 v A1 n c1 l A m c r) (hg : w.grownBy W' row)
    (hr : ∀ r, row = some r → B ≤ r ∧ ∃ o : Obj, w.heap[r]? = some o ∧ o.isCells = false) (hB : w0.heap.size ≤ B) : PutS w0 W' p4 p8 p10 v A1 n c1 l A m c r := by
  have nc : ∀ g t cs fz, w.heap[g]? = some (.cells cs t fz) → some g ≠ row := fun g t cs fz h e => by
    obtain ⟨_, o, ho, hc⟩ := hr g e.symm
    rw [h] at ho
    cases ho
    cases hc
  have hu : Upd (fun k => some k = row) w W' := ⟨hg.os, hg.output, hg.size, fun k hk hn => hg.block k hk hn⟩
  have ow : ∀ {A : Option Addr} {n c : Nat} {l : List UInt8}, Bytes w A n c l → Bytes W' A n c l := fun {A n c l} h => by
    refine Bytes.upd h hu (fun k e => ?_)
    rcases h.2 with ⟨e2, _⟩ | ⟨g, cap, cur, e2, _, hh, _⟩
    · rw [e2] at e; cases e
    · rw [e2] at e
      have : g = k := by simpa [Value.ownBlock] using e
      subst this
      exact nc _ _ _ _ hh
  exact ⟨hs.b4.grown hg (nc _ _ _ _ hs.b4), hs.b8.grown hg (nc _ _ _ _ hs.b8), hs.b10.grown hg (nc _ _ _ _ hs.b10), ow hs.o, ow hs.r,
    hs.u.grown hg (fun k e hk => by have := (hr k e).1; omega), hs.n810, hs.nrow, hs.f8, hs.f10, hs.fo, hs.fr⟩
theorem PutS.keeps {w0 w W y : World} {p4 p8 p10 v n c1 m c : Nat} {A1 A : Option Addr} {l r : List UInt8} (hs : PutS w0 w p4 p8 p10 v A1 n c1 l A m c r) (hu : Upd (fun _ => False) w W) (hg : W.grownBy y (Value.slice A1 n c1).ownBlock)
    (u : Value) (k : Nat) (o : Obj) (hk : w.heap[k]? = some o) (ho : o.isCells = false) : (y.setCell ⟨p8, 0, none⟩ u).heap[k]? = some o := by
  have hlt : k < w.heap.size := (Array.getElem?_eq_some_iff.1 hk).1
  have n8 : k ≠ p8 := fun e => by
    subst e
    have := hs.b8
    unfold Blk at this
    rw [hk] at this
    cases this
    cases ho
  have nr : some k ≠ (Value.slice A1 n c1).ownBlock := fun e => by
    rcases hs.o.2 with ⟨e2, _⟩ | ⟨g, cap, cur, e2, _, hh, _⟩
    · rw [e2] at e; cases e
    · rw [e2] at e
      have : k = g := by simpa [Value.ownBlock] using e
      subst this
      rw [hk] at hh
      cases hh
      cases ho
  exact (Below.heap_setCell _ _ _ _ n8).trans ((hg.block k (Nat.lt_of_lt_of_le hlt hu.size) nr).trans ((hu.block k hlt id).trans hk))
theorem own_cap {w : World} {g n c : Nat} {l : List UInt8} (h : Bytes w (some ⟨g, 0, none⟩) n c l) : n ≤ c := by
  rcases h.2 with ⟨e, _⟩ | ⟨g', cap, cur, e, _, _, hc, _⟩
  · cases e
  · injection e with _ _ e3; omega
theorem news_blk {w : World} {g : Nat} {t : TypeId} {cs : List Value} (h : Blk w g t cs.toArray) : ∀ j u, cs[j]? = some u → w.cell? ((⟨g, 0, none⟩ : Addr).add j) = some u := fun j u hj => by
  rw [Addr.add_lit, Blk.cell h, Nat.zero_add]
  simpa using hj

/-- The first k bytes of a number, the lowest first. -/
def le (v k : Nat) : List UInt8 := (List.range k).map (byteOf v)
theorem le_len (v k : Nat) : (le v k).length = k := by simp [le]

set_option maxRecDepth 100000 in
set_option maxHeartbeats 4000000 in
theorem put_4 {w : World} {A : Option Addr} {n c v : Nat} {l : List UInt8} (hb : Bytes w A n c l) (h0 : 0 < n ∨ (A = none ∧ c = 0)) (hn : n ≤ 100000000) (hv : v < 4294967296) :
    Calls Tryz.prog 137 #[.slice A n c, .int .u64 v, .int .i64 4] w fun e w' => ∃ A' c', e = .returned (.tuple #[.slice A' (n + 4) c', .nilIface]) ∧ Bytes w' A' (n + 4) c' (l ++ le v 4) ∧ (∀ k, (Value.slice A' (n + 4) c').ownBlock = some k → w.heap.size ≤ k) ∧ Upd (fun _ => False) w w' := by
  obtain ⟨i0, hi, hz0, hz1, hz2⟩ := info_parts bytes_info
  have hS := Lib.hid (fun W => sized_4 W)
  have hF := Lib.hid (fun W => fits_4 hv W)
  have hC := Lib.hid (fun (W : World) (a : Bytes W A n c l) => clone_any a h0 (by omega))
  have hP := Lib.hid (fun (W : World) (nb : Nat) (h : W.cell? ⟨nb, 0, none⟩ = some (.int .u64 v)) (i : Int) (k : Nat) (hi : i = k) (hk : k ≤ 7) => part_int hi hk (show v < 18446744073709551616 by omega) h)
  have hK := Lib.hid (fun W g1 m1 c1 => back_any (some ⟨g1, 1, none⟩) m1 c1 W)
  refine (callsIn_wide (n := 6)).1 ?_
  refine callsIn_of_wp_marks Tryz.func137 rfl trivial ?_ rfl
  simp only [Tryz.ntmps137, List.size_toArray, List.length_cons, List.length_nil, Nat.reduceAdd, Nat.reduceSub, Array.replicate_succ, Array.replicate_zero, List.push_toArray, List.append_toArray, List.nil_append, List.cons_append]
  refine wpIn_wide.2 ?_
  go_wp2_with (first
    | (go_at_call 170; refine (hS.out _).mono ?_; rintro e w' ⟨rfl, rfl⟩)
    | (go_at_call 179; refine (hF.out _).mono ?_; rintro e w' ⟨rfl, rfl⟩)
    | (go_at_call 180; refine (hC.out _ (hb.alloc _)).mono ?_; rintro e w1 ⟨A1, c1, rfl, hb1, hf1, hu1⟩; have B4 : Blk w1 w.heap.size 22 #[.int .u64 v] := (Blk.new w 22 #[.int .u64 v]).upd hu1 id)
    | (go_at_call 181; go_must (refine (hP.out _ _ ((B4.alloc _).cell 0) _ 0 (by rfl) (by omega)).mono ?_; rintro e w' ⟨rfl, rfl⟩)))
  have hz : w.heap.size + 1 ≤ w1.heap.size := by have := hu1.size; simpa using this
  have hf1' : ∀ k, (Value.slice A1 n c1).ownBlock = some k → w.heap.size + 1 ≤ k := fun k e => by have := hf1 k e; simpa using this
  generalize hw2 : World.alloc _ _ = u0
  have hs : PutS w u0 w.heap.size w1.heap.size (w1.heap.size + 1 + 1) v A1 n c1 l (some ⟨w1.heap.size + 1, 0, none⟩) 1 1 [byteOf v 0] := by
    rw [← hw2]
    have hb1l : ∀ k, (Value.slice A1 n c1).ownBlock = some k → k < w1.heap.size := fun k e => (World.ownsRow.lt hb1 k e).2
    refine ⟨((B4.alloc _).alloc _).alloc _, ((Blk.new w1 _ _).alloc _).alloc _, Blk.new2 w1 _ _ _ _, ((hb1.alloc _).alloc _).alloc _, ?_, ((((Upd.refl _ w).alloc _).then hu1 (fun _ _ h => h)).alloc _ |>.alloc _ |>.alloc _), by omega, ?_, by omega, by omega, ?_, ?_⟩
    · have := World.ownsRow_made (base := 0) (e := 5) (size := 1) (w1.alloc (.cells #[.slice A1 n c1] 24)) #[.int .u8 (byteOf v 0).toNat] 1 (Nat.zero_le _) (by decide) rfl
      refine World.ownsRow.alloc (?_ : World.ownsRow _ _ _ _ _ _ _) _
      refine ⟨rfl, .inr ⟨w1.heap.size + 1, 1, #[.int .u8 (byteOf v 0).toNat], rfl, Nat.zero_le _, Blk.new1 w1 _ _ _, Nat.le_refl _, by decide, rfl, rfl⟩⟩
    · intro k e e'
      have e2 : w1.heap.size + 1 = k := by simpa [Value.ownBlock] using e'
      have := hb1l k e
      omega
    · intro k e
      have := hf1' k e
      omega
    · intro k e'
      have e2 : w1.heap.size + 1 = k := by simpa [Value.ownBlock] using e'
      omega
  have hz' := Lib.hid hz
  clear hw2 B4 hb1 hu1 hC hF hS hf1 hf1' hb h0 hz
  have c4 := hs.b4.cell 0
  have c10 := hs.b10.cell 0
  refine wp_region_noPanic ?_
  refine wp_region_head 5 (fun W => W.cell? ⟨w1.heap.size + 1 + 1, 0, none⟩ = some (.slice (some ⟨w1.heap.size + 1, 0, none⟩) 1 1) ∧ W.cell? ⟨w.heap.size, 0, none⟩ = some (.int .u64 v)) _ _ (by kernel_rfl) rfl (by kernel_rfl) (fun _ _ _ _ _ h => h) ⟨c10, c4⟩ ?_
  simp only [List.take_succ_cons, List.take_zero]
  refine wpHead_step (v := ?_) (by rfl) ?_ ?_
  rotate_left
  (focus ((intro w hSw; (try dsimp only at hSw); (try go_split_ands); go_simp); try with_reducible rfl))
  (try simp only [Act.put, List.setIfInBounds_toArray, List.set_cons_zero, List.set_cons_succ])
  refine wpHead_step (v := ?_) (by rfl) ?_ ?_
  rotate_left
  (focus ((intro w hSw; (try dsimp only at hSw); (try go_split_ands); go_simp); try with_reducible rfl))
  (try simp only [Act.put, List.setIfInBounds_toArray, List.set_cons_zero, List.set_cons_succ])
  refine wpHead_call (by rfl) ?_ (fun W hS => hP.out W _ hS.2 _ 3 (by rfl) (by omega)) ?_
  (focus ((intro w hSw; (try dsimp only at hSw); (try go_split_ands); go_simp); try with_reducible rfl))
  (try simp only [Act.put, List.setIfInBounds_toArray, List.set_cons_zero, List.set_cons_succ])
  refine wpHead_step (v := ?_) (by rfl) ?_ ?_
  rotate_left
  (focus ((intro w hSw; (try dsimp only at hSw); (try go_split_ands); go_simp); try with_reducible rfl))
  (try simp only [Act.put, List.setIfInBounds_toArray, List.set_cons_zero, List.set_cons_succ])
  refine wpHead_call (by rfl) ?_ (fun W hS => hP.out W _ hS.2 _ 2 (by rfl) (by omega)) ?_
  (focus ((intro w hSw; (try dsimp only at hSw); (try go_split_ands); go_simp); try with_reducible rfl))
  (try simp only [Act.put, List.setIfInBounds_toArray, List.set_cons_zero, List.set_cons_succ])
  refine wpHead_nil ?_
  go_wp2
  have hu3 : Upd (fun _ => False) u0 (u0.alloc (.cells #[.int .u8 (byteOf v 3).toNat, .int .u8 (byteOf v 2).toNat] 5)).drew := ((Upd.refl _ _).alloc _).drew
  refine tailK_next ⟨(hs.b10.upd hu3 id).cell 0, (hs.b4.upd hu3 id).cell 0⟩ ?_
  go_wp2_with (at_builtin; go_must (refine wpList_append_own_at _ rfl _ _ 24 rfl 0 5 i0 _ 1 1 Tryz.underlying24 hi hz0 hz1 hz2 rfl (by decide) _ _ _ rfl (hs.r.upd hu3 (fun _ _ h => h)) ⟨u0.heap.size, 0, none⟩ 2 2 (bytesV [byteOf v 3, byteOf v 2]) rfl rfl (news_blk (Blk.new _ _ _).drew) (bytesV_one _) (by decide) (by decide) (Nat.zero_le _) ?_; intro v' y0 hown' hgrow _ hat; obtain ⟨g1, cp1, rfl, _, _⟩ := own_form hown' (by omega); rw [← bytesV_append] at hown'; obtain ⟨hs', b10, b4⟩ := hs.pushR hu3 hgrow hown' (hat.imp (fun e => e.symm) (fun e => by simpa [Value.ownBlock] using e)); clear hown' hgrow hat))
  refine tailK_next ⟨b10.cell 0, b4.cell 0⟩ ?_
  have k10 := b10.cell 0
  have z10 := b10.frozen 0
  go_wp2
  refine tailK_last (NoPanic.normal ?_)
  clear hu3 hs c4 c10 b10 b4 k10 z10
  have hs := hs'
  clear hs'
  simp only [List.cons_append, List.nil_append, Nat.reduceAdd] at hs
  generalize (World.setCell y0 _ _) = u1 at hs ⊢
  go_wp2
  have c4 := hs.b4.cell 0
  have c10 := hs.b10.cell 0
  refine wp_region_noPanic ?_
  refine wp_region_head 3 (fun W => W.cell? ⟨w1.heap.size + 1 + 1, 0, none⟩ = some (.slice (some ⟨g1, 0, none⟩) 3 cp1) ∧ W.cell? ⟨w.heap.size, 0, none⟩ = some (.int .u64 v)) _ _ (by kernel_rfl) rfl (by kernel_rfl) (fun _ _ _ _ _ h => h) ⟨c10, c4⟩ ?_
  simp only [List.take_succ_cons, List.take_zero]
  refine wpHead_step (v := ?_) (by rfl) ?_ ?_
  rotate_left
  (focus ((intro w hSw; (try dsimp only at hSw); (try go_split_ands); go_simp); try with_reducible rfl))
  (try simp only [Act.put, List.setIfInBounds_toArray, List.set_cons_zero, List.set_cons_succ])
  refine wpHead_step (v := ?_) (by rfl) ?_ ?_
  rotate_left
  (focus ((intro w hSw; (try dsimp only at hSw); (try go_split_ands); go_simp); try with_reducible rfl))
  (try simp only [Act.put, List.setIfInBounds_toArray, List.set_cons_zero, List.set_cons_succ])
  refine wpHead_call (by rfl) ?_ (fun W hS => hP.out W _ hS.2 _ 1 (by rfl) (by omega)) ?_
  (focus ((intro w hSw; (try dsimp only at hSw); (try go_split_ands); go_simp); try with_reducible rfl))
  (try simp only [Act.put, List.setIfInBounds_toArray, List.set_cons_zero, List.set_cons_succ])
  refine wpHead_nil ?_
  go_wp2
  have hu3 : Upd (fun _ => False) u1 (u1.alloc (.cells #[.int .u8 (byteOf v 1).toNat] 5)).drew := ((Upd.refl _ _).alloc _).drew
  refine tailK_next ⟨(hs.b10.upd hu3 id).cell 0, (hs.b4.upd hu3 id).cell 0⟩ ?_
  go_wp2_with (at_builtin; go_must (refine wpList_append_own_at _ rfl _ _ 24 rfl 0 5 i0 _ 1 1 Tryz.underlying24 hi hz0 hz1 hz2 rfl (by decide) _ _ _ rfl (hs.r.upd hu3 (fun _ _ h => h)) ⟨u1.heap.size, 0, none⟩ 1 1 (bytesV [byteOf v 1]) rfl rfl (news_blk (Blk.new _ _ _).drew) (bytesV_one _) (by decide) (by decide) (Nat.zero_le _) ?_; intro v' y1 hown' hgrow _ hat; obtain ⟨g2, cp2, rfl, _, _⟩ := own_form hown' (by omega); rw [← bytesV_append] at hown'; obtain ⟨hs', b10, b4⟩ := hs.pushR hu3 hgrow hown' (hat.imp (fun e => e.symm) (fun e => by simpa [Value.ownBlock] using e)); clear hown' hgrow hat))
  refine tailK_next ⟨b10.cell 0, b4.cell 0⟩ ?_
  have k10 := b10.cell 0
  have z10 := b10.frozen 0
  go_wp2
  refine tailK_last (NoPanic.normal ?_)
  clear hu3 hs c4 c10 b10 b4 k10 z10
  have hs := hs'
  clear hs'
  simp only [List.cons_append, List.nil_append, Nat.reduceAdd] at hs
  generalize (World.setCell y1 _ _) = u2 at hs ⊢
  go_wp2
  have c8 := hs.b8.cell 0
  have c10 := hs.b10.cell 0
  have e0 : u2.cell? ⟨g2, 0, none⟩ = some (.int .u8 (byteOf v 0).toNat) := World.ownsRow.cellAt hs.r 0 (by decide)
  refine wp_region_noPanic ?_
  refine wp_region_head 4 (fun W => W.cell? ⟨w1.heap.size, 0, none⟩ = some (.slice A1 n c1) ∧ W.cell? ⟨w1.heap.size + 1 + 1, 0, none⟩ = some (.slice (some ⟨g2, 0, none⟩) 4 cp2) ∧ W.cell? ⟨g2, 0, none⟩ = some (.int .u8 (byteOf v 0).toNat)) _ _ (by kernel_rfl) rfl (by kernel_rfl) (fun _ _ _ _ _ h => h) ⟨c8, c10, e0⟩ ?_
  simp only [List.take_succ_cons, List.take_zero]
  refine wpHead_step (v := ?_) (by rfl) ?_ ?_
  rotate_left
  (focus ((intro w hSw; (try dsimp only at hSw); (try go_split_ands); go_simp); try with_reducible rfl))
  (try simp only [Act.put, List.setIfInBounds_toArray, List.set_cons_zero, List.set_cons_succ])
  refine wpHead_step (v := ?_) (by rfl) ?_ ?_
  rotate_left
  (focus ((intro w hSw; (try dsimp only at hSw); (try go_split_ands); go_simp); try with_reducible rfl))
  (try simp only [Act.put, List.setIfInBounds_toArray, List.set_cons_zero, List.set_cons_succ])
  refine wpHead_step (v := ?_) (by rfl) ?_ ?_
  rotate_left
  (focus ((intro w hSw; (try dsimp only at hSw); (try go_split_ands); go_simp); try with_reducible rfl))
  (try simp only [Act.put, List.setIfInBounds_toArray, List.set_cons_zero, List.set_cons_succ])
  refine wpHead_step (v := ?_) (by rfl) ?_ ?_
  rotate_left
  (focus ((intro w hSw; (try dsimp only at hSw); (try go_split_ands); go_simp); try with_reducible rfl))
  (try simp only [Act.put, List.setIfInBounds_toArray, List.set_cons_zero, List.set_cons_succ])
  refine wpHead_nil ?_
  go_wp2
  have hu3 : Upd (fun _ => False) u2 (u2.alloc (.cells #[.int .u8 (byteOf v 0).toNat] 5)).drew := ((Upd.refl _ _).alloc _).drew
  refine tailK_next ⟨(hs.b8.upd hu3 id).cell 0, (hs.b10.upd hu3 id).cell 0, World.ownsRow.cellAt (hs.r.upd hu3 (fun _ _ h => h)) 0 (by decide)⟩ ?_
  go_wp2_with (at_builtin; go_must (refine wpList_append_own_at _ rfl _ _ 24 rfl 0 5 i0 _ 1 1 Tryz.underlying24 hi hz0 hz1 hz2 rfl (by decide) _ _ _ rfl (hs.o.upd hu3 (fun _ _ h => h)) ⟨u2.heap.size, 0, none⟩ 1 1 (bytesV [byteOf v 0]) rfl rfl (news_blk (Blk.new _ _ _).drew) (bytesV_one _) (by unfold maxLen; omega) (by omega) (Nat.zero_le _) ?_; intro v' y2 hown' hgrow _ hat; obtain ⟨h1, d1, rfl, _, _⟩ := own_form hown' (by omega); rw [← bytesV_append] at hown'; obtain ⟨hs', b8, b10, rr⟩ := hs.pushO hu3 hgrow hown' (hat.imp (fun e => e.symm) (fun e => by simpa [Value.ownBlock] using e)); clear hown' hgrow hat))
  refine tailK_next ⟨b8.cell 0, b10.cell 0, World.ownsRow.cellAt rr 0 (by decide)⟩ ?_
  have k8 := b8.cell 0
  have z8 := b8.frozen 0
  go_wp2
  refine tailK_last (NoPanic.normal ?_)
  clear hu3 hs c8 c10 b8 b10 rr k8 z8 e0
  have hs := hs'
  generalize (World.setCell y2 _ _) = u3 at hs hs' ⊢
  have c10 := hs.b10.cell 0
  have hcap : 4 ≤ cp2 := own_cap hs.r
  go_wp2_with (go_at_call 171; refine (hK.out _ _ _ _).mono ?_; rintro e w' ⟨rfl, rfl⟩)
  have bb := Blk.new u3 24 #[.slice (some ⟨g2, 1, none⟩) 3 (cp2 - 1)]
  have hs := hs.alloc (.cells #[.slice (some ⟨g2, 1, none⟩) 3 (cp2 - 1)] 24)
  have hp8 : w1.heap.size < u3.heap.size := hs'.b8.lt
  generalize hU : World.alloc _ _ = U at hs bb ⊢
  generalize hBs : u3.heap.size = Bs at bb hp8 ⊢
  clear hU hBs c10 hK
  have hBU := bb.lt
  have hgU : g2 < U.heap.size := (World.ownsRow.lt hs.r g2 rfl).2
  have hwU := hs.u.size
  have hcell : ∀ x : Fin 3, U.cell? ⟨g2, 1 + x.val, none⟩ = some (.int .u8 (restAt [byteOf v 0, byteOf v 3, byteOf v 2, byteOf v 1] x.val).toNat) := by
    intro x
    rw [World.ownsRow.cellAt hs.r (1 + x.val) (by omega)]
    exact restAt_cell _ _ (by simp; omega)
  refine (wpIn_wide (n := 6)).1 ?_
  refine wpIn_rangeFunc_ownG rfl (by decide) (gf := 195) (lb := #[.pointer (some ⟨Bs, 0, none⟩)]) rfl trivial (enters_of Tryz.func195 (by kernel_rfl) rfl)
    (back_stops (6 - 1) (by decide) Bs g2 1 3 (cp2 - 1) (fun x => restAt [byteOf v 0, byteOf v 3, byteOf v 2, byteOf v 1] x.val) (by decide) U (bb.cell 0) hcell) Keep2.trans (fun W l o o' hl h1 _ _ => keep2_put hl hBU hgU) (Below.refl _ _) (fun _ => rfl)
    (fun pre W => (∃ A' c', PutS w W w.heap.size w1.heap.size (w1.heap.size + 1 + 1) v A' (n + 1 + pre.length) c' (l ++ [byteOf v 0] ++ pre.map fun x => restAt [byteOf v 0, byteOf v 3, byteOf v 2, byteOf v 1] x.val) (some ⟨g2, 0, none⟩) 4 cp2 [byteOf v 0, byteOf v 3, byteOf v 2, byteOf v 1]) ∧ Keep2 Bs g2 U W)
    (fun _ _ _ => False)
    (fun s X Y row hI hg hr => ⟨by obtain ⟨A', c', h⟩ := hI.1; exact ⟨A', c', h.noncells hg hr hwU⟩, hI.2.trans (keep2_grown hg (fun r e => (hr r e).1) hBU hgU hI.2.size)⟩)
    (fun _ _ _ _ _ hs _ _ => hs)
    ⟨⟨_, _, by simpa using hs⟩, Keep2.refl _ _ _⟩
    ?a1 ?assign ?body ?done ?stop
  case assign =>
    intro l x W K hK
    gi_wp2
    exact hK
  case body =>
    rintro lp pre x W ⟨⟨A', c', hI⟩, hKU⟩ hlen
    have hx := x.isLt
    have c8 := hI.b8.cell 0
    have c10 := hI.b10.cell 0
    have er : ∀ {W : World}, Bytes W (some ⟨g2, 0, none⟩) 4 cp2 [byteOf v 0, byteOf v 3, byteOf v 2, byteOf v 1] → W.cell? ⟨g2, x.val + 1, none⟩ = some (.int .u8 (restAt [byteOf v 0, byteOf v 3, byteOf v 2, byteOf v 1] x.val).toNat) := fun {W} h => by
      rw [World.ownsRow.cellAt h (x.val + 1) (by omega), Nat.add_comm]
      exact restAt_cell _ _ (by simp; omega)
    have e0 := er hI.r
    generalize hrest : restAt [byteOf v 0, byteOf v 3, byteOf v 2, byteOf v 1] x.val = rx at *
    generalize hxv : x.val = xv at *
    have hwr : IntKind.i64.wrap ((xv : Int) + 1) = xv + 1 := IntWalk.i64_in _ (by omega)
    have ht1 : ((xv : Int) + 1).toNat = xv + 1 := by omega
    have ht2 : (0 : Int) ≤ (xv : Int) + 1 := by omega
    have ht3 : (xv : Int) + 1 < 4 := by omega
    gi_wp2
    refine wpIn_region_head 6 (fun W => W.cell? ⟨w1.heap.size, 0, none⟩ = some (.slice A' (n + 1 + pre.length) c') ∧ W.cell? ⟨w1.heap.size + 1 + 1, 0, none⟩ = some (.slice (some ⟨g2, 0, none⟩) 4 cp2) ∧ W.cell? ⟨g2, xv + 1, none⟩ = some (.int .u8 rx.toNat)) _ _ (by kernel_rfl) (by kernel_rfl) (fun ⟨_, _, h⟩ => h) rfl (by kernel_rfl) (fun _ _ _ _ _ h => h) ⟨c8, c10, e0⟩ ?_
    simp only [List.take_succ_cons, List.take_zero]
    refine wpHead_step (v := ?_) (by rfl) ?_ ?_
    rotate_left
    (focus ((intro w hSw; (try dsimp only at hSw); (try go_split_ands); go_simp); try with_reducible rfl))
    (try simp only [Act.put, List.setIfInBounds_toArray, List.set_cons_zero, List.set_cons_succ])
    refine wpHead_step (v := ?_) (by rfl) ?_ ?_
    rotate_left
    (focus ((intro w hSw; (try dsimp only at hSw); (try go_split_ands); go_simp); try with_reducible rfl))
    (try simp only [Act.put, List.setIfInBounds_toArray, List.set_cons_zero, List.set_cons_succ])
    refine wpHead_step (v := ?_) (by rfl) ?_ ?_
    rotate_left
    (focus ((intro w hSw; (try dsimp only at hSw); (try go_split_ands); go_simp); try with_reducible rfl))
    (try simp only [Act.put, List.setIfInBounds_toArray, List.set_cons_zero, List.set_cons_succ])
    refine wpHead_step (v := ?_) (by rfl) ?_ ?_
    rotate_left
    (focus ((intro w hSw; (try dsimp only at hSw); (try go_split_ands); go_simp); try with_reducible rfl))
    (try simp only [Act.put, List.setIfInBounds_toArray, List.set_cons_zero, List.set_cons_succ])
    refine wpHead_step (v := ?_) (by rfl) ?_ ?_
    rotate_left
    (focus ((intro w hSw; (try dsimp only at hSw); (try go_split_ands); go_simp); try with_reducible rfl))
    (try simp only [Act.put, List.setIfInBounds_toArray, List.set_cons_zero, List.set_cons_succ])
    refine wpHead_step (v := ?_) (by rfl) ?_ ?_
    rotate_left
    (focus ((intro w hSw; (try dsimp only at hSw); (try go_split_ands); go_simp); try with_reducible rfl))
    (try simp only [Act.put, List.setIfInBounds_toArray, List.set_cons_zero, List.set_cons_succ])
    refine wpHead_nil ?_
    go_wp2
    have hu3 : Upd (fun _ => False) W (W.alloc (.cells #[.int .u8 rx.toNat] 5)).drew := ((Upd.refl _ _).alloc _).drew
    refine tailK_next ⟨(hI.b8.upd hu3 id).cell 0, (hI.b10.upd hu3 id).cell 0, er (hI.r.upd hu3 (fun _ _ h => h))⟩ ?_
    go_wp2_with (at_builtin; go_must (refine wpList_append_own_at _ rfl _ _ 24 rfl 0 5 i0 _ 1 1 Tryz.underlying24 hi hz0 hz1 hz2 rfl (by decide) _ _ _ rfl (hI.o.upd hu3 (fun _ _ h => h)) ⟨W.heap.size, 0, none⟩ 1 1 (bytesV [rx]) rfl rfl (news_blk (Blk.new _ _ _).drew) (bytesV_one _) (by unfold maxLen; omega) (by omega) (Nat.zero_le _) ?_; intro v' y hown' hgrow _ hat; obtain ⟨h1, d1, rfl, _, _⟩ := own_form hown' (by omega); rw [← bytesV_append] at hown'; obtain ⟨hs', b8, b10, rr⟩ := hI.pushO hu3 hgrow hown' (hat.imp (fun e => e.symm) (fun e => by simpa [Value.ownBlock] using e))))
    refine tailK_next ⟨b8.cell 0, b10.cell 0, er rr⟩ ?_
    have k8 := b8.cell 0
    have z8 := b8.frozen 0
    go_wp2
    refine tailK_last ?_
    have hBsW : Blk W Bs 24 _ := hKU.one.trans bb
    have oX := hI.o.upd hu3 (fun _ _ h => h)
    have k2 : Keep2 Bs g2 W (y.setCell ⟨w1.heap.size, 0, none⟩ (.slice (some ⟨h1, 0, none⟩) (n + 1 + pre.length + 1) d1)) := by
      refine ⟨by have := hu3.size; have := hgrow.size; simp; omega, ?_, ?_⟩
      · exact (Below.heap_setCell _ _ _ _ (by dsimp only; omega)).trans ((hgrow.block Bs (hBsW.upd hu3 id).lt (Ne.symm (own_blk_ne oX (hBsW.upd hu3 id) (by decide)))).trans (hu3.block Bs hBsW.lt id))
      · have hgl := (World.ownsRow.lt hI.r g2 rfl).2
        exact (Below.heap_setCell _ _ _ _ (fun e => own_blk_ne hI.r hI.b8 (by decide) (congrArg some e))).trans ((hgrow.block g2 (Nat.lt_of_lt_of_le hgl hu3.size) (fun e => hI.nrow _ e.symm rfl)).trans (hu3.block g2 hgl id))
    have hI2 : ∃ A' c', PutS w (y.setCell ⟨w1.heap.size, 0, none⟩ (.slice (some ⟨h1, 0, none⟩) (n + 1 + pre.length + 1) d1)) w.heap.size w1.heap.size (w1.heap.size + 1 + 1) v A' (n + 1 + (pre ++ [x]).length) c' (l ++ [byteOf v 0] ++ (pre ++ [x]).map fun x => restAt [byteOf v 0, byteOf v 3, byteOf v 2, byteOf v 1] x.val) (some ⟨g2, 0, none⟩) 4 cp2 [byteOf v 0, byteOf v 3, byteOf v 2, byteOf v 1] := by
      refine ⟨some ⟨h1, 0, none⟩, d1, ?_⟩
      rw [List.length_append, List.map_append, List.length_singleton, List.map_singleton, hxv, hrest, ← List.append_assoc, ← Nat.add_assoc]
      exact hs'
    exact ⟨⟨k2.size, fun k o _ hk ho => hI.keeps hu3 hgrow _ k o hk ho⟩, k2, hI2, hKU.trans k2⟩
  case done =>
    rintro D ys W hD hys ⟨⟨A', c', hI⟩, _⟩ hDD
    have c8 := hI.b8.cell 0
    go_wp2
    refine ⟨by simp, .inl ⟨_, _, rfl, run_takeDeferred hDD, ?_⟩⟩
    have hl3 : ys.length = 3 := by rw [← List.length_map (f := Fin.val), hys, downTo_len]
    have hI' := hI.noncells (grownBy_putObj' W D (.deferred none)) (fun r e => by cases e; exact ⟨hD, _, hDD, rfl⟩) hwU
    refine ⟨.tuple #[.slice A' (n + 1 + ys.length) c', .nilIface], by simp [results, Tryz.results137, go_sem], A', c', by rw [hl3], ?_, ?_, hI'.u⟩
    rotate_left
    · have hfo := hI'.fo
      rw [hl3] at hfo
      exact hfo
    have ho := hI'.o
    rw [hl3] at ho
    have hbs : [byteOf v 0] ++ ys.map (fun x => restAt [byteOf v 0, byteOf v 3, byteOf v 2, byteOf v 1] x.val) = le v 4 := by
      have : ys.map (fun x => restAt [byteOf v 0, byteOf v 3, byteOf v 2, byteOf v 1] x.val) = (ys.map Fin.val).map (fun k => restAt [byteOf v 0, byteOf v 3, byteOf v 2, byteOf v 1] k) := by simp
      rw [this, hys]
      rfl
    rw [List.append_assoc, hbs] at ho
    exact ho
  case stop =>
    rintro D c pre W _ _ h _
    exact h.elim
end Go.Proofs.YtlbmoafdialigaaGreatDoor
