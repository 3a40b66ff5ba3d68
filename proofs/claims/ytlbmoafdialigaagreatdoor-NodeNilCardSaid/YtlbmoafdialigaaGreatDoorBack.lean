/- slices.Backward over bytes: its iterator's contract. -/
import Derived.RangeFuncNested
import Derived.RangeFuncBound
import Derived.RangeFuncCalls
import Derived.RangeFuncLeaves
import Derived.Shelf.Abstract
import Derived.Shelf.RegionOpen
import Derived.WalkKit
import Derived.OwnWalkIn
import Derived.TacticsInMore
import Derived.LoopNIn
import Derived.LoopIn
import Derived.Test.YtlbmoafdialigaaGreatDoorPack1
namespace Go.Proofs.YtlbmoafdialigaaGreatDoor
open Go Go.RowKit Go.Shelf Go.MapKept
attribute [local go_sem] Oper.semAt_some

def downTo (m k : Nat) : List Nat := (List.range k).map fun j => m - 1 - j
theorem downTo_succ (m k : Nat) : downTo m (k + 1) = downTo m k ++ [m - 1 - k] := by simp [downTo, List.range_succ]
theorem downTo_len (m k : Nat) : (downTo m k).length = k := by simp [downTo]

/-- What a round keeps: two blocks. -/
structure Keep2 (b c : Nat) (W W' : World) : Prop where
  size : W.heap.size ≤ W'.heap.size
  one : W'.heap[b]? = W.heap[b]?
  two : W'.heap[c]? = W.heap[c]?
theorem Keep2.refl (b c : Nat) (W : World) : Keep2 b c W W := ⟨Nat.le_refl _, rfl, rfl⟩
theorem Keep2.trans {b c : Nat} {A B C : World} (h : Keep2 b c A B) (k : Keep2 b c B C) : Keep2 b c A C := ⟨Nat.le_trans h.size k.size, k.one.trans h.one, k.two.trans h.two⟩
theorem cell_heap {W W' : World} {b o : Nat} (h : W'.heap[b]? = W.heap[b]?) : W'.cell? ⟨b, o, none⟩ = W.cell? ⟨b, o, none⟩ := by
  unfold World.cell?
  simp only [h]

set_option maxRecDepth 100000 in
set_option maxHeartbeats 2000000 in
theorem back1_in (n : Nat) (hn : 1 ≤ n) (l Bs b off m cap : Nat) (zs : Fin m → UInt8) (hm : m ≤ 1000000) (J Jx : List (Fin m) → World → Prop)
    (hY : ∀ pre x W, J pre W → pre.length < m → YieldAt Fence.wide (n - 1) Tryz.prog l #[.int .i64 x.val, .int .u8 (zs x).toNat] W fun e W' =>
      (e = .returned (.bool true) ∧ J (pre ++ [x]) W' ∧ Keep2 Bs b W W') ∨ (e = .returned (.bool false) ∧ Jx (pre ++ [x]) W'))
    (W : World) (hBs : W.cell? ⟨Bs, 0, none⟩ = some (.slice (some ⟨b, off, none⟩) m cap)) (hc : ∀ x : Fin m, W.cell? ⟨b, off + x.val, none⟩ = some (.int .u8 (zs x).toNat)) (h0 : J [] W) :
    CallsIn Fence.wide n Tryz.prog 195 #[.func (.yield l) #[] #[], .pointer (some ⟨Bs, 0, none⟩)] W fun e W' => (∃ v, e = .returned v) ∧
      ((∃ ys : List (Fin m), ys.map Fin.val = downTo m m ∧ J ys W') ∨ (∃ pre, True ∧ Jx pre W')) := by
  refine callsIn_of_wp Tryz.func195 rfl trivial ?_ rfl
  simp only [Tryz.ntmps195, List.size_toArray, List.length_cons, List.length_nil, Nat.reduceAdd, Nat.reduceSub, Array.replicate_succ, Array.replicate_zero, List.push_toArray, List.append_toArray, List.nil_append, List.cons_append]
  gi_wp2
  gi_loopw [3] (fun i wr => ∃ (k : Nat) (pre : List (Fin m)), k ≤ m ∧ i = .int .i64 ((m : Int) - 1 - k) ∧ pre.map Fin.val = downTo m k ∧ J pre wr ∧ Keep2 Bs b W wr)
    (fun i _ => (intOf i + 1).toNat)
  case atStart => exact ⟨0, [], Nat.zero_le _, by simp, rfl, h0, Keep2.refl _ _ _⟩
  case round =>
    obtain ⟨k, pre, hk, rfl, hpre, hJs, hnx⟩ := hrel
    have hlen : pre.length = k := by rw [← List.length_map (f := Fin.val), hpre, downTo_len]
    have hBs' : wr.cell? ⟨Bs, 0, none⟩ = some (.slice (some ⟨b, off, none⟩) m cap) := (cell_heap hnx.one).trans hBs
    by_cases hlt : k < m
    · have hx : m - 1 - k < m := by omega
      obtain ⟨fn, tmps, assign, body, hy, hR⟩ := hY pre ⟨m - 1 - k, hx⟩ wr hJs (by omega)
      have hcx := (cell_heap (o := off + (m - 1 - k)) hnx.two).trans (hc ⟨m - 1 - k, hx⟩)
      have e1 : ((m - 1 - k : Nat) : Int) = (m : Int) - 1 - k := by omega
      generalize hq : m - 1 - k = q at *
      simp only [e1] at hy
      gi_wp2
      refine hR.mono ?_
      rintro e W3 (⟨rfl, hJ3, hk3⟩ | ⟨rfl, hJx3⟩)
      · gi_wp2
        go_roundw
        case rel => exact ⟨k + 1, pre ++ [⟨q, hx⟩], by omega, by simp; omega, by rw [downTo_succ, List.map_append, hpre, hq]; rfl, hJ3, hnx.trans hk3⟩
        case measure => simp [intOf]; omega
      · gi_wp2
        refine bodyPost_ret (results_none rfl _ _ _) rfl ?_
        exact ⟨⟨_, rfl⟩, .inr ⟨_, trivial, hJx3⟩⟩
    · have hkm : k = m := by omega
      have e1 : (m : Int) - 1 - k = -1 := by omega
      rw [hkm] at hpre
      rw [e1]
      gi_wp2
      go_end0
      exact ⟨⟨_, rfl⟩, .inl ⟨pre, hpre, hJs⟩⟩

theorem back_any (A : Option Addr) (n c : Nat) (w : World) : Calls Tryz.prog 171 #[.slice A n c] w fun e w' =>
    e = .returned (.func (.func 195) #[] #[.pointer (some ⟨w.heap.size, 0, none⟩)]) ∧ w.alloc (.cells #[.slice A n c] 24) = w' := by
  go_enter Tryz.func171, Tryz.ntmps171
  go_wp2
  go_ret
  exact ⟨rfl, rfl⟩

theorem back_stops (n : Nat) (hn : 1 ≤ n) (Bs b off m cap : Nat) (zs : Fin m → UInt8) (hm : m ≤ 1000000) (w : World) (hBs : w.cell? ⟨Bs, 0, none⟩ = some (.slice (some ⟨b, off, none⟩) m cap))
    (hc : ∀ x : Fin m, w.cell? ⟨b, off + x.val, none⟩ = some (.int .u8 (zs x).toNat)) :
    SeqStopsK Fence.wide n Tryz.prog 195 #[.pointer (some ⟨Bs, 0, none⟩)] (fun x : Fin m => #[.int .i64 x.val, .int .u8 (zs x).toNat]) (Keep2 Bs b)
      (fun ys => ys.map Fin.val = downTo m m) (fun _ => True) m w := fun l J Jx W hW _ _ hY h0 => by
  have hBs' := (hW.cell (p := ⟨Bs, 0, none⟩) (lt_of_cell hBs)).trans hBs
  exact back1_in n hn l Bs b off m cap zs hm J Jx hY W hBs' (fun x => (hW.cell (p := ⟨b, off + x.val, none⟩) (lt_of_cell (hc x))).trans (hc x)) h0
end Go.Proofs.YtlbmoafdialigaaGreatDoor
