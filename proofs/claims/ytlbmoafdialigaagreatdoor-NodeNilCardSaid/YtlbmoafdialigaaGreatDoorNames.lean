/- (*disk.Disk).Names tells the names of the files, in order. -/
import Derived.Test.YtlbmoafdialigaaGreatDoorIter
import Derived.Test.YtlbmoafdialigaaGreatDoorFresh
namespace Go.Proofs.YtlbmoafdialigaaGreatDoor
open Go Go.RowKit Go.MapKept Go.Maps Go.Sort Go.WideElems

/-- The bytes of a key that is a string. -/
def keyBytes : Value → List UInt8
  | .string s => s.data.toList
  | _ => []
/-- The names of a map's entries. -/
def namesOf (es : Array MapEntry) : List (List UInt8) := es.toList.map fun e => keyBytes e.key

def RNil : Value → Option (DataW Unit × List MemPlace) := fun _ => some (.nil, [])

theorem keyOf_string {s : ByteArray} (h : s.size ≤ maxLen) : keyOf Tryz.prog 9 (.string s) = some (.string s.data.toList) := by
  simp [keyOf, Tryz.underlying9, mapKey, h]
theorem string_of_isKey {v : Value} (h : IsKey .string v) : ∃ s, v = .string s := by
  cases v <;> simp [IsKey] at h
  exact ⟨_, rfl⟩
theorem ownsMap_of {w : World} {mn clk : Nat} {es : Array MapEntry} (hm : MBlk w mn es clk) (hok : MOk .string es clk) (hsz : es.size ≤ maxLen) (hk : ∀ e ∈ es.toList, ∀ s, e.key = .string s → s.size ≤ maxLen) :
    ∃ D : DataW Unit, w.ownsMap Tryz.prog 9 RNil mn es.size D ∧ (strKeys D).Perm (namesOf es) ∧ Maps.size D = es.size := by
  have hrd : ∀ x ∈ es.toList, WideElems.rd (H := Unit) Tryz.prog 9 RNil x = some (.string (keyBytes x.key), .nil) := fun x hx => by
    obtain ⟨s, hs⟩ := string_of_isKey (hok.2 x hx)
    unfold WideElems.rd
    rw [hs, keyOf_string (hk x hx s hs)]
    rfl
  refine ⟨_, ⟨es, clk, hm, ⟨hsz, hok.1, fun x hx => ⟨_, hrd x hx⟩⟩, Nat.le_refl _, rfl⟩, ?_, ?_⟩
  · show (((es.toList.map (WideElems.rg Tryz.prog 9 RNil)).foldr DataW.insert []).map fun p => strOf p.1).Perm _
    refine ((WideShapes.sorted_perm _).map _).trans ?_
    rw [List.map_map]
    unfold namesOf
    rw [List.map_congr_left (g := fun e => keyBytes e.key) (fun x hx => by simp only [Function.comp, WideElems.rg, hrd x hx]; rfl)]
  · show ((es.toList.map (WideElems.rg Tryz.prog 9 RNil)).foldr DataW.insert []).length = _
    rw [(WideShapes.sorted_perm _).length_eq]
    simp

set_option maxHeartbeats 1000000 in
theorem names_any {w : World} {d mn ml clk : Nat} {cap nx ar : Int} {dv : Value} {es : Array MapEntry} (hd : DiskB w d cap nx mn ml dv ar) (hm : MBlk w mn es clk) (hok : MOk .string es clk)
    (hsz : es.size ≤ 1000000) (hk : ∀ e ∈ es.toList, ∀ s, e.key = .string s → s.size ≤ maxLen) :
    Calls Tryz.prog 61 #[.pointer (some ⟨d, 0, none⟩)] w fun e w' => ∃ (v : Value) (ss : List (List UInt8)), e = .returned v ∧ ss.Perm (namesOf es) ∧
      w'.ownsRow 0 9 1 v ss.length (ss.map Go.Proofs.encStr) ∧ Upd (fun _ => False) w w' := by
  obtain ⟨D, hown, hperm, hsize⟩ := ownsMap_of hm hok (by unfold maxLen; omega) hk
  have c2 := hd.cells.2.2.1
  refine (callsIn_wide (n := 6)).1 ?_
  have hfK : Fence.wide.fn 95 := trivial
  have hfS : Fence.wide.fn 94 := trivial
  refine callsIn_of_wp Tryz.func61 rfl trivial ?_ rfl
  simp only [Tryz.ntmps61, List.size_toArray, List.length_cons, List.length_nil, Nat.reduceAdd, Nat.reduceSub, Array.replicate_succ, Array.replicate_zero, List.push_toArray, List.append_toArray, List.nil_append, List.cons_append]
  have hS := Lib.hid (Tryz.slices_Sorted_keys_94_95 mn es.size D RNil w hown (by rw [hsize]; unfold maxLen; omega) (by rw [hsize]; omega))
  have hszH := Lib.hid hsize
  clear hsize hown hm
  gi_wp2_with (first
    | (gi_at_call 95; refine (Tryz.maps_Keys_95 _ _).mono ?_; rintro e w' ⟨rfl, rfl⟩)
    | (gi_at_call 94; refine (hS.out).mono ?_; rintro e w' ⟨v, ss, rfl, hSS, hrow, hnil, hb⟩))
  go_ret
  refine ⟨v, ss.mergeSort (fun x y => decide (x ≤ y)), rfl, ((List.mergeSort_perm _ _).trans hSS).trans hperm, ?_, ?_⟩
  · rw [List.length_mergeSort]
    exact ownsRow_base_a hrow (Nat.zero_le _)
  · exact ((Upd.refl _ w).alloc _).then (Upd.of_below hb (Nat.le_refl _)) (fun _ _ h => h)
end Go.Proofs.YtlbmoafdialigaaGreatDoor
