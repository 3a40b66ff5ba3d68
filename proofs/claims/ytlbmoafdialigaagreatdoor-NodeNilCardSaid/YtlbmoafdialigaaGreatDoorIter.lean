/- The shelf's contracts on slices.Sorted(maps.Keys(m)) laid at this dump in plain words (by the kit's own programs lay-iter and lay-plain). -/
import Derived.Shelf.SlIter.Nil
import Derived.Shelf.SortM.Plain
import Derived.Shelf.SortM.SortNone
import Derived.Ground.GgzProg
import Derived.Ground.SlgmProg
import Derived.Test.YtlbmoafdialigaaGreatDoorProg
namespace Go.Proofs
open Go.RowKit Go.Maps Go.Sort Go.Shelf
def Tryz.keys95_ren : Go.Shelf.Ren := ⟨fun | 7 => 95 | 10 => 136 | n => n, fun | 23 => 122 | 26 => 9 | 3 => 152 | 28 => 215 | 0 => 0 | 27 => 214 | 33 => 242 | 4 => 4 | n => n, fun | n => n⟩
theorem Tryz.keys95 : Go.Proofs.SlLaysZ.n7 Tryz.prog Tryz.keys95_ren := {
  mixed := by kernel_rfl
  f7 := ⟨Tryz.f95.name, by decide, Tryz.func95.trans (congrArg some (by kernel_rfl))⟩
  f10 := ⟨Tryz.f136.name, by decide, Tryz.func136.trans (congrArg some (by kernel_rfl))⟩
  t0 := Tryz.underlying0
  a0 := Tryz.isAgg0
  z0 := Tryz.sizeOf0
  v0 := Tryz.zeroValue0
  t4 := Tryz.underlying4
  a4 := Tryz.isAgg4
  z4 := Tryz.sizeOf4
  v4 := Tryz.zeroValue4
  t23 := Tryz.underlying122
  a23 := Tryz.isAgg122
  z23 := Tryz.sizeOf122
  v23 := Tryz.zeroValue122
  t26 := Tryz.underlying9
  a26 := Tryz.isAgg9
  z26 := Tryz.sizeOf9
  v26 := Tryz.zeroValue9
  t27 := Tryz.underlying214
  a27 := Tryz.isAgg214
  z27 := Tryz.sizeOf214
  v27 := Tryz.zeroValue214
  t28 := Tryz.underlying215
  a28 := Tryz.isAgg215
  z28 := Tryz.sizeOf215
  v28 := Tryz.zeroValue215
  t33 := Tryz.underlying242
  a33 := Tryz.isAgg242
  z33 := Tryz.sizeOf242
  v33 := Tryz.zeroValue242 }
def Tryz.sorted94_ren : Go.Shelf.Ren := ⟨fun | 6 => 94 | 8 => 134 | 9 => 135 | 11 => 177 | 13 => 112 | 12 => 178 | 23 => 157 | 24 => 158 | 14 => 201 | 15 => 202 | 16 => 203 | 17 => 204 | 18 => 205 | 19 => 206 | 20 => 207 | 21 => 208 | 22 => 209 | 25 => 218 | 26 => 185 | 27 => 186 | 28 => 219 | 29 => 220 | 30 => 221 | 31 => 229 | n => n, fun | 26 => 9 | 28 => 215 | 24 => 142 | 0 => 0 | 3 => 3 | 37 => 228 | 48 => 23 | 50 => 22 | 4 => 4 | 40 => 267 | 39 => 266 | 45 => 243 | 5 => 5 | 9 => 9 | 51 => 299 | 55 => 303 | 57 => 320 | 58 => 96 | 33 => 242 | n => n, fun | n => n⟩
theorem Tryz.sorted94 : Go.Proofs.SlLaysZ.n6 Tryz.prog Tryz.sorted94_ren := {
  mixed := by kernel_rfl
  f6 := ⟨Tryz.f94.name, by decide, Tryz.func94.trans (congrArg some (by kernel_rfl))⟩
  f8 := ⟨Tryz.f134.name, by decide, Tryz.func134.trans (congrArg some (by kernel_rfl))⟩
  f11 := ⟨Tryz.f177.name, by decide, Tryz.func177.trans (congrArg some (by kernel_rfl))⟩
  t0 := Tryz.underlying0
  a0 := Tryz.isAgg0
  z0 := Tryz.sizeOf0
  v0 := Tryz.zeroValue0
  t24 := Tryz.underlying142
  a24 := Tryz.isAgg142
  z24 := Tryz.sizeOf142
  v24 := Tryz.zeroValue142
  t26 := Tryz.underlying9
  a26 := Tryz.isAgg9
  z26 := Tryz.sizeOf9
  v26 := Tryz.zeroValue9
  t28 := Tryz.underlying215
  a28 := Tryz.isAgg215
  z28 := Tryz.sizeOf215
  v28 := Tryz.zeroValue215
  i26 := by kernel_rfl }
def Tryz.sort135_ren : Go.Shelf.Ren := ⟨fun | 6 => 135 | 8 => 112 | 9 => 178 | 19 => 157 | 20 => 158 | 21 => 201 | 22 => 202 | 23 => 203 | 24 => 204 | 25 => 205 | 26 => 206 | 27 => 207 | 28 => 208 | 29 => 209 | 36 => 218 | 31 => 185 | 32 => 186 | 37 => 219 | 38 => 220 | 39 => 221 | 41 => 229 | n => n, fun | 27 => 142 | 29 => 9 | 3 => 3 | 32 => 228 | 26 => 142 | 0 => 0 | 44 => 23 | 46 => 22 | 4 => 4 | 36 => 267 | 35 => 266 | 41 => 243 | 5 => 5 | 9 => 9 | 53 => 299 | 57 => 303 | 63 => 320 | 64 => 96 | n => n, fun | n => n⟩
theorem Tryz.sort135 : Go.Proofs.SlLaysM.n6 Tryz.prog Tryz.sort135_ren := {
  mixed := by kernel_rfl
  f6 := ⟨Tryz.f135.name, by decide, Tryz.func135.trans (congrArg some (by kernel_rfl))⟩
  f8 := Tryz.func112.trans (congrArg some (by kernel_rfl))
  f9 := ⟨Tryz.f178.name, by decide, Tryz.func178.trans (congrArg some (by kernel_rfl))⟩
  f19 := Tryz.func157.trans (congrArg some (by kernel_rfl))
  f20 := Tryz.func158.trans (congrArg some (by kernel_rfl))
  f21 := ⟨Tryz.f201.name, by decide, Tryz.func201.trans (congrArg some (by kernel_rfl))⟩
  f22 := ⟨Tryz.f202.name, by decide, Tryz.func202.trans (congrArg some (by kernel_rfl))⟩
  f23 := ⟨Tryz.f203.name, by decide, Tryz.func203.trans (congrArg some (by kernel_rfl))⟩
  f24 := ⟨Tryz.f204.name, by decide, Tryz.func204.trans (congrArg some (by kernel_rfl))⟩
  f25 := ⟨Tryz.f205.name, by decide, Tryz.func205.trans (congrArg some (by kernel_rfl))⟩
  f26 := ⟨Tryz.f206.name, by decide, Tryz.func206.trans (congrArg some (by kernel_rfl))⟩
  f27 := ⟨Tryz.f207.name, by decide, Tryz.func207.trans (congrArg some (by kernel_rfl))⟩
  f28 := ⟨Tryz.f208.name, by decide, Tryz.func208.trans (congrArg some (by kernel_rfl))⟩
  f29 := ⟨Tryz.f209.name, by decide, Tryz.func209.trans (congrArg some (by kernel_rfl))⟩
  f31 := Tryz.func185.trans (congrArg some (by kernel_rfl))
  f32 := Tryz.func186.trans (congrArg some (by kernel_rfl))
  f36 := ⟨Tryz.f218.name, by decide, Tryz.func218.trans (congrArg some (by kernel_rfl))⟩
  f37 := ⟨Tryz.f219.name, by decide, Tryz.func219.trans (congrArg some (by kernel_rfl))⟩
  f38 := ⟨Tryz.f220.name, by decide, Tryz.func220.trans (congrArg some (by kernel_rfl))⟩
  f39 := ⟨Tryz.f221.name, by decide, Tryz.func221.trans (congrArg some (by kernel_rfl))⟩
  f41 := ⟨Tryz.f229.name, by decide, Tryz.func229.trans (congrArg some (by kernel_rfl))⟩
  t0 := Tryz.underlying0
  a0 := Tryz.isAgg0
  z0 := Tryz.sizeOf0
  v0 := Tryz.zeroValue0
  t3 := Tryz.underlying3
  a3 := Tryz.isAgg3
  z3 := Tryz.sizeOf3
  v3 := Tryz.zeroValue3
  t4 := Tryz.underlying4
  a4 := Tryz.isAgg4
  z4 := Tryz.sizeOf4
  v4 := Tryz.zeroValue4
  t5 := Tryz.underlying5
  a5 := Tryz.isAgg5
  z5 := Tryz.sizeOf5
  v5 := Tryz.zeroValue5
  t9 := Tryz.underlying9
  a9 := Tryz.isAgg9
  z9 := Tryz.sizeOf9
  v9 := Tryz.zeroValue9
  t26 := Tryz.underlying142
  a26 := Tryz.isAgg142
  z26 := Tryz.sizeOf142
  v26 := Tryz.zeroValue142
  t27 := Tryz.underlying142
  a27 := Tryz.isAgg142
  z27 := Tryz.sizeOf142
  v27 := Tryz.zeroValue142
  t29 := Tryz.underlying9
  a29 := Tryz.isAgg9
  z29 := Tryz.sizeOf9
  v29 := Tryz.zeroValue9
  t32 := Tryz.underlying228
  a32 := Tryz.isAgg228
  z32 := Tryz.sizeOf228
  v32 := Tryz.zeroValue228
  t35 := Tryz.underlying266
  a35 := Tryz.isAgg266
  z35 := Tryz.sizeOf266
  v35 := Tryz.zeroValue266
  t36 := Tryz.underlying267
  a36 := Tryz.isAgg267
  z36 := Tryz.sizeOf267
  v36 := Tryz.zeroValue267
  t41 := Tryz.underlying243
  a41 := Tryz.isAgg243
  z41 := Tryz.sizeOf243
  v41 := Tryz.zeroValue243
  t44 := Tryz.underlying23
  a44 := Tryz.isAgg23
  z44 := Tryz.sizeOf23
  v44 := Tryz.zeroValue23
  t46 := Tryz.underlying22
  a46 := Tryz.isAgg22
  z46 := Tryz.sizeOf22
  v46 := Tryz.zeroValue22
  t53 := Tryz.underlying299
  a53 := Tryz.isAgg299
  z53 := Tryz.sizeOf299
  v53 := Tryz.zeroValue299
  t57 := Tryz.underlying303
  a57 := Tryz.isAgg303
  z57 := Tryz.sizeOf303
  v57 := Tryz.zeroValue303
  t63 := Tryz.underlying320
  a63 := Tryz.isAgg320
  z63 := Tryz.sizeOf320
  v63 := Tryz.zeroValue320
  t64 := Tryz.underlying96
  a64 := Tryz.isAgg96
  z64 := Tryz.sizeOf96
  v64 := Tryz.zeroValue96 }
theorem Tryz.sorts94 (m : Nat) : AnyZ.SortsIn Tryz.prog Tryz.sorted94_ren Fence.wide m :=
  ⟨fun blk off cap ss W hH hblk hsz => callsIn_wide.2 (AnyM.slices_Sort_string Tryz.sort135 blk off cap ss W hH hblk hsz),
   fun p cap W => callsIn_wide.2 (AnyM.slices_Sort_string_none Tryz.sort135 p cap W)⟩

theorem Tryz.maps_Keys_95 (mb : Option Nat) (W : World) : CallsIn Fence.wide 5 Tryz.prog 95 #[.map mb] W fun e w' => e = .returned (.func (.func 136) #[] #[.pointer (some ⟨W.heap.size, 0, none⟩)]) ∧ w' = W.alloc (.cells #[.map mb] 122) :=
  AnyZ.keys_in Tryz.keys95 Fence.wide 5 trivial rfl mb W

set_option maxHeartbeats 1000000 in
theorem Tryz.slices_Sorted_keys_94_95 {H : Type} (b nn : Nat) (D0 : DataW H) (R : Value → Option (DataW H × List MemPlace)) (w : World) (hown : w.ownsMap Tryz.prog 9 R b nn D0) (hmax : Maps.size D0 ≤ maxLen) (hbytes : Maps.size D0 * 16 ≤ 140737488355328) :
    CallsIn Fence.wide 5 Tryz.prog 94 #[.func (.func 136) #[] #[.pointer (some ⟨w.heap.size, 0, none⟩)]] (w.alloc (.cells #[.map (some b)] 122)) fun e w' => ∃ (v : Value) (ss : List (List UInt8)), e = .returned v ∧ ss.Perm (strKeys D0) ∧
      w'.ownsRow (w.alloc (.cells #[.map (some b)] 122)).heap.size 9 1 v ss.length ((ss.mergeSort (fun x y => decide (x ≤ y))).map encStr) ∧ (v = .slice none 0 0 ↔ ss = []) ∧ Below (w.alloc (.cells #[.map (some b)] 122)).heap.size (w.alloc (.cells #[.map (some b)] 122)) w' := by
  have hbl := hown.lt
  have hseq : SeqGives Fence.wide 2 Tryz.prog 136 #[.pointer (some ⟨w.heap.size, 0, none⟩)] encStr (fun ss => ss.Perm (strKeys D0)) (Maps.size D0) (w.alloc (.cells #[.map (some b)] 122)) :=
    AnyZ.keys_gives (ρ := Tryz.keys95_ren) { Tryz.keys95 with } Fence.wide _ trivial rfl (by omega) w.heap.size b nn D0 _ (by simp) (by simp) (by
      obtain ⟨es, clock, hb, Ft, hs, hD⟩ := hown
      exact ⟨es, clock, (Below.heap_alloc _ _ b hbl).trans hb, Ft, hs, hD⟩)
  exact AnyZ.sorted_in Tryz.sorted94 Fence.wide 5 trivial trivial trivial trivial rfl (by omega) (Tryz.sorts94 _) (enters_of Tryz.func135 (by kernel_rfl) rfl) 136 #[.pointer (some ⟨w.heap.size, 0, none⟩)] trivial (enters_of Tryz.func136 (by kernel_rfl) rfl) _ _ hmax hbytes _ hseq

end Go.Proofs
