/- package sum: More, Of, Seal. -/
import Derived.Test.YtlbmoafdialigaaGreatDoorNib
import Derived.Test.YtlbmoafdialigaaGreatDoorPut8
import Derived.Deep.LoopGhost
namespace Go.Proofs.YtlbmoafdialigaaGreatDoor
open Go Go.RowKit Go.Shelf Go.MapKept

/-- Bytes that can be read at a slice. -/
def Sees (w : World) (A : Option Addr) (n : Nat) (l : List UInt8) : Prop :=
  l.length = n ∧ (n = 0 ∨ ∃ b off, A = some ⟨b, off, none⟩ ∧ ∀ j (h : j < l.length), w.cell? ⟨b, off + j, none⟩ = some (.int .u8 l[j].toNat))
theorem Bytes.sees {w : World} {A : Option Addr} {n c : Nat} {l : List UInt8} (h : Bytes w A n c l) : Sees w A n l := by
  refine ⟨h.len, ?_⟩
  rcases h.2 with ⟨_, e⟩ | ⟨g, cap, cur, e, _⟩
  · exact .inl e
  · right
    injection e with e1 _ e3
    subst e1
    subst e3
    refine ⟨g, 0, rfl, fun j hj => ?_⟩
    rw [Nat.zero_add, World.ownsRow.cellAt h j (by have := h.len; omega)]
    simp [bytesV, hj]
theorem Sees.upd {w w' : World} {A : Option Addr} {n : Nat} {l : List UInt8} {S : Nat → Prop} (h : Sees w A n l) (hu : Upd S w w') (hn : ∀ a, A = some a → ¬ S a.block) : Sees w' A n l := by
  refine ⟨h.1, h.2.imp id ?_⟩
  rintro ⟨b, off, rfl, hc⟩
  exact ⟨b, off, rfl, fun j hj => (cell_heap (hu.block b (lt_of_cell (hc j hj)) (hn _ rfl))).trans (hc j hj)⟩
theorem runN_take (s : Nat) (l : List UInt8) (k : Nat) (h : k < l.length) : runN s (l.take (k + 1)) = stepN (runN s (l.take k)) l[k] := by
  rw [List.take_succ_eq_append_getElem h]
  unfold runN
  rw [List.foldl_append]
  rfl

theorem compl_u32 {s : Nat} (hs : s < 4294967296) : bits .xor .u32 IntKind.u32.max (s : Int) = ((4294967295 - s : Nat) : Int) := by
  have h0 : IntKind.u32.max = ((4294967295 : Nat) : Int) := by decide
  rw [h0, bits_xor_u32_nat _ _ (by decide) hs]
  have h1 : (BitVec.allOnes 32 ^^^ BitVec.ofNat 32 s).toNat = 4294967295 ^^^ s := by
    rw [BitVec.toNat_xor, BitVec.toNat_ofNat, Nat.mod_eq_of_lt (by omega)]
    rfl
  have h2 : (BitVec.allOnes 32 ^^^ BitVec.ofNat 32 s).toNat = 4294967295 - s := by
    rw [BitVec.allOnes_xor, BitVec.toNat_not, BitVec.toNat_ofNat, Nat.mod_eq_of_lt (by omega)]
  rw [← h1, h2]

set_option maxRecDepth 100000 in
set_option maxHeartbeats 4000000 in
theorem more_any {w : World} {A : Option Addr} {n c s : Nat} {l : List UInt8} (hs : s < 4294967296) (h : Sees w A n l) (hn : n ≤ 1000000000) :
    Calls Tryz.prog 127 #[.int .u32 s, .slice A n c] w fun e w' => e = .returned (.int .u32 (moreN s l)) ∧ Upd (fun _ => False) w w' := by
  have hN := Lib.hid (fun (W : World) (n : Nat) (hn : n < 4294967296) => nibble_any (w := W) hn)
  have hr := Lib.hid (fun k => runN_lt (l.take k) (show 4294967295 - s < 4294967296 by omega))
  have hl := h.1
  have hc : ∀ b off, A = some ⟨b, off, none⟩ → 0 < n → ∀ W, Upd (fun _ => False) w W → ∀ j (hj : j < l.length), W.cell? ⟨b, off + j, none⟩ = some (.int .u8 l[j].toNat) := fun b off e h0 W hu j hj => by
    rcases (h.upd hu (fun _ _ h => h)).2 with e0 | ⟨b', off', e', h'⟩
    · omega
    · rw [e] at e'
      injection e' with e'
      injection e' with e1 e2 _
      subst e1; subst e2
      exact h' j hj
  have hA : 0 < n → ∃ b off, A = some ⟨b, off, none⟩ := fun h0 => by
    rcases h.2 with e0 | ⟨b', off', e', _⟩
    · omega
    · exact ⟨_, _, e'⟩
  have HC := Lib.hid hc
  have HA := Lib.hid hA
  clear hc hA h
  have hsg : IntKind.u32.signed = false := rfl
  go_enter Tryz.func127, Tryz.ntmps127
  go_wp2
  go_loopw [5, 12] (fun c5 i wr => ∃ k : Nat, k ≤ n ∧ i = .int .i64 k ∧ c5 = .int .u32 (runN (4294967295 - s) (l.take k)) ∧ Upd (fun _ => False) w wr) (fun _ i _ => n - (intOf i).toNat)
  case atStart =>
    refine ⟨0, Nat.zero_le _, rfl, ?_, Upd.refl _ _⟩
    rw [compl_u32 hs]
    rfl
  case round =>
    obtain ⟨k, hk, rfl, rfl, hu⟩ := hrel
    by_cases hlt : k < n
    · have hq := hr.out k
      obtain ⟨b, off, rfl⟩ := HA.out (by omega)
      have hcl := HC.out b off rfl (by omega) _ hu k (by omega)
      have hstep := runN_take (4294967295 - s) l k (by omega)
      generalize hqv : runN (4294967295 - s) (l.take k) = q at *
      have hkl : k < l.length := by omega
      have hc256 : (l[k]'hkl).toNat < 256 := (l[k]'hkl).toNat_lt
      have hstep' : runN (4294967295 - s) (l.take (k + 1)) = nibN (nibN (q ^^^ (l[k]'hkl).toNat)) := hstep
      clear hstep
      generalize (l[k]'hkl).toNat = cN at *
      have hx := bits_xor_u32_nat q cN hq (by omega)
      have hb1 : q ^^^ cN < 4294967296 := Nat.xor_lt_two_pow (n := 32) hq (by omega)
      have hb2 := nibN_lt hb1
      have H1 := Lib.hid hstep'
      clear hstep' hqv hr HC HA
      generalize q ^^^ cN = x1 at *
      go_wp2_with (go_at_call 172; refine (hN.out _ _ (by assumption)).mono ?_; rintro e w1 ⟨rfl, hu1⟩)
      go_roundw
      case rel => exact ⟨k + 1, by omega, by go_num, by rw [H1.out], (hu.then ‹Upd _ _ _› (fun _ _ h => h)).then ‹Upd _ _ _› (fun _ _ h => h)⟩
      case measure => simp [intOf]; omega
    · have hkn : k = n := by omega
      have hq := hr.out k
      have ht : l.take k = l := List.take_of_length_le (by omega)
      rw [ht] at hq
      rw [ht]
      have hm : ((moreN s l : Nat) : Int) = ((4294967295 - runN (4294967295 - s) l : Nat) : Int) := rfl
      generalize runN (4294967295 - s) l = q at *
      have hx := compl_u32 hq
      rw [← hm] at hx
      have hn2 : ¬ ((k : Int) < n) := by omega
      clear hm
      go_wp2
      go_ret
      exact ⟨rfl, hu⟩
end Go.Proofs.YtlbmoafdialigaaGreatDoor
