/- package sum: nibble. -/
import Derived.Test.YtlbmoafdialigaaGreatDoorDisk1
namespace Go.Proofs.YtlbmoafdialigaaGreatDoor
open Go Go.RowKit Go.MapKept

theorem bits_and_u32_nat (a b : Nat) (ha : a < 4294967296) (hb : b < 4294967296) : bits .and .u32 (a : Int) (b : Int) = ((a &&& b : Nat) : Int) := by
  have hx : a &&& b < 2 ^ 32 := Nat.and_lt_two_pow _ (by omega)
  have h1 : (BitVec.ofInt 32 (a : Int)).toNat = a := by
    rw [BitVec.ofInt_natCast, BitVec.toNat_ofNat]; exact Nat.mod_eq_of_lt (by omega)
  have h2 : (BitVec.ofInt 32 (b : Int)).toNat = b := by
    rw [BitVec.ofInt_natCast, BitVec.toNat_ofNat]; exact Nat.mod_eq_of_lt (by omega)
  show IntKind.u32.wrap ((BitVec.ofInt 32 (a : Int) &&& BitVec.ofInt 32 (b : Int)).toNat : Int) = _
  rw [BitVec.toNat_and, h1, h2, IntKind.wrap_u32]
  omega
theorem bits_xor_u32_nat (a b : Nat) (ha : a < 4294967296) (hb : b < 4294967296) : bits .xor .u32 (a : Int) (b : Int) = ((a ^^^ b : Nat) : Int) := by
  have hx : a ^^^ b < 2 ^ 32 := Nat.xor_lt_two_pow (by omega) (by omega)
  have h1 : (BitVec.ofInt 32 (a : Int)).toNat = a := by
    rw [BitVec.ofInt_natCast, BitVec.toNat_ofNat]; exact Nat.mod_eq_of_lt (by omega)
  have h2 : (BitVec.ofInt 32 (b : Int)).toNat = b := by
    rw [BitVec.ofInt_natCast, BitVec.toNat_ofNat]; exact Nat.mod_eq_of_lt (by omega)
  show IntKind.u32.wrap ((BitVec.ofInt 32 (a : Int) ^^^ BitVec.ofInt 32 (b : Int)).toNat : Int) = _
  rw [BitVec.toNat_xor, h1, h2, IntKind.wrap_u32]
  omega
def tabN : List Nat := [0, 274646895, 549293790, 820201905, 1098587580, 1361435347, 1640403810, 1905808397, 2197175160, 2460548119, 2722870694, 2987750089, 3280807620, 3553878443, 3811616794, 4084100981]
def nibN (n : Nat) : Nat := tabN.getD (n % 16) 0 ^^^ (n / 16)
theorem tabN_lt (i : Nat) : tabN.getD i 0 < 4294967296 := by
  by_cases h : i < 16
  · have key : ∀ i : Fin 16, tabN.getD i.val 0 < 4294967296 := by decide
    exact key ⟨i, h⟩
  · have : tabN[i]? = none := List.getElem?_eq_none (by simp [tabN]; omega)
    simp only [List.getD, this, Option.getD_none]
    decide
theorem nibN_lt {n : Nat} (h : n < 4294967296) : nibN n < 4294967296 := by
  unfold nibN
  exact Nat.xor_lt_two_pow (n := 32) (tabN_lt _) (by omega)
def stepN (n : Nat) (c : UInt8) : Nat := nibN (nibN (n ^^^ c.toNat))
theorem stepN_lt {n : Nat} (c : UInt8) (h : n < 4294967296) : stepN n c < 4294967296 := nibN_lt (nibN_lt (Nat.xor_lt_two_pow (n := 32) h (by have := c.toNat_lt; omega)))
def runN (n : Nat) (l : List UInt8) : Nat := l.foldl stepN n
theorem runN_lt {n : Nat} (l : List UInt8) (h : n < 4294967296) : runN n l < 4294967296 := by
  unfold runN
  induction l generalizing n with
  | nil => exact h
  | cons a l ih => exact ih (stepN_lt a h)
/-- sum.More on numbers. -/
def moreN (s : Nat) (l : List UInt8) : Nat := 4294967295 - runN (4294967295 - s) l
theorem moreN_lt (s : Nat) (l : List UInt8) : moreN s l < 4294967296 := by unfold moreN; omega

set_option maxRecDepth 100000 in
set_option maxHeartbeats 4000000 in
theorem nibble_any {w : World} {n : Nat} (hn : n < 4294967296) :
    Calls Tryz.prog 172 #[.int .u32 n] w fun e w' => e = .returned (.int .u32 (nibN n)) ∧ Upd (fun _ => False) w w' := by
  have hb := bits_and_u32_nat n 15 hn (by decide)
  have hb2 : n &&& 15 = n % 16 := Nat.and_two_pow_sub_one_eq_mod n 4
  rw [hb2] at hb
  have hx := bits_xor_u32_nat (tabN.getD (n % 16) 0) (n / 16) (tabN_lt _) (by omega)
  have hN : (nibN n : Int) = ((tabN.getD (n % 16) 0 ^^^ (n / 16) : Nat) : Int) := rfl
  rw [← hN] at hx
  clear hN hb2
  generalize nibN n = r at *
  rcases (by omega : n % 16 = 0 ∨ n % 16 = 1 ∨ n % 16 = 2 ∨ n % 16 = 3 ∨ n % 16 = 4 ∨ n % 16 = 5 ∨ n % 16 = 6 ∨ n % 16 = 7 ∨ n % 16 = 8 ∨ n % 16 = 9 ∨ n % 16 = 10 ∨ n % 16 = 11 ∨ n % 16 = 12 ∨ n % 16 = 13 ∨ n % 16 = 14 ∨ n % 16 = 15) with h | h | h | h | h | h | h | h | h | h | h | h | h | h | h | h
  all_goals
    rw [h] at hb hx
    simp only [tabN, List.getD_cons_zero, List.getD_cons_succ, Int.natCast_ediv, Int.cast_ofNat_Int] at hb hx
    clear h
    go_enter Tryz.func172, Tryz.ntmps172
    go_wp2
    go_ret
    exact ⟨rfl, (Upd.refl _ _).alloc _⟩
end Go.Proofs.YtlbmoafdialigaaGreatDoor
