/- slices.Contains over names. -/
import Derived.Test.YtlbmoafdialigaaGreatDoorHeads1
namespace Go.Proofs.YtlbmoafdialigaaGreatDoor
open Go Go.RowKit Go.MapKept

theorem toList_txt (l : List UInt8) : (txt l).toList = l := by rw [ByteArray.toList_eq]; simp [txt]

def IndexPost (w : World) (x : List UInt8) (ss : List (List UInt8)) (e : Ending) (w' : World) : Prop := (∃ k : Int, e = .returned (.int .i64 k) ∧ (0 ≤ k ↔ x ∈ ss) ∧ -1 ≤ k ∧ k ≤ 1000000) ∧ w = w'

theorem index_str {w : World} {A : Option Addr} {n c : Nat} {ss : List (List UInt8)} (h : w.ownsRow 0 9 1 (.slice A n c) n (ss.map Go.Proofs.encStr)) (hn : n ≤ 1000000) (x : List UInt8) :
    Calls Tryz.prog 93 #[.slice A n c, .string (txt x)] w (IndexPost w x ss) := by
  have hlen : ss.length = n := by have := h.1; simpa using this
  have HL := Lib.hid hlen
  have H := Lib.hid h
  clear hlen h
  go_enter Tryz.func93, Tryz.ntmps93
  go_wp2
  go_loop [8] (fun i => ∃ k : Nat, k ≤ n ∧ i = .int .i64 k ∧ ∀ (j : Nat) (hj : j < ss.length), j < k → ss[j] ≠ x) (fun i => n - (intOf i).toNat)
  case atStart => exact ⟨0, Nat.zero_le _, rfl, fun _ _ h => absurd h (Nat.not_lt_zero _)⟩
  case round =>
    obtain ⟨k, hk, rfl, hne⟩ := hrel
    have HN := Lib.hid hne
    clear hne
    by_cases hlt : k < n
    · obtain ⟨g, cap, ev, _, _⟩ := own_form H.out (by omega)
      obtain ⟨rfl, rfl⟩ : A = some ⟨g, 0, none⟩ ∧ c = cap := by injection ev with e1 e2 e3; exact ⟨e1, e3⟩
      have hkl : k < ss.length := by rw [HL.out]; exact hlt
      have hc := H.out.cells (g := g) rfl k (Go.Proofs.encStr ss[k]) (by simp [hkl])
      have hc' : w.cell? ⟨g, k, none⟩ = some (.string (txt ss[k])) := by
        unfold Addr.add at hc
        by_cases h0 : k = 0
        · subst h0; exact hc
        · rw [if_neg h0] at hc; simp only [Nat.zero_add] at hc; exact hc
      clear ev hc
      generalize hy : ss[k] = y at *
      have HY := Lib.hid hy
      clear hy
      go_wp2
      · go_ret
        rename_i heq _
        have heq' : x = y := by simpa [toList_txt] using heq
        exact ⟨⟨k, rfl, ⟨fun _ => by rw [heq', ← HY.out]; exact List.getElem_mem _, fun _ => by omega⟩, by omega, by omega⟩, rfl⟩
      · rename_i heq
        have heq' : x ≠ y := by simpa [toList_txt] using heq
        go_round
        case rel =>
          refine ⟨k + 1, by omega, by go_num, fun j hj hjk => ?_⟩
          by_cases h1 : j < k
          · exact HN.out j hj h1
          · obtain rfl : j = k := by omega
            rw [HY.out]; exact Ne.symm heq'
        case measure => simp [intOf]; omega
    · go_wp2
      go_ret
      refine ⟨⟨-1, rfl, ⟨fun h => absurd h (by omega), fun h => ?_⟩, by omega, by omega⟩, rfl⟩
      obtain ⟨j, hj, hjx⟩ := List.getElem_of_mem h
      exact absurd hjx (HN.out j hj (by have := HL.out; omega))

theorem contains_no {w : World} {A : Option Addr} {n c : Nat} {ss : List (List UInt8)} (h : w.ownsRow 0 9 1 (.slice A n c) n (ss.map Go.Proofs.encStr)) (hn : n ≤ 1000000) (x : List UInt8) (hx : x ∉ ss) :
    Calls Tryz.prog 60 #[.slice A n c, .string (txt x)] w fun e w' => e = .returned (.bool false) ∧ w = w' := by
  have HI := Lib.hid (index_str h hn x)
  clear h
  go_enter Tryz.func60, Tryz.ntmps60
  go_wp2_with (go_at_call 93; refine (HI.out).mono ?_; rintro e w' ⟨⟨k, rfl, hk, hk1, hk2⟩, rfl⟩; have hk3 : k < 0 := Int.not_le.1 (fun h => hx (hk.1 h)); clear hk)
  go_ret
  exact ⟨by simp; omega, rfl⟩
theorem contains_yes {w : World} {A : Option Addr} {n c : Nat} {ss : List (List UInt8)} (h : w.ownsRow 0 9 1 (.slice A n c) n (ss.map Go.Proofs.encStr)) (hn : n ≤ 1000000) (x : List UInt8) (hx : x ∈ ss) :
    Calls Tryz.prog 60 #[.slice A n c, .string (txt x)] w fun e w' => e = .returned (.bool true) ∧ w = w' := by
  have HI := Lib.hid (index_str h hn x)
  clear h
  go_enter Tryz.func60, Tryz.ntmps60
  go_wp2_with (go_at_call 93; refine (HI.out).mono ?_; rintro e w' ⟨⟨k, rfl, hk, hk1, hk2⟩, rfl⟩; have hk3 : 0 ≤ k := hk.2 hx; clear hk)
  go_ret
  exact ⟨by first | (simp; done) | (simp; omega), rfl⟩
end Go.Proofs.YtlbmoafdialigaaGreatDoor
