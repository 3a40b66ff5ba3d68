/- sum.Of, sum.Seal; heads.right, words, PutSuper, PutManifest. -/
import Derived.Test.YtlbmoafdialigaaGreatDoorSum
namespace Go.Proofs.YtlbmoafdialigaaGreatDoor
open Go Go.RowKit Go.Shelf Go.MapKept

theorem of_any {w : World} {A : Option Addr} {n c : Nat} {l : List UInt8} (h : Sees w A n l) (hn : n ≤ 1000000000) :
    Calls Tryz.prog 128 #[.slice A n c] w fun e w' => e = .returned (.int .u32 (moreN 0 l)) ∧ Upd (fun _ => False) w w' := by
  have hM := Lib.hid (more_any (c := c) (show 0 < 4294967296 by decide) h hn)
  clear h
  go_enter Tryz.func128, Tryz.ntmps128
  go_wp2_with (go_at_call 127; refine (hM.out).mono ?_; rintro e w1 ⟨rfl, hu⟩)
  go_ret
  exact ⟨rfl, hu⟩

set_option maxRecDepth 100000 in
theorem seal_any {w : World} {A : Option Addr} {n c : Nat} {l : List UInt8} (h : Bytes w A n c l) (h0 : 0 < n) (hn : n ≤ 100000000) :
    Calls Tryz.prog 138 #[.slice A n c] w fun e w' => ∃ A' c', e = .returned (.slice A' (n + 4) c') ∧ Bytes w' A' (n + 4) c' (l ++ le (moreN 0 l) 4) ∧ Upd (fun _ => False) w w' := by
  have hO := Lib.hid (of_any (c := c) h.sees (by omega))
  have hlt := moreN_lt 0 l
  have hP := Lib.hid (fun (W : World) (hu : Upd (fun _ => False) w W) => put_4 (v := moreN 0 l) (h.upd hu (fun _ _ h => h)) (.inl h0) hn hlt)
  generalize moreN 0 l = s at *
  clear h
  go_enter Tryz.func138, Tryz.ntmps138
  go_wp2_with (first
    | (go_at_call 128; refine (hO.out).mono ?_; rintro e w1 ⟨rfl, hu⟩)
    | (go_at_call 137; refine (hP.out _ hu).mono ?_; rintro e w2 ⟨A', c', rfl, hb', _, hu'⟩))
  go_ret
  exact ⟨A', c', rfl, hb', hu.then hu' (fun _ _ h => h)⟩

def wl (vs : List Nat) : List UInt8 := vs.flatMap fun v => le v 4
theorem wl_len (vs : List Nat) : (wl vs).length = 4 * vs.length := by
  induction vs with
  | nil => rfl
  | cons v vs ih => simp only [wl, List.flatMap_cons, List.length_append, le_len, List.length_cons] at ih ⊢; omega
theorem wl_take (vs : List Nat) (k : Nat) (h : k < vs.length) : wl (vs.take (k + 1)) = wl (vs.take k) ++ le vs[k] 4 := by
  unfold wl
  rw [List.take_succ_eq_append_getElem h, List.flatMap_append, List.flatMap_cons, List.flatMap_nil, List.append_nil]

set_option maxRecDepth 100000 in
set_option maxHeartbeats 2000000 in
theorem words_any {w : World} {g m c : Nat} {vs : List Nat} (hl : vs.length = m) (hm : m ≤ 100) (h0 : 0 < m) (hv : ∀ v ∈ vs, v < 4294967296) (hc : ∀ j (h : j < vs.length), w.cell? ⟨g, j, none⟩ = some (.int .i64 vs[j])) :
    Calls Tryz.prog 97 #[.slice (some ⟨g, 0, none⟩) m c] w fun e w' => ∃ A' c', e = .returned (.slice A' (4 * m + 4) c') ∧ Bytes w' A' (4 * m + 4) c' (wl vs ++ le (moreN 0 (wl vs)) 4) ∧ Upd (fun _ => False) w w' := by
  have HC := Lib.hid (fun (W : World) (hu : Upd (fun _ => False) w W) j (h : j < vs.length) => (cell_heap (o := j) (hu.block g (lt_of_cell (hc j h)) id)).trans (hc j h))
  have HP := Lib.hid (fun (W : World) (A : Option Addr) (n c v : Nat) (l : List UInt8) (hb : Bytes W A n c l) (h0 : 0 < n ∨ (A = none ∧ c = 0)) (hn : n ≤ 100000000) (hv : v < 4294967296) => put_4 hb h0 hn hv)
  have HS := Lib.hid (fun (W : World) (A : Option Addr) (n c : Nat) (l : List UInt8) (hb : Bytes W A n c l) (h0 : 0 < n) (hn : n ≤ 100000000) => seal_any hb h0 hn)
  have HV := Lib.hid hv
  clear hc hv
  go_enter Tryz.func97, Tryz.ntmps97
  go_wp2
  go_loopw [3, 8] (fun b i wr => ∃ (k : Nat) (A : Option Addr) (c' : Nat), k ≤ m ∧ i = .int .i64 k ∧ b = .slice A (4 * k) c' ∧ Bytes wr A (4 * k) c' (wl (vs.take k)) ∧ (0 < k ∨ (A = none ∧ c' = 0)) ∧ Upd (fun _ => False) w wr) (fun _ i _ => m - (intOf i).toNat)
  case atStart => exact ⟨0, none, 0, Nat.zero_le _, rfl, rfl, World.ownsRow_nil _ _ _ _, .inr ⟨rfl, rfl⟩, Upd.refl _ _⟩
  case round =>
    obtain ⟨k, A, c', hk, rfl, rfl, hb, hnil, hu⟩ := hrel
    by_cases hlt : k < m
    · have hcl := HC.out _ hu k (by omega)
      have hkl : k < vs.length := by omega
      have hvk := HV.out _ (List.getElem_mem hkl)
      have hcon := Lib.hid (wl_take vs k hkl)
      generalize vs[k]'hkl = v at *
      go_wp2_with (go_at_call 137; refine (HP.out _ _ _ _ v _ hb (hnil.imp (fun h => by omega) id) (by omega) hvk).mono ?_; rintro e w1 ⟨A', c2, rfl, hb1, _, hu1⟩)
      go_roundw
      case rel => exact ⟨k + 1, A', c2, by omega, by go_num, by rw [Nat.mul_add], by rw [hcon.out, Nat.mul_add]; exact hb1, .inl (by omega), hu.then hu1 (fun _ _ h => h)⟩
      case measure => simp [intOf]; omega
    · have hkn : k = m := by omega
      rw [hkn] at hb
      rw [List.take_of_length_le (by omega)] at hb
      have hn2 : ¬ ((k : Int) < m) := by omega
      rw [hkn]
      rw [hkn] at hn2
      go_wp2_with (go_at_call 138; refine (HS.out _ _ _ _ _ hb (by omega) (by omega)).mono ?_; rintro e w1 ⟨A', c2, rfl, hb1, hu1⟩)
      go_ret
      exact ⟨A', c2, rfl, hb1, hu.then hu1 (fun _ _ h => h)⟩

theorem right_ok {v g e : Nat} (hv : 1 ≤ v ∧ v ≤ 65535) (hg : 1 ≤ g ∧ g ≤ 2147483647) (he : e ≤ 2147483647) (w : World) :
    Calls Tryz.prog 96 #[.int .i64 v, .int .i64 g, .int .i64 e] w fun e w' => e = .returned (.bool true) ∧ w = w' := by
  obtain ⟨v1, v2⟩ := hv
  obtain ⟨g1, g2⟩ := hg
  have a1 : (1 : Int) ≤ v := by omega
  have a2 : (v : Int) ≤ 65535 := by omega
  have a3 : (1 : Int) ≤ g := by omega
  have a4 : (g : Int) ≤ 2147483647 := by omega
  have a5 : (0 : Int) ≤ e := by omega
  have a6 : (e : Int) ≤ 2147483647 := by omega
  go_enter Tryz.func96, Tryz.ntmps96
  go_wp2
  go_ret
  exact ⟨rfl, rfl⟩
/-- The bytes of a volume's head. -/
def superL (v g : Nat) : List UInt8 := wl [1129466178, v, g] ++ le (moreN 0 (wl [1129466178, v, g])) 4
def manL (v g e : Nat) (sealed : Bool) : List UInt8 := wl [1296125513, v, g, e, sealed.toNat] ++ le (moreN 0 (wl [1296125513, v, g, e, sealed.toNat])) 4

set_option maxRecDepth 100000 in
theorem putSuper_ok {v g : Nat} (hv : 1 ≤ v ∧ v ≤ 65535) (hg : 1 ≤ g ∧ g ≤ 2147483647) (w : World) :
    Calls Tryz.prog 62 #[.agg #[.int .i64 v, .int .i64 g]] w fun e w' => ∃ A c, e = .returned (.tuple #[.slice A 16 c, .nilIface]) ∧ Bytes w' A 16 c (superL v g) ∧ Upd (fun _ => False) w w' := by
  have hR := Lib.hid (fun W => right_ok (e := 0) hv hg (by omega) W)
  have hW := Lib.hid (fun (W : World) (b : Blk W (w.heap.size + 1) 3 #[.int .i64 1129466178, .int .i64 v, .int .i64 g]) => words_any (c := 3) (vs := [1129466178, v, g]) (m := 3) rfl (by decide) (by decide) (by intro x hx; simp at hx; omega) (show ∀ j (h : j < [1129466178, v, g].length), W.cell? ⟨w.heap.size + 1, j, none⟩ = some (.int .i64 (([1129466178, v, g] : List Nat)[j] : Nat)) from fun j hj => by
    rw [Blk.cell b j]
    match j, hj with
    | 0, _ => rfl
    | 1, _ => rfl
    | 2, _ => rfl))
  go_enter Tryz.func62, Tryz.ntmps62
  go_wp2_with (first
    | (go_at_call 96; refine (hR.out _).mono ?_; rintro e w' ⟨rfl, rfl⟩)
    | (go_at_call 97; go_must (refine (hW.out _ (Blk.new1 w _ _ _)).mono ?_; rintro e w1 ⟨A, c, rfl, hb, hu⟩)))
  refine bodyPost_ret (v := .tuple #[.slice A 16 c, .nilIface]) (by simp [results, Tryz.results62, go_sem]) rfl ⟨A, c, rfl, hb, ?_⟩
  exact (((Upd.refl _ w).alloc _).alloc _).then hu (fun _ _ h => h)

set_option maxRecDepth 100000 in
theorem putManifest_ok {v g p : Nat} (hv : 1 ≤ v ∧ v ≤ 65535) (hg : 1 ≤ g ∧ g ≤ 2147483647) (hp : p ≤ 2147483647) (sealed : Bool) (w : World) :
    Calls Tryz.prog 104 #[.agg #[.int .i64 v, .int .i64 g, .int .i64 p, .bool sealed]] w fun e w' => ∃ A c, e = .returned (.tuple #[.slice A 24 c, .nilIface]) ∧ Bytes w' A 24 c (manL v g p sealed) ∧ Upd (fun _ => False) w w' := by
  have hR := Lib.hid (fun W => right_ok hv hg hp W)
  have hW := Lib.hid (fun (W : World) (b : Blk W (w.heap.size + 1) 3 #[.int .i64 1296125513, .int .i64 v, .int .i64 g, .int .i64 p, .int .i64 sealed.toNat]) => words_any (c := 5) (vs := [1296125513, v, g, p, sealed.toNat]) (m := 5) rfl (by decide) (by decide) (by intro x hx; have := Bool.toNat_lt sealed; simp at hx; omega) (show ∀ j (h : j < [1296125513, v, g, p, sealed.toNat].length), W.cell? ⟨w.heap.size + 1, j, none⟩ = some (.int .i64 (([1296125513, v, g, p, sealed.toNat] : List Nat)[j] : Nat)) from fun j hj => by
    rw [Blk.cell b j]
    match j, hj with
    | 0, _ => rfl
    | 1, _ => rfl
    | 2, _ => rfl
    | 3, _ => rfl
    | 4, _ => rfl))
  cases sealed
  all_goals
    go_enter Tryz.func104, Tryz.ntmps104
    go_wp2_with (first
      | (go_at_call 96; refine (hR.out _).mono ?_; rintro e w' ⟨rfl, rfl⟩)
      | (go_at_call 97; go_must (refine (hW.out _ (Blk.new1 w _ _ _)).mono ?_; rintro e w1 ⟨A, c, rfl, hb, hu⟩)))
    refine bodyPost_ret (v := .tuple #[.slice A 24 c, .nilIface]) (by simp [results, Tryz.results104, go_sem]) rfl ⟨A, c, rfl, hb, ?_⟩
    exact (((Upd.refl _ w).alloc _).alloc _).then hu (fun _ _ h => h)
end Go.Proofs.YtlbmoafdialigaaGreatDoor
