/- package needle: Check, Put; pack.Pad. -/
import Derived.Test.YtlbmoafdialigaaGreatDoorWords
import Derived.Test.YtlbmoafdialigaaGreatDoorZeros
import Derived.Test.YtlbmoafdialigaaGreatDoorHeldS
namespace Go.Proofs.YtlbmoafdialigaaGreatDoor
open Go Go.RowKit Go.MapKept

/-- A needle as a value. -/
def needleV (key cookie : Nat) (gone : Bool) (A : Option Addr) (n c : Nat) : Value := .agg #[.int .u64 key, .int .u32 cookie, .bool gone, .slice A n c]

theorem check_ok {key cookie n c : Nat} {A : Option Addr} (gone : Bool) (hn : n ≤ 4096) (hg : gone = true → n = 0) (w : World) :
    Calls Tryz.prog 46 #[.agg #[.int .u64 key, .int .u32 cookie, .bool gone, .slice A n c]] w fun e w' => e = .returned .nilIface ∧ Upd (fun _ => False) w w' := by
  have h1 : ¬ ((4096 : Int) < n) := by omega
  cases gone
  · go_enter Tryz.func46, Tryz.ntmps46
    go_wp2
    go_ret
    exact ⟨rfl, (Upd.refl _ _).alloc _⟩
  · have h2 : n = 0 := hg rfl
    subst h2
    go_enter Tryz.func46, Tryz.ntmps46
    go_wp2
    go_ret
    exact ⟨rfl, (Upd.refl _ _).alloc _⟩

def padN (n : Nat) : Nat := (8 - n % 8) % 8
theorem pad_any {n : Nat} (hn : n ≤ 1000000000) (w : World) : Calls Tryz.prog 169 #[.int .i64 n] w fun e w' => e = .returned (.int .i64 (padN n)) ∧ w = w' := by
  have h1 : ¬ ((n : Int) < 0) := by omega
  have h2 : (n : Int).tmod 8 = ((n % 8 : Nat) : Int) := by rw [Int.tmod_eq_emod_of_nonneg (by omega)]; omega
  have h3 : (8 - ((n % 8 : Nat) : Int)).tmod 8 = ((padN n : Nat) : Int) := by rw [Int.tmod_eq_emod_of_nonneg (by omega)]; unfold padN; omega
  have h4 : IntKind.i64.wrap (8 - ((n % 8 : Nat) : Int)) = 8 - ((n % 8 : Nat) : Int) := IntWalk.i64_in _ (by omega)
  go_enter Tryz.func169, Tryz.ntmps169
  go_wp2
  go_ret
  refine ⟨ret_int ?_, rfl⟩
  unfold padN
  omega

/-- The head of a needle, without its sum. -/
def headL (key cookie : Nat) (gone : Bool) (n : Nat) : List UInt8 := le 1313162572 4 ++ le gone.toNat 4 ++ le key 8 ++ le cookie 4 ++ le n 4

set_option maxRecDepth 100000 in
set_option maxHeartbeats 2000000 in
theorem head_any {key cookie n c : Nat} {A : Option Addr} (gone : Bool) (hkey : key < 18446744073709551616) (hck : cookie < 4294967296) (hn : n ≤ 4096) (w : World) :
    Calls Tryz.prog 168 #[.agg #[.int .u64 key, .int .u32 cookie, .bool gone, .slice A n c]] w fun e w' => ∃ B cb, e = .returned (.slice B 24 cb) ∧ Bytes w' B 24 cb (headL key cookie gone n) ∧ Upd (fun _ => False) w w' := by
  have H4 := Lib.hid (fun (W : World) (A : Option Addr) (n c v : Nat) (l : List UInt8) (hb : Bytes W A n c l) (h0 : 0 < n ∨ (A = none ∧ c = 0)) (hn : n ≤ 100000000) (hv : v < 4294967296) => put_4 hb h0 hn hv)
  have H8 := Lib.hid (fun (W : World) (A : Option Addr) (n c v : Nat) (l : List UInt8) (hb : Bytes W A n c l) (h0 : 0 < n ∨ (A = none ∧ c = 0)) (hn : n ≤ 100000000) (hv : v < 18446744073709551616) => put_8 hb h0 hn hv)
  have hfl : gone.toNat < 4294967296 := by cases gone <;> decide
  have hgi : ((gone.toNat : Nat) : Int) = if gone = true then 1 else 0 := by cases gone <;> rfl
  have hc : ∀ (Q : Ending → World → Prop), (∀ b : Bool, gone = b → Calls Tryz.prog 168 #[.agg #[.int .u64 key, .int .u32 cookie, .bool b, .slice A n c]] w Q) → Calls Tryz.prog 168 #[.agg #[.int .u64 key, .int .u32 cookie, .bool gone, .slice A n c]] w Q := fun Q h => h gone rfl
  clear hc hgi
  cases gone
  all_goals
    go_enter Tryz.func168, Tryz.ntmps168
    go_wp2_with fail
    generalize hw0 : World.alloc _ _ = w0
    have hu0 : Upd (fun _ => False) w w0 := hw0 ▸ (Upd.refl _ w).alloc _
    have b0 : Blk w0 w.heap.size 32 #[.int .u64 key, .int .u32 cookie, .bool _, .slice A n c] := hw0 ▸ Blk.new w _ _
    clear hw0
    refine (H4.out _ _ 0 _ 1313162572 [] (World.ownsRow_nil _ _ _ _) (.inr ⟨rfl, rfl⟩) (by decide) (by decide)).mono ?_
    rintro e w1 ⟨A1, c1, rfl, hb1, hw1, hu1⟩
    have b1 := b0.upd hu1 id
    have k0 := b1.cell 0
    go_wp2_with fail
    refine (H4.out _ _ _ _ _ _ hb1 (.inl (by decide)) (by decide) hfl).mono ?_
    rintro e w2 ⟨A2, c2, rfl, hb2, hw2, hu2⟩
    have b2 := b1.upd hu2 id
    have k0 := b2.cell 0
    go_wp2_with fail
    refine (H8.out _ _ _ _ _ _ hb2 (.inl (by decide)) (by decide) hkey).mono ?_
    rintro e w3 ⟨A3, c3, rfl, hb3, hw3, hu3⟩
    have b3 := b2.upd hu3 id
    have k1 := b3.cell 1
    go_wp2_with fail
    refine (H4.out _ _ _ _ _ _ hb3 (.inl (by decide)) (by decide) hck).mono ?_
    rintro e w4 ⟨A4, c4, rfl, hb4, hw4, hu4⟩
    have b4 := b3.upd hu4 id
    have k3 := b4.cell 3
    go_wp2_with fail
    refine (H4.out _ _ _ _ _ _ hb4 (.inl (by decide)) (by decide) (show n < 4294967296 by omega)).mono ?_
    rintro e w5 ⟨A5, c5, rfl, hb5, hw5, hu5⟩
    go_wp2
    go_ret
    exact ⟨_, _, rfl, hb5, ((((hu0.then hu1 (fun _ _ h => h)).then hu2 (fun _ _ h => h)).then hu3 (fun _ _ h => h)).then hu4 (fun _ _ h => h)).then hu5 (fun _ _ h => h)⟩

/-- A needle's bytes. -/
def needleL (key cookie : Nat) (gone : Bool) (l : List UInt8) : List UInt8 :=
  headL key cookie gone l.length ++ le (moreN (moreN 0 (headL key cookie gone l.length)) l) 4 ++ List.replicate 4 0 ++ l ++ List.replicate (padN (32 + l.length)) 0

set_option maxRecDepth 100000 in
set_option maxHeartbeats 4000000 in
theorem put_any {w : World} {key cookie n c : Nat} {A : Option Addr} {l : List UInt8} (gone : Bool) (hkey : key < 18446744073709551616) (hck : cookie < 4294967296) (hn : n ≤ 4096) (hg : gone = true → n = 0)
    (hs : Sees w A n l) (hA : A = none → c = 0) :
    Calls Tryz.prog 122 #[.agg #[.int .u64 key, .int .u32 cookie, .bool gone, .slice A n c]] w fun e w' => ∃ B cb, e = .returned (.tuple #[.slice B (32 + n + padN (32 + n)) cb, .nilIface]) ∧
      Bytes w' B (32 + n + padN (32 + n)) cb (needleL key cookie gone l) ∧ Upd (fun _ => False) w w' := by
  obtain ⟨i0, hi, hz0, hz1, hz2⟩ := info_parts bytes_info
  have HC := Lib.hid (fun W => check_ok (key := key) (cookie := cookie) (c := c) (A := A) gone hn hg W)
  have HH := Lib.hid (fun W => head_any (c := c) (A := A) gone hkey hck hn W)
  have HP := Lib.hid (fun W => pad_any (n := 32 + n) (by omega) W)
  have hll := hs.1
  have hpl : padN (32 + n) ≤ 8 := by unfold padN; omega
  go_enter Tryz.func122, Tryz.ntmps122
  go_wp2_with fail
  generalize hw0 : World.alloc _ _ = w0
  have hu0 : Upd (fun _ => False) w w0 := hw0 ▸ (Upd.refl _ w).alloc _
  have b0 : Blk w0 w.heap.size 32 #[.int .u64 key, .int .u32 cookie, .bool gone, .slice A n c] := hw0 ▸ Blk.new w _ _
  clear hw0
  refine (HC.out w0).mono ?_
  rintro e w1 ⟨rfl, hu1⟩
  have b1 := b0.upd hu1 id
  have k0 := b1.cell 0
  have k1 := b1.cell 1
  have k2 := b1.cell 2
  have k3 := b1.cell 3
  go_wp2_with fail
  refine (HH.out w1).mono ?_
  rintro e w2 ⟨B2, c2, rfl, hb2, hu2⟩
  have b2 := b1.upd hu2 id
  clear k0 k1 k2 k3 HC HH
  generalize hhl : headL key cookie gone n = hl at *
  have hu02 := (hu0.then hu1 (fun _ _ h => h)).then hu2 (fun _ _ h => h)
  have hs2 := hs.upd hu02 (fun _ _ h => h)
  have HO := Lib.hid (fun (W : World) (hu : Upd (fun _ => False) w2 W) => of_any (c := c2) ((hb2.upd hu (fun _ _ h => h)).sees) (by decide))
  have HM := Lib.hid (fun (W : World) (hu : Upd (fun _ => False) w2 W) => more_any (c := c) (moreN_lt 0 hl) (hs2.upd hu (fun _ _ h => h)) (by omega))
  have HU := Lib.hid (fun (W : World) (hu : Upd (fun _ => False) w2 W) => put_4 (v := moreN (moreN 0 hl) l) (hb2.upd hu (fun _ _ h => h)) (.inl (by decide)) (by decide) (moreN_lt _ _))
  have hlt2 := moreN_lt (moreN 0 hl) l
  generalize hmv : moreN (moreN 0 hl) l = mv at *
  generalize hm0 : moreN 0 hl = m0 at *
  have hr2 : Upd (fun _ => False) w2 w2.drew := (Upd.refl _ w2).drew
  have c3 : w2.drew.cell? ⟨w.heap.size, 3, none⟩ = some (.slice A n c) := b2.drew.cell 3
  go_wp2_with fail
  refine wp_region_noPanic ?_
  refine wp_region_S 12 (fun w' => w'.cell? ⟨w.heap.size, 3, none⟩ = some (.slice A n c)) (by kernel_rfl) rfl false ?_
  refine wpAnyQ_takeN 0 (v := ?_) nth0 (by kernel_rfl) (fun _ _ _ _ _ h => h) (by rfl) c3 ?_ ?_
  rotate_left
  (focus ((intro w hSw; (try dsimp only at hSw); (try go_split_ands); go_simp); try with_reducible rfl))
  (try simp only [Act.put, List.setIfInBounds_toArray, List.set_cons_zero, List.set_cons_succ])
  refine wpAnyQ_takeN 1 (v := ?_) nth1 (by kernel_rfl) (fun _ _ _ _ _ h => h) (by rfl) c3 ?_ ?_
  rotate_left
  (focus ((intro w hSw; (try dsimp only at hSw); (try go_split_ands); go_simp); try with_reducible rfl))
  (try simp only [Act.put, List.setIfInBounds_toArray, List.set_cons_zero, List.set_cons_succ])
  refine wpAnyQ_takeN 3 (v := ?_) nth3 (by kernel_rfl) (fun _ _ _ _ _ h => h) (by rfl) c3 ?_ ?_
  rotate_left
  (focus ((intro w hSw; (try dsimp only at hSw); (try go_split_ands); go_simp); try with_reducible rfl))
  (try simp only [Act.put, List.setIfInBounds_toArray, List.set_cons_zero, List.set_cons_succ])
  refine wpAnyQ_takeN 4 (v := ?_) nth4 (by kernel_rfl) (fun _ _ _ _ _ h => h) (by rfl) c3 ?_ ?_
  rotate_left
  (focus ((intro w hSw; (try dsimp only at hSw); (try go_split_ands); go_simp); try with_reducible rfl))
  (try simp only [Act.put, List.setIfInBounds_toArray, List.set_cons_zero, List.set_cons_succ])
  refine wpAnyQ_doN 2 nth2 (by kernel_rfl) ?_
  go_wp2_with (go_at_call 128; go_must (refine (HO.out _ hr2).mono ?_; rintro e w3 ⟨rfl, hu3⟩; have hr3 := hr2.then hu3 (fun _ _ h => h); have g3 := cell_upd0 hu3 c3))
  refine doK_next g3 ?_
  refine wpAnyQ_doN 5 nth5 (by kernel_rfl) ?_
  go_wp2_with (go_at_call 127; go_must (refine (HM.out _ hr3).mono ?_; rintro e w4 ⟨rfl, hu4⟩; have hr4 := hr3.then hu4 (fun _ _ h => h); have g4 := cell_upd0 hu4 g3))
  refine doK_next g4 ?_
  refine wpAnyQ_doN 6 nth6 (by kernel_rfl) ?_
  go_wp2
  refine doK_next g4 ?_
  refine wpAnyQ_doN 7 nth7 (by kernel_rfl) ?_
  go_wp2_with (go_at_call 137; go_must (refine (HU.out _ hr4).mono ?_; rintro e w5 ⟨B5, c5, rfl, hb5, hw5, hu5⟩; have hr5 := hr4.then hu5 (fun _ _ h => h); have g5 := cell_upd0 hu5 g4))
  refine doK_next g5 ?_
  refine wpAnyQ_doN 8 nth8 (by kernel_rfl) ?_
  go_wp2
  refine doK_next g5 ?_
  refine wpAnyQ_takeN 9 (v := ?_) nth9 (by kernel_rfl) (fun _ _ _ _ _ h => h) (by rfl) g5 ?_ ?_
  rotate_left
  (focus ((intro w hSw; (try dsimp only at hSw); (try go_split_ands); go_simp); try with_reducible rfl))
  (try simp only [Act.put, List.setIfInBounds_toArray, List.set_cons_zero, List.set_cons_succ])
  refine wpAnyQ_takeN 10 (v := ?_) nth10 (by kernel_rfl) (fun _ _ _ _ _ h => h) (by rfl) g5 ?_ ?_
  rotate_left
  (focus ((intro w hSw; (try dsimp only at hSw); (try go_split_ands); go_simp); try with_reducible rfl))
  (try simp only [Act.put, List.setIfInBounds_toArray, List.set_cons_zero, List.set_cons_succ])
  refine wpAnyQ_doN 11 nth11 (by kernel_rfl) ?_
  go_wp2
  refine doK_lastS g5 (by kernel_rfl) (NoPanic.normal ?_)
  have hb5 : Bytes w5 B5 28 c5 (hl ++ le mv 4) := hb5
  obtain ⟨q5, cq5, e5, _, _⟩ := own_form hb5 (by decide)
  obtain ⟨rfl, rfl⟩ : B5 = some ⟨q5, 0, none⟩ ∧ c5 = cq5 := by injection e5 with e1 e2 e3; exact ⟨e1, e3⟩
  have hn5 : w.heap.size ≤ q5 := by have := hw5 q5 rfl; have := hr4.size; have := hu02.size; omega
  have hu05 := hu02.then hr5 (fun _ _ h => h)
  obtain ⟨q6, c6, w6, hr6, hb6, hg6, hat6⟩ := run_zeros (k := 4) 24 hb5 (by decide)
  have hn6 : w.heap.size ≤ q6 := by have := hu05.size; rcases hat6 with rfl | rfl <;> omega
  have hu06 := hu05.grown hg6 (fun k e h => by injection e with e; omega)
  have hr6' : (Builtin.append_ #[24, 3] 24 #[.slice (some ⟨q5, 0, none⟩) 28 c5, .int .i64 4]).run Tryz.prog w5 = .ok (.slice (some ⟨q6, 0, none⟩) 32 c6) w6 := hr6
  have hb6 : Bytes w6 (some ⟨q6, 0, none⟩) 32 c6 (hl ++ le mv 4 ++ List.replicate 4 0) := hb6
  have g6 : w6.cell? ⟨w.heap.size, 3, none⟩ = some (.slice A n c) := ((b2.upd hr5 id).grown hg6 (fun e => by injection e with e; have hl2 := b2.lt; have := hw5 q5 rfl; have := hr4.size; omega)).cell 3
  clear hr6 e5
  have hs6 : Sees w6 A n l := hs.upd hu06 (fun _ _ h => h)
  obtain ⟨q7, c7, w7, hr7, hb7, hg7, hat7⟩ := run_data (c := c) 24 hb6 (by decide) hs6 hA (by omega)
  have hn7 : w.heap.size ≤ q7 := by have := hu06.size; rcases hat7 with rfl | rfl <;> omega
  have hu07 := hu06.grown hg7 (fun k e h => by injection e with e; omega)
  obtain ⟨q8, c8, w8, hr8, hb8, hg8, hat8⟩ := run_zeros (k := padN (32 + n)) 24 hb7 (by omega)
  have hu08 := hu07.grown hg8 (fun k e h => by injection e with e; omega)
  have hcast : ((32 + n : Nat) : Int) = 32 + (n : Int) := by omega
  go_wp2_with (first
    | (at_builtin; first
        | (refine Lib.wpList_append_run _ rfl _ _ _ _ rfl _ _ rfl rfl _ _ hr6' ?_; clear hr6')
        | (refine Lib.wpList_append_run _ rfl _ _ _ _ rfl _ _ rfl rfl _ _ hr7 ?_; clear hr7)
        | (refine Lib.wpList_append_run _ rfl _ _ _ _ rfl _ _ rfl rfl _ _ hr8 ?_; clear hr8))
    | (go_at_call 169; refine (HP.out _).mono ?_; rintro e w' ⟨rfl, rfl⟩))
  refine bodyPost_ret (v := .tuple #[.slice (some ⟨q8, 0, none⟩) (32 + n + padN (32 + n)) c8, .nilIface]) (by simp [results, Tryz.results122, go_sem]) rfl ⟨_, _, rfl, ?_, hu08⟩
  unfold needleL
  rw [hll, hhl, hm0, hmv]
  exact hb8
end Go.Proofs.YtlbmoafdialigaaGreatDoor
