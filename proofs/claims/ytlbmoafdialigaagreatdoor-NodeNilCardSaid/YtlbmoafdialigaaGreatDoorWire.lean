/- package wire: small, Check, Reply at the messages of NodeNil; needle.Same of nothing. -/
import Derived.Test.YtlbmoafdialigaaGreatDoorNode0
import Derived.Test.YtlbmoafdialigaaGreatDoorNeedle
namespace Go.Proofs.YtlbmoafdialigaaGreatDoor
open Go Go.RowKit Go.MapKept

theorem small_ok {n : Nat} (h : n ≤ 255) (w : World) : Calls Tryz.prog 45 #[.int .i64 n] w fun e w' => e = .returned (.bool true) ∧ w = w' := by
  have h1 : (0 : Int) ≤ n := by omega
  have h2 : (n : Int) ≤ 255 := by omega
  go_enter Tryz.func45, Tryz.ntmps45
  go_wp2
  go_ret
  exact ⟨rfl, rfl⟩

theorem cv_nil (w : World) : (convert 24 9 (.slice none 0 0)).run Tryz.prog w = .ok (.string ⟨#[]⟩) w := by kernel_rfl
theorem eqs_nil (w : World) : (binOp .eql 9 (.string ⟨#[]⟩) (.string ⟨#[]⟩)).run Tryz.prog w = .ok (.bool true) w := by kernel_rfl
set_option maxRecDepth 100000 in
theorem equal_nil (w : World) : Calls Tryz.prog 77 #[.slice none 0 0, .slice none 0 0] w fun e w' => e = .returned (.bool true) ∧ w = w' := by
  have h1 := fun W => cv_nil W
  have h2 := fun W => eqs_nil W
  go_enter Tryz.func77, Tryz.ntmps77
  go_wp2
  go_ret
  exact ⟨rfl, rfl⟩
set_option maxRecDepth 100000 in
theorem same_nil (w : World) : Calls Tryz.prog 44 #[.agg #[.int .u64 0, .int .u32 0, .bool false, .slice none 0 0], .agg #[.int .u64 0, .int .u32 0, .bool false, .slice none 0 0]] w fun e w' => e = .returned (.bool true) ∧ Upd (fun _ => False) w w' := by
  have HE := Lib.hid (fun W => equal_nil W)
  go_enter Tryz.func44, Tryz.ntmps44
  go_wp2_with (go_at_call 77; refine (HE.out _).mono ?_; rintro e w' ⟨rfl, rfl⟩)
  go_ret
  exact ⟨rfl, ((Upd.refl _ _).alloc _).alloc _⟩

set_option maxRecDepth 100000 in
set_option maxHeartbeats 2000000 in
theorem check_put {fr to vol life id key cookie n c : Nat} {A : Option Addr} (h1 : fr ≤ 255) (h2 : to ≤ 255) (h3 : 1 ≤ vol ∧ vol ≤ 65535) (h4 : life ≤ 2147483647) (hn : n ≤ 4096) (w : World) :
    Calls Tryz.prog 23 #[msgV fr to 1 vol life id 0 true key cookie false (.slice A n c)] w fun e w' => e = .returned .nilIface ∧ Upd (fun _ => False) w w' := by
  obtain ⟨h3, h3'⟩ := h3
  have HF := Lib.hid (fun W => small_ok h1 W)
  have HT := Lib.hid (fun W => small_ok h2 W)
  have H0 := Lib.hid (fun W => small_ok (n := 0) (by decide) W)
  have HC := Lib.hid (fun W => check_ok (key := key) (cookie := cookie) (c := c) (A := A) false hn (fun h => by cases h) W)
  have a1 : ¬ ((vol : Int) < 1) := by omega
  have a2 : ¬ ((65535 : Int) < vol) := by omega
  have a3 : ¬ ((life : Int) < 0) := by omega
  have a4 : ¬ ((2147483647 : Int) < life) := by omega
  unfold msgV
  go_enter Tryz.func23, Tryz.ntmps23
  go_wp2_with (first
    | (go_at_call 45; first | (refine (HF.out _).mono ?_; rintro e w' ⟨rfl, rfl⟩; clear HF) | (refine (HT.out _).mono ?_; rintro e w' ⟨rfl, rfl⟩; clear HT) | (refine (H0.out _).mono ?_; rintro e w' ⟨rfl, rfl⟩; clear H0))
    | (go_at_call 46; refine (HC.out _).mono ?_; rintro e w1 ⟨rfl, hu1⟩))
  go_ret
  exact ⟨rfl, ((Upd.refl _ w).alloc _).then hu1 (fun _ _ h => h)⟩
set_option maxRecDepth 100000 in
set_option maxHeartbeats 2000000 in
theorem check_answer {fr to vol life id code : Nat} (h1 : fr ≤ 255) (h2 : to ≤ 255) (h3 : 1 ≤ vol ∧ vol ≤ 65535) (h4 : life ≤ 2147483647) (h5 : code ≤ 255) (w : World) :
    Calls Tryz.prog 23 #[msgV fr to 5 vol life id code false 0 0 false (.slice none 0 0)] w fun e w' => e = .returned .nilIface ∧ Upd (fun _ => False) w w' := by
  obtain ⟨h3, h3'⟩ := h3
  have HF := Lib.hid (fun W => small_ok h1 W)
  have HT := Lib.hid (fun W => small_ok h2 W)
  have H0 := Lib.hid (fun W => small_ok h5 W)
  have HC := Lib.hid (fun W => same_nil W)
  have a1 : ¬ ((vol : Int) < 1) := by omega
  have a2 : ¬ ((65535 : Int) < vol) := by omega
  have a3 : ¬ ((life : Int) < 0) := by omega
  have a4 : ¬ ((2147483647 : Int) < life) := by omega
  unfold msgV
  go_enter Tryz.func23, Tryz.ntmps23
  go_wp2_with (first
    | (go_at_call 45; first | (refine (HF.out _).mono ?_; rintro e w' ⟨rfl, rfl⟩; clear HF) | (refine (HT.out _).mono ?_; rintro e w' ⟨rfl, rfl⟩; clear HT) | (refine (H0.out _).mono ?_; rintro e w' ⟨rfl, rfl⟩; clear H0))
    | (go_at_call 44; refine (HC.out _).mono ?_; rintro e w1 ⟨rfl, hu1⟩))
  go_ret
  exact ⟨rfl, ((Upd.refl _ w).alloc _).then hu1 (fun _ _ h => h)⟩

set_option maxRecDepth 100000 in
theorem reply_any (fr to kind vol life id code0 code : Int) (has0 has : Bool) (key0 cookie0 key cookie : Int) (gone0 gone : Bool) (A0 A : Option Addr) (n0 c0 n c : Nat) (w : World) :
    Calls Tryz.prog 24 #[msgV fr to kind vol life id code0 has0 key0 cookie0 gone0 (.slice A0 n0 c0), .int .i64 code, .bool has, .agg #[.int .u64 key, .int .u32 cookie, .bool gone, .slice A n c]] w fun e w' =>
      e = .returned (msgV to fr 5 vol life id code has key cookie gone (.slice A n c)) ∧ Upd (fun _ => False) w w' := by
  unfold msgV
  go_enter Tryz.func24, Tryz.ntmps24
  go_wp2
  refine bodyPost_ret (v := msgV to fr 5 vol life id code has key cookie gone (.slice A n c)) (by simp [results, Tryz.results24, go_sem, msgV]) rfl ⟨rfl, (((Upd.refl _ _).alloc _).alloc _).alloc _⟩
end Go.Proofs.YtlbmoafdialigaaGreatDoor
