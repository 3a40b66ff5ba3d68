/- node.code: errors.As of an api.Code. -/
import Derived.Test.YtlbmoafdialigaaGreatDoorErr
import Derived.LoopN
namespace Go.Proofs.YtlbmoafdialigaaGreatDoor
open Go Go.RowKit Go.MapKept

theorem setRow_blk {w : World} {c : Nat} {t : TypeId} {cs new : Array Value} (h : Blk w c t cs) : Blk (w.setRow c new) c t new := setRow_heap w c cs new t _ h
theorem setRow_upd (w : World) (c : Nat) (new : Array Value) : Upd (fun k => k = c) w (w.setRow c new) := ⟨rfl, rfl, by simp, fun k _ hn => setRow_other w c k _ hn⟩

set_option maxRecDepth 100000 in
set_option maxHeartbeats 4000000 in
theorem as1_code {w : World} {b c : Nat} {n o : Int} (hb : Blk w b 127 #[.pointer (some ⟨c, 0, none⟩)]) (hc : Blk w c 72 #[.int .i64 o]) (t : Value) :
    Calls Tryz.prog 91 #[.iface 72 (.int .i64 n), t, .agg #[.pointer (some ⟨5, 127, none⟩), .pointer (some ⟨b, 0, none⟩), .int .u64 150], rt 72] w fun e w' => e = .returned (.bool true) ∧ Blk w' c 72 #[.int .i64 n] ∧ Upd (fun k => k = c) w w' := by
  have h1 := fun W => x_typeOf n W
  have h2 := fun W => x_asgC W
  have h3 := fun W => x_asg1 W
  have h4 := fun W => x_valueOfC n W
  unfold rt at *
  go_enter Tryz.func91, Tryz.ntmps91
  go_wp2_with fail
  generalize hw0 : World.alloc _ _ = w0
  have hu0 : Upd (fun _ => False) w w0 := hw0 ▸ (Upd.refl _ w).alloc _
  have b0 : Blk w0 w.heap.size 188 #[.pointer (some ⟨5, 127, none⟩), .pointer (some ⟨b, 0, none⟩), .int .u64 150] := hw0 ▸ Blk.new w _ _
  clear hw0
  have hb0 := hb.upd hu0 id
  have hc0 := hc.upd hu0 id
  have k0 := b0.cell 0
  have k1 := b0.cell 1
  have k2 := b0.cell 2
  have h5 := x_elemV hb0
  have h6 := x_set (w := w0.alloc (.cells #[.int .i64 n] 72)) (b := w0.heap.size) (c := c) (n := n) (o := o) (Blk.new w0 _ _) (hc0.alloc _)
  have hcw := (hc0.alloc (.cells #[.int .i64 n] 72))
  refine wp_loop_rounds 1 ?_
  rw [rounds_succ]
  go_wp2
  go_ret
  refine ⟨rfl, setRow_blk hcw, ?_⟩
  exact (((hu0.mono (S' := fun k => k = c) (fun _ _ h => h.elim)).alloc _).then (setRow_upd _ c _) (fun _ _ h => h))

set_option maxRecDepth 100000 in
set_option maxHeartbeats 4000000 in
theorem as_code {w : World} {c : Nat} {n o : Int} (hg : w.cell? ⟨0, 0, none⟩ = some (rt 36)) (hc : Blk w c 72 #[.int .i64 o]) :
    Calls Tryz.prog 53 #[.iface 72 (.int .i64 n), .iface 127 (.pointer (some ⟨c, 0, none⟩))] w fun e w' => e = .returned (.bool true) ∧ Blk w' c 72 #[.int .i64 n] ∧ Upd (fun k => k = c) w w' := by
  have h1 := fun W => x_valueOf (some ⟨c, 0, none⟩) W
  have h2 := fun b W => x_type b W
  have h3 := fun W => x_kindP W
  have h4 := fun W => x_kind1 W
  have h5 := fun W => x_elemP W
  have h6 := fun W => x_elem1 W
  have h7 := fun W => x_kindC W
  have h8 := fun W => x_kind2 W
  have h9 := fun W => x_implC W
  have h10 := fun W => x_impl1 W
  have HA := Lib.hid (fun (W : World) (b : Nat) (hb : Blk W b 127 #[.pointer (some ⟨c, 0, none⟩)]) (hc : Blk W c 72 #[.int .i64 o]) (t : Value) => as1_code (n := n) hb hc t)
  unfold rt at *
  have hw0 : Blk (w.alloc (.cells #[.pointer (some ⟨c, 0, none⟩)] 127)) w.heap.size 127 #[.pointer (some ⟨c, 0, none⟩)] := Blk.new w _ _
  have hw1 := hw0.alloc (.cells #[.pointer (some ⟨5, 127, none⟩), .pointer (some ⟨w.heap.size, 0, none⟩), .int .u64 150] 188)
  have hn := x_isNil hw1
  have hg1 : (w.alloc (.cells #[.pointer (some ⟨c, 0, none⟩)] 127)).cell? ⟨0, 0, none⟩ = some (.iface 202 (.agg #[.pointer (some ⟨5, 36, none⟩)])) := (World.cell?_alloc_lt w _ ⟨0, 0, none⟩ (lt_of_cell hg)).trans hg
  have hc1 := (hc.alloc (.cells #[.pointer (some ⟨c, 0, none⟩)] 127)).alloc (.cells #[.pointer (some ⟨5, 127, none⟩), .pointer (some ⟨w.heap.size, 0, none⟩), .int .u64 150] 188)
  go_enter Tryz.func53, Tryz.ntmps53
  go_wp2_with (go_at_call 91; go_must (refine (HA.out _ _ hw1 hc1 _).mono ?_; rintro e w2 ⟨rfl, hc2, hu2⟩))
  go_ret
  refine ⟨rfl, hc2, ?_⟩
  exact (((Upd.refl (fun k => k = c) w).alloc _).alloc _).then hu2 (fun _ _ h => h)

theorem code_code {w : World} (n : Int) (hg : w.cell? ⟨0, 0, none⟩ = some (rt 36)) :
    Calls Tryz.prog 29 #[.iface 72 (.int .i64 n)] w fun e w' => e = .returned (.int .i64 n) ∧ Upd (fun _ => False) w w' := by
  have HA := Lib.hid (as_code (w := w.alloc (.cells #[.int .i64 0] 72)) (c := w.heap.size) (n := n) (o := 0) ((World.cell?_alloc_lt w _ ⟨0, 0, none⟩ (lt_of_cell hg)).trans hg) (Blk.new w _ _))
  go_enter Tryz.func29, Tryz.ntmps29
  go_wp2_with fail
  refine (HA.out).mono ?_
  rintro e w1 ⟨rfl, hc, hu⟩
  have k0 := hc.cell 0
  go_wp2
  go_ret
  exact ⟨rfl, ((Upd.refl (fun _ => False) w).alloc _).then hu (fun i hi e => by have e : i = w.heap.size := e; omega)⟩
end Go.Proofs.YtlbmoafdialigaaGreatDoor
