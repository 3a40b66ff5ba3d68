/- vol.fresh: a new file with bytes that last, on a disk that is not armed and has room. -/
import Derived.Test.YtlbmoafdialigaaGreatDoorKeep
import Derived.LoopN
namespace Go.Proofs.YtlbmoafdialigaaGreatDoor
open Go Go.RowKit Go.MapKept

set_option maxRecDepth 100000 in
set_option maxHeartbeats 1000000 in
theorem fresh_ok {w : World} {d mn ml n c m cb clk : Nat} {cap nx : Int} {A B : Option Addr} {dxs : List Value} {l : List UInt8} {es : Array MapEntry} {fl : Value → Nat} (name : ByteArray) (hn : NameOk name)
    (hd : DiskB w d cap nx mn ml (.slice A n c) (-1)) (hnx0 : 0 ≤ nx) (hnx : nx ≤ 1000000) (hm : MBlk w mn es clk) (hok : MOk .string es clk) (hsz : es.size < 64)
    (hf : Instr.findNow .string (.string name) es.toList 0 = some none) (hdv : w.ownsRow 0 151 1 (.slice A n c) n dxs) (hn2 : n ≤ 1000000)
    (hfs : Files w fl es) (hc1 : cap ≤ 1073741824) (hb : Bytes w B m cb l) (hm0 : 0 < m) (hm1 : m ≤ 16777216) (hroom : totN fl es.toList + (m : Int) ≤ cap) :
    Calls Tryz.prog 63 #[.pointer (some ⟨d, 0, none⟩), .string name, .slice B m cb] w fun e w' => e = .returned .nilIface ∧
      ∃ f A' c' fv A2 c2, DiskB w' d cap (nx + 1) mn ml (.slice A' (n + 1) c') (-1) ∧ w'.ownsRow 0 151 1 (.slice A' (n + 1) c') (n + 1) (dxs ++ [fv]) ∧
      MBlk w' mn (es.push { key := .string name, val := .pointer (some ⟨f, 0, none⟩), born := clk }) (clk + 1) ∧ FileB w' f nx A2 m c2 m ∧ Bytes w' A2 m c2 l ∧ w.heap.size ≤ f ∧ (∀ k, (Value.slice A2 m c2).ownBlock = some k → w.heap.size ≤ k) ∧ RowOf w (.slice A n c) (.slice A' (n + 1) c') ∧
      Upd (SNames d mn (.slice A n c)) w w' := by
  go_enter Tryz.func63, Tryz.ntmps63
  go_wp2_with fail
  generalize hw0 : World.alloc _ _ = w0
  have hd0 : DiskB w0 d cap nx mn ml (.slice A n c) (-1) := hw0 ▸ DiskB.alloc (DiskB.alloc (DiskB.alloc (DiskB.alloc hd _) _) _) _
  have hm0' : MBlk w0 mn es clk := hw0 ▸ (((hm.alloc _).alloc _).alloc _).alloc _
  have hdv0 : w0.ownsRow 0 151 1 (.slice A n c) n dxs := hw0 ▸ (((hdv.alloc _).alloc _).alloc _).alloc _
  have hb0 : Bytes w0 B m cb l := hw0 ▸ (((hb.alloc _).alloc _).alloc _).alloc _
  have hu0 : Upd (fun _ => False) w w0 := hw0 ▸ (((((Upd.refl _ w).alloc _).alloc _).alloc _).alloc _)
  have hfs0 : Files w0 fl es := hfs.upd hu0 (fun _ _ _ h => h)
  have b0 : Blk w0 w.heap.size 53 #[.pointer (some ⟨d, 0, none⟩)] := hw0 ▸ (((Blk.new w _ _).alloc _).alloc _).alloc _
  have b1 : Blk w0 (w.heap.size + 1) 9 #[.string name] := hw0 ▸ ((Blk.new1 w _ _ _).alloc _).alloc _
  have b2 : Blk w0 (w.heap.size + 1 + 1) 24 #[.slice B m cb] := hw0 ▸ (Blk.new2 w _ _ _ _).alloc _
  have b3 : Blk w0 (w.heap.size + 1 + 1 + 1) 49 #[.func (.func 98) #[] #[.pointer (some ⟨w.heap.size, 0, none⟩), .pointer (some ⟨w.heap.size + 1, 0, none⟩)],
    .func (.func 100) #[] #[.pointer (some ⟨w.heap.size, 0, none⟩), .pointer (some ⟨w.heap.size + 1, 0, none⟩), .pointer (some ⟨w.heap.size + 1 + 1, 0, none⟩)],
    .func (.func 102) #[] #[.pointer (some ⟨w.heap.size, 0, none⟩), .pointer (some ⟨w.heap.size + 1, 0, none⟩)]] := hw0 ▸ Blk.new3 w _ _ _ _ _
  clear hw0 hd hm hdv hb hfs
  have HC := Lib.hid (create_new name hn hd0 (by omega) (by omega) (by omega) hnx0 hnx hm0' hok hsz hf hdv0 hn2)
  have k0 : w0.cell? ⟨w.heap.size, 0, none⟩ = some (.pointer (some ⟨d, 0, none⟩)) := b0.cell 0
  have k1 : w0.cell? ⟨w.heap.size + 1, 0, none⟩ = some (.string name) := b1.cell 0
  have k3 : w0.cell? ⟨w.heap.size + 1 + 1 + 1, 0, none⟩ = some (.func (.func 98) #[] #[.pointer (some ⟨w.heap.size, 0, none⟩), .pointer (some ⟨w.heap.size + 1, 0, none⟩)]) := b3.cell 0
  refine wp_loop_rounds 4 ?_
  rw [rounds_succ]
  go_wp2_with (first
    | (go_at_call 98; go_in)
    | (go_at_call 99; refine (HC.out).mono ?_; rintro e w1 ⟨rfl, f, A', c', fv, hd1, hdv1, hm1', hfb1, hlf, hrw, hu1⟩))
  rw [mput_new hf, mclock_new hf] at hm1'
  have hS1 : ∀ g cs t, Blk w0 g t cs → t ≠ 125 → t ≠ 151 → ¬ SNames d mn (.slice A n c) g := fun g cs t hb a b => SNames.notBlk hb hd0 hm0' hdv0 a b
  have hok1 : MOk .string (es.push { key := .string name, val := .pointer (some ⟨f, 0, none⟩), born := clk }) (clk + 1) := by
    have := hok.put (key := .string name) trivial (.pointer (some ⟨f, 0, none⟩))
    rw [mput_new hf, mclock_new hf] at this
    exact this
  obtain ⟨i1, hf1⟩ := find_mput (val := .pointer (some ⟨f, 0, none⟩)) hok (key := .string name) trivial hf
  rw [mput_new hf] at hf1
  have hfs1 : Files w1 (flset fl f 0) _ := hfs0.push hu1 (fun g cs hb => hS1 g cs _ hb (by decide) (by decide)) hlf (n := 0) (c := 0) (A := none) (num := nx) (l := 0) hfb1 (.string name) clk
  have ht1 : totN (flset fl f 0) (es.push { key := .string name, val := .pointer (some ⟨f, 0, none⟩), born := clk }).toList = totN fl es.toList := by
    rw [totN_push, totN_flset hfs0 hlf, flset_same]; rfl
  have hb1 : Bytes w1 B m cb l := hb0.upd hu1 (SNames.notRow hb0 hd0 hm0' hdv0 (by decide) (by decide))
  have e0 : Bytes w1 none 0 0 [] := World.ownsRow_nil _ _ _ _
  have b0' := b0.upd hu1 (hS1 _ _ _ b0 (by decide) (by decide))
  have b1' := b1.upd hu1 (hS1 _ _ _ b1 (by decide) (by decide))
  have b2' := b2.upd hu1 (hS1 _ _ _ b2 (by decide) (by decide))
  have b3' := b3.upd hu1 (hS1 _ _ _ b3 (by decide) (by decide))
  have HA := Lib.hid (append_ok name hd1 (by unfold didA; decide) (by unfold didA; decide) (by unfold didA; decide) hm1' hok1 hfs1 (by rw [ht1]; omega) (by omega) hc1 hf1 (show FileB w1 f nx none 0 0 0 from hfb1) e0 hb1 hm0 (by omega) (by rw [ht1]; omega))
  clear k0 k1 k3 HC
  have k0 : w1.cell? ⟨w.heap.size, 0, none⟩ = some (.pointer (some ⟨d, 0, none⟩)) := b0'.cell 0
  have k1 : w1.cell? ⟨w.heap.size + 1, 0, none⟩ = some (.string name) := b1'.cell 0
  have k2 : w1.cell? ⟨w.heap.size + 1 + 1, 0, none⟩ = some (.slice B m cb) := b2'.cell 0
  have k3 : w1.cell? ⟨w.heap.size + 1 + 1 + 1, 1, none⟩ = some (.func (.func 100) #[] #[.pointer (some ⟨w.heap.size, 0, none⟩), .pointer (some ⟨w.heap.size + 1, 0, none⟩), .pointer (some ⟨w.heap.size + 1 + 1, 0, none⟩)]) := b3'.cell 1
  rw [rounds_succ]
  have hFS := Lib.hid hfs1
  have hHF := Lib.hid hf1
  have hHT := Lib.hid ht1
  clear hfs1 hf1 ht1
  go_wp2_with (first
    | (go_at_call 100; go_in)
    | (go_at_call 101; refine (HA.out).mono ?_; rintro e w2 ⟨rfl, A2, c2, hfb2, hx2, hd2, hro2, hu2⟩))
  have od1 := own_blk_ne hdv1 hd1 (by decide)
  have hS2 : ∀ g cs t, Blk w1 g t cs → t ≠ 125 → t ≠ 156 → t ≠ 5 → ¬ SFile d f (.slice none 0 0) g := fun g cs t hb a b c => SFile.notBlk hb hd1 (show FileB w1 f nx none 0 0 0 from hfb1) e0 a b c
  have b0'' := b0'.upd hu2 (hS2 _ _ _ b0' (by decide) (by decide) (by decide))
  have b1'' := b1'.upd hu2 (hS2 _ _ _ b1' (by decide) (by decide) (by decide))
  have b3'' := b3'.upd hu2 (hS2 _ _ _ b3' (by decide) (by decide) (by decide))
  have hm2 := hm1'.upd hu2 (SFile.notMap hm1' hd1 (show FileB w1 f nx none 0 0 0 from hfb1) e0)
  have hdv2 := own_upd hdv1 hu2 (SFile.notRow hdv1 hd1 (show FileB w1 f nx none 0 0 0 from hfb1) e0 (by decide) (by decide) (by decide))
  have HY := Lib.hid (sync_ok name hd2 (by unfold didA; decide) (by unfold didA; decide) (by unfold didA; decide) hm2 hHF.out hfb2)
  clear k0 k1 k2 k3 HA
  have k0 : w2.cell? ⟨w.heap.size, 0, none⟩ = some (.pointer (some ⟨d, 0, none⟩)) := b0''.cell 0
  have k1 : w2.cell? ⟨w.heap.size + 1, 0, none⟩ = some (.string name) := b1''.cell 0
  have k3 : w2.cell? ⟨w.heap.size + 1 + 1 + 1, 2, none⟩ = some (.func (.func 102) #[] #[.pointer (some ⟨w.heap.size, 0, none⟩), .pointer (some ⟨w.heap.size + 1, 0, none⟩)]) := b3''.cell 2
  rw [rounds_succ]
  go_wp2_with (first
    | (go_at_call 102; go_in)
    | (go_at_call 103; refine (HY.out).mono ?_; rintro e w3 ⟨rfl, hfb3, hd3, hu3⟩))
  rw [rounds_succ]
  go_wp2
  go_ret
  have hneg : didA (didA (didA (-1))) = -1 := by decide
  rw [hneg] at hd3
  have o3 := own_blk_ne hdv2 hd2 (by decide)
  have o4 := own_blk_ne hdv2 hfb2 (by decide)
  have hdv3 := own_upd hdv2 hu3 (fun k hk => by
    rintro (e | e)
    · exact o3 (by rw [hk, e])
    · exact o4 (by rw [hk, e]))
  have hm3 := hm2.upd hu3 (by
    rintro (e | e)
    · exact Blk.neM hd2 hm2 e.symm
    · exact Blk.neM hfb2 hm2 e.symm)
  rw [Nat.zero_add] at hfb3 hx2
  have o5 := own_blk_ne hx2 hd2 (by decide)
  have o6 := own_blk_ne hx2 hfb2 (by decide)
  have hx3 : Bytes w3 A2 m c2 l := own_upd hx2 hu3 (fun k hk => by
    rintro (e | e)
    · exact o5 (by rw [hk, e])
    · exact o6 (by rw [hk, e]))
  have hs0 := hu0.size
  have hnw : ∀ k, (Value.slice A2 m c2).ownBlock = some k → w.heap.size ≤ k := fun k e => by
    rcases hro2 k (by rw [Nat.zero_add]; exact e) with h | h
    · simp [Value.ownBlock] at h
    · have := hu1.size; omega
  refine ⟨rfl, f, A', c', fv, A2, c2, hd3, hdv3, hm3, hfb3, hx3, by omega, hnw, hrw.mono hu0.size, ?_⟩
  refine (((hu0.mono (S' := SNames d mn (.slice A n c)) (fun _ _ h => h.elim)).then hu1 (fun _ _ h => h)).then hu2 ?_).then hu3 ?_
  · rintro i hi (e | e | e)
    · exact .inl e
    · omega
    · simp [Value.ownBlock] at e
  · rintro i hi (e | e)
    · exact .inl e
    · omega
end Go.Proofs.YtlbmoafdialigaaGreatDoor
