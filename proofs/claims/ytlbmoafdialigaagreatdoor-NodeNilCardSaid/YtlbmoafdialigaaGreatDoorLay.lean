/- vol.right, vol.lay on an unarmed disk with room and without the shadow, index.New of nothing. -/
import Derived.Test.YtlbmoafdialigaaGreatDoorWords
import Derived.Test.YtlbmoafdialigaaGreatDoorContains
import Derived.Test.YtlbmoafdialigaaGreatDoorFresh
namespace Go.Proofs.YtlbmoafdialigaaGreatDoor
open Go Go.RowKit Go.MapKept

theorem mdel_push {d : TypeDesc} {es : Array MapEntry} {clk : Nat} {key val : Value} {b : Nat} (hok : MOk d (es.push { key, val, born := b }) clk) (hk : IsKey d key) (hall : ∀ x ∈ es.toList, IsKey d x.key) (h : Instr.findNow d key es.toList 0 = some none) :
    mdel d (es.push { key, val, born := b }) key = es := by
  have hne := ne_of_find hk hall h
  unfold mdel
  rcases MapKept.findNow_spec hk (es.push { key, val, born := b }).toList 0 hok.2 with ⟨_, h2⟩ | ⟨j, e0, h1, h2, h3⟩
  · exact absurd rfl (h2 ({ key, val, born := b } : MapEntry) (by simp))
  · rw [h1]
    have hj : j = es.size := by
      rw [Array.toList_push] at h2
      rcases Nat.lt_or_ge j es.toList.length with hl | hl
      · rw [List.getElem?_append_left hl] at h2
        exact absurd h3 (hne e0 (List.mem_of_getElem? h2))
      · have : j < (es.toList ++ [({ key, val, born := b } : MapEntry)]).length := (List.getElem?_eq_some_iff.1 h2).1
        simp at this hl
        omega
    subst hj
    apply Array.ext'
    simp [Array.eraseIdxIfInBounds, List.eraseIdx_append_of_length_le]
def Keys32 (es : Array MapEntry) : Prop := ∀ e ∈ es.toList, ∀ s, e.key = .string s → s.size ≤ 32
theorem Keys32.push {es : Array MapEntry} (h : Keys32 es) {name : ByteArray} (hn : NameOk name) (val : Value) (b : Nat) : Keys32 (es.push { key := .string name, val, born := b }) := fun e he s hs => by
  simp only [Array.toList_push, List.mem_append, List.mem_singleton] at he
  rcases he with he | rfl
  · exact h e he s hs
  · injection hs with hs
    subst hs
    exact hn.2.1
theorem notin_names {es : Array MapEntry} (hall : ∀ x ∈ es.toList, IsKey .string x.key) {x : List UInt8} (h : Instr.findNow .string (.string (txt x)) es.toList 0 = some none) : x ∉ namesOf es := fun hx => by
  obtain ⟨e, he, hk⟩ := List.mem_map.1 hx
  refine ne_of_find (d := .string) (key := .string (txt x)) trivial hall h e he ?_
  obtain ⟨s, hs⟩ := string_of_isKey (hall e he)
  rw [hs] at hk ⊢
  have : s.data.toList = x := hk
  rw [← this]
  rfl
theorem own_slice {w : World} {base : Nat} {e : TypeId} {size n : Nat} {v : Value} {xs : List Value} (h : w.ownsRow base e size v n xs) : ∃ A c, v = .slice A n c := by
  rcases h.2 with ⟨rfl, rfl⟩ | ⟨g, cap, cur, rfl, _⟩
  · exact ⟨_, _, rfl⟩
  · exact ⟨_, _, rfl⟩

theorem vright_ok {v m p : Nat} (hv : 1 ≤ v ∧ v ≤ 65535) (hm : 16 ≤ m ∧ m ≤ 16777216) (hp : p ≤ 2147483647) (w : World) :
    Calls Tryz.prog 59 #[.int .i64 v, .int .i64 m, .int .i64 p] w fun e w' => e = .returned (.bool true) ∧ w = w' := by
  obtain ⟨v1, v2⟩ := hv
  obtain ⟨m1, m2⟩ := hm
  have a1 : (1 : Int) ≤ v := by omega
  have a2 : (v : Int) ≤ 65535 := by omega
  have a3 : (16 : Int) ≤ m := by omega
  have a4 : (m : Int) ≤ 16777216 := by omega
  have a5 : (0 : Int) ≤ p := by omega
  have a6 : (p : Int) ≤ 2147483647 := by omega
  go_enter Tryz.func59, Tryz.ntmps59
  go_wp2
  go_ret
  exact ⟨rfl, rfl⟩

theorem indexNew_nil (w : World) : Calls Tryz.prog 65 #[.slice none 0 0] w fun e w' => e = .returned (.pointer (some ⟨w.heap.size, 0, none⟩)) ∧ w.alloc (.cells #[.slice none 0 0] 168) = w' := by
  go_enter Tryz.func65, Tryz.ntmps65
  go_wp2
  go_loop [10] (fun i => i = .int .i64 0) (fun _ => 0)
  case atStart => rfl
  case round =>
    subst hrel
    go_wp2
    go_ret
    exact ⟨rfl, rfl⟩

set_option maxRecDepth 100000 in
set_option maxHeartbeats 2000000 in
theorem lay_ok {w : World} {d mn ml n c clk v g p : Nat} {cap nx : Int} {A : Option Addr} {dxs : List Value} {es : Array MapEntry} {fl : Value → Nat} (sealed : Bool) (hv : 1 ≤ v ∧ v < 100) (hg : 1 ≤ g ∧ g < 100) (hp : p ≤ 2147483647)
    (hd : DiskB w d cap nx mn ml (.slice A n c) (-1)) (hnx0 : 0 ≤ nx) (hnx : nx ≤ 1000000) (hm : MBlk w mn es clk) (hok : MOk .string es clk) (hsz : es.size < 64) (hk32 : Keys32 es)
    (hf : Instr.findNow .string (.string (nmShadow v)) es.toList 0 = some none) (hdv : w.ownsRow 0 151 1 (.slice A n c) n dxs) (hn2 : n ≤ 100000)
    (hfs : Files w fl es) (hc1 : cap ≤ 1073741824) (hroom : totN fl es.toList + (24 : Int) ≤ cap) :
    Calls Tryz.prog 64 #[.pointer (some ⟨d, 0, none⟩), .agg #[.int .i64 v, .int .i64 g, .int .i64 p, .bool sealed]] w fun e w' => e = .returned .nilIface ∧
      ∃ f ml' A2 c2, DiskB w' d cap (nx + 1) mn ml' (.slice none 0 0) (-1) ∧ MBlk w' mn (mput .string es (clk + 1) (.string (nmMan v)) (.pointer (some ⟨f, 0, none⟩))) (mclock .string es (clk + 1) (.string (nmMan v))) ∧
      MBlk w' ml' (mput .string es (clk + 1) (.string (nmMan v)) (.pointer (some ⟨f, 0, none⟩))) (mclock .string es (clk + 1) (.string (nmMan v))) ∧ FileB w' f nx A2 24 c2 24 ∧ Bytes w' A2 24 c2 (manL v g p sealed) ∧ w.heap.size ≤ f ∧
      Upd (SNames d mn (.slice A n c)) w w' := by
  have HN := Lib.hid (fun W => names_small v g hv.2 hg.2 W)
  have HM := Lib.hid (fun W => putManifest_ok (v := v) (g := g) (p := p) (by omega) (by omega) hp sealed W)
  have HK := Lib.hid (fun (W : World) (a : DiskB W d cap nx mn ml (.slice A n c) (-1)) (b : MBlk W mn es clk) => names_any a b hok (by omega) (fun e he s hs => by have := hk32 e he s hs; unfold maxLen; omega))
  have hnot := notin_names hok.2 hf
  have HF := Lib.hid (fun (W : World) (B : Option Addr) (cb : Nat) (l : List UInt8) (a : DiskB W d cap nx mn ml (.slice A n c) (-1)) (b : MBlk W mn es clk) (cc : W.ownsRow 0 151 1 (.slice A n c) n dxs) (dd : Files W fl es) (ee : Bytes W B 24 cb l) =>
    fresh_ok (nmShadow v) (nmShadow_ok hv.2) a hnx0 hnx b hok hsz hf cc (by omega) dd hc1 ee (by decide) (by decide) hroom)
  go_enter Tryz.func64, Tryz.ntmps64
  go_wp2_with fail
  generalize hw0 : World.alloc _ _ = w0
  have hu0 : Upd (fun _ => False) w w0 := hw0 ▸ (Upd.refl _ w).alloc _
  have b3 : Blk w0 w.heap.size 98 #[.int .i64 v, .int .i64 g, .int .i64 p, .bool sealed] := hw0 ▸ Blk.new w _ _
  clear hw0
  have hd0 := hd.upd hu0 id
  have hm0 := hm.upd hu0 id
  have k0 := b3.cell 0
  have k1 := b3.cell 1
  have k2 := b3.cell 2
  have k3 := b3.cell 3
  go_wp2_with (first
    | (go_at_call 58; refine (HN.out _).mono ?_; rintro e w' ⟨rfl, rfl⟩)
    | (go_at_call 104; go_must (refine (HM.out _).mono ?_; rintro e w1 ⟨B, cb, rfl, hb1, hu1⟩; have hd1 := hd0.upd hu1 id; have hm1 := hm0.upd hu1 id))
    | (go_at_call 61; go_must (refine (HK.out _ hd1 hm1).mono ?_; rintro e w2 ⟨vs, ss, rfl, hperm, hrow, hu2⟩; obtain ⟨As, cs, rfl⟩ := own_slice hrow))
    | (go_at_call 60; go_must (refine (contains_no hrow (by rw [hperm.length_eq]; simp [namesOf]; omega) _ (fun h => hnot (hperm.mem_iff.1 h))).mono ?_; rintro e w' ⟨rfl, rfl⟩)))
  have hu02 := (hu0.then hu1 (fun _ _ h => h)).then hu2 (fun _ _ h => h)
  have hd2 := hd.upd hu02 id
  have hm2 := hm.upd hu02 id
  have hdv2 := own_upd hdv hu02 (fun _ _ h => h)
  have hfs2 := hfs.upd hu02 (fun _ _ _ h => h)
  have hb2 := hb1.upd hu2 (fun _ _ h => h)
  have hs02 := hu02.size
  refine (HF.out _ _ _ _ hd2 hm2 hdv2 hfs2 hb2).mono ?_
  rintro e w3 ⟨rfl, f, A', c', fv, A2, c2, hd3, hdv3, hm3, hfb3, hb3, hlf, _, hrw, hu3⟩
  have hok3 : MOk .string (es.push { key := .string (nmShadow v), val := .pointer (some ⟨f, 0, none⟩), born := clk }) (clk + 1) := by
    have := hok.put (key := .string (nmShadow v)) trivial (.pointer (some ⟨f, 0, none⟩))
    rw [mput_new hf, mclock_new hf] at this
    exact this
  obtain ⟨i3, hf3⟩ := find_mput (val := .pointer (some ⟨f, 0, none⟩)) hok (key := .string (nmShadow v)) trivial hf
  rw [mput_new hf] at hf3
  have hmd := mdel_push hok3 trivial hok.2 hf
  have HR := Lib.hid (rename_ok (nmShadow v) (nmMan v) (nmMan_ok hv.2) hd3 (by decide) (by decide) (by decide) hm3 hok3 hf3 hdv3 (by omega))
  rw [hmd] at HR
  clear hf3 hmd k0 k1 k2 k3 b3 hd0 hm0 HN HM HK
  go_wp2_with (go_at_call 106; go_must (refine (HR.out).mono ?_; rintro e w4 ⟨rfl, A4, c4, fv4, hd4, hdv4, hm4, hrw4, hu4⟩))
  have hneg : didA (-1) = -1 := by decide
  rw [hneg] at hd4
  have HS := Lib.hid (syncNames_ok hd4 (by decide) (by decide) (by decide) hm4)
  go_wp2_with (go_at_call 107; go_must (refine (HS.out).mono ?_; rintro e w5 ⟨rfl, ml', hd5, hml5, hm5, hlm, hu5⟩))
  go_ret
  rw [hneg] at hd5
  have hS3 : ¬ SNames d mn (.slice A' (n + 1) c') f := SNames.notBlk hfb3 hd3 hm3 hdv3 (by decide) (by decide)
  have hfb4 := hfb3.upd hu4 hS3
  have hfb5 : FileB w5 f nx A2 24 c2 24 := hfb4.upd hu5 (Blk.ne_ hfb4 hd4 (by decide))
  have hb4 := hb3.upd hu4 (SNames.notRow hb3 hd3 hm3 hdv3 (by decide) (by decide))
  have ob4 := own_blk_ne hb4 hd4 (by decide)
  have hb5 : Bytes w5 A2 24 c2 (manL v g p sealed) := hb4.upd hu5 (fun k e h => ob4 (by rw [e, h]))
  refine ⟨rfl, f, ml', A2, c2, hd5, hm5, hml5, hfb5, hb5, by omega, ?_⟩
  refine (((hu02.mono (S' := SNames d mn (.slice A n c)) (fun _ _ h => h.elim)).then hu3 (fun _ _ h => h)).then hu4 ?_).then hu5 (fun _ _ h => .inl h)
  rintro i hi (h | h | h)
  · exact .inl h
  · exact .inr (.inl h)
  · rcases hrw i h with h | h
    · exact .inr (.inr h)
    · omega
end Go.Proofs.YtlbmoafdialigaaGreatDoor
