/- node.Handle of the first Put on a volume just made: it goes through, or the disk is full. -/
import Derived.Test.YtlbmoafdialigaaGreatDoorNode7
namespace Go.Proofs.YtlbmoafdialigaaGreatDoor
open Go Go.RowKit Go.MapKept

/-- What of a volume that took its first needle is there. -/
def Rok (km d v most vb xb key n cookie : Nat) (W : World) : Prop :=
  ∃ g cg size, VolB W vb d v 1 0 false most size xb ∧ Blk W xb 168 #[.slice (some ⟨g, 0, none⟩) 1 cg] ∧ W.ownsRow 0 170 5 (.slice (some ⟨g, 0, none⟩) 1 cg) 1 (posC key 16 n cookie false) ∧ vb ≠ km ∧ xb ≠ km ∧ g ≠ km
/-- What of a volume that had no room is there. -/
def Rno (km d v most vb xb : Nat) (W : World) : Prop :=
  VolB W vb d v 1 0 false most 16 xb ∧ Idx0 W xb ∧ W.cell? ⟨0, 0, none⟩ = some (rt 36) ∧ vb ≠ km ∧ xb ≠ km ∧ 0 ≠ km

theorem loc_blk {km B g : Nat} {W : World} {t : TypeId} {cs : Array Value} (h : Blk W g t cs) (h1 : t ≠ 32) (h2 : t ≠ 34) (hk : g ≠ km) : ¬ Loc km B W g := by
  rintro (e | ⟨_, cs', h'⟩ | ⟨_, cs', h'⟩)
  · exact hk e
  · exact Blk.ne_ h h' h1 rfl
  · exact Blk.ne_ h h' h2 rfl
theorem loc_row {km B g : Nat} {W : World} {base size n c : Nat} {t : TypeId} {xs : List Value} (h : W.ownsRow base t size (.slice (some ⟨g, 0, none⟩) n c) n xs) (h1 : t ≠ 32) (h2 : t ≠ 34) (hk : g ≠ km) : ¬ Loc km B W g := by
  rintro (e | ⟨_, cs', h'⟩ | ⟨_, cs', h'⟩)
  · exact hk e
  · exact own_blk_ne h h' h1 rfl
  · exact own_blk_ne h h' h2 rfl
theorem Rok.loc {km B d v most vb xb key n cookie : Nat} {W W' : World} (h : Rok km d v most vb xb key n cookie W) (hu : Upd (Loc km B W) W W') : Rok km d v most vb xb key n cookie W' := by
  obtain ⟨g, cg, size, h1, h2, h3, h4, h5, h6⟩ := h
  refine ⟨g, cg, size, Blk.upd h1 hu (loc_blk h1 (by decide) (by decide) h4), h2.upd hu (loc_blk h2 (by decide) (by decide) h5), own_upd h3 hu (fun k e => ?_), h4, h5, h6⟩
  have : g = k := by simpa [Value.ownBlock] using e
  subst this
  exact loc_row h3 (by decide) (by decide) h6

theorem Rno.loc {km B d v most vb xb : Nat} {W W' : World} (h : Rno km d v most vb xb W) (hB : 0 < B) (hu : Upd (Loc km B W) W W') : Rno km d v most vb xb W' := by
  obtain ⟨h1, h2, h3, h4, h5, h6⟩ := h
  refine ⟨Blk.upd h1 hu (loc_blk h1 (by decide) (by decide) h4), Blk.upd h2 hu (loc_blk h2 (by decide) (by decide) h5), cell_upd hu h3 ?_, h4, h5, h6⟩
  rintro (e | ⟨e, _⟩ | ⟨e, _⟩)
  · exact h6 e
  · have e : B ≤ 0 := e
    omega
  · have e : B ≤ 0 := e
    omega

set_option maxHeartbeats 2000000 in
theorem handle_put_ok {w : World} {nb place d vm mm tb wm km vb xb mn ml f1 c1 fr v id key cookie n c most i clk : Nat} {A A1 : Option Addr} {cap : Nat} {nx num lst : Int} {l lx : List UInt8} {es : Array MapEntry} {fl : Value → Nat}
    (h : NodeB w nb place 0 true d vm mm tb wm) (ht : TabB w tb km) (hm : MBlk w km #[] 0) (hvm : MBlk w vm #[{ key := .int .i64 v, val := .pointer (some ⟨vb, 0, none⟩), born := 0 }] 1) (hvk : vm ≠ km)
    (hv : VolB w vb d v 1 0 false most 16 xb) (hx : Idx0 w xb) (hv1 : 1 ≤ v ∧ v < 100) (hmost : most ≤ 16777216)
    (hd : DiskB w d cap nx mn ml (.slice none 0 0) (-1)) (hmn : MBlk w mn es clk) (hmk : mn ≠ km) (hok : MOk .string es clk) (hfl : Files w fl es) (htot : totN fl es.toList ≤ 1073741824) (hc1 : cap ≤ 1073741824)
    (hf : Instr.findNow .string (.string (nmData v 1)) es.toList 0 = some (some (i, .pointer (some ⟨f1, 0, none⟩))))
    (hfb : FileB w f1 num A1 16 c1 lst) (hb : Bytes w A1 16 c1 lx)
    (h1 : fr ≤ 255) (h2 : place ≤ 255) (hkey : key < 18446744073709551616) (hck : cookie < 4294967296) (hn : n ≤ 4096) (hs : Sees w A n l) (hA : A = none → c = 0)
    (hroom : 32 + n + padN (32 + n) + totN fl es.toList ≤ cap) (hfit : 32 + n + padN (32 + n) + 16 ≤ most) :
    Calls Tryz.prog 5 #[.pointer (some ⟨nb, 0, none⟩), msgV fr place 1 v 0 id 0 true key cookie false (.slice A n c)] w fun e w' =>
      e = .returned (.tuple #[msgV place fr 5 v 0 id 0 false 0 0 false (.slice none 0 0), .nilIface]) ∧ Rok km d v most vb xb key n cookie w' ∧ NodeB w' nb place 0 true d vm mm tb wm ∧ (∃ cap nx mn ml dv, DiskB w' d cap nx mn ml dv (-1)) ∧ TabB w' tb km ∧
      MBlk w' km #[{ key := .agg #[.int .i64 fr, .int .u64 id], val := msgV place fr 5 v 0 id 0 false 0 0 false (.slice none 0 0), born := 0 }] 1 ∧ MBlk w' vm #[{ key := .int .i64 v, val := .pointer (some ⟨vb, 0, none⟩), born := 0 }] 1 ∧
      Upd (fun k => (k = vb ∨ k = xb ∨ k = d ∨ k = f1 ∨ (Value.slice A1 16 c1).ownBlock = some k) ∨ k = km) w w' := by
  have hSl : ∀ k, (k = vb ∨ k = xb ∨ k = d ∨ k = f1 ∨ (Value.slice A1 16 c1).ownBlock = some k) → k < w.heap.size := by
    obtain ⟨g, cp, e1, _, e3⟩ := own_form hb (by decide)
    rintro k (rfl | rfl | rfl | rfl | e)
    · exact Blk.lt hv
    · exact Blk.lt hx
    · exact hd.lt
    · exact Blk.lt hfb
    · rw [e1] at e
      have : g = k := by simpa [Value.ownBlock] using e
      omega
  have nS : ∀ g t cs, Blk w g t cs → t ≠ 101 → t ≠ 168 → t ≠ 125 → t ≠ 156 → t ≠ 5 → ¬ (g = vb ∨ g = xb ∨ g = d ∨ g = f1 ∨ (Value.slice A1 16 c1).ownBlock = some g) := by
    rintro g t cs hg n1 n2 n3 n4 n5 (e | e | e | e | e)
    · exact Blk.ne_ hg hv n1 e
    · exact Blk.ne_ hg hx n2 e
    · exact Blk.ne_ hg hd n3 e
    · exact Blk.ne_ hg hfb n4 e
    · exact own_blk_ne hb hg (Ne.symm n5) e
  have nM : ∀ g es' ck, MBlk w g es' ck → ¬ (g = vb ∨ g = xb ∨ g = d ∨ g = f1 ∨ (Value.slice A1 16 c1).ownBlock = some g) := by
    rintro g es' ck hg (e | e | e | e | e)
    · exact Blk.neM hv hg e.symm
    · exact Blk.neM hx hg e.symm
    · exact Blk.neM hd hg e.symm
    · exact Blk.neM hfb hg e.symm
    · exact own_mblk_ne hb hg e
  refine handle_new (code := 0) (EV := .nilIface) (R := Rok km d v most vb xb key n cookie) (S := fun k => k = vb ∨ k = xb ∨ k = d ∨ k = f1 ∨ (Value.slice A1 16 c1).ownBlock = some k) h hd ht hm hvm hSl
    ⟨nS _ _ _ h (by decide) (by decide) (by decide) (by decide) (by decide), nS _ _ _ ht (by decide) (by decide) (by decide) (by decide) (by decide), nM _ _ _ hm, nM _ _ _ hvm⟩ hvk
    (fun W W' a b => a.loc b) h1 h2 ⟨hv1.1, by omega⟩ (by decide) hn ?_ (fun W _ => (code_nil W).mono fun e w' ⟨a, b⟩ => ⟨a, b⟩)
  intro W0 hu0
  have hd' := do_put_ok (w := W0) (vb := vb) (fr := fr) («to» := place) (vol := v) (life := 0) (id := id) (key := key) (cookie := cookie) (A := A) (n := n) (c := c)
    (R := fun w1 => Rok km d v most vb xb key n cookie w1 ∧ (∃ cap nx mn ml dv, DiskB w1 d cap nx mn ml dv (-1)) ∧ Upd (fun k => k = vb ∨ k = xb ∨ k = d ∨ k = f1 ∨ (Value.slice A1 16 c1).ownBlock = some k) W0 w1)
    (S := fun k => k = vb ∨ k = xb ∨ k = d ∨ k = f1 ∨ (Value.slice A1 16 c1).ownBlock = some k) (fun k e => Nat.lt_of_lt_of_le (hSl k e) hu0.size) ?_
  · refine hd'.mono ?_
    rintro e w' ⟨he, w1, ⟨hR, ⟨x1, x2, x3, x4, x5, hdd⟩, hU⟩, hbk, hu⟩
    refine ⟨he, ⟨_, _, _, _, _, hdd.upd hu (Blk.ne_ hdd hbk (by decide))⟩, Rok.loc (B := w.heap.size) hR (hu.mono (fun _ _ e => Loc.nd hbk (by have := hu0.size; omega) e)), hU.then hu (fun i hi e => by have e : i = W0.heap.size + 1 := e; omega)⟩
  · intro W1 hu1
    refine vput_of (Blk.upd hv (hu0.then hu1 (fun _ _ h => h)) (fun h => h)) (Blk.upd hx (hu0.then hu1 (fun _ _ h => h)) (fun h => h)) hn ?_
    intro W2 hu2
    have hu := (hu0.then hu1 (fun _ _ h => h)).then hu2 (fun _ _ h => h)
    have hw := write_ok (key := key) (cookie := cookie) (n := n) (c := c) (Blk.upd hv hu (fun h => h) : VolB W2 vb d v 1 0 false most 16 xb) (Blk.upd hx hu (fun h => h)) hv1.2 hmost (hd.upd hu (fun h => h)) (hmn.upd hu (fun h => h)) hok (hfl.upd hu (fun _ _ _ h => h)) htot (by omega) (by omega) hf (hfb.upd hu (fun h => h)) (hb.upd hu (fun _ _ h => h)) hkey hck hn (hs.upd hu (fun _ _ h => h)) hA (by omega) hfit
    refine hw.mono ?_
    rintro e w' ⟨he, g, cg, A1', c1', k1, k2, k3, k4, k5, k6, k7, k8⟩
    have hne : mn ≠ km := hmk
    have kk := (hm.upd hu (fun h => h)).upd k8 (by
      rintro (e | e | e | e | e)
      · exact Blk.neM hv hm e.symm
      · exact Blk.neM hx hm e.symm
      · exact Blk.neM hd hm e.symm
      · exact Blk.neM hfb hm e.symm
      · exact own_mblk_ne hb hm e)
    have gk : g ≠ km := by
      intro e
      have := own_mblk_ne k3 kk
      rw [e] at this
      exact this rfl
    exact ⟨⟨_, he⟩, he, ⟨⟨g, cg, _, k1, k2, k3, Blk.neM hv hm, Blk.neM hx hm, gk⟩, ⟨_, _, _, _, _, k4⟩, ((hu1.then hu2 (fun _ _ h => h)).mono (fun _ _ h => h.elim)).then k8 (fun _ _ h => h)⟩, (hu2.mono (fun _ _ h => h.elim)).then k8 (fun _ _ h => h)⟩

set_option maxHeartbeats 2000000 in
theorem handle_put_full {w : World} {nb place d vm mm tb wm km vb xb mn ml f1 c1 fr v id key cookie n c most i clk : Nat} {A A1 : Option Addr} {cap : Nat} {nx num lst : Int} {l lx : List UInt8} {es : Array MapEntry} {fl : Value → Nat}
    (h : NodeB w nb place 0 true d vm mm tb wm) (ht : TabB w tb km) (hm : MBlk w km #[] 0) (hvm : MBlk w vm #[{ key := .int .i64 v, val := .pointer (some ⟨vb, 0, none⟩), born := 0 }] 1) (hvk : vm ≠ km)
    (hv : VolB w vb d v 1 0 false most 16 xb) (hx : Idx0 w xb) (hv1 : 1 ≤ v ∧ v < 100) (hmost : most ≤ 16777216)
    (hd : DiskB w d cap nx mn ml (.slice none 0 0) (-1)) (hmn : MBlk w mn es clk) (hok : MOk .string es clk) (hfl : Files w fl es) (htot : totN fl es.toList ≤ 1073741824) (hc1 : cap ≤ 1073741824)
    (hf : Instr.findNow .string (.string (nmData v 1)) es.toList 0 = some (some (i, .pointer (some ⟨f1, 0, none⟩))))
    (hfb : FileB w f1 num A1 16 c1 lst) (hb : Bytes w A1 16 c1 lx) (h0 : w.cell? ⟨0, 0, none⟩ = some (rt 36))
    (h1 : fr ≤ 255) (h2 : place ≤ 255) (hkey : key < 18446744073709551616) (hck : cookie < 4294967296) (hn : n ≤ 4096) (hs : Sees w A n l) (hA : A = none → c = 0)
    (hroom : cap < 32 + n + padN (32 + n) + totN fl es.toList) (hfit : 32 + n + padN (32 + n) + 16 ≤ most) :
    Calls Tryz.prog 5 #[.pointer (some ⟨nb, 0, none⟩), msgV fr place 1 v 0 id 0 true key cookie false (.slice A n c)] w fun e w' =>
      e = .returned (.tuple #[msgV place fr 5 v 0 id 11 false 0 0 false (.slice none 0 0), .nilIface]) ∧ Rno km d v most vb xb w' ∧ NodeB w' nb place 0 true d vm mm tb wm ∧ (∃ cap nx mn ml dv, DiskB w' d cap nx mn ml dv (-1)) ∧ TabB w' tb km ∧
      MBlk w' km #[{ key := .agg #[.int .i64 fr, .int .u64 id], val := msgV place fr 5 v 0 id 11 false 0 0 false (.slice none 0 0), born := 0 }] 1 ∧ MBlk w' vm #[{ key := .int .i64 v, val := .pointer (some ⟨vb, 0, none⟩), born := 0 }] 1 ∧
      Upd (fun k => False ∨ k = km) w w' := by
  have hk0 : 0 ≠ km := by
    rintro rfl
    unfold MBlk at hm
    rw [World.cell?] at h0
    simp [hm] at h0
  have hB : 0 < w.heap.size := lt_of_cell h0
  have hR0 : ∀ W, Upd (fun _ => False) w W → Rno km d v most vb xb W := fun W hu => ⟨Blk.upd hv hu (fun h => h), Blk.upd hx hu (fun h => h), cell_upd0 hu h0, Blk.neM hv hm, Blk.neM hx hm, hk0⟩
  refine handle_new (code := 11) (EV := .iface 72 (.int .i64 11)) (R := Rno km d v most vb xb) (S := fun _ => False) h hd ht hm hvm (fun _ h => h.elim)
    ⟨fun h => h, fun h => h, fun h => h, fun h => h⟩ hvk
    (fun W W' a b => a.loc hB b) h1 h2 ⟨hv1.1, by omega⟩ (by decide) hn ?_ (fun W a => (code_code 11 a.2.2.1).mono fun e w' ⟨a, b⟩ => ⟨a, b⟩)
  intro W0 hu0
  refine (do_put_full (w := W0) (vb := vb) (fr := fr) («to» := place) (vol := v) (life := 0) (id := id) (key := key) (cookie := cookie) (A := A) (n := n) (c := c) (cell_upd0 hu0 h0) ?_).mono ?_
  · intro W1 hu1
    refine vput_of (Blk.upd hv (hu0.then hu1 (fun _ _ h => h)) (fun h => h)) (Blk.upd hx (hu0.then hu1 (fun _ _ h => h)) (fun h => h)) hn ?_
    intro W2 hu2
    have hu := (hu0.then hu1 (fun _ _ h => h)).then hu2 (fun _ _ h => h)
    have hw := write_full (key := key) (cookie := cookie) (n := n) (c := c) (Blk.upd hv hu (fun h => h) : VolB W2 vb d v 1 0 false most 16 xb) (Blk.upd hx hu (fun h => h)) hv1.2 hmost (hd.upd hu (fun h => h)) (hmn.upd hu (fun h => h)) hok (hfl.upd hu (fun _ _ _ h => h)) htot (by omega) (by omega) hf (hfb.upd hu (fun h => h)) (hb.upd hu (fun _ _ h => h)) hkey hck hn (hs.upd hu (fun _ _ h => h)) hA (by omega) hfit
    refine hw.mono ?_
    rintro e w' ⟨he, k8⟩
    exact ⟨⟨_, he⟩, he, hu2.then k8 (fun _ _ h => h)⟩
  · rintro e w' ⟨he, hu⟩
    have hu' := hu0.then hu (fun _ _ h => h)
    exact ⟨he, ⟨_, _, _, _, _, hd.upd hu' (fun h => h)⟩, hR0 _ hu', hu⟩
end Go.Proofs.YtlbmoafdialigaaGreatDoor
