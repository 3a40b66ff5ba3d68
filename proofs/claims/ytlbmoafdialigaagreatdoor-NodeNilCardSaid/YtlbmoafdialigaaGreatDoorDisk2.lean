/- package disk: named at a good name; Create of a new name. -/
import Derived.Test.YtlbmoafdialigaaGreatDoorDisk1
namespace Go.Proofs.YtlbmoafdialigaaGreatDoor
open Go Go.RowKit Go.MapKept

theorem toList_isEmpty {s : ByteArray} (h : 0 < s.size) : s.toList.isEmpty = false := by
  rw [List.isEmpty_eq_false_iff]
  intro e
  have : s.toList.length = s.size := by rw [ByteArray.toList_eq, Array.length_toList]; rfl
  rw [e] at this
  simp at this
  omega
set_option maxHeartbeats 400000 in
theorem named_ok (s : ByteArray) (w : World) (hs : NameOk s) : Calls Tryz.prog 139 #[.string s] w fun e w' => e = .returned (.bool true) ∧ w = w' := by
  obtain ⟨h1, h2, h3⟩ := hs
  have e1 : s.toList.isEmpty = false := toList_isEmpty h1
  have h3' := Lib.hid h3
  clear h3
  go_enter Tryz.func139, Tryz.ntmps139
  go_wp2
  go_loop [14] (fun i => ∃ k : Nat, k ≤ s.size ∧ i = .int .i64 k) (fun i => s.size - (intOf i).toNat)
  case atStart => exact ⟨0, Nat.zero_le _, rfl⟩
  case round =>
    obtain ⟨k, hk, rfl⟩ := hrel
    by_cases hlt : k < s.size
    · have ho := h3'.out k hlt
      unfold okByte at ho
      go_wp2
      all_goals
        go_round
        case rel => exact ⟨k + 1, by omega, by go_num⟩
        case measure => simp [intOf]; omega
    · go_wp2
      go_ret
      exact ⟨rfl, rfl⟩

theorem funcs_info : (Tryz.prog.info? 151).map (fun i => (i.zero, i.size, i.bytes)) = some (some .nilFunc, 1, 8) := by kernel_rfl

set_option maxRecDepth 100000 in
set_option maxRecDepth 100000 in
theorem turn_create {w : World} {d mn ml n c clk fb nb f : Nat} {cap nx ar : Int} {A : Option Addr} {dxs : List Value} {es : Array MapEntry} {name : ByteArray}
    (hd : DiskB w d cap nx mn ml (.slice A n c) ar) (h1 : -1 ≤ ar) (h2 : ar ≤ 1000000) (hm : MBlk w mn es clk) (hok : MOk .string es clk)
    (hn : Blk w nb 9 #[.string name]) (hf : Blk w fb 152 #[.pointer (some ⟨f, 0, none⟩)])
    (hdv : w.ownsRow 0 151 1 (.slice A n c) n dxs) (hn2 : n ≤ 1000000) :
    Calls Tryz.prog 140 #[.pointer (some ⟨d, 0, none⟩), .func (.func 141) #[] #[.pointer (some ⟨fb, 0, none⟩), .pointer (some ⟨nb, 0, none⟩)]] w fun e w' => e = .returned (.tuple #[]) ∧
      (∃ A' c', DiskB w' d cap nx mn ml (.slice A' (n + 1) c') (didA ar) ∧ w'.ownsRow 0 151 1 (.slice A' (n + 1) c') (n + 1) (dxs ++ [.func (.func 141) #[] #[.pointer (some ⟨fb, 0, none⟩), .pointer (some ⟨nb, 0, none⟩)]]) ∧ RowOf w (.slice A n c) (.slice A' (n + 1) c')) ∧
      MBlk w' mn (mput .string es clk (.string name) (.pointer (some ⟨f, 0, none⟩))) (mclock .string es clk (.string name)) ∧
      Upd (fun k => k = d ∨ k = mn ∨ (Value.slice A n c).ownBlock = some k) w w' := by
  obtain ⟨i0, hi, hz0, hz1, hz2⟩ := info_parts funcs_info
  obtain ⟨c0, c1, c2, c3, c4, c5⟩ := hd.cells
  have hK := Lib.hid (create1_any (by simpa using hn.cell 0) (by simpa using hf.cell 0) hm hok.2)
  have ndm := Blk.neM hd hm
  have own_m := own_mblk_ne hdv hm
  have own_d := own_blk_ne hdv hd (by decide)
  go_enter Tryz.func140, Tryz.ntmps140
  go_wp2_with (first
    | (go_at_call 141; refine (hK.out).mono ?_; rintro e w1 ⟨rfl, hm1, hg1⟩; have hd1 := hd.grown hg1 (by simpa using ndm); have hdv1 := hdv.kept hg1 (.inr own_m); have k4 := hd1.cells.2.2.2.2.1; have z4 := Blk.frozen hd1 4)
    | (at_builtin; go_must (refine wpList_append_own_at _ rfl _ _ 123 rfl 0 151 i0 _ 1 8 Tryz.underlying123 hi hz0 hz1 hz2 rfl (by decide) _ _ _ rfl (hdv1.alloc _) ⟨w1.heap.size, 0, none⟩ 1 1 [_] rfl rfl (cell_one_new _ _ _) (by simp [Value.oneCell']) (by unfold maxLen; omega) (by omega) (Nat.zero_le _) ?_; intro v' w2 hown' hgrow _ hat; obtain ⟨g', cap', rfl, _, _⟩ := own_form hown' (by omega); have hd2 := (DiskB.alloc hd1 (.cells #[_] 151)).grown hgrow (Ne.symm own_d); have hd3 := hd2.put4 (.slice (some ⟨g', 0, none⟩) (n + 1) cap'); have z4' := Blk.frozen hd2 4; have k4' := hd2.cells.2.2.2.2.1))
    | (go_at_call 144; refine (did_any hd3 h1 h2).mono ?_; rintro e w3 ⟨rfl, hd4, hu4⟩))
  go_end0
  have od := own_blk_ne hown' hd2 (by decide)
  have ho := own_upd (ownsRow_setCell_other hown' (a := ⟨d, 4, none⟩) od (.slice (some ⟨g', 0, none⟩) (n + 1) cap')) hu4 (fun k hk e => od (by rw [hk, e]))
  have hm3 := ((((hm1.alloc (.cells #[_] 151)).grown hgrow (Ne.symm own_m)).far ⟨d, 4, none⟩ (.slice (some ⟨g', 0, none⟩) (n + 1) cap'))).upd hu4 (Ne.symm ndm)
  have hrow : RowOf w (.slice A n c) (.slice (some ⟨g', 0, none⟩) (n + 1) cap') := fun k e => by
    rcases hat with hat | hat
    · exact .inl ((show (Value.slice A n c).ownBlock = _ from hat.symm).trans e)
    · right
      have e2 : some (w1.alloc (.cells #[_] 151)).heap.size = some k := hat.symm.trans e
      injection e2 with e2
      have := hg1.size
      simp at e2
      omega
  refine ⟨rfl, ⟨_, _, hd4, ho, hrow⟩, hm3, ?_⟩
  have u1 := (((Upd.refl (fun k => k = d ∨ k = mn ∨ (Value.slice A n c).ownBlock = some k) w).grown hg1 (fun k e _ => .inr (.inl (by cases e; rfl)))).alloc (.cells #[_] 151)).grown hgrow (fun k e _ => .inr (.inr e))
  exact (u1.setCell (p := ⟨d, 4, none⟩) (fun _ => .inl rfl) _).then hu4 (fun i _ e => .inl e)
set_option maxRecDepth 100000 in
theorem turn_rename {w : World} {d mn ml n c clk fb nb tb f : Nat} {cap nx ar : Int} {A : Option Addr} {dxs : List Value} {es : Array MapEntry} {name to : ByteArray}
    (hd : DiskB w d cap nx mn ml (.slice A n c) ar) (h1 : -1 ≤ ar) (h2 : ar ≤ 1000000) (hm : MBlk w mn es clk) (hok : MOk .string es clk)
    (hn : Blk w nb 9 #[.string name]) (ht : Blk w tb 9 #[.string to]) (hf : Blk w fb 152 #[.pointer (some ⟨f, 0, none⟩)])
    (hdv : w.ownsRow 0 151 1 (.slice A n c) n dxs) (hn2 : n ≤ 1000000) :
    Calls Tryz.prog 140 #[.pointer (some ⟨d, 0, none⟩), .func (.func 146) #[] #[.pointer (some ⟨nb, 0, none⟩), .pointer (some ⟨fb, 0, none⟩), .pointer (some ⟨tb, 0, none⟩)]] w fun e w' => e = .returned (.tuple #[]) ∧
      (∃ A' c', DiskB w' d cap nx mn ml (.slice A' (n + 1) c') (didA ar) ∧ w'.ownsRow 0 151 1 (.slice A' (n + 1) c') (n + 1) (dxs ++ [.func (.func 146) #[] #[.pointer (some ⟨nb, 0, none⟩), .pointer (some ⟨fb, 0, none⟩), .pointer (some ⟨tb, 0, none⟩)]]) ∧ RowOf w (.slice A n c) (.slice A' (n + 1) c')) ∧
      MBlk w' mn (mput .string (mdel .string es (.string name)) clk (.string to) (.pointer (some ⟨f, 0, none⟩))) (mclock .string (mdel .string es (.string name)) clk (.string to)) ∧
      Upd (fun k => k = d ∨ k = mn ∨ (Value.slice A n c).ownBlock = some k) w w' := by
  obtain ⟨i0, hi, hz0, hz1, hz2⟩ := info_parts funcs_info
  obtain ⟨c0, c1, c2, c3, c4, c5⟩ := hd.cells
  have hK := Lib.hid (rename1_any hn ht hf hm hok)
  have ndm := Blk.neM hd hm
  have own_m := own_mblk_ne hdv hm
  have own_d := own_blk_ne hdv hd (by decide)
  go_enter Tryz.func140, Tryz.ntmps140
  go_wp2_with (first
    | (go_at_call 146; refine (hK.out).mono ?_; rintro e w1 ⟨rfl, hm1, hg1⟩; have hd1 := hd.grown hg1 (by simpa using ndm); have hdv1 := hdv.kept hg1 (.inr own_m); have k4 := hd1.cells.2.2.2.2.1; have z4 := Blk.frozen hd1 4)
    | (at_builtin; go_must (refine wpList_append_own_at _ rfl _ _ 123 rfl 0 151 i0 _ 1 8 Tryz.underlying123 hi hz0 hz1 hz2 rfl (by decide) _ _ _ rfl (hdv1.alloc _) ⟨w1.heap.size, 0, none⟩ 1 1 [_] rfl rfl (cell_one_new _ _ _) (by simp [Value.oneCell']) (by unfold maxLen; omega) (by omega) (Nat.zero_le _) ?_; intro v' w2 hown' hgrow _ hat; obtain ⟨g', cap', rfl, _, _⟩ := own_form hown' (by omega); have hd2 := (DiskB.alloc hd1 (.cells #[_] 151)).grown hgrow (Ne.symm own_d); have hd3 := hd2.put4 (.slice (some ⟨g', 0, none⟩) (n + 1) cap'); have z4' := Blk.frozen hd2 4; have k4' := hd2.cells.2.2.2.2.1))
    | (go_at_call 144; refine (did_any hd3 h1 h2).mono ?_; rintro e w3 ⟨rfl, hd4, hu4⟩))
  go_end0
  have od := own_blk_ne hown' hd2 (by decide)
  have ho := own_upd (ownsRow_setCell_other hown' (a := ⟨d, 4, none⟩) od (.slice (some ⟨g', 0, none⟩) (n + 1) cap')) hu4 (fun k hk e => od (by rw [hk, e]))
  have hm3 := ((((hm1.alloc (.cells #[_] 151)).grown hgrow (Ne.symm own_m)).far ⟨d, 4, none⟩ (.slice (some ⟨g', 0, none⟩) (n + 1) cap'))).upd hu4 (Ne.symm ndm)
  have hrow : RowOf w (.slice A n c) (.slice (some ⟨g', 0, none⟩) (n + 1) cap') := fun k e => by
    rcases hat with hat | hat
    · exact .inl ((show (Value.slice A n c).ownBlock = _ from hat.symm).trans e)
    · right
      have e2 : some (w1.alloc (.cells #[_] 151)).heap.size = some k := hat.symm.trans e
      injection e2 with e2
      have := hg1.size
      simp at e2
      omega
  refine ⟨rfl, ⟨_, _, hd4, ho, hrow⟩, hm3, ?_⟩
  have u1 := (((Upd.refl (fun k => k = d ∨ k = mn ∨ (Value.slice A n c).ownBlock = some k) w).grown hg1 (fun k e _ => .inr (.inl (by cases e; rfl)))).alloc (.cells #[_] 151)).grown hgrow (fun k e _ => .inr (.inr e))
  exact (u1.setCell (p := ⟨d, 4, none⟩) (fun _ => .inl rfl) _).then hu4 (fun i _ e => .inl e)
set_option maxRecDepth 100000 in
set_option maxHeartbeats 1000000 in
theorem create_new {w : World} {d mn ml n c clk : Nat} {cap nx ar : Int} {A : Option Addr} {dxs : List Value} {es : Array MapEntry} (name : ByteArray) (hn : NameOk name)
    (hd : DiskB w d cap nx mn ml (.slice A n c) ar) (h1 : -1 ≤ ar) (h2 : ar ≤ 1000000) (h0 : ar ≠ 0)
    (hnx0 : 0 ≤ nx) (hnx : nx ≤ 1000000) (hm : MBlk w mn es clk) (hok : MOk .string es clk) (hsz : es.size < 64) (hf : Instr.findNow .string (.string name) es.toList 0 = some none)
    (hdv : w.ownsRow 0 151 1 (.slice A n c) n dxs) (hn2 : n ≤ 1000000) :
    Calls Tryz.prog 99 #[.pointer (some ⟨d, 0, none⟩), .string name] w fun e w' => e = .returned .nilIface ∧
      ∃ f A' c' fv, DiskB w' d cap (nx + 1) mn ml (.slice A' (n + 1) c') (didA ar) ∧ w'.ownsRow 0 151 1 (.slice A' (n + 1) c') (n + 1) (dxs ++ [fv]) ∧
      MBlk w' mn (mput .string es clk (.string name) (.pointer (some ⟨f, 0, none⟩))) (mclock .string es clk (.string name)) ∧
      Blk w' f 156 #[.int .i64 nx, .slice none 0 0, .int .i64 0] ∧ w.heap.size ≤ f ∧ RowOf w (.slice A n c) (.slice A' (n + 1) c') ∧
      Upd (fun k => k = d ∨ k = mn ∨ (Value.slice A n c).ownBlock = some k) w w' := by
  have hno := Lib.hid (fun W => named_ok name W hn)
  have hu := Lib.hid (fun (W : World) (h : DiskB W d cap nx mn ml (.slice A n c) ar) => up_ok h h0)
  obtain ⟨c0, c1, c2, c3, c4, c5⟩ := hd.cells
  have hl := fun (a : Nat) => run_lookup_none (P := Tryz.prog) (w := (w.alloc (.cells #[.string name] 9)).drewN a) Tryz.underlying122 Tryz.underlying9 (key := .string name) trivial (hm.alloc (.cells #[.string name] 9)) hf (z := .pointer none) (by kernel_rfl)
  have hdl := hd.lt
  have hml := hm.lt
  go_enter Tryz.func99, Tryz.ntmps99
  go_wp2_with (first
    | (go_at_call 66; refine (hu.out _ (DiskB.alloc hd _)).mono ?_; rintro e w' ⟨rfl, rfl⟩)
    | (go_at_call 139; refine (hno.out _).mono ?_; rintro e w' ⟨rfl, rfl⟩))
  go_quiet (fail)
  clear hl hu hno
  rename_i nq _
  generalize hw1 : World.drewN _ _ = w1
  have hd1 : DiskB w1 d cap nx mn ml (.slice A n c) ar := hw1 ▸ DiskB.alloc hd _
  have hm1 : MBlk w1 mn es clk := hw1 ▸ hm.alloc _
  have hb1 : Blk w1 w.heap.size 9 #[.string name] := hw1 ▸ Blk.new w 9 _
  have hu1 : Upd (fun _ => False) w w1 := hw1 ▸ ((Upd.refl _ w).alloc _).drewN _
  have hs1 : Hid (w1.heap.size = w.heap.size + 1) := Lib.hid (hw1 ▸ by simp)
  have hdv1 := own_upd hdv hu1 (fun _ _ hf => hf)
  clear c0 c1 c2 c3 c4 c5 hw1
  obtain ⟨c0, c1, c2, c3, c4, c5⟩ := hd1.cells
  have z1 := Blk.frozen hd1 1
  have hl1 := run_len_k (P := Tryz.prog) (w := w1) 3 Tryz.underlying122 hm1
  have hdl1 := hd1.lt
  go_wp2_with fail
  have hb2 := hb1.far (p := ⟨d, 1, none⟩) (fun e => Blk.ne_ hb1 hd1 (by decide) e) (.int .i64 (nx + 1))
  have hm2 := hm1.far ⟨d, 1, none⟩ (.int .i64 (nx + 1))
  have od := own_blk_ne hdv1 hd1 (by decide)
  have hdv2 := ownsRow_setCell_other hdv1 (a := ⟨d, 1, none⟩) od (.int .i64 (nx + 1))
  have hd2 := hd1.put1 (nx + 1)
  have hu2 := hu1.setCell' (S' := fun k => k = d) (p := ⟨d, 1, none⟩) (.int .i64 (nx + 1)) (fun _ => rfl)
  have hz2 : (w1.setCell ⟨d, 1, none⟩ (.int .i64 (nx + 1))).heap.size = w1.heap.size := by simp
  generalize w1.setCell ⟨d, 1, none⟩ (.int .i64 (nx + 1)) = w2 at *
  have hbf : Blk (w2.alloc (.cells #[.int .i64 nx, .slice none 0 0, .int .i64 0] 156)) w2.heap.size 156 #[.int .i64 nx, .slice none 0 0, .int .i64 0] := Blk.new w2 _ _
  have hbp : Blk ((w2.alloc (.cells #[.int .i64 nx, .slice none 0 0, .int .i64 0] 156)).alloc (.cells #[.pointer (some ⟨w2.heap.size, 0, none⟩)] 152)) (w2.heap.size + 1) 152 #[.pointer (some ⟨w2.heap.size, 0, none⟩)] := by
    have := Blk.new (w2.alloc (.cells #[.int .i64 nx, .slice none 0 0, .int .i64 0] 156)) 152 #[.pointer (some ⟨w2.heap.size, 0, none⟩)]
    simpa using this
  rw [← hz2]
  refine (turn_create (DiskB.alloc (DiskB.alloc hd2 _) _) h1 h2 ((hm2.alloc _).alloc _) hok ((hb2.alloc _).alloc _) hbp ((hdv2.alloc _).alloc _) hn2).mono ?_
  rintro e w3 ⟨rfl, ⟨A', c', hd3, hdv3, hrw⟩, hm3, hu3⟩
  have hu23 := (((Upd.refl (fun _ => False) w2).alloc (.cells #[.int .i64 nx, .slice none 0 0, .int .i64 0] 156)).alloc (.cells #[.pointer (some ⟨w2.heap.size, 0, none⟩)] 152))
  have hbf3 := (hbf.alloc (.cells #[.pointer (some ⟨w2.heap.size, 0, none⟩)] 152)).upd hu3 (by
    rintro (e | e | e)
    · exact absurd e (by have := hd2.lt; omega)
    · exact absurd e (by have := hm2.lt; omega)
    · have := (hdv2.lt _ e).2; omega)
  clear hl1 c0 c1 c2 c3 c4 c5 z1
  go_wp2
  go_ret
  refine ⟨rfl, w2.heap.size, A', c', _, hd3, hdv3, hm3, hbf3, by have := hs1.out; omega, hrw.mono (by have := hs1.out; have := hu23.size; omega), ?_⟩
  refine ((hu2.mono (S' := fun k => k = d ∨ k = mn ∨ (Value.slice A n c).ownBlock = some k) (fun _ _ h => .inl h)).then hu23 (fun _ _ h => h.elim)).then hu3 (fun _ _ h => h)
end Go.Proofs.YtlbmoafdialigaaGreatDoor
