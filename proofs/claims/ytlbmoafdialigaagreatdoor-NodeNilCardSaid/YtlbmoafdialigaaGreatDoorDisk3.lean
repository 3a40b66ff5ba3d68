/- package disk: Used, all files' bytes added up in whatever order the map gives them. -/
import Derived.Test.YtlbmoafdialigaaGreatDoorDisk1
namespace Go.Proofs.YtlbmoafdialigaaGreatDoor
open Go Go.RowKit Go.MapKept

/-- What has been handed out, added up. -/
def seenN (fl : Value → Nat) : List MapEntry → Array Nat → Nat
  | [], _ => 0
  | x :: l, seen => (if seen.contains x.born then fl x.val else 0) + seenN fl l seen
def totN (fl : Value → Nat) (es : List MapEntry) : Nat := (es.map fun e => fl e.val).sum

theorem seenN_other (fl : Value → Nat) (seen : Array Nat) (b : Nat) : ∀ (es : List MapEntry), b ∉ es.map (·.born) → seenN fl es (seen.push b) = seenN fl es seen
  | [], _ => rfl
  | x :: l, h => by
    have hx : (x.born == b) = false := by
      cases hc : x.born == b with
      | false => rfl
      | true => exact absurd (List.mem_cons.2 (Or.inl (beq_iff_eq.1 hc).symm)) h
    have ih := seenN_other fl seen b l (fun e => h (List.mem_cons.2 (Or.inr e)))
    simp only [seenN, contains_push, hx, Bool.or_false, ih]
theorem seenN_push (fl : Value → Nat) (seen : Array Nat) (e : MapEntry) (hs : seen.contains e.born = false) : ∀ (es : List MapEntry), (es.map (·.born)).Nodup → e ∈ es → seenN fl es (seen.push e.born) = seenN fl es seen + fl e.val
  | x :: l, hn, he => by
    have hn' : x.born ∉ l.map (·.born) ∧ (l.map (·.born)).Nodup := List.nodup_cons.1 hn
    rcases List.mem_cons.1 he with rfl | h
    · simp only [seenN, contains_push, hs, beq_self_eq_true, Bool.or_true, if_true, Bool.false_eq_true, if_false, seenN_other fl seen e.born l hn'.1]
      omega
    · have hx : (x.born == e.born) = false := by
        cases hc : x.born == e.born with
        | false => rfl
        | true => exact absurd (by rw [beq_iff_eq.1 hc]; exact List.mem_map.2 ⟨e, h, rfl⟩) hn'.1
      simp only [seenN, contains_push, hx, Bool.or_false, seenN_push fl seen e hs l hn'.2 h]
      omega
theorem seenN_le (fl : Value → Nat) (seen : Array Nat) : ∀ (es : List MapEntry), seenN fl es seen ≤ totN fl es
  | [] => Nat.le_refl _
  | x :: l => by
    have ih := seenN_le fl seen l
    simp only [seenN, totN, List.map_cons, List.sum_cons] at ih ⊢
    by_cases h : seen.contains x.born = true
    · rw [if_pos h]; omega
    · rw [if_neg h]; omega
theorem seenN_full (fl : Value → Nat) (seen : Array Nat) : ∀ (es : List MapEntry), (∀ x ∈ es, seen.contains x.born = true) → seenN fl es seen = totN fl es
  | [], _ => rfl
  | x :: l, h => by
    have ih := seenN_full fl seen l (fun y hy => h y (List.mem_cons.2 (Or.inr hy)))
    simp only [totN, List.map_cons, List.sum_cons] at ih ⊢
    simp only [seenN, h x (List.mem_cons.2 (Or.inl rfl)), if_true, ih]
theorem seenN_none (fl : Value → Nat) : ∀ (es : List MapEntry), seenN fl es #[] = 0
  | [] => rfl
  | x :: l => by
    have : (#[] : Array Nat).contains x.born = false := by simp
    simp only [seenN, this, Bool.false_eq_true, if_false, seenN_none fl l]

/-- A file's own block. -/
def FileB (w : World) (f : Nat) (num : Int) (A : Option Addr) (n c : Nat) (l : Int) : Prop := Blk w f 156 #[.int .i64 num, .slice A n c, .int .i64 l]
/-- All entries are files, of the lengths that fl tells. -/
def Files (w : World) (fl : Value → Nat) (es : Array MapEntry) : Prop :=
  ∀ e ∈ es.toList, ∃ f num A c l, e.val = .pointer (some ⟨f, 0, none⟩) ∧ FileB w f num A (fl e.val) c l

theorem FileB.cells {w : World} {f : Nat} {num : Int} {A : Option Addr} {n c : Nat} {l : Int} (h : FileB w f num A n c l) :
    w.cell? ⟨f, 0, none⟩ = some (.int .i64 num) ∧ w.cell? ⟨f, 1, none⟩ = some (.slice A n c) ∧ w.cell? ⟨f, 2, none⟩ = some (.int .i64 l) :=
  ⟨Blk.cell h 0, Blk.cell h 1, Blk.cell h 2⟩
theorem Files.upd {w w' : World} {fl : Value → Nat} {es : Array MapEntry} {S : Nat → Prop} (h : Files w fl es) (hu : Upd S w w')
    (hS : ∀ f cs, Blk w f 156 cs → ¬ S f) : Files w' fl es := fun e he => by
  obtain ⟨f, num, A, c, l, e1, e2⟩ := h e he
  exact ⟨f, num, A, c, l, e1, Blk.upd e2 hu (hS _ _ e2)⟩

theorem totN_le (fl : Value → Nat) (es : Array MapEntry) (e : MapEntry) (he : e ∈ es.toList) : fl e.val ≤ totN fl es.toList := by
  unfold totN
  have : ∀ l : List MapEntry, e ∈ l → fl e.val ≤ (l.map fun e => fl e.val).sum := by
    intro l
    induction l with
    | nil => intro h; cases h
    | cons x l ih =>
      intro h
      simp only [List.map_cons, List.sum_cons]
      rcases List.mem_cons.1 h with rfl | h
      · omega
      · have := ih h; omega
  exact this _ he

set_option maxRecDepth 100000 in
theorem used_any {w : World} {d mn ml clk : Nat} {cap nx ar : Int} {dv : Value} {es : Array MapEntry} {fl : Value → Nat} (hd : DiskB w d cap nx mn ml dv ar)
    (hm : MBlk w mn es clk) (hok : MOk .string es clk) (hfs : Files w fl es) (htot : totN fl es.toList ≤ 1152921504606846976) :
    Calls Tryz.prog 143 #[.pointer (some ⟨d, 0, none⟩)] w fun e w' => e = .returned (.int .i64 (totN fl es.toList)) ∧ Upd (fun _ => False) w w' := by
  have c2 := hd.cells.2.2.1
  have hrg := run_range_map (P := Tryz.prog) w 122 9 152 mn es clk Tryz.underlying122 hm
  go_enter Tryz.func143, Tryz.ntmps143
  go_wp2
  clear hrg
  go_loopw [3] (fun s w' => ∃ (w1 : World) (seen : Array Nat), w1.Alike w ∧ w' = w1.alloc (.mapIter (some mn) clk seen clk) ∧ s = .int .i64 (seenN fl es.toList seen)) (fun _ w' => (leftOf es (w'.iterSeen w.heap.size)).size)
  case atStart => exact ⟨w, #[], ⟨rfl, rfl, rfl⟩, rfl, by rw [seenN_none]; rfl⟩
  case round =>
    obtain ⟨w1, seen, hal, rfl, rfl⟩ := hrel
    have hsz : w1.heap.size = w.heap.size := by rw [hal.1]
    have hb1 : w1.heap[mn]? = some (.map es clk) := by rw [hal.1]; exact hm
    have law := run_next_map (P := Tryz.prog) w1 0 mn clk clk seen es clk hb1 hok.1.1 (Nat.le_refl _)
    rw [hsz] at law
    rcases law with ⟨h0, hrun⟩ | ⟨e, he, w2, hal2, hrun⟩
    · have hnx : ∀ ty, (Instr.next (.pointer (some ⟨w.heap.size, 0, none⟩)) false ty).run Tryz.prog (w1.alloc (.mapIter (some mn) clk seen clk)) = _ := fun _ => hrun
      have hfin := Lib.hid (seenN_full fl seen es.toList (all_seen es seen h0))
      have hu1 : Upd (fun _ => False) w (w1.alloc (.mapIter (some mn) clk seen clk)) := (Upd.of_alike hal _).alloc _
      go_wp2
      go_ret
      exact ⟨ret_int (by rw [hfin.out]), hu1⟩
    · obtain ⟨f, num, A, c, l, hval, hfb⟩ := hfs e (mem_left he).1
      rw [hval] at hrun
      have hnx : ∀ ty, (Instr.next (.pointer (some ⟨w.heap.size, 0, none⟩)) false ty).run Tryz.prog (w1.alloc (.mapIter (some mn) clk seen clk)) = _ := fun _ => hrun
      have hsz2 : w2.heap.size = w.heap.size := by rw [hal2.1, hal.1]
      have hb2 : w2.heap[mn]? = some (.map es clk) := by rw [hal2.1]; exact hb1
      have hen := run_entry_map (P := Tryz.prog) w2 mn clk seen es clk e hb2 (mem_left he).1 hok.1.2.1
      rw [hsz2, hval] at hen
      have hfb2 : FileB w2 f num A (fl e.val) c l := by
        unfold FileB Blk at hfb ⊢
        rw [hal2.1, hal.1]; exact hfb
      have f1 := (show FileB (w2.alloc (.mapIter (some mn) clk (seen.push e.born) clk)) f num A (fl e.val) c l from Blk.alloc hfb2 _).cells.2.1
      have hp := Lib.hid (seenN_push fl seen e (mem_left he).2 es.toList hok.1.2.1 (mem_left he).1)
      have hle := seenN_le fl (seen.push e.born) es.toList
      have hle2 : seenN fl es.toList seen + fl e.val ≤ 1152921504606846976 := by have := hp.out; omega
      have hS := Lib.hid hsz
      have hS2 := Lib.hid hsz2
      have hH := Lib.hid hrun
      have hV := Lib.hid hval
      have hA := Lib.hid hal
      have hA2 := Lib.hid hal2
      clear hrun hle hval hal hal2
      go_wp2
      go_roundw
      case rel =>
        refine ⟨w2, seen.push e.born, ⟨hA2.out.1.trans hA.out.1, hA2.out.2.1.trans hA.out.2.1, hA2.out.2.2.trans hA.out.2.2⟩, rfl, ?_⟩
        rw [hp.out]
        rfl
      case measure =>
        rw [← hS2.out, World.iterSeen_alloc, hS2.out, ← hS.out, World.iterSeen_alloc]
        exact left_shrinks es seen e he
end Go.Proofs.YtlbmoafdialigaaGreatDoor
