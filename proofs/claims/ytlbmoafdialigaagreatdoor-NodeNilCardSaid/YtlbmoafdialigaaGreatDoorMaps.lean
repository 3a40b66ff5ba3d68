/- Plain facts on a map's entries behind a store and a deletion, and on the lengths of the files that they name. -/
import Derived.Test.YtlbmoafdialigaaGreatDoorDisk4
namespace Go.Proofs.YtlbmoafdialigaaGreatDoor
open Go Go.RowKit Go.MapKept

section
variable {d : TypeDesc} {es : Array MapEntry} {clk : Nat} {key k2 val : Value}

theorem mput_new (h : Instr.findNow d key es.toList 0 = some none) : mput d es clk key val = es.push { key, val, born := clk } := by
  unfold mput; rw [h]
theorem mclock_new (h : Instr.findNow d key es.toList 0 = some none) : mclock d es clk key = clk + 1 := by
  unfold mclock; rw [h]

/-- A key that is not there is found behind no entry. -/
theorem find_none_of (hk : IsKey d key) (hall : ∀ x ∈ es.toList, IsKey d x.key) (hn : ∀ x ∈ es.toList, x.key ≠ key) : Instr.findNow d key es.toList 0 = some none := by
  rcases MapKept.findNow_spec hk es.toList 0 hall with ⟨h1, _⟩ | ⟨j, e0, _, h2, h3⟩
  · exact h1
  · exact absurd h3 (hn e0 (List.mem_of_getElem? h2))
theorem ne_of_find (hk : IsKey d key) (hall : ∀ x ∈ es.toList, IsKey d x.key) (h : Instr.findNow d key es.toList 0 = some none) : ∀ x ∈ es.toList, x.key ≠ key := by
  rcases MapKept.findNow_spec hk es.toList 0 hall with ⟨_, h2⟩ | ⟨j, e0, h1, _, _⟩
  · exact h2
  · rw [h] at h1; cases h1
/-- What was laid under a new key is found. -/
theorem find_mput (hok : MOk d es clk) (hk : IsKey d key) (h : Instr.findNow d key es.toList 0 = some none) :
    ∃ i, Instr.findNow d key (mput d es clk key val).toList 0 = some (some (i, val)) := by
  have hok2 := hok.put hk val
  have hne := ne_of_find hk hok.2 h
  rw [mput_new h] at hok2 ⊢
  rcases MapKept.findNow_spec hk (es.push { key, val, born := clk }).toList 0 hok2.2 with ⟨_, h2⟩ | ⟨j, e0, h1, h2, h3⟩
  · exact absurd rfl (h2 { key, val, born := clk } (by simp))
  · have hm := List.mem_of_getElem? h2
    simp only [Array.toList_push, List.mem_append, List.mem_singleton] at hm
    rcases hm with hm | rfl
    · exact absurd h3 (hne e0 hm)
    · exact ⟨_, h1⟩
end

/-- The lengths that fl tells, but n of the file in block f. -/
def flset (fl : Value → Nat) (f n : Nat) : Value → Nat
  | .pointer (some a) => if a.block = f then n else fl (.pointer (some a))
  | v => fl v
theorem flset_same (fl : Value → Nat) (f n : Nat) : flset fl f n (.pointer (some ⟨f, 0, none⟩)) = n := by simp [flset]
theorem flset_other (fl : Value → Nat) (f n g : Nat) (h : g ≠ f) : flset fl f n (.pointer (some ⟨g, 0, none⟩)) = fl (.pointer (some ⟨g, 0, none⟩)) := by simp [flset, h]

theorem totN_push (fl : Value → Nat) (es : Array MapEntry) (e : MapEntry) : totN fl (es.push e).toList = totN fl es.toList + fl e.val := by
  simp [totN]
theorem totN_congr {fl fl' : Value → Nat} {l : List MapEntry} (h : ∀ e ∈ l, fl e.val = fl' e.val) : totN fl l = totN fl' l := by
  unfold totN
  rw [List.map_congr_left h]

theorem Files.lt {w : World} {fl : Value → Nat} {es : Array MapEntry} (h : Files w fl es) : ∀ e ∈ es.toList, ∃ f, e.val = .pointer (some ⟨f, 0, none⟩) ∧ f < w.heap.size := fun e he => by
  obtain ⟨f, _, _, _, _, e1, e2⟩ := h e he
  exact ⟨f, e1, Blk.lt e2⟩
theorem totN_flset {w : World} {fl : Value → Nat} {es : Array MapEntry} (h : Files w fl es) {f n : Nat} (hf : w.heap.size ≤ f) : totN (flset fl f n) es.toList = totN fl es.toList :=
  totN_congr fun e he => by
    obtain ⟨g, e1, e2⟩ := h.lt e he
    rw [e1, flset_other]
    omega
/-- A new file's entry behind the others. -/
theorem Files.push {w w' : World} {fl : Value → Nat} {es : Array MapEntry} {S : Nat → Prop} (h : Files w fl es) (hu : Upd S w w') (hS : ∀ f cs, Blk w f 156 cs → ¬ S f) {f n : Nat} (hf : w.heap.size ≤ f)
    {num : Int} {A : Option Addr} {c : Nat} {l : Int} (hfb : FileB w' f num A n c l) (key : Value) (b : Nat) :
    Files w' (flset fl f n) (es.push { key, val := .pointer (some ⟨f, 0, none⟩), born := b }) := fun e he => by
  simp only [Array.toList_push, List.mem_append, List.mem_singleton] at he
  rcases he with he | rfl
  · obtain ⟨g, num, A, c, l, e1, e2⟩ := h.upd hu hS e he
    have hg : g ≠ f := by
      obtain ⟨g', e3, e4⟩ := h.lt e he
      rw [e1] at e3
      injection e3 with e3
      injection e3 with e3
      injection e3 with e3
      omega
    refine ⟨g, num, A, c, l, e1, ?_⟩
    rw [e1] at e2 ⊢
    rw [flset_other _ _ _ _ hg]
    exact e2
  · refine ⟨f, num, A, c, l, rfl, ?_⟩
    simp only [flset_same]
    exact hfb
/-- A file of another length, the others as they were. -/
theorem Files.set {w w' : World} {fl : Value → Nat} {es : Array MapEntry} {S : Nat → Prop} (h : Files w fl es) (hu : Upd S w w') {f n : Nat} (hS : ∀ g cs, Blk w g 156 cs → g ≠ f → ¬ S g)
    {num : Int} {A : Option Addr} {c : Nat} {l : Int} (hfb : FileB w' f num A n c l) : Files w' (flset fl f n) es := fun e he => by
  obtain ⟨g, num', A', c', l', e1, e2⟩ := h e he
  by_cases hg : g = f
  · subst hg
    refine ⟨g, num, A, c, l, e1, ?_⟩
    rw [e1, flset_same]
    exact hfb
  · refine ⟨g, num', A', c', l', e1, ?_⟩
    rw [e1] at e2 ⊢
    rw [flset_other _ _ _ _ hg]
    exact Blk.upd e2 hu (hS g _ e2 hg)
end Go.Proofs.YtlbmoafdialigaaGreatDoor
