/- Held, step by step: at each step a quiet operation is taken first, or the one operation that may come comes. -/
import Derived.Test.YtlbmoafdialigaaGreatDoorHeld
namespace Go.Proofs.YtlbmoafdialigaaGreatDoor
open Go

section
variable {P : Program} {ops : Array Oper} {Q : Exit → Act → World → Prop} {S : World → Prop} {bq : Bool}

theorem all_getD {l : Array Bool} (h : l.all id = true) (j : Nat) : l.getD j true = true := by
  rcases Nat.lt_or_ge j l.size with h1 | h1
  · have := (Array.all_eq_true.1 h) j h1
    simp [h1]
    exact this
  · simp [Array.getElem?_eq_none h1]

/-- What is asked behind an operation that came alone. -/
def doK (bq : Bool) (P : Program) (ops : Array Oper) (Q : Exit → Act → World → Prop) (S : World → Prop) (fuel : Nat) (listed : Array Bool) : Exit → Act → World → Prop
  | .normal, a, w => ((bq = true ∧ listed.all id = true) ∨ S w) ∧ wpAnyQ bq P .any ops Q S fuel listed a w
  | e, a, w => Q e a w
theorem doK_panic {fuel : Nat} {listed : Array Bool} {c : List PanicEntry} {a : Act} {w : World} (h : doK bq P ops Q S fuel listed (.panic c) a w) : Q (.panic c) a w := h
theorem doK_out {fuel : Nat} {listed : Array Bool} (h : LetsOut (doK bq P ops Q S fuel listed)) : LetsOut Q := by
  obtain ⟨a, w, h⟩ := h
  exact ⟨a, w, h⟩

theorem wpAnyQ_do {fuel : Nat} {listed : Array Bool} {a : Act} {w : World} (k : Nat) {o : Oper} (h0 : ops[k]? = some o) (hB : decide (Region.ready .any ops listed = [k]) = true)
    (h : wpList P ops (doK bq P ops Q S fuel (listed.setIfInBounds k true)) [o] a w) : wpAnyQ bq P .any ops Q S (fuel + 1) listed a w := by
  have hB := of_decide_eq_true hB
  refine ⟨fun h1 => (by rw [hB] at h1; cases h1), fun i hi => ?_⟩
  rw [hB] at hi
  have hik : i = k := by simpa using hi
  subst hik
  have hw : wpOp P ops Q i (fun a' w' => ((bq = true ∧ (listed.setIfInBounds i true).all id = true) ∨ S w') ∧ wpAnyQ bq P .any ops Q S fuel (listed.setIfInBounds i true) a' w') a w := by
    unfold wpOp
    simp only [h0]
    unfold wpList at h
    split
    · rename_i hc
      rw [if_pos hc] at h
      rcases h with h | ⟨h1, h2⟩
      · exact .inl (wp_weakQ (fun _ _ _ h => doK_panic h) doK_out h)
      · exact .inr ⟨h1, doK_out h2⟩
    · rename_i hc
      rw [if_neg hc] at h
      exact h
  exact wpOp_mono (fun a' w' h' => ⟨h'.1.imp (fun h => ⟨h.1, fun j => all_getD h.2 j⟩) id, h'.2⟩) hw

theorem wpAnyQ_takeQ {fuel : Nat} {listed : Array Bool} {a : Act} {w : World} (k : Nat) {o : Oper} {v : Value} (h0 : ops[k]? = some o)
    (hB : (Region.noSelect ops && ((Region.ready .any ops listed).contains k && (Region.free .any ops listed k && (!bq || awaited .any ops listed k)))) = true)
    (hQ : ∀ c a d v w, Q (.panic c) (a.put d v) w → Q (.panic c) a w) (hS : S w) (hy : YieldsQ P ops S o v a)
    (h : wpAnyQ bq P .any ops Q S fuel (listed.setIfInBounds k true) (a.put o.dst v) w) : wpAnyQ bq P .any ops Q S (fuel + 1) listed a w := by
  simp only [Bool.and_eq_true] at hB
  obtain ⟨hsel, hr, hf, ha⟩ := hB
  have hpend : bq = false ∨ ∃ q oq, ops[q]? = some oq ∧ q ≠ k ∧ (∃ e ∈ oq.after, Region.binds .any e = true ∧ e.on = k) ∧ listed.getD q true = false := by
    simp only [Bool.or_eq_true, Bool.not_eq_true'] at ha
    rcases ha with ha | ha
    · exact .inl ha
    · obtain ⟨q, _, hq⟩ := List.any_eq_true.1 ha
      simp only [Bool.and_eq_true, decide_eq_true_eq, Bool.not_eq_true'] at hq
      obtain ⟨oq, hoq, hwq⟩ := Region.waitsFor_spec hq.2
      exact .inr ⟨q, oq, hoq, hq.1.1, hwq, hq.1.2⟩
  exact wpAnyQ_first h0 (Region.noSelect_spec hsel) (fun c a w => hQ c a _ _ w) _ listed a w hpend (Region.free_spec h0 hf) (by simpa using hr) hy hS h

theorem wpAnyQ_take {fuel : Nat} {listed : Array Bool} {a : Act} {w : World} (k : Nat) {o : Oper} {v : Value} (h0 : ops[k]? = some o)
    (hB : (Region.noSelect ops && ((Region.ready .any ops listed).contains k && (Region.free .any ops listed k && (!bq || awaited .any ops listed k)))) = true)
    (hQ : ∀ c a d v w, Q (.panic c) (a.put d v) w → Q (.panic c) a w) (hg : Region.wanted o (yielded ops a.tmps) = true) (hS : S w) (hv : ∀ w, S w → (execOp a.eval o).run P w = .ok (.value v) w)
    (h : wpAnyQ bq P .any ops Q S fuel (listed.setIfInBounds k true) (a.put o.dst v) w) : wpAnyQ bq P .any ops Q S (fuel + 1) listed a w :=
  wpAnyQ_takeQ k h0 hB hQ hS (fun w hS => .inl ⟨hg, .inl (hv w hS)⟩) h
theorem wpAnyQ_skip {fuel : Nat} {listed : Array Bool} {a : Act} {w : World} (k : Nat) {o : Oper} (h0 : ops[k]? = some o)
    (hB : (Region.noSelect ops && ((Region.ready .any ops listed).contains k && (Region.free .any ops listed k && (!bq || awaited .any ops listed k)))) = true)
    (hQ : ∀ c a d v w, Q (.panic c) (a.put d v) w → Q (.panic c) a w) (hg : Region.wanted o (yielded ops a.tmps) = false) (hS : S w)
    (h : wpAnyQ bq P .any ops Q S fuel (listed.setIfInBounds k true) (a.put o.dst undef) w) : wpAnyQ bq P .any ops Q S (fuel + 1) listed a w :=
  wpAnyQ_takeQ k h0 hB hQ hS (fun w hS => .inr ⟨hg, rfl⟩) h
theorem wpAnyQ_takeC {fuel : Nat} {listed : Array Bool} {a : Act} {w : World} (k : Nat) {o : Oper} {v : Value} {f : FuncId} {args : Array Value} (h0 : ops[k]? = some o)
    (hB : (Region.noSelect ops && ((Region.ready .any ops listed).contains k && (Region.free .any ops listed k && (!bq || awaited .any ops listed k)))) = true)
    (hQ : ∀ c a d v w, Q (.panic c) (a.put d v) w → Q (.panic c) a w) (hg : Region.wanted o (yielded ops a.tmps) = true) (hS : S w) (hv : ∀ w, S w → (execOp a.eval o).run P w = .ok (.enter f args) w)
    (hc : ∀ w, S w → Calls P f args w fun e w' => e = .returned v ∧ w = w')
    (h : wpAnyQ bq P .any ops Q S fuel (listed.setIfInBounds k true) (a.put o.dst v) w) : wpAnyQ bq P .any ops Q S (fuel + 1) listed a w :=
  wpAnyQ_takeQ k h0 hB hQ hS (fun w hS => .inl ⟨hg, .inr (.inr ⟨f, args, hv w hS, (hc w hS).mono fun _ _ h => ⟨h.1, h.2.symm⟩⟩)⟩) h

theorem wpAnyQ_end {fuel : Nat} {listed : Array Bool} {a : Act} {w : World} (hB : decide (Region.ready .any ops listed = []) = true) (h : Q .normal a w) : wpAnyQ bq P .any ops Q S fuel listed a w := by
  have hB := of_decide_eq_true hB
  cases fuel with
  | zero => exact ⟨hB, h⟩
  | succ n => exact ⟨fun _ => h, fun i hi => by rw [hB] at hi; cases hi⟩
theorem doK_next {fuel : Nat} {listed : Array Bool} {a : Act} {w : World} (h1 : S w) (h2 : wpAnyQ bq P .any ops Q S fuel listed a w) : doK bq P ops Q S fuel listed .normal a w := ⟨.inr h1, h2⟩
theorem doK_lastS {fuel : Nat} {listed : Array Bool} {a : Act} {w : World} (h1 : S w) (hB : decide (Region.ready .any ops listed = []) = true) (h2 : Q .normal a w) : doK bq P ops Q S fuel listed .normal a w :=
  ⟨.inr h1, wpAnyQ_end hB h2⟩
theorem doK_last {fuel : Nat} {listed : Array Bool} {a : Act} {w : World} (h1 : listed.all id = true) (hB : decide (Region.ready .any ops listed = []) = true) (h2 : Q .normal a w) : doK true P ops Q S fuel listed .normal a w :=
  ⟨.inl ⟨rfl, h1⟩, wpAnyQ_end hB h2⟩
theorem wp_region_S {id : Nat} {a : Act} {w : World} {l : List Oper} (n : Nat) (S : World → Prop) (hm : P.follows .mixedOrders = true) (hn : l.toArray.size = n)
    (bq : Bool) (h : wpAnyQ bq P .any l.toArray Q S n (Array.replicate n false) a w.drew) : (Code.region id l.toArray true).wp P Q a w :=
  wp_region_any hm (wpAny_of_Q (S := S) (bq := bq) _ _ _ _ (by rw [hn]; exact h))
end

/-- Number k of a list that is written out. -/
inductive Nth {α : Type} : List α → Nat → α → Prop
  | zero {a : α} {l : List α} : Nth (a :: l) 0 a
  | succ {a b : α} {l : List α} {k : Nat} (h : Nth l k a) : Nth (b :: l) (k + 1) a
theorem Nth.get {α : Type} {l : List α} {k : Nat} {a : α} (h : Nth l k a) : l.toArray[k]? = some a := by
  rw [List.getElem?_toArray]
  induction h with
  | zero => rfl
  | succ _ ih => simpa using ih
theorem nth0 {α : Type} {a : α} {l : List α} : Nth (a :: l) 0 a := Nth.zero
theorem nth1 {α : Type} {x0 a : α} {l : List α} : Nth (x0 :: a :: l) 1 a := Nth.succ nth0
theorem nth2 {α : Type} {x0 x1 a : α} {l : List α} : Nth (x0 :: x1 :: a :: l) 2 a := Nth.succ nth1
theorem nth3 {α : Type} {x0 x1 x2 a : α} {l : List α} : Nth (x0 :: x1 :: x2 :: a :: l) 3 a := Nth.succ nth2
theorem nth4 {α : Type} {x0 x1 x2 x3 a : α} {l : List α} : Nth (x0 :: x1 :: x2 :: x3 :: a :: l) 4 a := Nth.succ nth3
theorem nth5 {α : Type} {x0 x1 x2 x3 x4 a : α} {l : List α} : Nth (x0 :: x1 :: x2 :: x3 :: x4 :: a :: l) 5 a := Nth.succ nth4
theorem nth6 {α : Type} {x0 x1 x2 x3 x4 x5 a : α} {l : List α} : Nth (x0 :: x1 :: x2 :: x3 :: x4 :: x5 :: a :: l) 6 a := Nth.succ nth5
theorem nth7 {α : Type} {x0 x1 x2 x3 x4 x5 x6 a : α} {l : List α} : Nth (x0 :: x1 :: x2 :: x3 :: x4 :: x5 :: x6 :: a :: l) 7 a := Nth.succ nth6
theorem nth8 {α : Type} {x0 x1 x2 x3 x4 x5 x6 x7 a : α} {l : List α} : Nth (x0 :: x1 :: x2 :: x3 :: x4 :: x5 :: x6 :: x7 :: a :: l) 8 a := Nth.succ nth7
theorem nth9 {α : Type} {x0 x1 x2 x3 x4 x5 x6 x7 x8 a : α} {l : List α} : Nth (x0 :: x1 :: x2 :: x3 :: x4 :: x5 :: x6 :: x7 :: x8 :: a :: l) 9 a := Nth.succ nth8
theorem nth10 {α : Type} {x0 x1 x2 x3 x4 x5 x6 x7 x8 x9 a : α} {l : List α} : Nth (x0 :: x1 :: x2 :: x3 :: x4 :: x5 :: x6 :: x7 :: x8 :: x9 :: a :: l) 10 a := Nth.succ nth9
theorem nth11 {α : Type} {x0 x1 x2 x3 x4 x5 x6 x7 x8 x9 x10 a : α} {l : List α} : Nth (x0 :: x1 :: x2 :: x3 :: x4 :: x5 :: x6 :: x7 :: x8 :: x9 :: x10 :: a :: l) 11 a := Nth.succ nth10
theorem nth12 {α : Type} {x0 x1 x2 x3 x4 x5 x6 x7 x8 x9 x10 x11 a : α} {l : List α} : Nth (x0 :: x1 :: x2 :: x3 :: x4 :: x5 :: x6 :: x7 :: x8 :: x9 :: x10 :: x11 :: a :: l) 12 a := Nth.succ nth11
theorem nth13 {α : Type} {x0 x1 x2 x3 x4 x5 x6 x7 x8 x9 x10 x11 x12 a : α} {l : List α} : Nth (x0 :: x1 :: x2 :: x3 :: x4 :: x5 :: x6 :: x7 :: x8 :: x9 :: x10 :: x11 :: x12 :: a :: l) 13 a := Nth.succ nth12
theorem nth14 {α : Type} {x0 x1 x2 x3 x4 x5 x6 x7 x8 x9 x10 x11 x12 x13 a : α} {l : List α} : Nth (x0 :: x1 :: x2 :: x3 :: x4 :: x5 :: x6 :: x7 :: x8 :: x9 :: x10 :: x11 :: x12 :: x13 :: a :: l) 14 a := Nth.succ nth13
theorem nth15 {α : Type} {x0 x1 x2 x3 x4 x5 x6 x7 x8 x9 x10 x11 x12 x13 x14 a : α} {l : List α} : Nth (x0 :: x1 :: x2 :: x3 :: x4 :: x5 :: x6 :: x7 :: x8 :: x9 :: x10 :: x11 :: x12 :: x13 :: x14 :: a :: l) 15 a := Nth.succ nth14
theorem nth16 {α : Type} {x0 x1 x2 x3 x4 x5 x6 x7 x8 x9 x10 x11 x12 x13 x14 x15 a : α} {l : List α} : Nth (x0 :: x1 :: x2 :: x3 :: x4 :: x5 :: x6 :: x7 :: x8 :: x9 :: x10 :: x11 :: x12 :: x13 :: x14 :: x15 :: a :: l) 16 a := Nth.succ nth15
theorem nth17 {α : Type} {x0 x1 x2 x3 x4 x5 x6 x7 x8 x9 x10 x11 x12 x13 x14 x15 x16 a : α} {l : List α} : Nth (x0 :: x1 :: x2 :: x3 :: x4 :: x5 :: x6 :: x7 :: x8 :: x9 :: x10 :: x11 :: x12 :: x13 :: x14 :: x15 :: x16 :: a :: l) 17 a := Nth.succ nth16
theorem nth18 {α : Type} {x0 x1 x2 x3 x4 x5 x6 x7 x8 x9 x10 x11 x12 x13 x14 x15 x16 x17 a : α} {l : List α} : Nth (x0 :: x1 :: x2 :: x3 :: x4 :: x5 :: x6 :: x7 :: x8 :: x9 :: x10 :: x11 :: x12 :: x13 :: x14 :: x15 :: x16 :: x17 :: a :: l) 18 a := Nth.succ nth17
theorem nth19 {α : Type} {x0 x1 x2 x3 x4 x5 x6 x7 x8 x9 x10 x11 x12 x13 x14 x15 x16 x17 x18 a : α} {l : List α} : Nth (x0 :: x1 :: x2 :: x3 :: x4 :: x5 :: x6 :: x7 :: x8 :: x9 :: x10 :: x11 :: x12 :: x13 :: x14 :: x15 :: x16 :: x17 :: x18 :: a :: l) 19 a := Nth.succ nth18
theorem nth20 {α : Type} {x0 x1 x2 x3 x4 x5 x6 x7 x8 x9 x10 x11 x12 x13 x14 x15 x16 x17 x18 x19 a : α} {l : List α} : Nth (x0 :: x1 :: x2 :: x3 :: x4 :: x5 :: x6 :: x7 :: x8 :: x9 :: x10 :: x11 :: x12 :: x13 :: x14 :: x15 :: x16 :: x17 :: x18 :: x19 :: a :: l) 20 a := Nth.succ nth19
theorem nth21 {α : Type} {x0 x1 x2 x3 x4 x5 x6 x7 x8 x9 x10 x11 x12 x13 x14 x15 x16 x17 x18 x19 x20 a : α} {l : List α} : Nth (x0 :: x1 :: x2 :: x3 :: x4 :: x5 :: x6 :: x7 :: x8 :: x9 :: x10 :: x11 :: x12 :: x13 :: x14 :: x15 :: x16 :: x17 :: x18 :: x19 :: x20 :: a :: l) 21 a := Nth.succ nth20
theorem nth22 {α : Type} {x0 x1 x2 x3 x4 x5 x6 x7 x8 x9 x10 x11 x12 x13 x14 x15 x16 x17 x18 x19 x20 x21 a : α} {l : List α} : Nth (x0 :: x1 :: x2 :: x3 :: x4 :: x5 :: x6 :: x7 :: x8 :: x9 :: x10 :: x11 :: x12 :: x13 :: x14 :: x15 :: x16 :: x17 :: x18 :: x19 :: x20 :: x21 :: a :: l) 22 a := Nth.succ nth21
theorem nth23 {α : Type} {x0 x1 x2 x3 x4 x5 x6 x7 x8 x9 x10 x11 x12 x13 x14 x15 x16 x17 x18 x19 x20 x21 x22 a : α} {l : List α} : Nth (x0 :: x1 :: x2 :: x3 :: x4 :: x5 :: x6 :: x7 :: x8 :: x9 :: x10 :: x11 :: x12 :: x13 :: x14 :: x15 :: x16 :: x17 :: x18 :: x19 :: x20 :: x21 :: x22 :: a :: l) 23 a := Nth.succ nth22
theorem nth24 {α : Type} {x0 x1 x2 x3 x4 x5 x6 x7 x8 x9 x10 x11 x12 x13 x14 x15 x16 x17 x18 x19 x20 x21 x22 x23 a : α} {l : List α} : Nth (x0 :: x1 :: x2 :: x3 :: x4 :: x5 :: x6 :: x7 :: x8 :: x9 :: x10 :: x11 :: x12 :: x13 :: x14 :: x15 :: x16 :: x17 :: x18 :: x19 :: x20 :: x21 :: x22 :: x23 :: a :: l) 24 a := Nth.succ nth23
theorem nth25 {α : Type} {x0 x1 x2 x3 x4 x5 x6 x7 x8 x9 x10 x11 x12 x13 x14 x15 x16 x17 x18 x19 x20 x21 x22 x23 x24 a : α} {l : List α} : Nth (x0 :: x1 :: x2 :: x3 :: x4 :: x5 :: x6 :: x7 :: x8 :: x9 :: x10 :: x11 :: x12 :: x13 :: x14 :: x15 :: x16 :: x17 :: x18 :: x19 :: x20 :: x21 :: x22 :: x23 :: x24 :: a :: l) 25 a := Nth.succ nth24
theorem nth26 {α : Type} {x0 x1 x2 x3 x4 x5 x6 x7 x8 x9 x10 x11 x12 x13 x14 x15 x16 x17 x18 x19 x20 x21 x22 x23 x24 x25 a : α} {l : List α} : Nth (x0 :: x1 :: x2 :: x3 :: x4 :: x5 :: x6 :: x7 :: x8 :: x9 :: x10 :: x11 :: x12 :: x13 :: x14 :: x15 :: x16 :: x17 :: x18 :: x19 :: x20 :: x21 :: x22 :: x23 :: x24 :: x25 :: a :: l) 26 a := Nth.succ nth25
theorem nth27 {α : Type} {x0 x1 x2 x3 x4 x5 x6 x7 x8 x9 x10 x11 x12 x13 x14 x15 x16 x17 x18 x19 x20 x21 x22 x23 x24 x25 x26 a : α} {l : List α} : Nth (x0 :: x1 :: x2 :: x3 :: x4 :: x5 :: x6 :: x7 :: x8 :: x9 :: x10 :: x11 :: x12 :: x13 :: x14 :: x15 :: x16 :: x17 :: x18 :: x19 :: x20 :: x21 :: x22 :: x23 :: x24 :: x25 :: x26 :: a :: l) 27 a := Nth.succ nth26
theorem nth28 {α : Type} {x0 x1 x2 x3 x4 x5 x6 x7 x8 x9 x10 x11 x12 x13 x14 x15 x16 x17 x18 x19 x20 x21 x22 x23 x24 x25 x26 x27 a : α} {l : List α} : Nth (x0 :: x1 :: x2 :: x3 :: x4 :: x5 :: x6 :: x7 :: x8 :: x9 :: x10 :: x11 :: x12 :: x13 :: x14 :: x15 :: x16 :: x17 :: x18 :: x19 :: x20 :: x21 :: x22 :: x23 :: x24 :: x25 :: x26 :: x27 :: a :: l) 28 a := Nth.succ nth27
theorem nth29 {α : Type} {x0 x1 x2 x3 x4 x5 x6 x7 x8 x9 x10 x11 x12 x13 x14 x15 x16 x17 x18 x19 x20 x21 x22 x23 x24 x25 x26 x27 x28 a : α} {l : List α} : Nth (x0 :: x1 :: x2 :: x3 :: x4 :: x5 :: x6 :: x7 :: x8 :: x9 :: x10 :: x11 :: x12 :: x13 :: x14 :: x15 :: x16 :: x17 :: x18 :: x19 :: x20 :: x21 :: x22 :: x23 :: x24 :: x25 :: x26 :: x27 :: x28 :: a :: l) 29 a := Nth.succ nth28
theorem nth30 {α : Type} {x0 x1 x2 x3 x4 x5 x6 x7 x8 x9 x10 x11 x12 x13 x14 x15 x16 x17 x18 x19 x20 x21 x22 x23 x24 x25 x26 x27 x28 x29 a : α} {l : List α} : Nth (x0 :: x1 :: x2 :: x3 :: x4 :: x5 :: x6 :: x7 :: x8 :: x9 :: x10 :: x11 :: x12 :: x13 :: x14 :: x15 :: x16 :: x17 :: x18 :: x19 :: x20 :: x21 :: x22 :: x23 :: x24 :: x25 :: x26 :: x27 :: x28 :: x29 :: a :: l) 30 a := Nth.succ nth29
theorem nth31 {α : Type} {x0 x1 x2 x3 x4 x5 x6 x7 x8 x9 x10 x11 x12 x13 x14 x15 x16 x17 x18 x19 x20 x21 x22 x23 x24 x25 x26 x27 x28 x29 x30 a : α} {l : List α} : Nth (x0 :: x1 :: x2 :: x3 :: x4 :: x5 :: x6 :: x7 :: x8 :: x9 :: x10 :: x11 :: x12 :: x13 :: x14 :: x15 :: x16 :: x17 :: x18 :: x19 :: x20 :: x21 :: x22 :: x23 :: x24 :: x25 :: x26 :: x27 :: x28 :: x29 :: x30 :: a :: l) 31 a := Nth.succ nth30
theorem nth32 {α : Type} {x0 x1 x2 x3 x4 x5 x6 x7 x8 x9 x10 x11 x12 x13 x14 x15 x16 x17 x18 x19 x20 x21 x22 x23 x24 x25 x26 x27 x28 x29 x30 x31 a : α} {l : List α} : Nth (x0 :: x1 :: x2 :: x3 :: x4 :: x5 :: x6 :: x7 :: x8 :: x9 :: x10 :: x11 :: x12 :: x13 :: x14 :: x15 :: x16 :: x17 :: x18 :: x19 :: x20 :: x21 :: x22 :: x23 :: x24 :: x25 :: x26 :: x27 :: x28 :: x29 :: x30 :: x31 :: a :: l) 32 a := Nth.succ nth31
theorem nth33 {α : Type} {x0 x1 x2 x3 x4 x5 x6 x7 x8 x9 x10 x11 x12 x13 x14 x15 x16 x17 x18 x19 x20 x21 x22 x23 x24 x25 x26 x27 x28 x29 x30 x31 x32 a : α} {l : List α} : Nth (x0 :: x1 :: x2 :: x3 :: x4 :: x5 :: x6 :: x7 :: x8 :: x9 :: x10 :: x11 :: x12 :: x13 :: x14 :: x15 :: x16 :: x17 :: x18 :: x19 :: x20 :: x21 :: x22 :: x23 :: x24 :: x25 :: x26 :: x27 :: x28 :: x29 :: x30 :: x31 :: x32 :: a :: l) 33 a := Nth.succ nth32
theorem nth34 {α : Type} {x0 x1 x2 x3 x4 x5 x6 x7 x8 x9 x10 x11 x12 x13 x14 x15 x16 x17 x18 x19 x20 x21 x22 x23 x24 x25 x26 x27 x28 x29 x30 x31 x32 x33 a : α} {l : List α} : Nth (x0 :: x1 :: x2 :: x3 :: x4 :: x5 :: x6 :: x7 :: x8 :: x9 :: x10 :: x11 :: x12 :: x13 :: x14 :: x15 :: x16 :: x17 :: x18 :: x19 :: x20 :: x21 :: x22 :: x23 :: x24 :: x25 :: x26 :: x27 :: x28 :: x29 :: x30 :: x31 :: x32 :: x33 :: a :: l) 34 a := Nth.succ nth33
theorem nth35 {α : Type} {x0 x1 x2 x3 x4 x5 x6 x7 x8 x9 x10 x11 x12 x13 x14 x15 x16 x17 x18 x19 x20 x21 x22 x23 x24 x25 x26 x27 x28 x29 x30 x31 x32 x33 x34 a : α} {l : List α} : Nth (x0 :: x1 :: x2 :: x3 :: x4 :: x5 :: x6 :: x7 :: x8 :: x9 :: x10 :: x11 :: x12 :: x13 :: x14 :: x15 :: x16 :: x17 :: x18 :: x19 :: x20 :: x21 :: x22 :: x23 :: x24 :: x25 :: x26 :: x27 :: x28 :: x29 :: x30 :: x31 :: x32 :: x33 :: x34 :: a :: l) 35 a := Nth.succ nth34
theorem nth36 {α : Type} {x0 x1 x2 x3 x4 x5 x6 x7 x8 x9 x10 x11 x12 x13 x14 x15 x16 x17 x18 x19 x20 x21 x22 x23 x24 x25 x26 x27 x28 x29 x30 x31 x32 x33 x34 x35 a : α} {l : List α} : Nth (x0 :: x1 :: x2 :: x3 :: x4 :: x5 :: x6 :: x7 :: x8 :: x9 :: x10 :: x11 :: x12 :: x13 :: x14 :: x15 :: x16 :: x17 :: x18 :: x19 :: x20 :: x21 :: x22 :: x23 :: x24 :: x25 :: x26 :: x27 :: x28 :: x29 :: x30 :: x31 :: x32 :: x33 :: x34 :: x35 :: a :: l) 36 a := Nth.succ nth35
theorem nth37 {α : Type} {x0 x1 x2 x3 x4 x5 x6 x7 x8 x9 x10 x11 x12 x13 x14 x15 x16 x17 x18 x19 x20 x21 x22 x23 x24 x25 x26 x27 x28 x29 x30 x31 x32 x33 x34 x35 x36 a : α} {l : List α} : Nth (x0 :: x1 :: x2 :: x3 :: x4 :: x5 :: x6 :: x7 :: x8 :: x9 :: x10 :: x11 :: x12 :: x13 :: x14 :: x15 :: x16 :: x17 :: x18 :: x19 :: x20 :: x21 :: x22 :: x23 :: x24 :: x25 :: x26 :: x27 :: x28 :: x29 :: x30 :: x31 :: x32 :: x33 :: x34 :: x35 :: x36 :: a :: l) 37 a := Nth.succ nth36
theorem nth38 {α : Type} {x0 x1 x2 x3 x4 x5 x6 x7 x8 x9 x10 x11 x12 x13 x14 x15 x16 x17 x18 x19 x20 x21 x22 x23 x24 x25 x26 x27 x28 x29 x30 x31 x32 x33 x34 x35 x36 x37 a : α} {l : List α} : Nth (x0 :: x1 :: x2 :: x3 :: x4 :: x5 :: x6 :: x7 :: x8 :: x9 :: x10 :: x11 :: x12 :: x13 :: x14 :: x15 :: x16 :: x17 :: x18 :: x19 :: x20 :: x21 :: x22 :: x23 :: x24 :: x25 :: x26 :: x27 :: x28 :: x29 :: x30 :: x31 :: x32 :: x33 :: x34 :: x35 :: x36 :: x37 :: a :: l) 38 a := Nth.succ nth37
theorem nth39 {α : Type} {x0 x1 x2 x3 x4 x5 x6 x7 x8 x9 x10 x11 x12 x13 x14 x15 x16 x17 x18 x19 x20 x21 x22 x23 x24 x25 x26 x27 x28 x29 x30 x31 x32 x33 x34 x35 x36 x37 x38 a : α} {l : List α} : Nth (x0 :: x1 :: x2 :: x3 :: x4 :: x5 :: x6 :: x7 :: x8 :: x9 :: x10 :: x11 :: x12 :: x13 :: x14 :: x15 :: x16 :: x17 :: x18 :: x19 :: x20 :: x21 :: x22 :: x23 :: x24 :: x25 :: x26 :: x27 :: x28 :: x29 :: x30 :: x31 :: x32 :: x33 :: x34 :: x35 :: x36 :: x37 :: x38 :: a :: l) 39 a := Nth.succ nth38
theorem nth40 {α : Type} {x0 x1 x2 x3 x4 x5 x6 x7 x8 x9 x10 x11 x12 x13 x14 x15 x16 x17 x18 x19 x20 x21 x22 x23 x24 x25 x26 x27 x28 x29 x30 x31 x32 x33 x34 x35 x36 x37 x38 x39 a : α} {l : List α} : Nth (x0 :: x1 :: x2 :: x3 :: x4 :: x5 :: x6 :: x7 :: x8 :: x9 :: x10 :: x11 :: x12 :: x13 :: x14 :: x15 :: x16 :: x17 :: x18 :: x19 :: x20 :: x21 :: x22 :: x23 :: x24 :: x25 :: x26 :: x27 :: x28 :: x29 :: x30 :: x31 :: x32 :: x33 :: x34 :: x35 :: x36 :: x37 :: x38 :: x39 :: a :: l) 40 a := Nth.succ nth39
theorem nth41 {α : Type} {x0 x1 x2 x3 x4 x5 x6 x7 x8 x9 x10 x11 x12 x13 x14 x15 x16 x17 x18 x19 x20 x21 x22 x23 x24 x25 x26 x27 x28 x29 x30 x31 x32 x33 x34 x35 x36 x37 x38 x39 x40 a : α} {l : List α} : Nth (x0 :: x1 :: x2 :: x3 :: x4 :: x5 :: x6 :: x7 :: x8 :: x9 :: x10 :: x11 :: x12 :: x13 :: x14 :: x15 :: x16 :: x17 :: x18 :: x19 :: x20 :: x21 :: x22 :: x23 :: x24 :: x25 :: x26 :: x27 :: x28 :: x29 :: x30 :: x31 :: x32 :: x33 :: x34 :: x35 :: x36 :: x37 :: x38 :: x39 :: x40 :: a :: l) 41 a := Nth.succ nth40
theorem nth42 {α : Type} {x0 x1 x2 x3 x4 x5 x6 x7 x8 x9 x10 x11 x12 x13 x14 x15 x16 x17 x18 x19 x20 x21 x22 x23 x24 x25 x26 x27 x28 x29 x30 x31 x32 x33 x34 x35 x36 x37 x38 x39 x40 x41 a : α} {l : List α} : Nth (x0 :: x1 :: x2 :: x3 :: x4 :: x5 :: x6 :: x7 :: x8 :: x9 :: x10 :: x11 :: x12 :: x13 :: x14 :: x15 :: x16 :: x17 :: x18 :: x19 :: x20 :: x21 :: x22 :: x23 :: x24 :: x25 :: x26 :: x27 :: x28 :: x29 :: x30 :: x31 :: x32 :: x33 :: x34 :: x35 :: x36 :: x37 :: x38 :: x39 :: x40 :: x41 :: a :: l) 42 a := Nth.succ nth41
theorem nth43 {α : Type} {x0 x1 x2 x3 x4 x5 x6 x7 x8 x9 x10 x11 x12 x13 x14 x15 x16 x17 x18 x19 x20 x21 x22 x23 x24 x25 x26 x27 x28 x29 x30 x31 x32 x33 x34 x35 x36 x37 x38 x39 x40 x41 x42 a : α} {l : List α} : Nth (x0 :: x1 :: x2 :: x3 :: x4 :: x5 :: x6 :: x7 :: x8 :: x9 :: x10 :: x11 :: x12 :: x13 :: x14 :: x15 :: x16 :: x17 :: x18 :: x19 :: x20 :: x21 :: x22 :: x23 :: x24 :: x25 :: x26 :: x27 :: x28 :: x29 :: x30 :: x31 :: x32 :: x33 :: x34 :: x35 :: x36 :: x37 :: x38 :: x39 :: x40 :: x41 :: x42 :: a :: l) 43 a := Nth.succ nth42
section
variable {P : Program} {l : List Oper} {Q : Exit → Act → World → Prop} {S : World → Prop} {bq : Bool}
theorem wpAnyQ_takeN {fuel : Nat} {listed : Array Bool} {a : Act} {w : World} (k : Nat) {o : Oper} {v : Value} (h0 : Nth l k o)
    (hB : (Region.noSelect l.toArray && ((Region.ready .any l.toArray listed).contains k && (Region.free .any l.toArray listed k && (!bq || awaited .any l.toArray listed k)))) = true)
    (hQ : ∀ c a d v w, Q (.panic c) (a.put d v) w → Q (.panic c) a w) (hg : Region.wanted o (yielded l.toArray a.tmps) = true) (hS : S w) (hv : ∀ w, S w → (execOp a.eval o).run P w = .ok (.value v) w)
    (h : wpAnyQ bq P .any l.toArray Q S fuel (listed.setIfInBounds k true) (a.put o.dst v) w) : wpAnyQ bq P .any l.toArray Q S (fuel + 1) listed a w :=
  wpAnyQ_take k h0.get hB hQ hg hS hv h
theorem wpAnyQ_skipN {fuel : Nat} {listed : Array Bool} {a : Act} {w : World} (k : Nat) {o : Oper} (h0 : Nth l k o)
    (hB : (Region.noSelect l.toArray && ((Region.ready .any l.toArray listed).contains k && (Region.free .any l.toArray listed k && (!bq || awaited .any l.toArray listed k)))) = true)
    (hQ : ∀ c a d v w, Q (.panic c) (a.put d v) w → Q (.panic c) a w) (hg : Region.wanted o (yielded l.toArray a.tmps) = false) (hS : S w)
    (h : wpAnyQ bq P .any l.toArray Q S fuel (listed.setIfInBounds k true) (a.put o.dst undef) w) : wpAnyQ bq P .any l.toArray Q S (fuel + 1) listed a w :=
  wpAnyQ_skip k h0.get hB hQ hg hS h
theorem wpAnyQ_takeCN {fuel : Nat} {listed : Array Bool} {a : Act} {w : World} (k : Nat) {o : Oper} {v : Value} {f : FuncId} {args : Array Value} (h0 : Nth l k o)
    (hB : (Region.noSelect l.toArray && ((Region.ready .any l.toArray listed).contains k && (Region.free .any l.toArray listed k && (!bq || awaited .any l.toArray listed k)))) = true)
    (hQ : ∀ c a d v w, Q (.panic c) (a.put d v) w → Q (.panic c) a w) (hg : Region.wanted o (yielded l.toArray a.tmps) = true) (hS : S w) (hv : ∀ w, S w → (execOp a.eval o).run P w = .ok (.enter f args) w)
    (hc : ∀ w, S w → Calls P f args w fun e w' => e = .returned v ∧ w = w')
    (h : wpAnyQ bq P .any l.toArray Q S fuel (listed.setIfInBounds k true) (a.put o.dst v) w) : wpAnyQ bq P .any l.toArray Q S (fuel + 1) listed a w :=
  wpAnyQ_takeC k h0.get hB hQ hg hS hv hc h
theorem wpAnyQ_doN {fuel : Nat} {listed : Array Bool} {a : Act} {w : World} (k : Nat) {o : Oper} (h0 : Nth l k o) (hB : decide (Region.ready .any l.toArray listed = [k]) = true)
    (h : wpList P l.toArray (doK bq P l.toArray Q S fuel (listed.setIfInBounds k true)) [o] a w) : wpAnyQ bq P .any l.toArray Q S (fuel + 1) listed a w :=
  wpAnyQ_do k h0.get hB h
theorem wpAnyQ_do2 {fuel : Nat} {listed : Array Bool} {a : Act} {w : World} (i j : Nat) {oi oj : Oper} (hi : Nth l i oi) (hj : Nth l j oj) (hB : decide (Region.ready .any l.toArray listed = [i, j]) = true)
    (h1 : wpList P l.toArray (doK bq P l.toArray Q S fuel (listed.setIfInBounds i true)) [oi] a w) (h2 : wpList P l.toArray (doK bq P l.toArray Q S fuel (listed.setIfInBounds j true)) [oj] a w) :
    wpAnyQ bq P .any l.toArray Q S (fuel + 1) listed a w := by
  have hB := of_decide_eq_true hB
  have one : ∀ (k : Nat) (o : Oper), l.toArray[k]? = some o → wpList P l.toArray (doK bq P l.toArray Q S fuel (listed.setIfInBounds k true)) [o] a w →
      wpOp P l.toArray Q k (fun a' w' => ((bq = true ∧ ∀ q, (listed.setIfInBounds k true).getD q true = true) ∨ S w') ∧ wpAnyQ bq P .any l.toArray Q S fuel (listed.setIfInBounds k true) a' w') a w := fun k o h0 h => by
    have hw : wpOp P l.toArray Q k (fun a' w' => ((bq = true ∧ (listed.setIfInBounds k true).all id = true) ∨ S w') ∧ wpAnyQ bq P .any l.toArray Q S fuel (listed.setIfInBounds k true) a' w') a w := by
      unfold wpOp
      simp only [h0]
      unfold wpList at h
      split
      · rename_i hc
        rw [if_pos hc] at h
        rcases h with h | ⟨h1, h2⟩
        · exact .inl (wp_weakQ (fun _ _ _ h => doK_panic h) doK_out h)
        · exact .inr ⟨h1, doK_out h2⟩
      · rename_i hc
        rw [if_neg hc] at h
        exact h
    exact wpOp_mono (fun a' w' h' => ⟨h'.1.imp (fun h => ⟨h.1, fun q => all_getD h.2 q⟩) (fun h => h), h'.2⟩) hw
  refine ⟨fun h => (by rw [hB] at h; cases h), fun k hk => ?_⟩
  rw [hB] at hk
  simp only [List.mem_cons, List.not_mem_nil, or_false] at hk
  rcases hk with rfl | rfl
  · exact one k oi hi.get h1
  · exact one k oj hj.get h2
end
end Go.Proofs.YtlbmoafdialigaaGreatDoor
