/- A region that draws its order: reads AND quiet calls are taken first, in the text's order, under S; then a tail whose order is forced; S must hold behind each operation of the tail but the last. -/
import Derived.OrdersHeld
import Derived.StillTail
import Derived.Tactics
import Derived.KernelRfl
import Derived.Deep.RegionHeld3
import Derived.OrdersIn
import Derived.RangeFuncCalls
import Derived.TacticsIn
namespace Go.Proofs.YtlbmoafdialigaaGreatDoor
open Go

section
variable {P : Program} {ops : Array Oper} {Q : Exit → Act → World → Prop} {md : Region.Mode} {S : World → Prop} {bq : Bool}

/-- The operation yields v in every world that meets S: by itself or by a quiet call. -/
def YieldsQ (P : Program) (ops : Array Oper) (S : World → Prop) (o : Oper) (v : Value) (a : Act) : Prop := ∀ w, S w → YieldsAt P ops w o v a

theorem YieldsQ.of_same {o : Oper} {v : Value} {a a' : Act} (hy : YieldsQ P ops S o v a) (he : execOp a'.eval o = execOp a.eval o)
    (hw : Region.wanted o (yielded ops a'.tmps) = Region.wanted o (yielded ops a.tmps)) : YieldsQ P ops S o v a' := fun w hS => (hy w hS).of_same he hw

theorem YieldsQ.wpOp {i : Nat} {o : Oper} {v : Value} {a : Act} (hi : ops[i]? = some o) (hy : YieldsQ P ops S o v a)
    {K : Act → World → Prop} {w : World} (hS : S w) (h : K (a.put o.dst v) w) : wpOp P ops Q i K a w :=
  wpOp_of_stOp (K := fun a => K a w) (fun _ h => h) ((hy w hS).stOp hi h)

theorem wpOp_putQ {j : Nat} {oi oj : Oper} {v : Value} (hj : ops[j]? = some oj) (hap : oi.apart ops oj = true)
    (hsi : ∀ cs b, oi.op ≠ .select cs b) (hsj : ∀ cs b, oj.op ≠ .select cs b)
    (hQ : ∀ c a w, Q (.panic c) (a.put oi.dst v) w → Q (.panic c) a w) {K : Act → World → Prop} {a : Act} {w : World}
    (hy : YieldsQ P ops S oi v a) (h : wpOp P ops Q j K (a.put oi.dst v) w) :
    wpOp P ops Q j (fun a' w' => YieldsQ P ops S oi v a' ∧ K (a'.put oi.dst v) w') a w := by
  obtain ⟨h1, h2, h3⟩ := Oper.apart_spec hap
  have keep : ∀ (a : Act), YieldsQ P ops S oi v a → ∀ u, YieldsQ P ops S oi v (a.put oj.dst u) := fun a hy u =>
    hy.of_same (execOp_put oi hsi a oj.dst u h3) (wanted_put oi a oj.dst u h3)
  have keepD : ∀ d, YieldsQ P ops S oi v { a with defers := d :: a.defers } := fun d => hy.of_same rfl rfl
  unfold Go.wpOp at *
  simp only [hj] at *
  rw [wanted_put oj a oi.dst v h1] at h
  split
  · rename_i hw
    simp only [hw, if_true] at h
    rcases h with h | ⟨hasks, hlets⟩
    case inr => exact .inr ⟨by unfold Oper.asks at *; rw [execOp_put oj hsj a oi.dst v h1] at hasks; exact hasks, hlets⟩
    refine .inl ?_
    unfold Oper.wp at *
    rw [execOp_put oj hsj a oi.dst v h1] at h
    generalize (execOp a.eval oj).run P w = r at *
    cases r with
    | ok n w' =>
      cases n <;> simp only [Oper.upon] at h ⊢
      case value u => exact ⟨keep a hy u, by rw [← Act.put_comm a v u h2]; exact h⟩
      case skip => exact ⟨keep a hy _, by rw [← Act.put_comm a v undef h2]; exact h⟩
      case defer d =>
        refine ⟨keep _ (keepD d) _, ?_⟩
        rw [← Act.put_comm _ v undef h2, ← Act.put_defers]
        exact h
      case enter f args =>
        refine Calls.mono h fun e w'' he => ?_
        cases e with
        | returned u => exact ⟨keep a hy u, by rw [← Act.put_comm a v u h2]; exact he⟩
        | panicked c => exact hQ _ _ _ he
        | outgrown => exact he
      case row row args => exact Rows.mono h fun u w'' he => ⟨keep a hy u, by rw [← Act.put_comm a v u h2]; exact he⟩
    | halt x w' =>
      cases x <;> simp only [Oper.upon] at h ⊢
      case panic u => exact hQ _ _ _ h
  · rename_i hw
    simp only [hw] at h
    exact ⟨keep a hy _, by rw [← Act.put_comm a v undef h2]; exact h⟩

def wpAnyQ (bq : Bool) (P : Program) (md : Region.Mode) (ops : Array Oper) (Q : Exit → Act → World → Prop) (S : World → Prop) : Nat → Array Bool → Act → World → Prop
  | 0, listed, a, w => Region.ready md ops listed = [] ∧ Q .normal a w
  | fuel + 1, listed, a, w =>
    (Region.ready md ops listed = [] → Q .normal a w) ∧
    ∀ i ∈ Region.ready md ops listed, wpOp P ops Q i (fun a' w' => ((bq = true ∧ ∀ k, (listed.setIfInBounds i true).getD k true = true) ∨ S w') ∧ wpAnyQ bq P md ops Q S fuel (listed.setIfInBounds i true) a' w') a w

theorem wpAny_of_Q : ∀ (fuel : Nat) (listed : Array Bool) (a : Act) (w : World), wpAnyQ bq P md ops Q S fuel listed a w → wpAny P md ops Q fuel listed a w
  | 0, _, _, _, h => h
  | fuel + 1, _, _, _, h => ⟨h.1, fun i hi => wpOp_mono (fun a' w' h' => wpAny_of_Q fuel _ a' w' h'.2) (h.2 i hi)⟩

theorem wpAnyQ_first {i : Nat} {oi : Oper} {v : Value} (hi : ops[i]? = some oi)
    (hsel : ∀ (j : Nat) (o : Oper) cs b, ops[j]? = some o → o.op ≠ .select cs b)
    (hQ : ∀ c a w, Q (.panic c) (a.put oi.dst v) w → Q (.panic c) a w) :
    ∀ (fuel : Nat) (listed : Array Bool) (a : Act) (w : World), (bq = false ∨ ∃ k ok, ops[k]? = some ok ∧ k ≠ i ∧ (∃ e ∈ ok.after, Region.binds md e = true ∧ e.on = i) ∧ listed.getD k true = false) →
      (∀ j oj, ops[j]? = some oj → j ≠ i → listed.getD j true = false → (∀ e ∈ oj.after, Region.binds md e = true → e.on ≠ i) → oi.apart ops oj = true) →
      i ∈ Region.ready md ops listed → YieldsQ P ops S oi v a → S w →
      wpAnyQ bq P md ops Q S fuel (listed.setIfInBounds i true) (a.put oi.dst v) w → wpAnyQ bq P md ops Q S (fuel + 1) listed a w := by
  intro fuel
  induction fuel with
  | zero =>
    intro listed a w _ _ hr hy hS H
    refine ⟨fun h => (by rw [h] at hr; cases hr), fun j hj => ?_⟩
    by_cases hji : j = i
    · subst hji; exact hy.wpOp hi hS ⟨.inr hS, H⟩
    · have := ready_mono hj hji
      rw [H.1] at this
      cases this
  | succ fuel ih =>
    intro listed a w hun0 hfree hr hy hS H
    refine ⟨fun h => (by rw [h] at hr; cases hr), fun j hj => ?_⟩
    by_cases hji : j = i
    · subst hji; exact hy.wpOp hi hS ⟨.inr hS, H⟩
    · have h1 := H.2 j (ready_mono hj hji)
      obtain ⟨hjun, oj, hoj, hall⟩ := mem_ready.1 hj
      have hnot : ∀ e ∈ oj.after, Region.binds md e = true → e.on ≠ i := fun e he hb heq => by
        have h1 := hall e he hb
        have h0 := (mem_ready.1 hr).1
        rw [heq] at h1
        rcases Nat.lt_or_ge i listed.size with h' | h'
        · simp [h'] at h0 h1; rw [h0] at h1; cases h1
        · simp [Array.getElem?_eq_none h'] at h1
      have h2 := wpOp_putQ hoj (hfree j oj hoj hji hjun hnot) (fun cs b => hsel i oi cs b hi) (fun cs b => hsel j oj cs b hoj) hQ hy h1
      have hfree' : ∀ k ok, ops[k]? = some ok → k ≠ i → (listed.setIfInBounds j true).getD k true = false →
          (∀ e ∈ ok.after, Region.binds md e = true → e.on ≠ i) → oi.apart ops ok = true := fun k ok hk hki hun hno => by
        refine hfree k ok hk hki ?_ hno
        by_cases hjk : j = k
        · subst hjk; exact hjun
        · rw [getD_set_ne true hjk] at hun; exact hun
      have hri : i ∈ Region.ready md ops (listed.setIfInBounds j true) := ready_mono hr (Ne.symm hji)
      refine wpOp_mono (fun a' w' h3 => ?_) h2
      obtain ⟨hy', hSS, hW⟩ := h3
      have hpend : bq = false ∨ ∃ k ok, ops[k]? = some ok ∧ k ≠ i ∧ (∃ e ∈ ok.after, Region.binds md e = true ∧ e.on = i) ∧ (listed.setIfInBounds j true).getD k true = false := by
        rcases hun0 with h | ⟨k, ok, hk, hki, hw, hun⟩
        · exact .inl h
        · refine .inr ⟨k, ok, hk, hki, hw, ?_⟩
          have hjk : j ≠ k := fun e => by
            subst e
            obtain ⟨e, he, hb, hon⟩ := hw
            have : oj = ok := Option.some.inj (hoj.symm.trans hk)
            subst this
            exact hnot e he hb hon
          rw [getD_set_ne true hjk]
          exact hun
      have hS' : S w' := by
        rcases hSS with ⟨hb1, hSS⟩ | hSS
        · rcases hpend with h | ⟨k, ok, hk, hki, _, hun⟩
          · rw [h] at hb1; cases hb1
          · have := hSS k
            have hun2 : ((listed.setIfInBounds i true).setIfInBounds j true).getD k true = false := by
              rw [Array.setIfInBounds_comm _ _ (Ne.symm hji), getD_set_ne true (Ne.symm hki)]
              exact hun
            rw [hun2] at this
            cases this
        · exact hSS
      refine ⟨.inr hS', ih _ a' w' hpend hfree' hri hy' hS' ?_⟩
      rw [Array.setIfInBounds_comm _ _ hji]
      exact hW

/-- Somebody who hasn't come up waits for number i. -/
def awaited (md : Region.Mode) (ops : Array Oper) (listed : Array Bool) (i : Nat) : Bool :=
  (List.range ops.size).any fun k => decide (k ≠ i) && !listed.getD k true && Region.waitsFor md ops k i

/-- Numbers k, k+1, .. may be taken first one behind the other; then the rest comes in its order. -/
def headB (md : Region.Mode) (ops : Array Oper) (g : Nat) : Nat → Nat → Array Bool → Bool
  | 0, k, listed => Region.seqB md ops g k listed
  | f + 1, k, listed => (Region.ready md ops listed).contains k && Region.free md ops listed k && awaited md ops listed k && headB md ops g f (k + 1) (listed.setIfInBounds k true)

def wpHead (P : Program) (ops : Array Oper) (S : World → Prop) (K : Act → Prop) : List Oper → Act → Prop
  | [], a => K a
  | o :: r, a => ∃ v, YieldsQ P ops S o v a ∧ wpHead P ops S K r (a.put o.dst v)

/-- What is asked behind a first operation of the tail. -/
def tailK (P : Program) (ops : Array Oper) (Q : Exit → Act → World → Prop) (S : World → Prop) : List Oper → Exit → Act → World → Prop
  | [], e, a, w => Q e a w
  | o :: r, .normal, a, w => S w ∧ wpList P ops (tailK P ops Q S r) [o] a w
  | _ :: _, e, a, w => Q e a w

theorem tailK_panic {r : List Oper} {c : List PanicEntry} {a : Act} {w : World} (h : tailK P ops Q S r (.panic c) a w) : Q (.panic c) a w := by cases r <;> exact h
theorem tailK_out {r : List Oper} (h : LetsOut (tailK P ops Q S r)) : LetsOut Q := by
  obtain ⟨a, w, h⟩ := h
  cases r <;> exact ⟨a, w, h⟩

theorem wp_weakQ {o : Oper} {a : Act} {w : World} {K : Act → World → Prop} {Q Q' : Exit → Act → World → Prop} (h1 : ∀ c a w, Q' (.panic c) a w → Q (.panic c) a w) (h2 : LetsOut Q' → LetsOut Q)
    (hh : o.wp P a w K Q') : o.wp P a w K Q := by
  unfold Oper.wp at *
  generalize (execOp a.eval o).run P w = r at *
  cases r with
  | ok n w' =>
    cases n <;> simp only [Oper.upon] at hh ⊢ <;>
      first
        | exact hh
        | exact Calls.mono hh (fun e w'' he => by cases e <;> first | exact he | exact h1 _ _ _ he | exact h2 he)
  | halt x w' => cases x <;> simp only [Oper.upon] at hh ⊢ <;> first | exact hh | exact h1 _ _ _ hh

theorem wpAnyQ_tail (hm : ∀ k, k < ops.size → ops[k]? ≠ none) : ∀ (r : List Oper) (o : Oper) (k : Nat) (listed : Array Bool) (a : Act) (w : World), (∀ j, (o :: r)[j]? = ops[k + j]?) → listed.size = ops.size → (∀ j, j < k → listed.getD j true = true) →
    Region.seqB md ops (r.length + 1) k listed = true → wpList P ops (tailK P ops Q S r) [o] a w → wpAnyQ true P md ops Q S (r.length + 1) listed a w := by
  intro r
  induction r with
  | nil =>
    intro o k listed a w hl hsz hlow hB h
    have h0 : ops[k]? = some o := by simpa using (hl 0).symm
    simp only [List.length_nil, Nat.zero_add, Region.seqB, Bool.and_eq_true, decide_eq_true_eq] at hB
    refine ⟨fun h1 => (by rw [hB.1] at h1; cases h1), fun i hi => ?_⟩
    rw [hB.1] at hi
    have hik : i = k := by simpa using hi
    subst hik
    have hlen : ops.size = i + 1 := by
      have h1 := hl 1
      simp at h1
      have h2 : i < ops.size := (Array.getElem?_eq_some_iff.1 h0).1
      omega
    have hall : ∀ j, (listed.setIfInBounds i true).getD j true = true := fun j => by
      by_cases hj : i = j
      · subst hj
        have : i < listed.size := by omega
        simp [this]
      · rw [getD_set_ne true hj]
        rcases Nat.lt_or_ge j i with h1 | h1
        · exact hlow j h1
        · have : listed.size ≤ j := by omega
          simp [Array.getElem?_eq_none this]
    have hw : wpOp P ops Q i (fun a' w' => Q .normal a' w') a w := by
      unfold wpOp; simp only [h0]; exact h
    refine wpOp_mono (fun a' w' h' => ⟨.inl ⟨rfl, hall⟩, ?_⟩) hw
    exact ⟨by simpa using hB.2, h'⟩
  | cons p r ih =>
    intro o k listed a w hl hsz hlow hB h
    have h0 : ops[k]? = some o := by simpa using (hl 0).symm
    simp only [List.length_cons, Region.seqB, Bool.and_eq_true, decide_eq_true_eq] at hB
    refine ⟨fun h1 => (by rw [hB.1] at h1; cases h1), fun i hi => ?_⟩
    rw [hB.1] at hi
    have hik : i = k := by simpa using hi
    subst hik
    have hw : wpOp P ops Q i (fun a' w' => S w' ∧ wpList P ops (tailK P ops Q S r) [p] a' w') a w := by
      unfold wpOp
      simp only [h0]
      unfold wpList at h
      split
      · rename_i hc
        rw [if_pos hc] at h
        rcases h with h | ⟨h1, h2⟩
        · exact .inl (wp_weakQ (fun _ _ _ h => tailK_panic h) tailK_out h)
        · exact .inr ⟨h1, tailK_out h2⟩
      · rename_i hc
        rw [if_neg hc] at h
        exact h
    refine wpOp_mono (fun a' w' h' => ⟨.inr h'.1, ?_⟩) hw
    refine ih p (i + 1) _ a' w' (fun j => by have := hl (j + 1); simpa [Nat.add_assoc, Nat.add_comm 1 j] using this) (by simpa using hsz) (fun j hj => ?_) (by simpa [Region.seqB] using hB.2) h'.2
    by_cases hij : i = j
    · subst hij
      have : i < listed.size := by rw [hsz]; exact (Array.getElem?_eq_some_iff.1 h0).1
      simp [this]
    · rw [getD_set_ne true hij]
      exact hlow j (by omega)

theorem wpAnyQ_head (hsel : Region.noSelect ops = true) (hQ : ∀ c a d v w, Q (.panic c) (a.put d v) w → Q (.panic c) a w) {g : Nat} {K : Act → Prop} {w : World} (hS : S w) :
    ∀ (l : List Oper) (k : Nat) (listed : Array Bool) (a : Act), (∀ j, j < l.length → l[j]? = ops[k + j]?) → listed.size = ops.size → (∀ j, j < k → listed.getD j true = true) →
    headB md ops g l.length k listed = true →
    (∀ listed a, listed.size = ops.size → (∀ j, j < k + l.length → listed.getD j true = true) → Region.seqB md ops g (k + l.length) listed = true → K a → wpAnyQ true P md ops Q S g listed a w) →
    wpHead P ops S K l a → wpAnyQ true P md ops Q S (l.length + g) listed a w
  | [], k, listed, a, _, hsz, hlow, hB, hK, h => by
    rw [List.length_nil, Nat.zero_add]
    exact hK listed a hsz hlow hB h
  | o :: l, k, listed, a, hl, hsz, hlow, hB, hK, h => by
    have h0 : ops[k]? = some o := by simpa using (hl 0 (by simp)).symm
    simp only [List.length_cons, headB, Bool.and_eq_true] at hB
    obtain ⟨⟨⟨hr, hf⟩, ha⟩, hB'⟩ := hB
    obtain ⟨v, hy, hrest⟩ := h
    have hkl : k < listed.size := by rw [hsz]; exact (Array.getElem?_eq_some_iff.1 h0).1
    obtain ⟨q, _, hq⟩ := List.any_eq_true.1 ha
    simp only [Bool.and_eq_true, decide_eq_true_eq, Bool.not_eq_true'] at hq
    obtain ⟨oq, hoq, hwq⟩ := Region.waitsFor_spec hq.2
    have := wpAnyQ_head hsel hQ hS l (k + 1) (listed.setIfInBounds k true) (a.put o.dst v) (fun j hj => by have := hl (j + 1) (by simp; omega); simpa [Nat.add_assoc, Nat.add_comm 1 j] using this) (by simpa using hsz)
      (fun j hj => by
        by_cases hij : k = j
        · subst hij; simp [hkl]
        · rw [getD_set_ne true hij]; exact hlow j (by omega)) hB'
      (fun listed a h1 h2 h3 h4 => hK listed a h1 (fun j hj => h2 j (by simp at hj; omega)) (by rw [List.length_cons, show k + (l.length + 1) = k + 1 + l.length by omega]; exact h3) h4) hrest
    rw [List.length_cons, show l.length + 1 + g = (l.length + g) + 1 by omega]
    exact wpAnyQ_first h0 (Region.noSelect_spec hsel) (fun c a w => hQ c a _ _ w) _ listed a w (.inr ⟨q, oq, hoq, hq.1.1, hwq, hq.1.2⟩) (Region.free_spec h0 hf) (by simpa using hr) hy hS this

/-- THE LAW: the first n operations of a region that draws are quiet under S; the rest has one order. -/
theorem wpAny_head {a : Act} {w : World} {l : List Oper} (n : Nat) (S : World → Prop) (o : Oper) (r : List Oper)
    (hd : l.drop n = o :: r) (hB : (Region.noSelect l.toArray && headB .any l.toArray (r.length + 1) n 0 (Array.replicate l.length false)) = true)
    (hQ : ∀ c a d v w, Q (.panic c) (a.put d v) w → Q (.panic c) a w) (hS : S w.drew)
    (h : wpHead P l.toArray S (fun a' => wpList P l.toArray (tailK P l.toArray Q S r) [o] a' w.drew) (l.take n) a) : wpAny P .any l.toArray Q l.toArray.size (Array.replicate l.toArray.size false) a w.drew := by
  simp only [Bool.and_eq_true] at hB
  have hlen : l.length = n + (r.length + 1) := by
    have := congrArg List.length hd
    simp at this
    omega
  have htl : (l.take n).length = n := by simp; omega
  have hD : ∀ j, (o :: r)[j]? = l.toArray[n + j]? := fun j => by rw [← hd]; simp [List.getElem?_drop]
  refine wpAny_of_Q (S := S) (bq := true) _ _ _ _ ?_
  have := wpAnyQ_head (md := .any) (Q := Q) (g := r.length + 1) (K := fun a' => wpList P l.toArray (tailK P l.toArray Q S r) [o] a' w.drew) hB.1 hQ hS (l.take n) 0 (Array.replicate l.length false) a
    (fun j hj => by
      have hj' : j < n := by rw [htl] at hj; exact hj
      simp [hj']) (by simp) (fun j hj => by omega) (by rw [htl]; exact hB.2)
    (fun listed a' h1 h2 h3 h4 => by
      rw [htl, Nat.zero_add] at h2 h3
      exact wpAnyQ_tail (fun k hk h => by simp at h; simp at hk; omega) r o n listed a' w.drew hD h1 h2 h3 h4) h
  rw [htl, ← hlen] at this
  simpa using this

theorem wp_region_head {id : Nat} {a : Act} {w : World} {l : List Oper} (n : Nat) (S : World → Prop) (o : Oper) (r : List Oper) (hm : P.follows .mixedOrders = true)
    (hd : l.drop n = o :: r) (hB : (Region.noSelect l.toArray && headB .any l.toArray (r.length + 1) n 0 (Array.replicate l.length false)) = true)
    (hQ : ∀ c a d v w, Q (.panic c) (a.put d v) w → Q (.panic c) a w) (hS : S w.drew)
    (h : wpHead P l.toArray S (fun a' => wpList P l.toArray (tailK P l.toArray Q S r) [o] a' w.drew) (l.take n) a) : (Code.region id l.toArray true).wp P Q a w :=
  wp_region_any hm (wpAny_head n S o r hd hB hQ hS h)

/-! In a round of a range over a function, at the wide fence -/
theorem wpIn_of_wp_round {o : Oper} {a : Act} {w : World} {K : Act → World → Prop} {m t : Nat} (hd : ∀ c, o.op ≠ .defer c) (hh : o.wp P a w K Q) : o.wpIn (Fence.wide.inRound t) m P a w K Q := by
  unfold Oper.wp at hh
  refine ⟨fun _ _ => trivial, ?_⟩
  rw [Oper.semAt_eq _ _ _ hd]
  generalize (execOp a.eval o).run P w = r at *
  cases r with
  | ok n w' =>
    cases n <;> simp only [Oper.upon] at hh <;> simp only [Oper.uponIn] <;>
      first
        | exact hh
        | exact ⟨fun h => (by cases h), CallsIn.inRound t (callsIn_wide.2 hh)⟩
        | exact ⟨fun h => (by cases h), fun c cs _ => let ⟨v, w', r, s⟩ := hh c cs; ⟨v, w', r, stepsIn_wide.2 s⟩⟩
  | halt x w' => cases x <;> simp only [Oper.upon] at hh <;> simp only [Oper.uponIn] <;> exact hh
theorem wpOpIn_of_wpOp {i : Nat} {a : Act} {w : World} {K : Act → World → Prop} {m t : Nat} (hd : ∀ (j : Nat) (o : Oper), ops[j]? = some o → ∀ c, o.op ≠ .defer c) (hl : ¬ LetsOut Q) (hh : wpOp P ops Q i K a w) : wpOpIn (Fence.wide.inRound t) m P ops Q i K a w := by
  unfold wpOp at hh
  unfold wpOpIn
  split
  · rename_i ho; simp only [ho] at hh; exact hh
  · rename_i o ho
    simp only [ho] at hh
    split
    · rename_i hw
      simp only [hw, if_true] at hh
      rcases hh with hh | ⟨_, h⟩
      · exact wpIn_of_wp_round (hd _ _ ho) hh
      · exact absurd h hl
    · rename_i hw
      simp only [hw] at hh
      exact ⟨fun _ _ => trivial, hh⟩
theorem wpAnyIn_of_wpAny {m t : Nat} (hd : ∀ (j : Nat) (o : Oper), ops[j]? = some o → ∀ c, o.op ≠ .defer c) (hl : ¬ LetsOut Q) :
    ∀ (fuel : Nat) (listed : Array Bool) (a : Act) (w : World), wpAny P md ops Q fuel listed a w → wpAnyIn (Fence.wide.inRound t) m P md ops Q fuel listed a w
  | 0, _, _, _, h => h
  | fuel + 1, _, _, _, h => ⟨h.1, fun i hi => wpOpIn_mono (fun a' w' h' => wpAnyIn_of_wpAny hd hl fuel _ a' w' h') (wpOpIn_of_wpOp hd hl (h.2 i hi))⟩
def isDefer (o : Oper) : Bool := match o.op with | .defer _ => true | _ => false
theorem noDefer_spec (h : ops.all (fun o => !isDefer o) = true) (j : Nat) (o : Oper) (ho : ops[j]? = some o) : ∀ c, o.op ≠ .defer c := fun c e => by
  have := Array.all_eq_true_iff_forall_mem.1 h o (Array.mem_of_getElem? ho)
  simp [isDefer, e] at this
theorem wpIn_region_head {id m t : Nat} {a : Act} {w : World} {l : List Oper} (n : Nat) (S : World → Prop) (o : Oper) (r : List Oper) (hm : P.follows .mixedOrders = true) (hno : l.toArray.all (fun o => !isDefer o) = true) (hl : ¬ LetsOut Q)
    (hd : l.drop n = o :: r) (hB : (Region.noSelect l.toArray && headB .any l.toArray (r.length + 1) n 0 (Array.replicate l.length false)) = true)
    (hQ : ∀ c a d v w, Q (.panic c) (a.put d v) w → Q (.panic c) a w) (hS : S w.drew)
    (h : wpHead P l.toArray S (fun a' => wpList P l.toArray (tailK P l.toArray Q S r) [o] a' w.drew) (l.take n) a) : (Code.region id l.toArray true).wpIn (Fence.wide.inRound t) m P Q a w :=
  wpIn_region_any hm (wpAnyIn_of_wpAny (noDefer_spec hno) hl _ _ _ _ (wpAny_head n S o r hd hB hQ hS h))

theorem wpHead_nil {K : Act → Prop} {a : Act} (h : K a) : wpHead P ops S K [] a := h
theorem wpHead_step {K : Act → Prop} {a : Act} {o : Oper} {r : List Oper} {v : Value} (hg : Region.wanted o (yielded ops a.tmps) = true) (hv : ∀ w, S w → (execOp a.eval o).run P w = .ok (.value v) w)
    (h : wpHead P ops S K r (a.put o.dst v)) : wpHead P ops S K (o :: r) a := ⟨v, fun w hS => .inl ⟨hg, .inl (hv w hS)⟩, h⟩
theorem wpHead_call {K : Act → Prop} {a : Act} {o : Oper} {r : List Oper} {v : Value} {f : FuncId} {args : Array Value} (hg : Region.wanted o (yielded ops a.tmps) = true)
    (hv : ∀ w, S w → (execOp a.eval o).run P w = .ok (.enter f args) w) (hc : ∀ w, S w → Calls P f args w fun e w' => e = .returned v ∧ w = w')
    (h : wpHead P ops S K r (a.put o.dst v)) : wpHead P ops S K (o :: r) a :=
  ⟨v, fun w hS => .inl ⟨hg, .inr (.inr ⟨f, args, hv w hS, (hc w hS).mono fun _ _ h => ⟨h.1, h.2.symm⟩⟩)⟩, h⟩
theorem tailK_next {o : Oper} {r : List Oper} {a : Act} {w : World} (h1 : S w) (h2 : wpList P ops (tailK P ops Q S r) [o] a w) : tailK P ops Q S (o :: r) .normal a w := ⟨h1, h2⟩
theorem tailK_last {a : Act} {w : World} (h : Q .normal a w) : tailK P ops Q S [] .normal a w := h
end

end Go.Proofs.YtlbmoafdialigaaGreatDoor
