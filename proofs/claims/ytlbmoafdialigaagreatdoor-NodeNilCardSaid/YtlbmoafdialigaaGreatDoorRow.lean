/- For a law's row: what a cell of the arguments looks like; readings stay over a call that turns nothing old. -/
import Derived.Test.YtlbmoafdialigaaGreatDoorBase
import Derived.Test.YtlbmoafdialigaaGreatDoorProg
import Derived.WideKeyArgs
import Derived.ChangeSame
namespace Go.Proofs.YtlbmoafdialigaaGreatDoor
open Go Go.RowKit Go.MapKept Go.ChangeShapes Go.WideShapes

section
variable {P : Program} {W W' : World} {r : Reach} {base : Nat} {t e : TypeId} {v : Value}
theorem wcell_int {k : IntKind} (h : P.underlying t = some (.int k)) (hc : Cell.okWide P W r base t v) : ∃ n, v = .int k n ∧ k.has n := by
  unfold Cell.okWide at hc
  rw [h] at hc
  cases v <;> simp [Cell.ok, h] at hc
  obtain ⟨rfl, h2⟩ := hc
  exact ⟨_, rfl, h2⟩
theorem wcell_bool (h : P.underlying t = some .bool) (hc : Cell.okWide P W r base t v) : ∃ b, v = .bool b := by
  unfold Cell.okWide at hc
  rw [h] at hc
  cases v <;> simp [Cell.ok, h] at hc
  exact ⟨_, rfl⟩
theorem wcell_slice (h : P.underlying t = some (.slice e)) (hc : Cell.okWide P W r base t v) : ∃ A n c, v = .slice A n c := by
  unfold Cell.okWide at hc
  rw [h] at hc
  cases v <;> simp [Cell.ok, h] at hc
  exact ⟨_, _, _, rfl⟩
theorem wval_int {k : IntKind} (h : P.underlying t = some (.int k)) (hc : Value.okWide P W r base t v) : ∃ n, v = .int k n ∧ k.has n := by
  unfold Value.okWide at hc
  rw [h] at hc
  exact wcell_int h hc

/-- What was read reads so still. -/
theorem trod_still {H : Type} {enc : TypeId × Value → H} (hl : laidOutB P = true) (hr : P.readableRec t = true) (ht : t < P.types.size) {sp : Nat → Bool} {d : DataW H} {ps : List MemPlace}
    (h : DataW.Trod enc P W 0 (fun _ => true) true t v d ps) (hu : Upd (fun _ => False) W W') (hlt : ∀ p ∈ ps, p.block < W.heap.size) (hs : ∀ p ∈ ps, sp p.block = true) : DataW.Trod enc P W' 0 sp true t v d ps := by
  refine WideElems.Trod_stays hl hr ht h (fun p hp => ?_) hs
  have hb := hu.block p.block (hlt p hp) (fun h => h)
  cases p with
  | cell b off => exact World.cell?_of_block (a := ⟨b, off, none⟩) hb
  | map b => exact hb
theorem frozen_upd (hu : Upd (fun _ => False) W W') {a : Addr} (ha : a.block < W.heap.size) : W'.frozen? a = W.frozen? a := by
  unfold World.frozen?
  rw [hu.block a.block ha (fun h => h)]
end
end Go.Proofs.YtlbmoafdialigaaGreatDoor
