/- A store of a whole aggregate into a whole block, as one law for the walk. -/
import Derived.Test.YtlbmoafdialigaaGreatDoorBase
import Derived.Deep.MidRow
namespace Go.Proofs.YtlbmoafdialigaaGreatDoor
open Go Go.RowKit Go.MapKept

theorem setCells_upd (b : Nat) : ∀ (vs : List Value) (o : Nat) (w : World), Upd (fun k => k = b) w (w.setCells b o vs)
  | [], _, w => Upd.refl _ w
  | v :: r, o, w => ((Upd.refl (fun k => k = b) w).setCell (p := ⟨b, o, none⟩) (fun _ => rfl) v).then (setCells_upd b r (o + 1) _) (fun _ _ h => h)
theorem setCells_blk (b : Nat) (t : TypeId) : ∀ (vs : List Value) (o : Nat) (w : World) (cs : Array Value), Blk w b t cs → o + vs.length ≤ cs.size →
    Blk (w.setCells b o vs) b t (cs.toList.take o ++ vs ++ cs.toList.drop (o + vs.length)).toArray
  | [], o, w, cs, h, hl => by
    have : (cs.toList.take o ++ [] ++ cs.toList.drop (o + ([] : List Value).length)).toArray = cs := by
      apply Array.ext'
      simp
    rw [this]
    exact h
  | v :: r, o, w, cs, h, hl => by
    have h1 := Blk.set_ h o v
    have h2 := setCells_blk b t r (o + 1) (w.setCell ⟨b, o, none⟩ v) (cs.setIfInBounds o v) h1 (by simp at hl ⊢; omega)
    have e : (((cs.setIfInBounds o v).toList.take (o + 1)) ++ r ++ (cs.setIfInBounds o v).toList.drop (o + 1 + r.length)).toArray = (cs.toList.take o ++ (v :: r) ++ cs.toList.drop (o + (v :: r).length)).toArray := by
      apply Array.ext'
      simp only [List.length_cons] at hl ⊢
      rw [Array.toList_setIfInBounds]
      have hol : o < cs.toList.length := by simp; omega
      rw [List.take_set, List.drop_set_of_lt (by omega), List.take_succ_eq_append_getElem hol]
      have hmin : min o cs.size = o := Nat.min_eq_left (by omega)
      rw [List.set_append_right _ _ (by simp [hmin])]
      simp [List.length_take, hmin, Nat.add_assoc, Nat.add_comm 1]
    rw [e] at h2
    exact h2
theorem setCells_all {b : Nat} {t : TypeId} {w : World} {cs news : Array Value} (h : Blk w b t cs) (hs : cs.size = news.size) : Blk (w.setCells b 0 news.toList) b t news := by
  have := setCells_blk b t news.toList 0 w cs h (by simp [hs])
  have e : (cs.toList.take 0 ++ news.toList ++ cs.toList.drop (0 + news.toList.length)).toArray = news := by
    apply Array.ext'
    simp [← hs]
  rw [e] at this
  exact this

theorem wpList_store_blk {P : Program} {ops : Array Oper} {rest : List Oper} {op : Oper} {a : Act} {w : World} {Q : Exit → Act → World → Prop} (hgd : op.guard = none) (ty : TypeId) (x y : Operand) (ho : op.op = .store ty x y)
    (b : Nat) (t : TypeId) (olds news : Array Value) (hx : a.eval x = .pointer (some ⟨b, 0, none⟩)) (hy : a.eval y = .agg news) (hb : Blk w b t olds) (hs : olds.size = news.size)
    (hi : (P.info? ty).map (·.size) = some news.size) (h1 : news.all (·.oneCell') = true)
    (h : ∀ w', Blk w' b t news → Upd (fun k => k = b) w w' → wpList P ops Q rest a w') (hn : op.dst = none := by rfl) : wpList P ops Q (op :: rest) a w := by
  have hput : a.put op.dst undef = a := by rw [hn]; rfl
  refine wpList_store_mid hgd ty x y ho b 0 news hx hy ?_ hi h1 (by rw [hput]; exact h _ (setCells_all hb hs) (setCells_upd b _ 0 w))
  intro j hj
  rw [Nat.zero_add]
  refine ⟨?_, Blk.frozen hb j⟩
  rw [Blk.cell hb j]
  simp [hs, hj]
end Go.Proofs.YtlbmoafdialigaaGreatDoor
