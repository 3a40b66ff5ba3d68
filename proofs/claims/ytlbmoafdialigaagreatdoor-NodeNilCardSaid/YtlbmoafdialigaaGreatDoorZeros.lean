/- append(b, make([]byte, k)...) onto bytes that are ours. -/
import Derived.Test.YtlbmoafdialigaaGreatDoorSum
import Derived.Lib.AppendZerosOnto
import Derived.Laws.AppendOwnNone
namespace Go.Proofs.YtlbmoafdialigaaGreatDoor
open Go Go.RowKit Go.MapKept

theorem zeroCells_byte (k : Nat) : (Builtin.zeroCells (Value.int .u8 0).cells k) = ((List.replicate k (Value.int .u8 0)).toArray) := by
  apply Array.ext
  · simp [Builtin.zeroCells, Value.cells]
  · intro i h1 h2
    simp [Builtin.zeroCells, Value.cells, Nat.mod_one]
theorem bytesV_zeros (k : Nat) : bytesV (List.replicate k 0) = List.replicate k (Value.int .u8 0) := by simp [bytesV]

theorem run_zeros {w : World} {g n cap k : Nat} {l : List UInt8} (ty : TypeId) (h : Bytes w (some ⟨g, 0, none⟩) n cap l) (hb : n + k ≤ 1000000000) :
    ∃ g' c' w', (Builtin.append_ #[24, 3] ty #[.slice (some ⟨g, 0, none⟩) n cap, .int .i64 k]).run Tryz.prog w = .ok (.slice (some ⟨g', 0, none⟩) (n + k) c') w' ∧
      Bytes w' (some ⟨g', 0, none⟩) (n + k) c' (l ++ List.replicate k 0) ∧ w.grownBy w' (some g) ∧ (g' = g ∨ g' = w.heap.size) := by
  obtain ⟨i0, hi, hz0, hz1, hz2⟩ := info_parts bytes_info
  have ht := Tryz.underlying24
  have htn := Tryz.underlying3
  have hlen := h.len
  rcases h.2 with ⟨h', _⟩ | ⟨g', cap', cur, h', hbg, hg, hnc, hcm, hcs, htake⟩
  · cases h'
  injection h' with e1 e2 e3
  injection e1 with e1
  injection e1 with e1
  subst e1; subst e3
  rw [Nat.mul_one] at htake hcs
  have hw : IntKind.i64.wrap (k : Int) = k := IntWalk.i64_in _ (by omega)
  have hneg : ¬ ((k : Int) < 0) := by omega
  have h48i : ¬ (281474976710656 < (k : Int) * (i0.bytes : Int)) := by rw [hz2]; omega
  by_cases hroom : n + k ≤ cap
  · by_cases hk : k = 0
    · subst hk
      have hw0 : IntKind.i64.wrap 0 = 0 := by decide
      refine ⟨g, cap, w, ?_, by simpa using h, ⟨rfl, rfl, rfl, Nat.le_refl _, fun _ _ _ => rfl⟩, .inl rfl⟩
      simp [Builtin.append_, run_underlying ht, run_underlying htn, sizeOf, typeInfo, hi, asInt, asIntOf, hw0, hz2, hnc, storeCells]
    · have hst := run_storeCells_at Tryz.prog g n 5 (List.replicate k (Value.int .u8 0)) 0 cur w hg (by simp; omega) (fun u hu => by rw [List.eq_of_mem_replicate hu]; rfl)
      simp only [Nat.add_zero] at hst
      refine ⟨g, cap, w.setRow g (cur.toList.take n ++ List.replicate k (Value.int .u8 0) ++ cur.toList.drop (n + k)).toArray, ?_, ?_, ⟨rfl, rfl, rfl, by simp, fun j _ hj => setRow_other w g j _ (fun e => hj (by rw [e]))⟩, .inl rfl⟩
      · have hns : ¬ (k * i0.size = 0) := by rw [hz1]; omega
        simp [Builtin.append_, run_underlying ht, run_underlying htn, sizeOf, typeInfo, zeroValue, hi, hz0, asInt, asIntOf, hw, hneg, hz1, hz2, hroom, Addr.add_lit, zeroCells_byte, hk]
        rw [if_neg (by omega)]
        simp [hst]
      · unfold Bytes
        refine ⟨by rw [bytesV_len]; simp; omega, .inr ⟨g, cap, _, rfl, hbg, setRow_heap w g cur _ 5 _ hg, hroom, hcm, ?_, ?_⟩⟩
        · simp only [List.size_toArray, List.length_append, List.length_take, List.length_drop, Array.length_toList, List.length_replicate]
          omega
        · rw [htake, bytesV_append, bytesV_zeros, Nat.mul_one]
          rw [List.take_left' (by rw [List.length_append, bytesV_len, List.length_replicate]; omega)]
  · have hk : 0 < k := by omega
    have holds : ∀ j u, (bytesV l)[j]? = some u → w.drew.cell? ((⟨g, 0, none⟩ : Addr).add j) = some u := World.ownsRow.cells h (g := g) rfl
    have hold := run_firstCells_some (P := Tryz.prog) w.drew i0.size n ⟨g, 0, none⟩ n cap (bytesV l) (by rw [bytesV_len, hz1]; omega) holds
    have hr := Lib.run_append_grow_zeros w 24 3 ty 5 i0 (.int .u8 0) .i64 _ ht htn hi hz0 (some ⟨g, 0, none⟩) n cap (bytesV l) hold k hk (by omega) (by omega) (by omega) (by rw [hz2]; omega) (by rw [hz2]; exact growslice_fits (bytes := 1) (by omega) (by omega))
    refine ⟨w.heap.size, _, _, hr, ?_, ⟨rfl, rfl, rfl, by simp, fun j hj _ => heap_alloc_old w.drew _ hj⟩, .inr rfl⟩
    have hge := grownCap_ge w (n + k) cap 5
    have hcm2 : grownCap w (n + k) cap 5 ≤ maxLen := grownCap_le_maxLen w (n + k) cap _ (by unfold maxLen; omega)
    unfold Bytes
    refine ⟨by rw [bytesV_len]; simp; omega, .inr ⟨w.heap.size, _, _, rfl, Nat.zero_le _, heap_alloc_new w.drew _, hge, hcm2, ?_, ?_⟩⟩
    · simp only [Array.size_append, List.size_toArray, size_zeroCells, bytesV_len, Value.cells]
      simp
      omega
    · rw [zeroCells_byte, bytesV_append, bytesV_zeros, Nat.mul_one]
      simp only [Array.toList_append, List.append_assoc]
      rw [← List.append_assoc]
      rw [List.take_left' (by rw [List.length_append, bytesV_len]; simp; omega)]

theorem run_data {w : World} {g m cap n c : Nat} {A : Option Addr} {l0 l : List UInt8} (ty : TypeId) (h : Bytes w (some ⟨g, 0, none⟩) m cap l0) (h0 : 0 < m) (hs : Sees w A n l) (hA : A = none → c = 0) (hb : m + n ≤ 1000000000) :
    ∃ g' c' w', (Builtin.append_ #[24, 24] ty #[.slice (some ⟨g, 0, none⟩) m cap, .slice A n c]).run Tryz.prog w = .ok (.slice (some ⟨g', 0, none⟩) (m + n) c') w' ∧
      Bytes w' (some ⟨g', 0, none⟩) (m + n) c' (l0 ++ l) ∧ w.grownBy w' (some g) ∧ (g' = g ∨ g' = w.heap.size) := by
  obtain ⟨i0, hi, hz0, hz1, hz2⟩ := info_parts bytes_info
  have hlen := hs.1
  cases A with
  | none =>
    have hc : c = 0 := hA rfl
    have hn : n = 0 := by
      rcases hs.2 with h | ⟨b, off, e, _⟩
      · exact h
      · cases e
    subst hc; subst hn
    have hl : l = [] := List.eq_nil_of_length_eq_zero hlen
    subst hl
    exact ⟨g, cap, w, run_append_owned_none (P := Tryz.prog) (w := w) 0 24 ty 5 i0 1 Tryz.underlying24 hi _ m _ h, by simpa using h, ⟨rfl, rfl, rfl, Nat.le_refl _, fun _ _ _ => rfl⟩, .inl rfl⟩
  | some ad =>
    have hnews : ∀ j u, (bytesV l)[j]? = some u → w.cell? (ad.add j) = some u := fun j u hj => by
      rcases hs.2 with h | ⟨b, off, e, hc⟩
      · have hl : l = [] := List.eq_nil_of_length_eq_zero (by omega)
        subst hl
        simp [bytesV] at hj
      · obtain rfl : ad = ⟨b, off, none⟩ := Option.some.inj e
        have hjl : j < l.length := by
          have := (List.getElem?_eq_some_iff.1 hj).1
          rwa [bytesV_len] at this
        have := hc j hjl
        rw [Addr.add_lit, this]
        simp [bytesV, hjl] at hj
        rw [hj]
    obtain ⟨v', w', hr, ho, hg, _, hat⟩ := run_append_own_at (P := Tryz.prog) w 0 24 ty 5 i0 _ 1 1 Tryz.underlying24 hi hz0 hz1 hz2 rfl (by decide) _ m (bytesV l0) h ad n c (bytesV l) (by rw [bytesV_len]; omega) hnews (bytesV_one _) (by unfold maxLen; omega) (by omega) (Nat.zero_le _)
    obtain ⟨g', c', rfl, _, _⟩ := own_form ho (by omega)
    refine ⟨g', c', w', hr, by unfold Bytes; rw [bytesV_append]; exact ho, hg, ?_⟩
    rcases hat with hat | hat
    · exact .inl (by injection hat)
    · exact .inr (by injection hat)
end Go.Proofs.YtlbmoafdialigaaGreatDoor
