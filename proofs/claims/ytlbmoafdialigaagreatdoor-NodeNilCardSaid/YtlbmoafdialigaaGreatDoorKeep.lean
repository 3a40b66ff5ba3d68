/- What the deeds of a disk leave alone, told by the blocks' types. -/
import Derived.Test.YtlbmoafdialigaaGreatDoorMaps
import Derived.Test.YtlbmoafdialigaaGreatDoorDisk5
namespace Go.Proofs.YtlbmoafdialigaaGreatDoor
open Go Go.RowKit Go.MapKept

theorem own_own_ne {w : World} {base base' : Nat} {e e' : TypeId} {size size' n n' : Nat} {v v' : Value} {xs xs' : List Value} (h : w.ownsRow base e size v n xs) (h' : w.ownsRow base' e' size' v' n' xs') (hne : e ≠ e')
    {k : Nat} (hk : v.ownBlock = some k) : v'.ownBlock ≠ some k := by
  intro hk'
  rcases h.2 with ⟨rfl, _⟩ | ⟨g, cap, cur, rfl, _, hh, _⟩
  · simp [Value.ownBlock] at hk
  · rcases h'.2 with ⟨rfl, _⟩ | ⟨g', cap', cur', rfl, _, hh', _⟩
    · simp [Value.ownBlock] at hk'
    · simp [Value.ownBlock] at hk hk'
      subst hk; subst hk'
      rw [hh] at hh'
      injection hh' with hh'
      injection hh' with _ ht
      exact hne ht

/-- The blocks that a deed of names may turn. -/
def SNames (d mn : Nat) (dv : Value) : Nat → Prop := fun k => k = d ∨ k = mn ∨ dv.ownBlock = some k
/-- The blocks that a deed of a file may turn. -/
def SFile (d f : Nat) (bv : Value) : Nat → Prop := fun k => k = d ∨ k = f ∨ bv.ownBlock = some k

section
variable {w w' : World} {d mn ml g f : Nat} {cap nx ar : Int} {dv bv : Value} {t : TypeId} {cs : Array Value} {n m : Nat} {dxs bxs : List Value} {es : Array MapEntry} {clk : Nat}

theorem SNames.notBlk (hb : Blk w g t cs) (hd : DiskB w d cap nx mn ml dv ar) (hm : MBlk w mn es clk) (hdv : w.ownsRow 0 151 1 dv n dxs) (h1 : t ≠ 125) (h2 : t ≠ 151) : ¬ SNames d mn dv g := by
  rintro (e | e | e)
  · exact Blk.ne_ hb hd h1 e
  · exact Blk.neM hb hm e
  · exact own_blk_ne hdv hb (Ne.symm h2) e
theorem SNames.notMap {g : Nat} {es' : Array MapEntry} {clk' : Nat} (hb : MBlk w g es' clk') (hd : DiskB w d cap nx mn ml dv ar) (hdv : w.ownsRow 0 151 1 dv n dxs) (hne : g ≠ mn) : ¬ SNames d mn dv g := by
  rintro (e | e | e)
  · exact Blk.neM hd hb e.symm
  · exact hne e
  · exact own_mblk_ne hdv hb e
theorem SNames.notRow {v : Value} {e : TypeId} {size k : Nat} {xs : List Value} (hb : w.ownsRow 0 e size v k xs) (hd : DiskB w d cap nx mn ml dv ar) (hm : MBlk w mn es clk) (hdv : w.ownsRow 0 151 1 dv n dxs) (h1 : e ≠ 125) (h2 : e ≠ 151) :
    ∀ j, v.ownBlock = some j → ¬ SNames d mn dv j := by
  rintro j hj (e | e | e)
  · exact own_blk_ne hb hd h1 (by rw [hj, e])
  · exact own_mblk_ne hb hm (by rw [hj, e])
  · exact own_own_ne hb hdv h2 hj e
theorem SFile.notBlk {num l : Int} {A : Option Addr} {bn c : Nat} (hb : Blk w g t cs) (hd : DiskB w d cap nx mn ml dv ar) (hf : FileB w f num A bn c l) (hbv : w.ownsRow 0 5 1 bv m bxs) (h1 : t ≠ 125) (h2 : t ≠ 156) (h3 : t ≠ 5) : ¬ SFile d f bv g := by
  rintro (e | e | e)
  · exact Blk.ne_ hb hd h1 e
  · exact Blk.ne_ hb hf h2 e
  · exact own_blk_ne hbv hb (Ne.symm h3) e
theorem SFile.notMap {num l : Int} {A : Option Addr} {bn c : Nat} {g : Nat} {es' : Array MapEntry} {clk' : Nat} (hb : MBlk w g es' clk') (hd : DiskB w d cap nx mn ml dv ar) (hf : FileB w f num A bn c l) (hbv : w.ownsRow 0 5 1 bv m bxs) : ¬ SFile d f bv g := by
  rintro (e | e | e)
  · exact Blk.neM hd hb e.symm
  · exact Blk.neM hf hb e.symm
  · exact own_mblk_ne hbv hb e
theorem SFile.notRow {num l : Int} {A : Option Addr} {bn c : Nat} {v : Value} {e : TypeId} {size k : Nat} {xs : List Value} (hb : w.ownsRow 0 e size v k xs) (hd : DiskB w d cap nx mn ml dv ar) (hf : FileB w f num A bn c l) (hbv : w.ownsRow 0 5 1 bv m bxs) (h1 : e ≠ 125) (h2 : e ≠ 156) (h3 : e ≠ 5) :
    ∀ j, v.ownBlock = some j → ¬ SFile d f bv j := by
  rintro j hj (e | e | e)
  · exact own_blk_ne hb hd h1 (by rw [hj, e])
  · exact own_blk_ne hb hf h2 (by rw [hj, e])
  · exact own_own_ne hb hbv h3 hj e
theorem SFile.notFile {num l num' l' : Int} {A A' : Option Addr} {bn c bn' c' : Nat} (hb : FileB w g num' A' bn' c' l') (hd : DiskB w d cap nx mn ml dv ar) (hbv : w.ownsRow 0 5 1 bv m bxs) (hne : g ≠ f) : ¬ SFile d f bv g := by
  rintro (e | e | e)
  · exact Blk.ne_ hb hd (by decide) e
  · exact hne e
  · exact own_blk_ne hbv hb (by decide) e
end
end Go.Proofs.YtlbmoafdialigaaGreatDoor
