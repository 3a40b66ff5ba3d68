/- heads.Names: the names of a volume's files, for numbers below 100; slices.Contains over names. -/
import Derived.Test.YtlbmoafdialigaaGreatDoorStr
import Derived.Test.YtlbmoafdialigaaGreatDoorNames
namespace Go.Proofs.YtlbmoafdialigaaGreatDoor
open Go Go.RowKit Go.MapKept

/-- A text out of bytes. -/
def txt (l : List UInt8) : ByteArray := ⟨l.toArray⟩
theorem txt_append (a b : List UInt8) : txt a ++ txt b = txt (a ++ b) := by
  apply ByteArray.ext
  simp [txt]
def tag (v g : Nat) : List UInt8 := Lib.decDigits v ++ 46 :: Lib.decDigits g
def nmData (v g : Nat) : ByteArray := txt (118 :: tag v g)
def nmCk (v g : Nat) : ByteArray := txt (99 :: tag v g)
def nmMan (v : Nat) : ByteArray := txt (109 :: Lib.decDigits v)
def nmShadow (v : Nat) : ByteArray := txt (109 :: (Lib.decDigits v ++ [46, 116]))

theorem dec_len {v : Nat} (h : v < 100) : 0 < (Lib.decDigits v).length ∧ (Lib.decDigits v).length ≤ 2 := by
  by_cases h1 : v < 10
  · rw [Lib.decDigits_one h1]; simp
  · rw [Lib.decDigits_two h1 h]; simp

theorem itoa_txt (i : Nat) (hi : i < 100) (w : World) : Calls Tryz.prog 92 #[.int .i64 i] w fun e w' => e = .returned (.string (txt (Lib.decDigits i))) ∧ w = w' :=
  (Tryz.strconv_Itoa_small i hi w).mono fun _ _ ⟨h1, h2⟩ => ⟨h1, h2.symm⟩
theorem txt_size (l : List UInt8) : (txt l).size = l.length := by simp [txt, ByteArray.size]

theorem add_txt {P : Program} (x y : List UInt8) (hx : x.length ≤ 1000) (hy : y.length ≤ 1000) (W : World) : (Op.stringOp .add (txt x) (txt y)).run P W = .ok (.string (txt (x ++ y))) W := by
  rw [run_string_add_sum W _ _ (by rw [txt_size, txt_size]; omega), txt_append]

set_option maxRecDepth 100000 in
theorem names_small (v g : Nat) (hv : v < 100) (hg : g < 100) (w : World) :
    Calls Tryz.prog 58 #[.int .i64 v, .int .i64 g] w fun e w' => e = .returned (.tuple #[.string (nmData v g), .string (nmCk v g), .string (nmMan v), .string (nmShadow v)]) ∧ w = w' := by
  have hI1 := Lib.hid (itoa_txt v hv w)
  have hI2 := Lib.hid (itoa_txt g hg w)
  have lv := dec_len hv
  have lg := dec_len hg
  generalize hdv : Lib.decDigits v = dv at *
  have HV := Lib.hid hdv
  generalize hdg : Lib.decDigits g = dg at *
  have HG := Lib.hid hdg
  clear hdv hdg
  have h1 : ∀ W, (Op.stringOp .add (txt dv) ⟨#[46]⟩).run Tryz.prog W = .ok (.string (txt (dv ++ [46]))) W := fun W => add_txt dv [46] (by omega) (by simp) W
  have h2 : ∀ W, (Op.stringOp .add (txt (dv ++ [46])) (txt dg)).run Tryz.prog W = .ok (.string (txt (dv ++ 46 :: dg))) W := fun W => by rw [add_txt _ _ (by simp; omega) (by omega) W]; simp
  have h3 : ∀ W, (Op.stringOp .add ⟨#[118]⟩ (txt (dv ++ 46 :: dg))).run Tryz.prog W = .ok (.string (txt (118 :: (dv ++ 46 :: dg)))) W := fun W => add_txt [118] _ (by simp) (by simp; omega) W
  have h4 : ∀ W, (Op.stringOp .add ⟨#[99]⟩ (txt (dv ++ 46 :: dg))).run Tryz.prog W = .ok (.string (txt (99 :: (dv ++ 46 :: dg)))) W := fun W => add_txt [99] _ (by simp) (by simp; omega) W
  have h5 : ∀ W, (Op.stringOp .add ⟨#[109]⟩ (txt dv)).run Tryz.prog W = .ok (.string (txt (109 :: dv))) W := fun W => add_txt [109] _ (by simp) (by omega) W
  have h6 : ∀ W, (Op.stringOp .add (txt (109 :: dv)) ⟨#[46, 116]⟩).run Tryz.prog W = .ok (.string (txt (109 :: (dv ++ [46, 116])))) W := fun W => add_txt (109 :: dv) [46, 116] (by simp; omega) (by simp) W
  go_enter Tryz.func58, Tryz.ntmps58
  go_wp2_with fail
  refine (hI1.out).mono ?_
  rintro e w' ⟨rfl, rfl⟩
  go_wp2_with fail
  refine (hI2.out).mono ?_
  rintro e w' ⟨rfl, rfl⟩
  go_wp2_with fail
  refine bodyPost_ret (v := .tuple #[.string (txt (118 :: (dv ++ 46 :: dg))), .string (txt (99 :: (dv ++ 46 :: dg))), .string (txt (109 :: dv)), .string (txt (109 :: (dv ++ [46, 116])))]) (by simp [results, Tryz.results58, go_sem]) rfl ⟨?_, rfl⟩
  unfold nmData nmCk nmMan nmShadow tag
  rw [HV.out, HG.out]

/-- A name that a disk takes. -/
theorem dec_ok {v : Nat} (h : v < 100) : ∀ c ∈ Lib.decDigits v, 48 ≤ c.toNat ∧ c.toNat ≤ 57 := by
  have key : ∀ v : Fin 100, ∀ c ∈ Lib.decDigits v.val, 48 ≤ c.toNat ∧ c.toNat ≤ 57 := by decide +kernel
  exact key ⟨v, h⟩
theorem nameOk_txt {l : List UInt8} (h0 : 0 < l.length) (h1 : l.length ≤ 32) (h2 : ∀ c ∈ l, okByte c) : NameOk (txt l) := by
  refine ⟨by rw [txt_size]; exact h0, by rw [txt_size]; exact h1, fun i hi => ?_⟩
  refine h2 _ ?_
  have : (txt l)[i] = l[i]'(by rw [txt_size] at hi; exact hi) := by simp [txt]; rfl
  rw [this]
  exact List.getElem_mem _
theorem nmData_ok {v g : Nat} (hv : v < 100) (hg : g < 100) : NameOk (nmData v g) := by
  have a := dec_len hv
  have b := dec_len hg
  refine nameOk_txt (by simp) (by simp [tag]; omega) (fun c hc => ?_)
  simp only [tag, List.mem_cons, List.mem_append] at hc
  rcases hc with rfl | hc | rfl | hc
  · left; decide
  · right; left; exact dec_ok hv c hc
  · right; right; decide
  · right; left; exact dec_ok hg c hc
theorem nmMan_ok {v : Nat} (hv : v < 100) : NameOk (nmMan v) := by
  have a := dec_len hv
  refine nameOk_txt (by simp) (by simp; omega) (fun c hc => ?_)
  simp only [List.mem_cons] at hc
  rcases hc with rfl | hc
  · left; decide
  · right; left; exact dec_ok hv c hc
theorem nmShadow_ok {v : Nat} (hv : v < 100) : NameOk (nmShadow v) := by
  have a := dec_len hv
  refine nameOk_txt (by simp) (by simp; omega) (fun c hc => ?_)
  simp only [List.mem_cons, List.mem_append, List.not_mem_nil, or_false] at hc
  rcases hc with rfl | hc | rfl | rfl
  · left; decide
  · right; left; exact dec_ok hv c hc
  · right; right; decide
  · left; decide
end Go.Proofs.YtlbmoafdialigaaGreatDoor
