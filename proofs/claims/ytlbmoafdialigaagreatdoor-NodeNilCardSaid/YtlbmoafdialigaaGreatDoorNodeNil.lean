/- law17.NodeNil: whatever the message and the room, the call returns true and each argument reads behind it as before. Conditions: the listed package variables (errors.errorType and three tables) hold what the program's text lays, which the given tie shows. -/
import Derived.Test.YtlbmoafdialigaaGreatDoorCards
import Derived.Test.YtlbmoafdialigaaGreatDoorTie
import Derived.Test.YtlbmoafdialigaaGreatDoorRow
import Derived.Test.YtlbmoafdialigaaGreatDoorLaw17b
import Derived.ProofKit
import Derived.OpenShut
import Derived.LaidLaws
import Derived.LaidHandle
import Derived.Deep.DeepHandedRow
import Derived.Lib.LaidTab
namespace Go.Proofs.YtlbmoafdialigaaGreatDoor.nodeNil
open Go.ChangeShapes Go.WideShapes Go.ChangeAt Go.RowKit Go.Proofs.YtlbmoafdialigaaGreatDoor

theorem own : ownKnob Tryz.prog.godebug = none := by kernel_rfl
theorem et : Tryz.prog.globalNamed "errors.errorType" = some 0 := by kernel_rfl
theorem rtT : (Tryz.prog.cutTypes.find? (·.1 == "internal/reflectlite.rtype")).map (·.2) = some 202 := by kernel_rfl
theorem typesN : Tryz.prog.types.size = Tryz.prog.types.size := rfl
theorem oneRow : ((List.range Tryz.prog.types.size).filter fun t => Tryz.prog.rowNamed t [101, 114, 114, 111, 114]) = [36] := by kernel_rfl

/-- WHAT THE ROW's LIST GIVES: the variable's one cell. -/
theorem handle_of_laid {W : World} (h : laidMetH Tryz.prog Rows.nodeNilRow.laid W) : W.cell? ⟨0, 0, none⟩ = some (rt 36) := by
  have h' : laidMet Tryz.prog (Rows.nodeNilRow.laid.filter fun x => x.2.handleName?.isNone) W ∧ handlesMet Tryz.prog [("errors.errorType", Rows.laid_errors_errorType)] W := h
  obtain ⟨name, u, ty, e1, e2, e3, e4, e5⟩ := h'.2 _ (List.mem_singleton.2 rfl)
  have en : name = [101, 114, 114, 111, 114] := (Option.some.inj e1).symm
  subst en
  obtain rfl := Option.some.inj (rtT.symm.trans e2)
  have hm : ty ∈ (List.range Tryz.prog.types.size).filter fun t => Tryz.prog.rowNamed t [101, 114, 114, 111, 114] := List.mem_filter.2 ⟨List.mem_range.2 e3, e4⟩
  rw [oneRow] at hm
  obtain rfl := List.mem_singleton.1 hm
  have hh : typeHandle Tryz.prog 36 = .pointer (some ⟨5, 36, none⟩) := by kernel_rfl
  rw [hh] at e5
  simpa [rt] using World.var?_cell et e5 0

def tys : List TypeId := [3, 3, 3, 3, 3, 22, 3, 4, 22, 23, 4, 24]
theorem tys_of : Tryz.prog.cellTypes Tryz.prog.depth 28 = some tys := by kernel_rfl
theorem cellsMsg : Tryz.prog.cellsOf 28 = 12 := by kernel_rfl

set_option maxRecDepth 100000 in
/-- The message as it comes in. -/
theorem msg_form {W : World} {base : Nat} {v : Value} (h : Value.okWide Tryz.prog W .any base 28 v) :
    ∃ (a0 a1 a2 a3 a4 a5 a6 : Int) (a7 : Bool) (a8 a9 : Int) (a10 : Bool) (A : Option Addr) (n c : Nat), v = .agg #[.int .i64 a0, .int .i64 a1, .int .i64 a2, .int .i64 a3, .int .i64 a4, .int .u64 a5, .int .i64 a6, .bool a7, .int .u64 a8, .int .u32 a9, .bool a10, .slice A n c] := by
  simp only [Value.okWide, Tryz.underlying28] at h
  obtain ⟨cs, rfl, hs, ts, hts, _, hc⟩ := h
  rw [cellsMsg] at hs
  rw [tys_of] at hts
  cases hts
  have cell : ∀ (i : Nat) (t : TypeId) (hi : i < cs.size), tys[i % 12]? = some t → Cell.okWide Tryz.prog W .any base t cs[i] := fun i t hi ht => by
    obtain ⟨u, hu, h2⟩ := hc i cs[i] (by simp)
    have e : tys.length = 12 := rfl
    rw [e, ht] at hu
    cases hu
    exact h2
  obtain ⟨a0, e0, _⟩ := wcell_int Tryz.underlying3 (cell 0 _ (by omega) rfl)
  obtain ⟨a1, e1, _⟩ := wcell_int Tryz.underlying3 (cell 1 _ (by omega) rfl)
  obtain ⟨a2, e2, _⟩ := wcell_int Tryz.underlying3 (cell 2 _ (by omega) rfl)
  obtain ⟨a3, e3, _⟩ := wcell_int Tryz.underlying3 (cell 3 _ (by omega) rfl)
  obtain ⟨a4, e4, _⟩ := wcell_int Tryz.underlying3 (cell 4 _ (by omega) rfl)
  obtain ⟨a5, e5, _⟩ := wcell_int Tryz.underlying22 (cell 5 _ (by omega) rfl)
  obtain ⟨a6, e6, _⟩ := wcell_int Tryz.underlying3 (cell 6 _ (by omega) rfl)
  obtain ⟨a7, e7⟩ := wcell_bool Tryz.underlying4 (cell 7 _ (by omega) rfl)
  obtain ⟨a8, e8, _⟩ := wcell_int Tryz.underlying22 (cell 8 _ (by omega) rfl)
  obtain ⟨a9, e9, _⟩ := wcell_int Tryz.underlying23 (cell 9 _ (by omega) rfl)
  obtain ⟨a10, e10⟩ := wcell_bool Tryz.underlying4 (cell 10 _ (by omega) rfl)
  obtain ⟨A, n, c, e11⟩ := wcell_slice Tryz.underlying24 (cell 11 _ (by omega) rfl)
  refine ⟨a0, a1, a2, a3, a4, a5, a6, a7, a8, a9, a10, A, n, c, ?_⟩
  congr 1
  refine Array.ext (by simpa using hs) fun i h1 h2 => ?_
  have hi : i < 12 := by omega
  match i, hi with
  | 0, _ => exact e0
  | 1, _ => exact e1
  | 2, _ => exact e2
  | 3, _ => exact e3
  | 4, _ => exact e4
  | 5, _ => exact e5
  | 6, _ => exact e6
  | 7, _ => exact e7
  | 8, _ => exact e8
  | 9, _ => exact e9
  | 10, _ => exact e10
  | 11, _ => exact e11

set_option maxRecDepth 100000 in
/-- WHAT THE WALK GIVES, FOR EVERY ARGUMENT AND EVERY WORLD THAT HOLDS THE VARIABLE. -/
theorem contract (H : Type) (enc : TypeId × Value → H) (W : World) (base : Nat) (args : Array Value) (ds gs : List (DataW H)) (before : List MemPlace)
    (hval : ∀ (j : Nat) t v, Tryz.f3.params[j]? = some t → args[j]? = some v → Value.okWide Tryz.prog W .any base t v)
    (hW : DataW.Whole enc Tryz.prog Tryz.f3.params.toList Rows.nodeNilSpec.vars false W args.toList ds gs before) (hL : laidMetH Tryz.prog Rows.nodeNilRow.laid W) :
    Calls Tryz.prog 3 args W fun e W' => ∃ v, e = .returned v ∧ Rows.nodeNilSpec.post enc Tryz.prog Tryz.f3 false true false false W args v W' := by
  have hW' := hW
  have hlt := hW.lt
  obtain ⟨p, q, hA0, hV, rfl, hfz, hnd⟩ := hW
  have hA : DataW.TrodAll enc Tryz.prog W 0 (fun _ => true) true Tryz.f3.params.toList args.toList ds p := hA0
  rw [Tryz.params3] at hA hval
  obtain ⟨v0, vs0, d0, ds0, p0, q0, hargs, rfl, rfl, h0, r0⟩ := trodAll_cons hA
  obtain ⟨v1, vs1, d1, ds1, p1, q1, hargs1, rfl, rfl, h1, r1⟩ := trodAll_cons r0
  obtain ⟨rfl, rfl, rfl⟩ := trodAll_nil r1
  subst hargs1
  obtain rfl : args = #[v0, v1] := by cases args; simp_all
  obtain ⟨rfl, rfl⟩ := trodVars_none hV
  obtain ⟨a0, a1, a2, a3, a4, a5, a6, a7, a8, a9, a10, A, n, c, rfl⟩ := msg_form (hval 0 28 v0 rfl rfl)
  obtain ⟨z, rfl, hz⟩ := wval_int Tryz.underlying29 (hval 1 29 v1 rfl rfl)
  clear hA0 hA r0 r1
  have hz' : 0 ≤ z ∧ z ≤ 65535 := by
    unfold IntKind.has at hz
    simp [IntKind.min, IntKind.max, IntKind.signed, IntKind.bits] at hz
    omega
  obtain ⟨r, rfl⟩ : ∃ r : Nat, z = r := ⟨z.toNat, by omega⟩
  have walk : Calls Tryz.prog 3 #[.agg #[.int .i64 a0, .int .i64 a1, .int .i64 a2, .int .i64 a3, .int .i64 a4, .int .u64 a5, .int .i64 a6, .bool a7, .int .u64 a8, .int .u32 a9, .bool a10, .slice A n c], .int .u16 r] W fun e w' => e = .returned (.bool true) ∧ Upd (fun _ => False) W w' := by
    by_cases hn : 300 < n
    · exact nodeNil_long a0 a1 a2 a3 a4 a5 a6 a7 a8 a9 a10 A n c r hn W
    · exact nodeNil_short a0 a1 a2 a3 a4 a5 a6 a7 a8 a9 a10 A n c r (by omega) (by omega) W (handle_of_laid hL)
  refine walk.mono fun e W' ⟨he, hu⟩ => ?_
  subst he
  refine ⟨_, rfl, _, _, _, [], p0 ++ p1, [], hW', ?_, ?_, ?_, hu.keptBut _, fun h => by cases h⟩
  · exact trodAll_cons_mk (shut_bool Tryz.underlying4 true) trodAll_mk0
  · refine trodAll_cons_mk (trod_still (by kernel_rfl) (by kernel_rfl) (of_decide_eq_true (by kernel_rfl)) h0 hu (fun x hx => hlt x (by simp [hx])) (fun x hx => by simpa using hlt x (by simp [hx]))) ?_
    have := trodAll_cons_mk (trod_still (by kernel_rfl) (by kernel_rfl) (of_decide_eq_true (by kernel_rfl)) h1 hu (fun x hx => hlt x (by simp [hx])) (fun x hx => by simpa using hlt x (by simp [hx]))) (trodAll_mk0 (enc := enc) (P := Tryz.prog) (w := W') (base := 0) (spare := fun b => decide (b < W.heap.size)) (held := true))
    simpa using this
  · rfl

/-- The numbers that a listed table reads as. -/
def nums : DataW Unit → List Value
  | .agg l => l.map fun | .lit (.int k n) => .int k n | _ => .nilFunc
  | _ => []
noncomputable def lay (h : Array Obj) (g : Nat) (cs : Array Value) : Array Obj := h.modify g fun
  | .cells _ t frozen => .cells cs t frozen
  | o => o
/-- A world that meets the condition: the settled one, the listed variables' cells laid. -/
noncomputable def laidWorld (os : Os) : World :=
  let w0 := World.holding Tryz.prog os ⟨#[], #[], []⟩
  { w0 with heap := lay (lay (lay (lay w0.heap 0 #[rt 36]) 1 (nums Rows.laid_internal_strconv_uint64pow10).toArray) 3 (nums Rows.laid_math_bits_deBruijn32tab).toArray) 4 (nums Rows.laid_math_bits_deBruijn64tab).toArray }
noncomputable def inArgs : Array Value := #[.agg #[.int .i64 0, .int .i64 0, .int .i64 0, .int .i64 0, .int .i64 0, .int .u64 0, .int .i64 0, .bool false, .int .u64 0, .int .u32 0, .bool false, .slice none 0 0], .int .u16 0]
theorem laid_met (os : Os) (args : Array Value) : laidMetH Tryz.prog Rows.nodeNilRow.laid ((laidWorld os).forCall (fun _ _ => 0) ⟨#[], args, []⟩).memory :=
  laidMetH_of_parts (laidMet_of_run' 8 (by kernel_rfl) (by kernel_rfl)) (by kernel_rfl)
def inData {H : Type} : List (DataW H) := [.agg [.lit (.int .i64 0), .lit (.int .i64 0), .lit (.int .i64 0), .lit (.int .i64 0), .lit (.int .i64 0), .lit (.int .u64 0), .lit (.int .i64 0), .lit (.bool false), .agg [.lit (.int .u64 0), .lit (.int .u32 0), .lit (.bool false), .nil]], .lit (.int .u16 0)]
theorem reads (os : Os) {H : Type} (enc : TypeId × Value → H) : ∃ places, DataW.whole enc Tryz.prog ((laidWorld os).forCall (fun _ _ => 0) ⟨#[], inArgs, []⟩).memory Tryz.f3.params.toList Rows.nodeNilSpec.vars false inArgs.toList 8 = some (inData, [], places) :=
  ⟨[], by kernel_rfl⟩

set_option maxRecDepth 100000 in
theorem lifted (os : Os) (started : os.Started) (H : Type) (enc : TypeId × Value → H) (F : Stop.Interp) :
    ReturnsInHanded {} Tryz.checked os 3 .any ((OpenSpec.ofChange Rows.nodeNilSpec).preRow enc Tryz.prog Tryz.f3 Rows.nodeNilRow.domain false Rows.nodeNilRow.laid) (((OpenSpec.ofChange Rows.nodeNilSpec).at F).post enc Tryz.prog Tryz.f3 false true false false) := by
  obtain ⟨places, hx⟩ := reads os enc
  refine returnsInHanded_of_row (C := Tryz.checked) (s := OpenSpec.ofChange Rows.nodeNilSpec) own started (by kernel_rfl) Tryz.func3
    (witness_row_at (enc := enc) (C := Tryz.checked) false (laidWorld os) inArgs rfl (by kernel_rfl) (by kernel_rfl) (by kernel_rfl)
      (OpenSpec.preRow_of_cond 8 hx (by kernel_rfl) (fun k hk => by cases hk) (by kernel_rfl) (laid_met os _))) ?_
  intro W base args ds gs before hval hW _ _ _ hL _ _
  exact contract H enc W base args ds gs before hval hW hL

theorem said : Rows.NodeNilSaid :=
  OpenClaim.holds_of_cond 3 Tryz.f3 rfl rfl rfl rfl rfl rfl rfl ⟨rfl, rfl, rfl, rfl, rfl⟩ rfl rfl rfl rfl rfl (by kernel_rfl) Tryz.func3 (by kernel_rfl)
    (of_decide_eq_true (by kernel_rfl)) (by unfold Func.isWrapper; first | (rw [if_pos (by decide +kernel)]; kernel_rfl) | (rw [if_neg (by decide +kernel)]; exact ⟨rfl, rfl⟩))
    (fun os started H enc _ F => by rw [OpenClaim.pre_eq_preRow]; exact lifted os started H enc F)

/-- No parameter wants a stand-in; the program's own looks are off: what the card asks. -/
theorem plain (f : FuncId) (fn : Func) (hf : Tryz.pinned.checked.prog.funcNamed "corncrib/corncriblaw17.NodeNil" = some f) (hfn : Tryz.pinned.checked.prog.funcs[f]? = some fn) :
    true = Tryz.pinned.checked.prog.looks [] ∧ ∀ (j : Nat) t, fn.params[j]? = some t → Tryz.pinned.checked.prog.wantsStandIn t = false := by
  obtain rfl : f = 3 := Option.some.inj ((show Tryz.prog.funcNamed "corncrib/corncriblaw17.NodeNil" = some 3 by kernel_rfl).symm.trans hf) |>.symm
  obtain rfl : fn = Tryz.f3 := (Option.some.inj (Tryz.func3.symm.trans hfn)).symm
  refine ⟨by kernel_rfl, fun j t ht => ?_⟩
  rw [Tryz.params3] at ht
  have hm := Array.mem_of_getElem? ht
  have : t = 28 ∨ t = 29 := by simpa using hm
  rcases this with rfl | rfl
  · exact (show Tryz.prog.wantsStandIn 28 = false by kernel_rfl)
  · exact (show Tryz.prog.wantsStandIn 29 = false by kernel_rfl)

/-- THE CARD. -/
theorem card : Rows.NodeNilCardSaid :=
  Claim7.holds_tied_plain_at .later [] _ _ _ _ said (fun _ h => by cases h) (by kernel_rfl) (fun _ h => by cases h) nodeNil_row_tie rfl ⟨rfl, rfl⟩ (by kernel_rfl) rfl plain (by kernel_rfl)
end Go.Proofs.YtlbmoafdialigaaGreatDoor.nodeNil
