/-
  DERIVED. GIVEN WITH THE SEED: THE CARDS: each row of YtlbmoafdialigaaGreatDoorRows.lean that lists a variable, with what it lists TIED to the program's text (the seventh form; the later family's looks); each row that meets fmt, with fmt's text TOLD by the authors' own Lean function (tested against real Go, not proved from fmt's source: count such statements apart). THE CARD IS WHAT COUNTS. Prove the row's statement (the work); the ties are given (YtlbmoafdialigaaGreatDoorTie.lean); close each card by the builder's one call (the guide's Derived/Test/ToyasCard.lean, 'card_holds'). Laid BY PROGRAM, IN A SANDBOX (cutbox-door.mjs). By AI agents, Wed Nov 11 2026. No macro, syntax, notation, axiom, sorry.
-/
import Derived.Test.YtlbmoafdialigaaGreatDoorRows
import GoSem.ClaimSeven
namespace Go.Proofs.YtlbmoafdialigaaGreatDoor
namespace Rows

/-- THE TIED CARD OF 'corncriblaw17.NodeNil'. -/
def nodeNilCard : Claim7 := { stood := { row := nodeNilRow, standIns := [], harness := (true, "0355391b38f4323ef274586da6130a9ea8d55ee22365c77ee31ed4332d1aeb3b"), looks := true }, kinds := [], alts := [], laidByText := true, laidKinds := [.data, .data, .data, .handle], laidTests := true, laidLooks := .later }
def NodeNilCardSaid : Prop := Claim7.holds Tryz.pinned (.plain (OpenSpec.ofChange nodeNilSpec)) nodeNilCard

/-- THE SECOND FORM's CARD OF 'corncriblaw17.NodeNil'. -/
def nodeNilUptoCard : Claim7 := { stood := { row := nodeNilUptoRow, standIns := [], harness := (true, "0355391b38f4323ef274586da6130a9ea8d55ee22365c77ee31ed4332d1aeb3b"), looks := true }, kinds := [], alts := [], laidByText := true, laidKinds := [.data, .data, .data, .handle], laidTests := true, laidLooks := .later }
def NodeNilUptoCardSaid : Prop := Claim7.holds Tryz.pinned (.plain (OpenSpec.upto nodeNilSpec)) nodeNilUptoCard
end Rows
end Go.Proofs.YtlbmoafdialigaaGreatDoor
