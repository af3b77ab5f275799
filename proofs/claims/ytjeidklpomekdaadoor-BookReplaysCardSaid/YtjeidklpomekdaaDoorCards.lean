/-
  DERIVED. GIVEN WITH THE SEED: THE CARDS: each row of YtjeidklpomekdaaDoorRows.lean that lists a variable, with what it lists TIED to the program's text (the seventh form; the later family's looks); each row that meets fmt, with fmt's text TOLD by the authors' own Lean function (tested against real Go, not proved from fmt's source: count such statements apart). THE CARD IS WHAT COUNTS. Prove the row's statement (the work); the ties are given (YtjeidklpomekdaaDoorTie.lean); close each card by the builder's one call (the guide's Derived/Test/ToyasCard.lean, 'card_holds'). Laid BY PROGRAM, IN A SANDBOX (cutbox-door.mjs). By AI agents, Wed Nov 11 2026. No macro, syntax, notation, axiom, sorry.
-/
import Derived.Test.YtjeidklpomekdaaDoorRows
import GoSem.ClaimSeven
namespace Go.Proofs.YtjeidklpomekdaaDoor
namespace Rows

/-- THE TIED CARD OF 'jotterlaw12.BookReplays'. -/
def bookReplaysCard : Claim7 := { stood := { row := bookReplaysRow, standIns := [], harness := (true, "e7ff96ac3ffbb72ea14c73b8c9d403af130d3ac331c8e451b63e1e74daa402db"), looks := true }, kinds := [], alts := [], laidByText := true, laidKinds := [.handle, .funcs], laidTests := true, laidLooks := .later }
def BookReplaysCardSaid : Prop := Claim7.holds Tryd.pinned (.plain (OpenSpec.ofChange bookReplaysSpec)) bookReplaysCard

/-- THE SECOND FORM's CARD OF 'jotterlaw12.BookReplays'. -/
def bookReplaysUptoCard : Claim7 := { stood := { row := bookReplaysUptoRow, standIns := [], harness := (true, "e7ff96ac3ffbb72ea14c73b8c9d403af130d3ac331c8e451b63e1e74daa402db"), looks := true }, kinds := [], alts := [], laidByText := true, laidKinds := [.handle, .funcs], laidTests := true, laidLooks := .later }
def BookReplaysUptoCardSaid : Prop := Claim7.holds Tryd.pinned (.plain (OpenSpec.upto bookReplaysSpec)) bookReplaysUptoCard
end Rows
end Go.Proofs.YtjeidklpomekdaaDoor
