/-
  DERIVED. GIVEN WITH THE SEED: THE CARDS: each row of YtbnjnomlgamheaaDoorRows.lean that lists a variable, with what it lists TIED to the program's text (the seventh form; the later family's looks); each row that meets fmt, with fmt's text TOLD by the authors' own Lean function (tested against real Go, not proved from fmt's source: count such statements apart). THE CARD IS WHAT COUNTS. Prove the row's statement (the work); the ties are given (YtbnjnomlgamheaaDoorTie.lean); close each card by the builder's one call (the guide's Derived/Test/ToyasCard.lean, 'card_holds'). Laid BY PROGRAM, IN A SANDBOX (cutbox-door.mjs). By AI agents, Wed Nov 11 2026. No macro, syntax, notation, axiom, sorry.
-/
import Derived.Test.YtbnjnomlgamheaaDoorRows
import GoSem.ClaimSeven
namespace Go.Proofs.YtbnjnomlgamheaaDoor
namespace Rows

/-- THE TIED CARD OF 'gueritelaw09.LabelTurns'. -/
def labelTurnsCard : Claim7 := { stood := { row := labelTurnsRow, standIns := [], harness := (true, "13ee8c67050f0eb06bd8cda6b378f3d07c4eb5226af99e667ec7e60a663a6859"), looks := true }, kinds := [], alts := [], laidByText := true, laidKinds := [.data, .data, .data, .data, .sentinel, .sentinel, .pinned], laidTests := true, laidLooks := .later }
def LabelTurnsCardSaid : Prop := Claim7.holds Tryd.pinned (.plain (OpenSpec.ofChange labelTurnsSpec)) labelTurnsCard

/-- THE TIED CARD OF 'gueritelaw09.LabelOrders'. -/
def labelOrdersCard : Claim7 := { stood := { row := labelOrdersRow, standIns := [], harness := (true, "13ee8c67050f0eb06bd8cda6b378f3d07c4eb5226af99e667ec7e60a663a6859"), looks := true }, kinds := [], alts := [], laidByText := true, laidKinds := [.data, .data, .data, .data, .sentinel, .sentinel, .pinned], laidTests := true, laidLooks := .later }
def LabelOrdersCardSaid : Prop := Claim7.holds Tryd.pinned (.plain (OpenSpec.ofChange labelOrdersSpec)) labelOrdersCard

/-- THE SECOND FORM's CARD OF 'gueritelaw09.LabelTurns'. -/
def labelTurnsUptoCard : Claim7 := { stood := { row := labelTurnsUptoRow, standIns := [], harness := (true, "13ee8c67050f0eb06bd8cda6b378f3d07c4eb5226af99e667ec7e60a663a6859"), looks := true }, kinds := [], alts := [], laidByText := true, laidKinds := [.data, .data, .data, .data, .sentinel, .sentinel, .pinned], laidTests := true, laidLooks := .later }
def LabelTurnsUptoCardSaid : Prop := Claim7.holds Tryd.pinned (.plain (OpenSpec.upto labelTurnsSpec)) labelTurnsUptoCard

/-- THE SECOND FORM's CARD OF 'gueritelaw09.LabelOrders'. -/
def labelOrdersUptoCard : Claim7 := { stood := { row := labelOrdersUptoRow, standIns := [], harness := (true, "13ee8c67050f0eb06bd8cda6b378f3d07c4eb5226af99e667ec7e60a663a6859"), looks := true }, kinds := [], alts := [], laidByText := true, laidKinds := [.data, .data, .data, .data, .sentinel, .sentinel, .pinned], laidTests := true, laidLooks := .later }
def LabelOrdersUptoCardSaid : Prop := Claim7.holds Tryd.pinned (.plain (OpenSpec.upto labelOrdersSpec)) labelOrdersUptoCard
end Rows
end Go.Proofs.YtbnjnomlgamheaaDoor
