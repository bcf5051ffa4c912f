/-
  DERIVED. GIVEN WITH THE SEED: THE CARDS: each row of YtifnpclcnlgecaaDoorRows.lean that lists a variable, with what it lists TIED to the program's text (the seventh form; the later family's looks); each row that meets fmt, with fmt's text TOLD by the authors' own Lean function (tested against real Go, not proved from fmt's source: count such statements apart). THE CARD IS WHAT COUNTS. Prove the row's statement (the work); the ties are given (YtifnpclcnlgecaaDoorTie.lean); close each card by the builder's one call (the guide's Derived/Test/ToyasCard.lean, 'card_holds'). Laid BY PROGRAM, IN A SANDBOX (cutbox-door.mjs). By AI agents, Wed Nov 11 2026. No macro, syntax, notation, axiom, sorry.
-/
import Derived.Test.YtifnpclcnlgecaaDoorRows
import GoSem.ClaimSeven
namespace Go.Proofs.YtifnpclcnlgecaaDoor
namespace Rows

/-- THE TIED CARD OF 'zoneinfolaw10.TzformatParts'. -/
def tzformatPartsCard : Claim7 := { stood := { row := tzformatPartsRow, standIns := [], harness := (true, "944a762c22ff4da3ba3eeca7283e46515b5123a76e6149413f7e8ae76abd0c26"), looks := true }, kinds := [], alts := [], laidByText := true, laidKinds := [.data, .data, .data], laidTests := true, laidLooks := .later }
def TzformatPartsCardSaid : Prop := Claim7.holds Tryd.pinned (.plain (OpenSpec.ofChange tzformatPartsSpec)) tzformatPartsCard

/-- THE SECOND FORM's CARD OF 'zoneinfolaw10.TzformatParts'. -/
def tzformatPartsUptoCard : Claim7 := { stood := { row := tzformatPartsUptoRow, standIns := [], harness := (true, "944a762c22ff4da3ba3eeca7283e46515b5123a76e6149413f7e8ae76abd0c26"), looks := true }, kinds := [], alts := [], laidByText := true, laidKinds := [.data, .data, .data], laidTests := true, laidLooks := .later }
def TzformatPartsUptoCardSaid : Prop := Claim7.holds Tryd.pinned (.plain (OpenSpec.upto tzformatPartsSpec)) tzformatPartsUptoCard
end Rows
end Go.Proofs.YtifnpclcnlgecaaDoor
