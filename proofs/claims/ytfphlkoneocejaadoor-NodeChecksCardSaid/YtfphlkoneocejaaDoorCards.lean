/-
  DERIVED. GIVEN WITH THE SEED: THE CARDS: each row of YtfphlkoneocejaaDoorRows.lean that lists a variable, with what it lists TIED to the program's text (the seventh form; the later family's looks); each row that meets fmt, with fmt's text TOLD by the authors' own Lean function (tested against real Go, not proved from fmt's source: count such statements apart). THE CARD IS WHAT COUNTS. Prove the row's statement (the work); the ties are given (YtfphlkoneocejaaDoorTie.lean); close each card by the builder's one call (the guide's Derived/Test/ToyasCard.lean, 'card_holds'). Laid BY PROGRAM, IN A SANDBOX (cutbox-door.mjs). By AI agents, Wed Nov 11 2026. No macro, syntax, notation, axiom, sorry.
-/
import Derived.Test.YtfphlkoneocejaaDoorRows
import GoSem.ClaimSeven
namespace Go.Proofs.YtfphlkoneocejaaDoor
namespace Rows

/-- THE TIED CARD OF 'gouachelaw12.NodeOnes'. -/
def nodeOnesCard : Claim7 := { stood := { row := nodeOnesRow, standIns := [], harness := (true, "b1b00266178ea4379d89c18c6d753d44b550305e591816639344a5f3fd0c58e3"), looks := true }, kinds := [], alts := [], laidByText := true, laidKinds := [.data, .data, .data], laidTests := true, laidLooks := .later }
def NodeOnesCardSaid : Prop := Claim7.holds Tryd.pinned (.plain (OpenSpec.ofChange nodeOnesSpec)) nodeOnesCard

/-- THE TIED CARD OF 'gouachelaw12.NodeChecks'. -/
def nodeChecksCard : Claim7 := { stood := { row := nodeChecksRow, standIns := [], harness := (true, "b1b00266178ea4379d89c18c6d753d44b550305e591816639344a5f3fd0c58e3"), looks := true }, kinds := [], alts := [], laidByText := true, laidKinds := [.data, .data, .data], laidTests := true, laidLooks := .later }
def NodeChecksCardSaid : Prop := Claim7.holds Tryd.pinned (.plain (OpenSpec.ofChange nodeChecksSpec)) nodeChecksCard

/-- THE TIED CARD OF 'gouachelaw12.NodeArities'. -/
def nodeAritiesCard : Claim7 := { stood := { row := nodeAritiesRow, standIns := [], harness := (true, "b1b00266178ea4379d89c18c6d753d44b550305e591816639344a5f3fd0c58e3"), looks := true }, kinds := [], alts := [], laidByText := true, laidKinds := [.data, .data, .data], laidTests := true, laidLooks := .later }
def NodeAritiesCardSaid : Prop := Claim7.holds Tryd.pinned (.plain (OpenSpec.ofChange nodeAritiesSpec)) nodeAritiesCard

/-- THE SECOND FORM's CARD OF 'gouachelaw12.NodeOnes'. -/
def nodeOnesUptoCard : Claim7 := { stood := { row := nodeOnesUptoRow, standIns := [], harness := (true, "b1b00266178ea4379d89c18c6d753d44b550305e591816639344a5f3fd0c58e3"), looks := true }, kinds := [], alts := [], laidByText := true, laidKinds := [.data, .data, .data], laidTests := true, laidLooks := .later }
def NodeOnesUptoCardSaid : Prop := Claim7.holds Tryd.pinned (.plain (OpenSpec.upto nodeOnesSpec)) nodeOnesUptoCard

/-- THE SECOND FORM's CARD OF 'gouachelaw12.NodeChecks'. -/
def nodeChecksUptoCard : Claim7 := { stood := { row := nodeChecksUptoRow, standIns := [], harness := (true, "b1b00266178ea4379d89c18c6d753d44b550305e591816639344a5f3fd0c58e3"), looks := true }, kinds := [], alts := [], laidByText := true, laidKinds := [.data, .data, .data], laidTests := true, laidLooks := .later }
def NodeChecksUptoCardSaid : Prop := Claim7.holds Tryd.pinned (.plain (OpenSpec.upto nodeChecksSpec)) nodeChecksUptoCard

/-- THE SECOND FORM's CARD OF 'gouachelaw12.NodeArities'. -/
def nodeAritiesUptoCard : Claim7 := { stood := { row := nodeAritiesUptoRow, standIns := [], harness := (true, "b1b00266178ea4379d89c18c6d753d44b550305e591816639344a5f3fd0c58e3"), looks := true }, kinds := [], alts := [], laidByText := true, laidKinds := [.data, .data, .data], laidTests := true, laidLooks := .later }
def NodeAritiesUptoCardSaid : Prop := Claim7.holds Tryd.pinned (.plain (OpenSpec.upto nodeAritiesSpec)) nodeAritiesUptoCard
end Rows
end Go.Proofs.YtfphlkoneocejaaDoor
