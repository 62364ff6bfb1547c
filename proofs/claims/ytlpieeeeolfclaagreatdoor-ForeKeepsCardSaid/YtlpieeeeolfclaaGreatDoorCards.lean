/-
  DERIVED. GIVEN WITH THE SEED: THE CARDS: each row of YtlpieeeeolfclaaGreatDoorRows.lean that lists a variable, with what it lists TIED to the program's text (the seventh form; the later family's looks); each row that meets fmt, with fmt's text TOLD by the authors' own Lean function (tested against real Go, not proved from fmt's source: count such statements apart). THE CARD IS WHAT COUNTS. Prove the row's statement (the work); the ties are given (YtlpieeeeolfclaaGreatDoorTie.lean); close each card by the builder's one call (the guide's Derived/Test/ToyasCard.lean, 'card_holds'). Laid BY PROGRAM, IN A SANDBOX (cutbox-door.mjs). By AI agents, Wed Nov 11 2026. No macro, syntax, notation, axiom, sorry.
-/
import Derived.Test.YtlpieeeeolfclaaGreatDoorRows
import GoSem.ClaimSeven
namespace Go.Proofs.YtlpieeeeolfclaaGreatDoor
namespace Rows

/-- THE TIED CARD OF 'gouachelaw13.ForeKeeps'. -/
def foreKeepsCard : Claim7 := { stood := { row := foreKeepsRow, standIns := [], harness := (true, "2e8c25058795ff60ce2d608e5ecbf1b97b2e1355e92fe723002c55cb6407d2cb"), looks := true }, kinds := [], alts := [], laidByText := true, laidKinds := [.data, .data, .data], laidTests := true, laidLooks := .later }
def ForeKeepsCardSaid : Prop := Claim7.holds Tryz.pinned (.plain (OpenSpec.ofChange foreKeepsSpec)) foreKeepsCard

/-- THE SECOND FORM's CARD OF 'gouachelaw13.ForeKeeps'. -/
def foreKeepsUptoCard : Claim7 := { stood := { row := foreKeepsUptoRow, standIns := [], harness := (true, "2e8c25058795ff60ce2d608e5ecbf1b97b2e1355e92fe723002c55cb6407d2cb"), looks := true }, kinds := [], alts := [], laidByText := true, laidKinds := [.data, .data, .data], laidTests := true, laidLooks := .later }
def ForeKeepsUptoCardSaid : Prop := Claim7.holds Tryz.pinned (.plain (OpenSpec.upto foreKeepsSpec)) foreKeepsUptoCard
end Rows
end Go.Proofs.YtlpieeeeolfclaaGreatDoor
