/-
  DERIVED. GIVEN WITH THE SEED: THE CARDS: each row of YtgolafbneiffpaaGreatDoorRows.lean that lists a variable, with what it lists TIED to the program's text (the seventh form; the later family's looks); each row that meets fmt, with fmt's text TOLD by the authors' own Lean function (tested against real Go, not proved from fmt's source: count such statements apart). THE CARD IS WHAT COUNTS. Prove the row's statement (the work); the ties are given (YtgolafbneiffpaaGreatDoorTie.lean); close each card by the builder's one call (the guide's Derived/Test/ToyasCard.lean, 'card_holds'). Laid BY PROGRAM, IN A SANDBOX (cutbox-door.mjs). By AI agents, Wed Nov 11 2026. No macro, syntax, notation, axiom, sorry.
-/
import Derived.Test.YtgolafbneiffpaaGreatDoorRows
import GoSem.ClaimSeven
namespace Go.Proofs.YtgolafbneiffpaaGreatDoor
namespace Rows

/-- THE TIED CARD OF 'gouachelaw30.TextPuts'. -/
def textPutsCard : Claim7 := { stood := { row := textPutsRow, standIns := [], harness := (true, "7d807d8fcfa25c32f66d8e596383056361a1aaa0697e6ca1cca2a43b819e2fd3"), looks := true }, kinds := [], alts := [], laidByText := true, laidKinds := [.data, .data, .data, .data, .data, .sentinel, .sentinel, .widerDeep, .pinned], laidTests := true, laidLooks := .later }
def TextPutsCardSaid : Prop := Claim7.holds Tryz.pinned (.plain (OpenSpec.ofChange textPutsSpec)) textPutsCard

/-- THE TIED CARD OF 'gouachelaw30.TextBack'. -/
def textBackCard : Claim7 := { stood := { row := textBackRow, standIns := [], harness := (true, "7d807d8fcfa25c32f66d8e596383056361a1aaa0697e6ca1cca2a43b819e2fd3"), looks := true }, kinds := [], alts := [], laidByText := true, laidKinds := [.data, .data, .data, .data, .sentinel, .sentinel, .widerDeep, .pinned], laidTests := true, laidLooks := .later }
def TextBackCardSaid : Prop := Claim7.holds Tryz.pinned (.plain (OpenSpec.ofChange textBackSpec)) textBackCard

/-- THE TIED CARD OF 'gouachelaw30.TextBlank'. -/
def textBlankCard : Claim7 := { stood := { row := textBlankRow, standIns := [], harness := (true, "7d807d8fcfa25c32f66d8e596383056361a1aaa0697e6ca1cca2a43b819e2fd3"), looks := true }, kinds := [], alts := [], laidByText := true, laidKinds := [.data, .data, .data, .data, .sentinel, .sentinel, .widerDeep, .pinned], laidTests := true, laidLooks := .later }
def TextBlankCardSaid : Prop := Claim7.holds Tryz.pinned (.plain (OpenSpec.ofChange textBlankSpec)) textBlankCard

/-- THE TIED CARD OF 'gouachelaw30.TextCut'. -/
def textCutCard : Claim7 := { stood := { row := textCutRow, standIns := [], harness := (true, "7d807d8fcfa25c32f66d8e596383056361a1aaa0697e6ca1cca2a43b819e2fd3"), looks := true }, kinds := [], alts := [], laidByText := true, laidKinds := [.data, .data, .data, .data, .sentinel, .sentinel, .widerDeep, .pinned], laidTests := true, laidLooks := .later }
def TextCutCardSaid : Prop := Claim7.holds Tryz.pinned (.plain (OpenSpec.ofChange textCutSpec)) textCutCard

/-- THE SECOND FORM's CARD OF 'gouachelaw30.TextPuts'. -/
def textPutsUptoCard : Claim7 := { stood := { row := textPutsUptoRow, standIns := [], harness := (true, "7d807d8fcfa25c32f66d8e596383056361a1aaa0697e6ca1cca2a43b819e2fd3"), looks := true }, kinds := [], alts := [], laidByText := true, laidKinds := [.data, .data, .data, .data, .data, .sentinel, .sentinel, .widerDeep, .pinned], laidTests := true, laidLooks := .later }
def TextPutsUptoCardSaid : Prop := Claim7.holds Tryz.pinned (.plain (OpenSpec.upto textPutsSpec)) textPutsUptoCard

/-- THE SECOND FORM's CARD OF 'gouachelaw30.TextBack'. -/
def textBackUptoCard : Claim7 := { stood := { row := textBackUptoRow, standIns := [], harness := (true, "7d807d8fcfa25c32f66d8e596383056361a1aaa0697e6ca1cca2a43b819e2fd3"), looks := true }, kinds := [], alts := [], laidByText := true, laidKinds := [.data, .data, .data, .data, .sentinel, .sentinel, .widerDeep, .pinned], laidTests := true, laidLooks := .later }
def TextBackUptoCardSaid : Prop := Claim7.holds Tryz.pinned (.plain (OpenSpec.upto textBackSpec)) textBackUptoCard

/-- THE SECOND FORM's CARD OF 'gouachelaw30.TextBlank'. -/
def textBlankUptoCard : Claim7 := { stood := { row := textBlankUptoRow, standIns := [], harness := (true, "7d807d8fcfa25c32f66d8e596383056361a1aaa0697e6ca1cca2a43b819e2fd3"), looks := true }, kinds := [], alts := [], laidByText := true, laidKinds := [.data, .data, .data, .data, .sentinel, .sentinel, .widerDeep, .pinned], laidTests := true, laidLooks := .later }
def TextBlankUptoCardSaid : Prop := Claim7.holds Tryz.pinned (.plain (OpenSpec.upto textBlankSpec)) textBlankUptoCard

/-- THE SECOND FORM's CARD OF 'gouachelaw30.TextCut'. -/
def textCutUptoCard : Claim7 := { stood := { row := textCutUptoRow, standIns := [], harness := (true, "7d807d8fcfa25c32f66d8e596383056361a1aaa0697e6ca1cca2a43b819e2fd3"), looks := true }, kinds := [], alts := [], laidByText := true, laidKinds := [.data, .data, .data, .data, .sentinel, .sentinel, .widerDeep, .pinned], laidTests := true, laidLooks := .later }
def TextCutUptoCardSaid : Prop := Claim7.holds Tryz.pinned (.plain (OpenSpec.upto textCutSpec)) textCutUptoCard
end Rows
end Go.Proofs.YtgolafbneiffpaaGreatDoor
