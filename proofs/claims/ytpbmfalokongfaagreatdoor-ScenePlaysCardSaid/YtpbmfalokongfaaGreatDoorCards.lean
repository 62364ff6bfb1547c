/-
  DERIVED. GIVEN WITH THE SEED: THE CARDS: each row of YtpbmfalokongfaaGreatDoorRows.lean that lists a variable, with what it lists TIED to the program's text (the seventh form; the later family's looks); each row that meets fmt, with fmt's text TOLD by the authors' own Lean function (tested against real Go, not proved from fmt's source: count such statements apart). THE CARD IS WHAT COUNTS. Prove the row's statement (the work); the ties are given (YtpbmfalokongfaaGreatDoorTie.lean); close each card by the builder's one call (the guide's Derived/Test/ToyasCard.lean, 'card_holds'). Laid BY PROGRAM, IN A SANDBOX (cutbox-door.mjs). By AI agents, Wed Nov 11 2026. No macro, syntax, notation, axiom, sorry.
-/
import Derived.Test.YtpbmfalokongfaaGreatDoorRows
import GoSem.ClaimSeven
namespace Go.Proofs.YtpbmfalokongfaaGreatDoor
namespace Rows

/-- THE TIED CARD OF 'gouachelaw23.ScenePlays'. -/
def scenePlaysCard : Claim7 := { stood := { row := scenePlaysRow, standIns := [], harness := (true, "17e47f49797edfeef2edfcc4370de602681d1dcea20e0e1f69ac943be5d5d6ba"), looks := true }, kinds := [], alts := [], laidByText := true, laidKinds := [.data, .data, .data], laidTests := true, laidLooks := .later }
def ScenePlaysCardSaid : Prop := Claim7.holds Tryz.pinned (.plain (OpenSpec.ofChange scenePlaysSpec)) scenePlaysCard

/-- THE TIED CARD OF 'gouachelaw23.SceneFinds'. -/
def sceneFindsCard : Claim7 := { stood := { row := sceneFindsRow, standIns := [], harness := (true, "17e47f49797edfeef2edfcc4370de602681d1dcea20e0e1f69ac943be5d5d6ba"), looks := true }, kinds := [], alts := [], laidByText := true, laidKinds := [.data, .data, .data], laidTests := true, laidLooks := .later }
def SceneFindsCardSaid : Prop := Claim7.holds Tryz.pinned (.plain (OpenSpec.ofChange sceneFindsSpec)) sceneFindsCard

/-- THE TIED CARD OF 'gouachelaw23.SceneBack'. -/
def sceneBackCard : Claim7 := { stood := { row := sceneBackRow, standIns := [], harness := (true, "17e47f49797edfeef2edfcc4370de602681d1dcea20e0e1f69ac943be5d5d6ba"), looks := true }, kinds := [], alts := [], laidByText := true, laidKinds := [.data, .data, .data], laidTests := true, laidLooks := .later }
def SceneBackCardSaid : Prop := Claim7.holds Tryz.pinned (.plain (OpenSpec.ofChange sceneBackSpec)) sceneBackCard

/-- THE TIED CARD OF 'gouachelaw23.SceneKeeps'. -/
def sceneKeepsCard : Claim7 := { stood := { row := sceneKeepsRow, standIns := [], harness := (true, "17e47f49797edfeef2edfcc4370de602681d1dcea20e0e1f69ac943be5d5d6ba"), looks := true }, kinds := [], alts := [], laidByText := true, laidKinds := [.data, .data, .data], laidTests := true, laidLooks := .later }
def SceneKeepsCardSaid : Prop := Claim7.holds Tryz.pinned (.plain (OpenSpec.ofChange sceneKeepsSpec)) sceneKeepsCard

/-- THE TIED CARD OF 'gouachelaw23.SceneRefuses'. -/
def sceneRefusesCard : Claim7 := { stood := { row := sceneRefusesRow, standIns := [], harness := (true, "17e47f49797edfeef2edfcc4370de602681d1dcea20e0e1f69ac943be5d5d6ba"), looks := true }, kinds := [], alts := [], laidByText := true, laidKinds := [.data, .data, .data], laidTests := true, laidLooks := .later }
def SceneRefusesCardSaid : Prop := Claim7.holds Tryz.pinned (.plain (OpenSpec.ofChange sceneRefusesSpec)) sceneRefusesCard

/-- THE SECOND FORM's CARD OF 'gouachelaw23.ScenePlays'. -/
def scenePlaysUptoCard : Claim7 := { stood := { row := scenePlaysUptoRow, standIns := [], harness := (true, "17e47f49797edfeef2edfcc4370de602681d1dcea20e0e1f69ac943be5d5d6ba"), looks := true }, kinds := [], alts := [], laidByText := true, laidKinds := [.data, .data, .data], laidTests := true, laidLooks := .later }
def ScenePlaysUptoCardSaid : Prop := Claim7.holds Tryz.pinned (.plain (OpenSpec.upto scenePlaysSpec)) scenePlaysUptoCard

/-- THE SECOND FORM's CARD OF 'gouachelaw23.SceneFinds'. -/
def sceneFindsUptoCard : Claim7 := { stood := { row := sceneFindsUptoRow, standIns := [], harness := (true, "17e47f49797edfeef2edfcc4370de602681d1dcea20e0e1f69ac943be5d5d6ba"), looks := true }, kinds := [], alts := [], laidByText := true, laidKinds := [.data, .data, .data], laidTests := true, laidLooks := .later }
def SceneFindsUptoCardSaid : Prop := Claim7.holds Tryz.pinned (.plain (OpenSpec.upto sceneFindsSpec)) sceneFindsUptoCard

/-- THE SECOND FORM's CARD OF 'gouachelaw23.SceneBack'. -/
def sceneBackUptoCard : Claim7 := { stood := { row := sceneBackUptoRow, standIns := [], harness := (true, "17e47f49797edfeef2edfcc4370de602681d1dcea20e0e1f69ac943be5d5d6ba"), looks := true }, kinds := [], alts := [], laidByText := true, laidKinds := [.data, .data, .data], laidTests := true, laidLooks := .later }
def SceneBackUptoCardSaid : Prop := Claim7.holds Tryz.pinned (.plain (OpenSpec.upto sceneBackSpec)) sceneBackUptoCard

/-- THE SECOND FORM's CARD OF 'gouachelaw23.SceneKeeps'. -/
def sceneKeepsUptoCard : Claim7 := { stood := { row := sceneKeepsUptoRow, standIns := [], harness := (true, "17e47f49797edfeef2edfcc4370de602681d1dcea20e0e1f69ac943be5d5d6ba"), looks := true }, kinds := [], alts := [], laidByText := true, laidKinds := [.data, .data, .data], laidTests := true, laidLooks := .later }
def SceneKeepsUptoCardSaid : Prop := Claim7.holds Tryz.pinned (.plain (OpenSpec.upto sceneKeepsSpec)) sceneKeepsUptoCard

/-- THE SECOND FORM's CARD OF 'gouachelaw23.SceneRefuses'. -/
def sceneRefusesUptoCard : Claim7 := { stood := { row := sceneRefusesUptoRow, standIns := [], harness := (true, "17e47f49797edfeef2edfcc4370de602681d1dcea20e0e1f69ac943be5d5d6ba"), looks := true }, kinds := [], alts := [], laidByText := true, laidKinds := [.data, .data, .data], laidTests := true, laidLooks := .later }
def SceneRefusesUptoCardSaid : Prop := Claim7.holds Tryz.pinned (.plain (OpenSpec.upto sceneRefusesSpec)) sceneRefusesUptoCard
end Rows
end Go.Proofs.YtpbmfalokongfaaGreatDoor
