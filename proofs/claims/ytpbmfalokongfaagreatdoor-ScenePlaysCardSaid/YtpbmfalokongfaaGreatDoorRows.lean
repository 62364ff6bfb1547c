/-
  NARROWER THAN 'FOR EVERY INPUT', by the rows' own cells (each row's printed sentence says how): ScenePlays: laid · SceneFinds: laid · SceneBack: laid · SceneKeeps: laid · SceneRefuses: laid.
  DERIVED. THE GIVEN ROWS OF THIS SEAT. 5 by the template 'for every input the law returns true; each argument reads behind the call as it read before'; 0 by the template 'total and deterministic' (their statements: YtpbmfalokongfaaGreatDoorTotals.lean).
  GIVEN WITH THE SEED: the statements are not yours to turn. If you find one false, say at which input.
  Laid BY PROGRAM, IN A SANDBOX (cutbox-rows.mjs): the forced cells as the released guide's own fill.sh prints them over the translation c20bea182fc6c29c… (all of the seat's roots in one cut). By AI agents, Wed Nov 11 2026. No macro, syntax, notation, axiom, sorry.
-/
import Derived.Test.YtpbmfalokongfaaGreatDoorChecked
import GoSem.Claim
import GoSem.ClaimJoined
import GoSem.ClaimMapViews
import Derived.JoinedTies
import Derived.KernelRfl
namespace Go.Proofs.YtpbmfalokongfaaGreatDoor
/- THE CELL 'sum', in the pinned program and in every row, IS THE sha256 OF THE DUMP (.gsa) THAT YtpbmfalokongfaaGreatDoorProg.lean LOADS. Nothing in Lean hashes anything: it is a label: what it is worth is what the hold of that sum in a sandbox is worth. -/
noncomputable def Tryz.pinned : Pinned := { name := "ytpbmfalokongfaagreatdoor", sum := "c20bea182fc6c29c2a6528103cf9bf16ceff61ed700d0cce1e435dbdb359714a", checked := Tryz.checked }
namespace Rows
def none {H : Type} : Left H := { results := [], args := [] }

/- WHAT THE LISTED PACKAGE-LEVEL VARIABLES READ AS WHEN THE CALL BEGINS. Each datum BY PROGRAM (the guide's laid-datum.mjs) off the statement by which the dump's own 'gosem.cut.vars' lays the variable. In a bare row this is a premise. The card (YtpbmfalokongfaaGreatDoorCards.lean) ties it to the program's text. -/
def laid_gouache_gouacheref12_least {H : Type} : DataW H := .agg [.lit (.int .i64 0), .lit (.int .i64 1), .lit (.int .i64 1), .lit (.int .i64 1), .lit (.int .i64 1), .lit (.int .i64 1), .lit (.int .i64 0), .lit (.int .i64 2), .lit (.int .i64 2), .lit (.int .i64 1), .lit (.int .i64 1), .lit (.int .i64 1), .lit (.int .i64 1)]
def laid_gouache_gouacheref12_most {H : Type} : DataW H := .agg [.lit (.int .i64 0), .lit (.int .i64 1), .lit (.int .i64 1), .lit (.int .i64 1), .lit (.int .i64 1), .lit (.int .i64 1), .lit (.int .i64 0), .lit (.int .i64 2), .lit (.int .i64 2), .lit (.int .i64 8), .lit (.int .i64 1), .lit (.int .i64 1), .lit (.int .i64 1)]
def laid_gouache_gouacheref12_params {H : Type} : DataW H := .agg [.lit (.int .i64 0), .lit (.int .i64 2), .lit (.int .i64 2), .lit (.int .i64 2), .lit (.int .i64 2), .lit (.int .i64 20), .lit (.int .i64 8), .lit (.int .i64 1), .lit (.int .i64 1), .lit (.int .i64 0), .lit (.int .i64 4), .lit (.int .i64 8), .lit (.int .i64 4)]

/-- 'gouachelaw23.ScenePlays': WHATEVER THE INPUT: true; the input reads as it did. -/
def scenePlaysSpec : ChangeSpec := { name := "scenePlays", fn := fun _ => fun
  | [d] => { results := [.lit (.bool true)], args := [d] }
  | _ => none }
def scenePlaysRow : OpenClaim := { program := "ytpbmfalokongfaagreatdoor", sum := "c20bea182fc6c29c2a6528103cf9bf16ceff61ed700d0cce1e435dbdb359714a", func := "gouache/gouachelaw23.ScenePlays", spec := "scenePlays", inPlace := ["slices.overlaps[gouache/api.Layer]"], unfollowed := true, recurses := true, named := ["gouache/gouacheref12.least", "gouache/gouacheref12.most", "gouache/gouacheref12.params"], apart := false, laid := [("gouache/gouacheref12.least", laid_gouache_gouacheref12_least), ("gouache/gouacheref12.most", laid_gouache_gouacheref12_most), ("gouache/gouacheref12.params", laid_gouache_gouacheref12_params)] }
def ScenePlaysSaid : Prop := scenePlaysRow.holds Tryz.pinned (OpenSpec.ofChange scenePlaysSpec)

/-- ITS FALSE NEIGHBOUR: 'it returns false'. Refute it at one input. -/
def scenePlaysWrong : ChangeSpec := { name := "scenePlays", fn := fun _ => fun
  | [d] => { results := [.lit (.bool false)], args := [d] }
  | _ => none }
def ScenePlaysWrongFalsely : Prop := scenePlaysRow.holds Tryz.pinned (OpenSpec.ofChange scenePlaysWrong)

/-- 'gouachelaw23.SceneFinds': WHATEVER THE INPUT: true; the input reads as it did. -/
def sceneFindsSpec : ChangeSpec := { name := "sceneFinds", fn := fun _ => fun
  | [d1, d2] => { results := [.lit (.bool true)], args := [d1, d2] }
  | _ => none }
def sceneFindsRow : OpenClaim := { program := "ytpbmfalokongfaagreatdoor", sum := "c20bea182fc6c29c2a6528103cf9bf16ceff61ed700d0cce1e435dbdb359714a", func := "gouache/gouachelaw23.SceneFinds", spec := "sceneFinds", inPlace := ["slices.overlaps[gouache/api.Layer]"], unfollowed := true, recurses := true, named := ["gouache/gouacheref12.least", "gouache/gouacheref12.most", "gouache/gouacheref12.params"], apart := false, laid := [("gouache/gouacheref12.least", laid_gouache_gouacheref12_least), ("gouache/gouacheref12.most", laid_gouache_gouacheref12_most), ("gouache/gouacheref12.params", laid_gouache_gouacheref12_params)] }
def SceneFindsSaid : Prop := sceneFindsRow.holds Tryz.pinned (OpenSpec.ofChange sceneFindsSpec)

/-- ITS FALSE NEIGHBOUR: 'it returns false'. Refute it at one input. -/
def sceneFindsWrong : ChangeSpec := { name := "sceneFinds", fn := fun _ => fun
  | [d1, d2] => { results := [.lit (.bool false)], args := [d1, d2] }
  | _ => none }
def SceneFindsWrongFalsely : Prop := sceneFindsRow.holds Tryz.pinned (OpenSpec.ofChange sceneFindsWrong)

/-- 'gouachelaw23.SceneBack': WHATEVER THE INPUT: true; the input reads as it did. -/
def sceneBackSpec : ChangeSpec := { name := "sceneBack", fn := fun _ => fun
  | [d1, d2, d3] => { results := [.lit (.bool true)], args := [d1, d2, d3] }
  | _ => none }
def sceneBackRow : OpenClaim := { program := "ytpbmfalokongfaagreatdoor", sum := "c20bea182fc6c29c2a6528103cf9bf16ceff61ed700d0cce1e435dbdb359714a", func := "gouache/gouachelaw23.SceneBack", spec := "sceneBack", inPlace := ["slices.overlaps[gouache/api.Layer]"], unfollowed := true, recurses := true, named := ["gouache/gouacheref12.least", "gouache/gouacheref12.most", "gouache/gouacheref12.params"], apart := false, laid := [("gouache/gouacheref12.least", laid_gouache_gouacheref12_least), ("gouache/gouacheref12.most", laid_gouache_gouacheref12_most), ("gouache/gouacheref12.params", laid_gouache_gouacheref12_params)] }
def SceneBackSaid : Prop := sceneBackRow.holds Tryz.pinned (OpenSpec.ofChange sceneBackSpec)

/-- ITS FALSE NEIGHBOUR: 'it returns false'. Refute it at one input. -/
def sceneBackWrong : ChangeSpec := { name := "sceneBack", fn := fun _ => fun
  | [d1, d2, d3] => { results := [.lit (.bool false)], args := [d1, d2, d3] }
  | _ => none }
def SceneBackWrongFalsely : Prop := sceneBackRow.holds Tryz.pinned (OpenSpec.ofChange sceneBackWrong)

/-- 'gouachelaw23.SceneKeeps': WHATEVER THE INPUT: true; the input reads as it did. -/
def sceneKeepsSpec : ChangeSpec := { name := "sceneKeeps", fn := fun _ => fun
  | [d1, d2] => { results := [.lit (.bool true)], args := [d1, d2] }
  | _ => none }
def sceneKeepsRow : OpenClaim := { program := "ytpbmfalokongfaagreatdoor", sum := "c20bea182fc6c29c2a6528103cf9bf16ceff61ed700d0cce1e435dbdb359714a", func := "gouache/gouachelaw23.SceneKeeps", spec := "sceneKeeps", inPlace := ["slices.overlaps[gouache/api.Layer]"], unfollowed := true, recurses := true, named := ["gouache/gouacheref12.least", "gouache/gouacheref12.most", "gouache/gouacheref12.params"], apart := false, laid := [("gouache/gouacheref12.least", laid_gouache_gouacheref12_least), ("gouache/gouacheref12.most", laid_gouache_gouacheref12_most), ("gouache/gouacheref12.params", laid_gouache_gouacheref12_params)] }
def SceneKeepsSaid : Prop := sceneKeepsRow.holds Tryz.pinned (OpenSpec.ofChange sceneKeepsSpec)

/-- ITS FALSE NEIGHBOUR: 'it returns false'. Refute it at one input. -/
def sceneKeepsWrong : ChangeSpec := { name := "sceneKeeps", fn := fun _ => fun
  | [d1, d2] => { results := [.lit (.bool false)], args := [d1, d2] }
  | _ => none }
def SceneKeepsWrongFalsely : Prop := sceneKeepsRow.holds Tryz.pinned (OpenSpec.ofChange sceneKeepsWrong)

/-- 'gouachelaw23.SceneRefuses': WHATEVER THE INPUT: true; the input reads as it did. -/
def sceneRefusesSpec : ChangeSpec := { name := "sceneRefuses", fn := fun _ => fun
  | [d1, d2] => { results := [.lit (.bool true)], args := [d1, d2] }
  | _ => none }
def sceneRefusesRow : OpenClaim := { program := "ytpbmfalokongfaagreatdoor", sum := "c20bea182fc6c29c2a6528103cf9bf16ceff61ed700d0cce1e435dbdb359714a", func := "gouache/gouachelaw23.SceneRefuses", spec := "sceneRefuses", inPlace := ["slices.overlaps[gouache/api.Layer]"], unfollowed := true, recurses := true, named := ["gouache/gouacheref12.least", "gouache/gouacheref12.most", "gouache/gouacheref12.params"], apart := false, laid := [("gouache/gouacheref12.least", laid_gouache_gouacheref12_least), ("gouache/gouacheref12.most", laid_gouache_gouacheref12_most), ("gouache/gouacheref12.params", laid_gouache_gouacheref12_params)] }
def SceneRefusesSaid : Prop := sceneRefusesRow.holds Tryz.pinned (OpenSpec.ofChange sceneRefusesSpec)

/-- ITS FALSE NEIGHBOUR: 'it returns false'. Refute it at one input. -/
def sceneRefusesWrong : ChangeSpec := { name := "sceneRefuses", fn := fun _ => fun
  | [d1, d2] => { results := [.lit (.bool false)], args := [d1, d2] }
  | _ => none }
def SceneRefusesWrongFalsely : Prop := sceneRefusesRow.holds Tryz.pinned (OpenSpec.ofChange sceneRefusesWrong)

/- THE SECOND FORM. 'bulk': how many values and letters a reading holds, each counted each time it is reached (what is shared counts as often as it is met; a slice's spare places count too). A statement '..UptoSaid' is the law's where the arguments, and the package variables that the reading takes, are together of bulk at most 1048576: NARROWER than '..Said'. Prove '..Said' where nothing that the law and all that it calls make is longer than what came in: it says more and counts as full. Else prove '..UptoSaid'. A law counts once. -/
mutual
def uptoBulk {H : Type} : DataW H → Nat
  | .lit (.string bytes) => bytes.length + 1
  | .lit _ => 1
  | .nil => 1
  | .ptr d => uptoBulk d + 1
  | .slice elems spare => uptoBulkAll elems + uptoBulkAll spare + 1
  | .agg parts => uptoBulkAll parts + 1
  | .iface _ d => uptoBulk d + 1
  | .map entries => uptoBulkEntries entries + 1
  | .held _ => 1
def uptoBulkAll {H : Type} : List (DataW H) → Nat
  | [] => 0
  | d :: r => uptoBulk d + uptoBulkAll r
def uptoBulkEntries {H : Type} : List (Lit × DataW H) → Nat
  | [] => 0
  | x :: r => uptoBulkEntry x + uptoBulkEntries r
def uptoBulkEntry {H : Type} : Lit × DataW H → Nat
  | (.string bytes, d) => bytes.length + uptoBulk d + 1
  | (_, d) => uptoBulk d + 1
 end
def uptoSmall : (H : Type) → List (DataW H) → Bool := fun _ ds => decide (uptoBulkAll ds ≤ 1048576)
def OpenSpec.upto (s : _root_.Go.ChangeSpec) : _root_.Go.OpenSpec := { _root_.Go.OpenSpec.ofChange s with cond := some uptoSmall }

/-- 'gouachelaw23.ScenePlays', WHERE WHAT IT READS IS OF BULK AT MOST 1048576: true; the input reads as it did. -/
def scenePlaysUptoRow : OpenClaim := { program := "ytpbmfalokongfaagreatdoor", sum := "c20bea182fc6c29c2a6528103cf9bf16ceff61ed700d0cce1e435dbdb359714a", func := "gouache/gouachelaw23.ScenePlays", spec := "scenePlays", inPlace := ["slices.overlaps[gouache/api.Layer]"], unfollowed := true, recurses := true, named := ["gouache/gouacheref12.least", "gouache/gouacheref12.most", "gouache/gouacheref12.params"], apart := false, laid := [("gouache/gouacheref12.least", laid_gouache_gouacheref12_least), ("gouache/gouacheref12.most", laid_gouache_gouacheref12_most), ("gouache/gouacheref12.params", laid_gouache_gouacheref12_params)], narrowed := true }
def ScenePlaysUptoSaid : Prop := scenePlaysUptoRow.holds Tryz.pinned (OpenSpec.upto scenePlaysSpec)

/-- 'gouachelaw23.SceneFinds', WHERE WHAT IT READS IS OF BULK AT MOST 1048576: true; the input reads as it did. -/
def sceneFindsUptoRow : OpenClaim := { program := "ytpbmfalokongfaagreatdoor", sum := "c20bea182fc6c29c2a6528103cf9bf16ceff61ed700d0cce1e435dbdb359714a", func := "gouache/gouachelaw23.SceneFinds", spec := "sceneFinds", inPlace := ["slices.overlaps[gouache/api.Layer]"], unfollowed := true, recurses := true, named := ["gouache/gouacheref12.least", "gouache/gouacheref12.most", "gouache/gouacheref12.params"], apart := false, laid := [("gouache/gouacheref12.least", laid_gouache_gouacheref12_least), ("gouache/gouacheref12.most", laid_gouache_gouacheref12_most), ("gouache/gouacheref12.params", laid_gouache_gouacheref12_params)], narrowed := true }
def SceneFindsUptoSaid : Prop := sceneFindsUptoRow.holds Tryz.pinned (OpenSpec.upto sceneFindsSpec)

/-- 'gouachelaw23.SceneBack', WHERE WHAT IT READS IS OF BULK AT MOST 1048576: true; the input reads as it did. -/
def sceneBackUptoRow : OpenClaim := { program := "ytpbmfalokongfaagreatdoor", sum := "c20bea182fc6c29c2a6528103cf9bf16ceff61ed700d0cce1e435dbdb359714a", func := "gouache/gouachelaw23.SceneBack", spec := "sceneBack", inPlace := ["slices.overlaps[gouache/api.Layer]"], unfollowed := true, recurses := true, named := ["gouache/gouacheref12.least", "gouache/gouacheref12.most", "gouache/gouacheref12.params"], apart := false, laid := [("gouache/gouacheref12.least", laid_gouache_gouacheref12_least), ("gouache/gouacheref12.most", laid_gouache_gouacheref12_most), ("gouache/gouacheref12.params", laid_gouache_gouacheref12_params)], narrowed := true }
def SceneBackUptoSaid : Prop := sceneBackUptoRow.holds Tryz.pinned (OpenSpec.upto sceneBackSpec)

/-- 'gouachelaw23.SceneKeeps', WHERE WHAT IT READS IS OF BULK AT MOST 1048576: true; the input reads as it did. -/
def sceneKeepsUptoRow : OpenClaim := { program := "ytpbmfalokongfaagreatdoor", sum := "c20bea182fc6c29c2a6528103cf9bf16ceff61ed700d0cce1e435dbdb359714a", func := "gouache/gouachelaw23.SceneKeeps", spec := "sceneKeeps", inPlace := ["slices.overlaps[gouache/api.Layer]"], unfollowed := true, recurses := true, named := ["gouache/gouacheref12.least", "gouache/gouacheref12.most", "gouache/gouacheref12.params"], apart := false, laid := [("gouache/gouacheref12.least", laid_gouache_gouacheref12_least), ("gouache/gouacheref12.most", laid_gouache_gouacheref12_most), ("gouache/gouacheref12.params", laid_gouache_gouacheref12_params)], narrowed := true }
def SceneKeepsUptoSaid : Prop := sceneKeepsUptoRow.holds Tryz.pinned (OpenSpec.upto sceneKeepsSpec)

/-- 'gouachelaw23.SceneRefuses', WHERE WHAT IT READS IS OF BULK AT MOST 1048576: true; the input reads as it did. -/
def sceneRefusesUptoRow : OpenClaim := { program := "ytpbmfalokongfaagreatdoor", sum := "c20bea182fc6c29c2a6528103cf9bf16ceff61ed700d0cce1e435dbdb359714a", func := "gouache/gouachelaw23.SceneRefuses", spec := "sceneRefuses", inPlace := ["slices.overlaps[gouache/api.Layer]"], unfollowed := true, recurses := true, named := ["gouache/gouacheref12.least", "gouache/gouacheref12.most", "gouache/gouacheref12.params"], apart := false, laid := [("gouache/gouacheref12.least", laid_gouache_gouacheref12_least), ("gouache/gouacheref12.most", laid_gouache_gouacheref12_most), ("gouache/gouacheref12.params", laid_gouache_gouacheref12_params)], narrowed := true }
def SceneRefusesUptoSaid : Prop := sceneRefusesUptoRow.holds Tryz.pinned (OpenSpec.upto sceneRefusesSpec)

end Rows
end Go.Proofs.YtpbmfalokongfaaGreatDoor
