/-
  No cell of these rows narrows 'for every input' (looked for: loops, veiled, ifaces, maps, wideKeys, modest, calm, conditions, laid).
  DERIVED. THE GIVEN ROWS OF THIS SEAT. 5 by the template 'for every input the law returns true; each argument reads behind the call as it read before'; 0 by the template 'total and deterministic' (their statements: YtapeafokcailkaaTotals.lean).
  GIVEN WITH THE SEED: the statements are not yours to turn. If you find one false, say at which input.
  Laid BY PROGRAM, IN A SANDBOX (cutbox-rows.mjs): the forced cells as the released guide's own fill.sh prints them over the translation 9869f2416be4bb62… (all of the seat's roots in one cut). By AI agents, Wed Nov 11 2026. No macro, syntax, notation, axiom, sorry.
-/
import Derived.Test.YtapeafokcailkaaChecked
import GoSem.Claim
import GoSem.ClaimJoined
import GoSem.ClaimMapViews
import Derived.JoinedTies
import Derived.KernelRfl
namespace Go.Proofs.Ytapeafokcailkaa
/- THE CELL 'sum', in the pinned program and in every row, IS THE sha256 OF THE DUMP (.gsa) THAT YtapeafokcailkaaProg.lean LOADS. Nothing in Lean hashes anything: it is a label: what it is worth is what the hold of that sum in a sandbox is worth. -/
noncomputable def Try.pinned : Pinned := { name := "ytapeafokcailkaa", sum := "9869f2416be4bb6264f20b90e1a2279dcb3d79f1248c3e64a900ff70f18f10a4", checked := Try.checked }
namespace Rows
def none {H : Type} : Left H := { results := [], args := [] }

/-- 'gouachelaw04.RegionOfs': WHATEVER THE INPUT: true; the input reads as it did. -/
def regionOfsSpec : ChangeSpec := { name := "regionOfs", fn := fun _ => fun
  | [d] => { results := [.lit (.bool true)], args := [d] }
  | _ => none }
def regionOfsRow : OpenClaim := { program := "ytapeafokcailkaa", sum := "9869f2416be4bb6264f20b90e1a2279dcb3d79f1248c3e64a900ff70f18f10a4", func := "gouache/gouachelaw04.RegionOfs", spec := "regionOfs", unfollowed := true, recurses := true, apart := false }
def RegionOfsSaid : Prop := regionOfsRow.holds Try.pinned (OpenSpec.ofChange regionOfsSpec)

/-- ITS FALSE NEIGHBOUR: 'it returns false'. Refute it at one input. -/
def regionOfsWrong : ChangeSpec := { name := "regionOfs", fn := fun _ => fun
  | [d] => { results := [.lit (.bool false)], args := [d] }
  | _ => none }
def RegionOfsWrongFalsely : Prop := regionOfsRow.holds Try.pinned (OpenSpec.ofChange regionOfsWrong)

/-- 'gouachelaw04.RegionPairs': WHATEVER THE INPUT: true; the input reads as it did. -/
def regionPairsSpec : ChangeSpec := { name := "regionPairs", fn := fun _ => fun
  | [d1, d2] => { results := [.lit (.bool true)], args := [d1, d2] }
  | _ => none }
def regionPairsRow : OpenClaim := { program := "ytapeafokcailkaa", sum := "9869f2416be4bb6264f20b90e1a2279dcb3d79f1248c3e64a900ff70f18f10a4", func := "gouache/gouachelaw04.RegionPairs", spec := "regionPairs", unfollowed := true, recurses := true, apart := false }
def RegionPairsSaid : Prop := regionPairsRow.holds Try.pinned (OpenSpec.ofChange regionPairsSpec)

/-- ITS FALSE NEIGHBOUR: 'it returns false'. Refute it at one input. -/
def regionPairsWrong : ChangeSpec := { name := "regionPairs", fn := fun _ => fun
  | [d1, d2] => { results := [.lit (.bool false)], args := [d1, d2] }
  | _ => none }
def RegionPairsWrongFalsely : Prop := regionPairsRow.holds Try.pinned (OpenSpec.ofChange regionPairsWrong)

/-- 'gouachelaw04.RegionLaws': WHATEVER THE INPUT: true; the input reads as it did. -/
def regionLawsSpec : ChangeSpec := { name := "regionLaws", fn := fun _ => fun
  | [d1, d2, d3] => { results := [.lit (.bool true)], args := [d1, d2, d3] }
  | _ => none }
def regionLawsRow : OpenClaim := { program := "ytapeafokcailkaa", sum := "9869f2416be4bb6264f20b90e1a2279dcb3d79f1248c3e64a900ff70f18f10a4", func := "gouache/gouachelaw04.RegionLaws", spec := "regionLaws", unfollowed := true, recurses := true, apart := false }
def RegionLawsSaid : Prop := regionLawsRow.holds Try.pinned (OpenSpec.ofChange regionLawsSpec)

/-- ITS FALSE NEIGHBOUR: 'it returns false'. Refute it at one input. -/
def regionLawsWrong : ChangeSpec := { name := "regionLaws", fn := fun _ => fun
  | [d1, d2, d3] => { results := [.lit (.bool false)], args := [d1, d2, d3] }
  | _ => none }
def RegionLawsWrongFalsely : Prop := regionLawsRow.holds Try.pinned (OpenSpec.ofChange regionLawsWrong)

/-- 'gouachelaw04.RegionKeeps': WHATEVER THE INPUT: true; the input reads as it did. -/
def regionKeepsSpec : ChangeSpec := { name := "regionKeeps", fn := fun _ => fun
  | [d1, d2] => { results := [.lit (.bool true)], args := [d1, d2] }
  | _ => none }
def regionKeepsRow : OpenClaim := { program := "ytapeafokcailkaa", sum := "9869f2416be4bb6264f20b90e1a2279dcb3d79f1248c3e64a900ff70f18f10a4", func := "gouache/gouachelaw04.RegionKeeps", spec := "regionKeeps", unfollowed := true, recurses := true, apart := false }
def RegionKeepsSaid : Prop := regionKeepsRow.holds Try.pinned (OpenSpec.ofChange regionKeepsSpec)

/-- ITS FALSE NEIGHBOUR: 'it returns false'. Refute it at one input. -/
def regionKeepsWrong : ChangeSpec := { name := "regionKeeps", fn := fun _ => fun
  | [d1, d2] => { results := [.lit (.bool false)], args := [d1, d2] }
  | _ => none }
def RegionKeepsWrongFalsely : Prop := regionKeepsRow.holds Try.pinned (OpenSpec.ofChange regionKeepsWrong)

/-- 'gouachelaw04.RegionMoves': WHATEVER THE INPUT: true; the input reads as it did. -/
def regionMovesSpec : ChangeSpec := { name := "regionMoves", fn := fun _ => fun
  | [d1, d2, d3, d4] => { results := [.lit (.bool true)], args := [d1, d2, d3, d4] }
  | _ => none }
def regionMovesRow : OpenClaim := { program := "ytapeafokcailkaa", sum := "9869f2416be4bb6264f20b90e1a2279dcb3d79f1248c3e64a900ff70f18f10a4", func := "gouache/gouachelaw04.RegionMoves", spec := "regionMoves", unfollowed := true, recurses := true, apart := false }
def RegionMovesSaid : Prop := regionMovesRow.holds Try.pinned (OpenSpec.ofChange regionMovesSpec)

/-- ITS FALSE NEIGHBOUR: 'it returns false'. Refute it at one input. -/
def regionMovesWrong : ChangeSpec := { name := "regionMoves", fn := fun _ => fun
  | [d1, d2, d3, d4] => { results := [.lit (.bool false)], args := [d1, d2, d3, d4] }
  | _ => none }
def RegionMovesWrongFalsely : Prop := regionMovesRow.holds Try.pinned (OpenSpec.ofChange regionMovesWrong)

/- THE SECOND FORM. 'bulk': how many values and letters a reading holds, each counted each time it is reached (what is shared counts as often as it is met; a slice's spare places count too). A statement '..UptoSaid' is the law's where the arguments, and the package variables that the reading takes, are together of bulk at most 1048576: NARROWER than '..Said'. Prove '..Said' where nothing that the law and all that it calls make is longer than what came in: it says more and counts as full. Else prove '..UptoSaid'. A law counts once. -/
mutual
def uptoBulk {H : Type} : DataW H → Nat
  | .lit (.string bytes) => bytes.length + 1
  | .lit _ => 1
  | .nil => 1
  | .ptr d => uptoBulk d + 1
  | .slice elems spare => uptoBulkAll elems + uptoBulkAll spare + 1
  | .agg parts => uptoBulkAll parts + 1
  | .iface _ d => uptoBulk d + 1
  | .map entries => uptoBulkEntries entries + 1
  | .held _ => 1
def uptoBulkAll {H : Type} : List (DataW H) → Nat
  | [] => 0
  | d :: r => uptoBulk d + uptoBulkAll r
def uptoBulkEntries {H : Type} : List (Lit × DataW H) → Nat
  | [] => 0
  | x :: r => uptoBulkEntry x + uptoBulkEntries r
def uptoBulkEntry {H : Type} : Lit × DataW H → Nat
  | (.string bytes, d) => bytes.length + uptoBulk d + 1
  | (_, d) => uptoBulk d + 1
 end
def uptoSmall : (H : Type) → List (DataW H) → Bool := fun _ ds => decide (uptoBulkAll ds ≤ 1048576)
def OpenSpec.upto (s : _root_.Go.ChangeSpec) : _root_.Go.OpenSpec := { _root_.Go.OpenSpec.ofChange s with cond := some uptoSmall }

/-- 'gouachelaw04.RegionOfs', WHERE WHAT IT READS IS OF BULK AT MOST 1048576: true; the input reads as it did. -/
def regionOfsUptoRow : OpenClaim := { program := "ytapeafokcailkaa", sum := "9869f2416be4bb6264f20b90e1a2279dcb3d79f1248c3e64a900ff70f18f10a4", func := "gouache/gouachelaw04.RegionOfs", spec := "regionOfs", unfollowed := true, recurses := true, apart := false, narrowed := true }
def RegionOfsUptoSaid : Prop := regionOfsUptoRow.holds Try.pinned (OpenSpec.upto regionOfsSpec)

/-- 'gouachelaw04.RegionPairs', WHERE WHAT IT READS IS OF BULK AT MOST 1048576: true; the input reads as it did. -/
def regionPairsUptoRow : OpenClaim := { program := "ytapeafokcailkaa", sum := "9869f2416be4bb6264f20b90e1a2279dcb3d79f1248c3e64a900ff70f18f10a4", func := "gouache/gouachelaw04.RegionPairs", spec := "regionPairs", unfollowed := true, recurses := true, apart := false, narrowed := true }
def RegionPairsUptoSaid : Prop := regionPairsUptoRow.holds Try.pinned (OpenSpec.upto regionPairsSpec)

/-- 'gouachelaw04.RegionLaws', WHERE WHAT IT READS IS OF BULK AT MOST 1048576: true; the input reads as it did. -/
def regionLawsUptoRow : OpenClaim := { program := "ytapeafokcailkaa", sum := "9869f2416be4bb6264f20b90e1a2279dcb3d79f1248c3e64a900ff70f18f10a4", func := "gouache/gouachelaw04.RegionLaws", spec := "regionLaws", unfollowed := true, recurses := true, apart := false, narrowed := true }
def RegionLawsUptoSaid : Prop := regionLawsUptoRow.holds Try.pinned (OpenSpec.upto regionLawsSpec)

/-- 'gouachelaw04.RegionKeeps', WHERE WHAT IT READS IS OF BULK AT MOST 1048576: true; the input reads as it did. -/
def regionKeepsUptoRow : OpenClaim := { program := "ytapeafokcailkaa", sum := "9869f2416be4bb6264f20b90e1a2279dcb3d79f1248c3e64a900ff70f18f10a4", func := "gouache/gouachelaw04.RegionKeeps", spec := "regionKeeps", unfollowed := true, recurses := true, apart := false, narrowed := true }
def RegionKeepsUptoSaid : Prop := regionKeepsUptoRow.holds Try.pinned (OpenSpec.upto regionKeepsSpec)

/-- 'gouachelaw04.RegionMoves', WHERE WHAT IT READS IS OF BULK AT MOST 1048576: true; the input reads as it did. -/
def regionMovesUptoRow : OpenClaim := { program := "ytapeafokcailkaa", sum := "9869f2416be4bb6264f20b90e1a2279dcb3d79f1248c3e64a900ff70f18f10a4", func := "gouache/gouachelaw04.RegionMoves", spec := "regionMoves", unfollowed := true, recurses := true, apart := false, narrowed := true }
def RegionMovesUptoSaid : Prop := regionMovesUptoRow.holds Try.pinned (OpenSpec.upto regionMovesSpec)

end Rows
end Go.Proofs.Ytapeafokcailkaa
