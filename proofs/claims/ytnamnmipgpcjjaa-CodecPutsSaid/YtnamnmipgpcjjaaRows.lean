/-
  No cell of these rows narrows 'for every input' (looked for: loops, veiled, ifaces, maps, wideKeys, modest, calm, conditions, laid).
  DERIVED. THE GIVEN ROWS OF THIS SEAT. 6 by the template 'for every input the law returns true; each argument reads behind the call as it read before'; 0 by the template 'total and deterministic' (their statements: YtnamnmipgpcjjaaTotals.lean).
  GIVEN WITH THE SEED: the statements are not yours to turn. If you find one false, say at which input.
  Laid BY PROGRAM, IN A SANDBOX (cutbox-rows.mjs): the forced cells as the released guide's own fill.sh prints them over the translation 3f3771a3662c9abb… (all of the seat's roots in one cut). By AI agents, Wed Nov 11 2026. No macro, syntax, notation, axiom, sorry.
-/
import Derived.Test.YtnamnmipgpcjjaaChecked
import GoSem.Claim
import GoSem.ClaimJoined
import GoSem.ClaimMapViews
import Derived.JoinedTies
import Derived.KernelRfl
namespace Go.Proofs.Ytnamnmipgpcjjaa
/- THE CELL 'sum', in the pinned program and in every row, IS THE sha256 OF THE DUMP (.gsa) THAT YtnamnmipgpcjjaaProg.lean LOADS. Nothing in Lean hashes anything: it is a label: what it is worth is what the hold of that sum in a sandbox is worth. -/
noncomputable def Try.pinned : Pinned := { name := "ytnamnmipgpcjjaa", sum := "3f3771a3662c9abb9e67259f22b3bc366130651eec5b11e37ab774ef0694c073", checked := Try.checked }
namespace Rows
def none {H : Type} : Left H := { results := [], args := [] }

/-- 'gouachelaw28.CodecPuts': WHATEVER THE INPUT: true; the input reads as it did. -/
def codecPutsSpec : ChangeSpec := { name := "codecPuts", fn := fun _ => fun
  | [d] => { results := [.lit (.bool true)], args := [d] }
  | _ => none }
def codecPutsRow : OpenClaim := { program := "ytnamnmipgpcjjaa", sum := "3f3771a3662c9abb9e67259f22b3bc366130651eec5b11e37ab774ef0694c073", func := "gouache/gouachelaw28.CodecPuts", spec := "codecPuts", unfollowed := true, recurses := true, apart := false }
def CodecPutsSaid : Prop := codecPutsRow.holds Try.pinned (OpenSpec.ofChange codecPutsSpec)

/-- ITS FALSE NEIGHBOUR: 'it returns false'. Refute it at one input. -/
def codecPutsWrong : ChangeSpec := { name := "codecPuts", fn := fun _ => fun
  | [d] => { results := [.lit (.bool false)], args := [d] }
  | _ => none }
def CodecPutsWrongFalsely : Prop := codecPutsRow.holds Try.pinned (OpenSpec.ofChange codecPutsWrong)

/-- 'gouachelaw28.CodecGets': WHATEVER THE INPUT: true; the input reads as it did. -/
def codecGetsSpec : ChangeSpec := { name := "codecGets", fn := fun _ => fun
  | [d] => { results := [.lit (.bool true)], args := [d] }
  | _ => none }
def codecGetsRow : OpenClaim := { program := "ytnamnmipgpcjjaa", sum := "3f3771a3662c9abb9e67259f22b3bc366130651eec5b11e37ab774ef0694c073", func := "gouache/gouachelaw28.CodecGets", spec := "codecGets", unfollowed := true, recurses := true, apart := false }
def CodecGetsSaid : Prop := codecGetsRow.holds Try.pinned (OpenSpec.ofChange codecGetsSpec)

/-- ITS FALSE NEIGHBOUR: 'it returns false'. Refute it at one input. -/
def codecGetsWrong : ChangeSpec := { name := "codecGets", fn := fun _ => fun
  | [d] => { results := [.lit (.bool false)], args := [d] }
  | _ => none }
def CodecGetsWrongFalsely : Prop := codecGetsRow.holds Try.pinned (OpenSpec.ofChange codecGetsWrong)

/-- 'gouachelaw28.CodecBack': WHATEVER THE INPUT: true; the input reads as it did. -/
def codecBackSpec : ChangeSpec := { name := "codecBack", fn := fun _ => fun
  | [d1, d2] => { results := [.lit (.bool true)], args := [d1, d2] }
  | _ => none }
def codecBackRow : OpenClaim := { program := "ytnamnmipgpcjjaa", sum := "3f3771a3662c9abb9e67259f22b3bc366130651eec5b11e37ab774ef0694c073", func := "gouache/gouachelaw28.CodecBack", spec := "codecBack", unfollowed := true, recurses := true, apart := false }
def CodecBackSaid : Prop := codecBackRow.holds Try.pinned (OpenSpec.ofChange codecBackSpec)

/-- ITS FALSE NEIGHBOUR: 'it returns false'. Refute it at one input. -/
def codecBackWrong : ChangeSpec := { name := "codecBack", fn := fun _ => fun
  | [d1, d2] => { results := [.lit (.bool false)], args := [d1, d2] }
  | _ => none }
def CodecBackWrongFalsely : Prop := codecBackRow.holds Try.pinned (OpenSpec.ofChange codecBackWrong)

/-- 'gouachelaw28.CodecCut': WHATEVER THE INPUT: true; the input reads as it did. -/
def codecCutSpec : ChangeSpec := { name := "codecCut", fn := fun _ => fun
  | [d1, d2] => { results := [.lit (.bool true)], args := [d1, d2] }
  | _ => none }
def codecCutRow : OpenClaim := { program := "ytnamnmipgpcjjaa", sum := "3f3771a3662c9abb9e67259f22b3bc366130651eec5b11e37ab774ef0694c073", func := "gouache/gouachelaw28.CodecCut", spec := "codecCut", unfollowed := true, recurses := true, apart := false }
def CodecCutSaid : Prop := codecCutRow.holds Try.pinned (OpenSpec.ofChange codecCutSpec)

/-- ITS FALSE NEIGHBOUR: 'it returns false'. Refute it at one input. -/
def codecCutWrong : ChangeSpec := { name := "codecCut", fn := fun _ => fun
  | [d1, d2] => { results := [.lit (.bool false)], args := [d1, d2] }
  | _ => none }
def CodecCutWrongFalsely : Prop := codecCutRow.holds Try.pinned (OpenSpec.ofChange codecCutWrong)

/-- 'gouachelaw28.CodecUnlike': WHATEVER THE INPUT: true; the input reads as it did. -/
def codecUnlikeSpec : ChangeSpec := { name := "codecUnlike", fn := fun _ => fun
  | [d1, d2] => { results := [.lit (.bool true)], args := [d1, d2] }
  | _ => none }
def codecUnlikeRow : OpenClaim := { program := "ytnamnmipgpcjjaa", sum := "3f3771a3662c9abb9e67259f22b3bc366130651eec5b11e37ab774ef0694c073", func := "gouache/gouachelaw28.CodecUnlike", spec := "codecUnlike", unfollowed := true, recurses := true, apart := false }
def CodecUnlikeSaid : Prop := codecUnlikeRow.holds Try.pinned (OpenSpec.ofChange codecUnlikeSpec)

/-- ITS FALSE NEIGHBOUR: 'it returns false'. Refute it at one input. -/
def codecUnlikeWrong : ChangeSpec := { name := "codecUnlike", fn := fun _ => fun
  | [d1, d2] => { results := [.lit (.bool false)], args := [d1, d2] }
  | _ => none }
def CodecUnlikeWrongFalsely : Prop := codecUnlikeRow.holds Try.pinned (OpenSpec.ofChange codecUnlikeWrong)

/-- 'gouachelaw28.CodecKeeps': WHATEVER THE INPUT: true; the input reads as it did. -/
def codecKeepsSpec : ChangeSpec := { name := "codecKeeps", fn := fun _ => fun
  | [d] => { results := [.lit (.bool true)], args := [d] }
  | _ => none }
def codecKeepsRow : OpenClaim := { program := "ytnamnmipgpcjjaa", sum := "3f3771a3662c9abb9e67259f22b3bc366130651eec5b11e37ab774ef0694c073", func := "gouache/gouachelaw28.CodecKeeps", spec := "codecKeeps", unfollowed := true, recurses := true, apart := false }
def CodecKeepsSaid : Prop := codecKeepsRow.holds Try.pinned (OpenSpec.ofChange codecKeepsSpec)

/-- ITS FALSE NEIGHBOUR: 'it returns false'. Refute it at one input. -/
def codecKeepsWrong : ChangeSpec := { name := "codecKeeps", fn := fun _ => fun
  | [d] => { results := [.lit (.bool false)], args := [d] }
  | _ => none }
def CodecKeepsWrongFalsely : Prop := codecKeepsRow.holds Try.pinned (OpenSpec.ofChange codecKeepsWrong)

/- THE SECOND FORM. 'bulk': how many values and letters a reading holds, each counted each time it is reached (what is shared counts as often as it is met; a slice's spare places count too). A statement '..UptoSaid' is the law's where the arguments, and the package variables that the reading takes, are together of bulk at most 1048576: NARROWER than '..Said'. Prove '..Said' where nothing that the law and all that it calls make is longer than what came in: it says more and counts as full. Else prove '..UptoSaid'. A law counts once. -/
mutual
def uptoBulk {H : Type} : DataW H → Nat
  | .lit (.string bytes) => bytes.length + 1
  | .lit _ => 1
  | .nil => 1
  | .ptr d => uptoBulk d + 1
  | .slice elems spare => uptoBulkAll elems + uptoBulkAll spare + 1
  | .agg parts => uptoBulkAll parts + 1
  | .iface _ d => uptoBulk d + 1
  | .map entries => uptoBulkEntries entries + 1
  | .held _ => 1
def uptoBulkAll {H : Type} : List (DataW H) → Nat
  | [] => 0
  | d :: r => uptoBulk d + uptoBulkAll r
def uptoBulkEntries {H : Type} : List (Lit × DataW H) → Nat
  | [] => 0
  | x :: r => uptoBulkEntry x + uptoBulkEntries r
def uptoBulkEntry {H : Type} : Lit × DataW H → Nat
  | (.string bytes, d) => bytes.length + uptoBulk d + 1
  | (_, d) => uptoBulk d + 1
 end
def uptoSmall : (H : Type) → List (DataW H) → Bool := fun _ ds => decide (uptoBulkAll ds ≤ 1048576)
def OpenSpec.upto (s : _root_.Go.ChangeSpec) : _root_.Go.OpenSpec := { _root_.Go.OpenSpec.ofChange s with cond := some uptoSmall }

/-- 'gouachelaw28.CodecPuts', WHERE WHAT IT READS IS OF BULK AT MOST 1048576: true; the input reads as it did. -/
def codecPutsUptoRow : OpenClaim := { program := "ytnamnmipgpcjjaa", sum := "3f3771a3662c9abb9e67259f22b3bc366130651eec5b11e37ab774ef0694c073", func := "gouache/gouachelaw28.CodecPuts", spec := "codecPuts", unfollowed := true, recurses := true, apart := false, narrowed := true }
def CodecPutsUptoSaid : Prop := codecPutsUptoRow.holds Try.pinned (OpenSpec.upto codecPutsSpec)

/-- 'gouachelaw28.CodecGets', WHERE WHAT IT READS IS OF BULK AT MOST 1048576: true; the input reads as it did. -/
def codecGetsUptoRow : OpenClaim := { program := "ytnamnmipgpcjjaa", sum := "3f3771a3662c9abb9e67259f22b3bc366130651eec5b11e37ab774ef0694c073", func := "gouache/gouachelaw28.CodecGets", spec := "codecGets", unfollowed := true, recurses := true, apart := false, narrowed := true }
def CodecGetsUptoSaid : Prop := codecGetsUptoRow.holds Try.pinned (OpenSpec.upto codecGetsSpec)

/-- 'gouachelaw28.CodecBack', WHERE WHAT IT READS IS OF BULK AT MOST 1048576: true; the input reads as it did. -/
def codecBackUptoRow : OpenClaim := { program := "ytnamnmipgpcjjaa", sum := "3f3771a3662c9abb9e67259f22b3bc366130651eec5b11e37ab774ef0694c073", func := "gouache/gouachelaw28.CodecBack", spec := "codecBack", unfollowed := true, recurses := true, apart := false, narrowed := true }
def CodecBackUptoSaid : Prop := codecBackUptoRow.holds Try.pinned (OpenSpec.upto codecBackSpec)

/-- 'gouachelaw28.CodecCut', WHERE WHAT IT READS IS OF BULK AT MOST 1048576: true; the input reads as it did. -/
def codecCutUptoRow : OpenClaim := { program := "ytnamnmipgpcjjaa", sum := "3f3771a3662c9abb9e67259f22b3bc366130651eec5b11e37ab774ef0694c073", func := "gouache/gouachelaw28.CodecCut", spec := "codecCut", unfollowed := true, recurses := true, apart := false, narrowed := true }
def CodecCutUptoSaid : Prop := codecCutUptoRow.holds Try.pinned (OpenSpec.upto codecCutSpec)

/-- 'gouachelaw28.CodecUnlike', WHERE WHAT IT READS IS OF BULK AT MOST 1048576: true; the input reads as it did. -/
def codecUnlikeUptoRow : OpenClaim := { program := "ytnamnmipgpcjjaa", sum := "3f3771a3662c9abb9e67259f22b3bc366130651eec5b11e37ab774ef0694c073", func := "gouache/gouachelaw28.CodecUnlike", spec := "codecUnlike", unfollowed := true, recurses := true, apart := false, narrowed := true }
def CodecUnlikeUptoSaid : Prop := codecUnlikeUptoRow.holds Try.pinned (OpenSpec.upto codecUnlikeSpec)

/-- 'gouachelaw28.CodecKeeps', WHERE WHAT IT READS IS OF BULK AT MOST 1048576: true; the input reads as it did. -/
def codecKeepsUptoRow : OpenClaim := { program := "ytnamnmipgpcjjaa", sum := "3f3771a3662c9abb9e67259f22b3bc366130651eec5b11e37ab774ef0694c073", func := "gouache/gouachelaw28.CodecKeeps", spec := "codecKeeps", unfollowed := true, recurses := true, apart := false, narrowed := true }
def CodecKeepsUptoSaid : Prop := codecKeepsUptoRow.holds Try.pinned (OpenSpec.upto codecKeepsSpec)

end Rows
end Go.Proofs.Ytnamnmipgpcjjaa
