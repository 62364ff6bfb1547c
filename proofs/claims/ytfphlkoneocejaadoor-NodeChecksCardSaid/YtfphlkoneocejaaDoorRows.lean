/-
  NARROWER THAN 'FOR EVERY INPUT', by the rows' own cells (each row's printed sentence says how): NodeOnes: laid · NodeChecks: laid · NodeArities: laid.
  DERIVED. THE GIVEN ROWS OF THIS SEAT. 3 by the template 'for every input the law returns true; each argument reads behind the call as it read before'; 0 by the template 'total and deterministic' (their statements: YtfphlkoneocejaaDoorTotals.lean).
  GIVEN WITH THE SEED: the statements are not yours to turn. If you find one false, say at which input.
  Laid BY PROGRAM, IN A SANDBOX (cutbox-rows.mjs): the forced cells as the released guide's own fill.sh prints them over the translation 7be85e21adc51af0… (all of the seat's roots in one cut). By AI agents, Wed Nov 11 2026. No macro, syntax, notation, axiom, sorry.
-/
import Derived.Test.YtfphlkoneocejaaDoorChecked
import GoSem.Claim
import GoSem.ClaimJoined
import GoSem.ClaimMapViews
import Derived.JoinedTies
import Derived.KernelRfl
namespace Go.Proofs.YtfphlkoneocejaaDoor
/- THE CELL 'sum', in the pinned program and in every row, IS THE sha256 OF THE DUMP (.gsa) THAT YtfphlkoneocejaaDoorProg.lean LOADS. Nothing in Lean hashes anything: it is a label: what it is worth is what the hold of that sum in a sandbox is worth. -/
noncomputable def Tryd.pinned : Pinned := { name := "ytfphlkoneocejaadoor", sum := "7be85e21adc51af00941ecf333767e9622c0c35dccc5b1dc6191bc9932ccae28", checked := Tryd.checked }
namespace Rows
def none {H : Type} : Left H := { results := [], args := [] }

/- WHAT THE LISTED PACKAGE-LEVEL VARIABLES READ AS WHEN THE CALL BEGINS. Each datum BY PROGRAM (the guide's laid-datum.mjs) off the statement by which the dump's own 'gosem.cut.vars' lays the variable. In a bare row this is a premise. The card (YtfphlkoneocejaaDoorCards.lean) ties it to the program's text. -/
def laid_gouache_gouacheref12_least {H : Type} : DataW H := .agg [.lit (.int .i64 0), .lit (.int .i64 1), .lit (.int .i64 1), .lit (.int .i64 1), .lit (.int .i64 1), .lit (.int .i64 1), .lit (.int .i64 0), .lit (.int .i64 2), .lit (.int .i64 2), .lit (.int .i64 1), .lit (.int .i64 1), .lit (.int .i64 1), .lit (.int .i64 1)]
def laid_gouache_gouacheref12_most {H : Type} : DataW H := .agg [.lit (.int .i64 0), .lit (.int .i64 1), .lit (.int .i64 1), .lit (.int .i64 1), .lit (.int .i64 1), .lit (.int .i64 1), .lit (.int .i64 0), .lit (.int .i64 2), .lit (.int .i64 2), .lit (.int .i64 8), .lit (.int .i64 1), .lit (.int .i64 1), .lit (.int .i64 1)]
def laid_gouache_gouacheref12_params {H : Type} : DataW H := .agg [.lit (.int .i64 0), .lit (.int .i64 2), .lit (.int .i64 2), .lit (.int .i64 2), .lit (.int .i64 2), .lit (.int .i64 20), .lit (.int .i64 8), .lit (.int .i64 1), .lit (.int .i64 1), .lit (.int .i64 0), .lit (.int .i64 4), .lit (.int .i64 8), .lit (.int .i64 4)]

/-- 'gouachelaw12.NodeOnes': WHATEVER THE INPUT: true; the input reads as it did. -/
def nodeOnesSpec : ChangeSpec := { name := "nodeOnes", fn := fun _ => fun
  | [d1, d2] => { results := [.lit (.bool true)], args := [d1, d2] }
  | _ => none }
def nodeOnesRow : OpenClaim := { program := "ytfphlkoneocejaadoor", sum := "7be85e21adc51af00941ecf333767e9622c0c35dccc5b1dc6191bc9932ccae28", func := "gouache/gouachelaw12.NodeOnes", spec := "nodeOnes", unfollowed := true, recurses := true, named := ["gouache/gouacheref12.least", "gouache/gouacheref12.most", "gouache/gouacheref12.params"], apart := false, laid := [("gouache/gouacheref12.least", laid_gouache_gouacheref12_least), ("gouache/gouacheref12.most", laid_gouache_gouacheref12_most), ("gouache/gouacheref12.params", laid_gouache_gouacheref12_params)] }
def NodeOnesSaid : Prop := nodeOnesRow.holds Tryd.pinned (OpenSpec.ofChange nodeOnesSpec)

/-- ITS FALSE NEIGHBOUR: 'it returns false'. Refute it at one input. -/
def nodeOnesWrong : ChangeSpec := { name := "nodeOnes", fn := fun _ => fun
  | [d1, d2] => { results := [.lit (.bool false)], args := [d1, d2] }
  | _ => none }
def NodeOnesWrongFalsely : Prop := nodeOnesRow.holds Tryd.pinned (OpenSpec.ofChange nodeOnesWrong)

/-- 'gouachelaw12.NodeChecks': WHATEVER THE INPUT: true; the input reads as it did. -/
def nodeChecksSpec : ChangeSpec := { name := "nodeChecks", fn := fun _ => fun
  | [d] => { results := [.lit (.bool true)], args := [d] }
  | _ => none }
def nodeChecksRow : OpenClaim := { program := "ytfphlkoneocejaadoor", sum := "7be85e21adc51af00941ecf333767e9622c0c35dccc5b1dc6191bc9932ccae28", func := "gouache/gouachelaw12.NodeChecks", spec := "nodeChecks", unfollowed := true, recurses := true, named := ["gouache/gouacheref12.least", "gouache/gouacheref12.most", "gouache/gouacheref12.params"], apart := false, laid := [("gouache/gouacheref12.least", laid_gouache_gouacheref12_least), ("gouache/gouacheref12.most", laid_gouache_gouacheref12_most), ("gouache/gouacheref12.params", laid_gouache_gouacheref12_params)] }
def NodeChecksSaid : Prop := nodeChecksRow.holds Tryd.pinned (OpenSpec.ofChange nodeChecksSpec)

/-- ITS FALSE NEIGHBOUR: 'it returns false'. Refute it at one input. -/
def nodeChecksWrong : ChangeSpec := { name := "nodeChecks", fn := fun _ => fun
  | [d] => { results := [.lit (.bool false)], args := [d] }
  | _ => none }
def NodeChecksWrongFalsely : Prop := nodeChecksRow.holds Tryd.pinned (OpenSpec.ofChange nodeChecksWrong)

/-- 'gouachelaw12.NodeArities': WHATEVER THE INPUT: true; the input reads as it did. -/
def nodeAritiesSpec : ChangeSpec := { name := "nodeArities", fn := fun _ => fun
  | [d] => { results := [.lit (.bool true)], args := [d] }
  | _ => none }
def nodeAritiesRow : OpenClaim := { program := "ytfphlkoneocejaadoor", sum := "7be85e21adc51af00941ecf333767e9622c0c35dccc5b1dc6191bc9932ccae28", func := "gouache/gouachelaw12.NodeArities", spec := "nodeArities", unfollowed := true, recurses := true, named := ["gouache/gouacheref12.least", "gouache/gouacheref12.most", "gouache/gouacheref12.params"], apart := false, laid := [("gouache/gouacheref12.least", laid_gouache_gouacheref12_least), ("gouache/gouacheref12.most", laid_gouache_gouacheref12_most), ("gouache/gouacheref12.params", laid_gouache_gouacheref12_params)] }
def NodeAritiesSaid : Prop := nodeAritiesRow.holds Tryd.pinned (OpenSpec.ofChange nodeAritiesSpec)

/-- ITS FALSE NEIGHBOUR: 'it returns false'. Refute it at one input. -/
def nodeAritiesWrong : ChangeSpec := { name := "nodeArities", fn := fun _ => fun
  | [d] => { results := [.lit (.bool false)], args := [d] }
  | _ => none }
def NodeAritiesWrongFalsely : Prop := nodeAritiesRow.holds Tryd.pinned (OpenSpec.ofChange nodeAritiesWrong)

/- THE SECOND FORM. 'bulk': how many values and letters a reading holds, each counted each time it is reached (what is shared counts as often as it is met; a slice's spare places count too). A statement '..UptoSaid' is the law's where the arguments, and the package variables that the reading takes, are together of bulk at most 1048576: NARROWER than '..Said'. Prove '..Said' where nothing that the law and all that it calls make is longer than what came in: it says more and counts as full. Else prove '..UptoSaid'. A law counts once. -/
mutual
def uptoBulk {H : Type} : DataW H → Nat
  | .lit (.string bytes) => bytes.length + 1
  | .lit _ => 1
  | .nil => 1
  | .ptr d => uptoBulk d + 1
  | .slice elems spare => uptoBulkAll elems + uptoBulkAll spare + 1
  | .agg parts => uptoBulkAll parts + 1
  | .iface _ d => uptoBulk d + 1
  | .map entries => uptoBulkEntries entries + 1
  | .held _ => 1
def uptoBulkAll {H : Type} : List (DataW H) → Nat
  | [] => 0
  | d :: r => uptoBulk d + uptoBulkAll r
def uptoBulkEntries {H : Type} : List (Lit × DataW H) → Nat
  | [] => 0
  | x :: r => uptoBulkEntry x + uptoBulkEntries r
def uptoBulkEntry {H : Type} : Lit × DataW H → Nat
  | (.string bytes, d) => bytes.length + uptoBulk d + 1
  | (_, d) => uptoBulk d + 1
 end
def uptoSmall : (H : Type) → List (DataW H) → Bool := fun _ ds => decide (uptoBulkAll ds ≤ 1048576)
def OpenSpec.upto (s : _root_.Go.ChangeSpec) : _root_.Go.OpenSpec := { _root_.Go.OpenSpec.ofChange s with cond := some uptoSmall }

/-- 'gouachelaw12.NodeOnes', WHERE WHAT IT READS IS OF BULK AT MOST 1048576: true; the input reads as it did. -/
def nodeOnesUptoRow : OpenClaim := { program := "ytfphlkoneocejaadoor", sum := "7be85e21adc51af00941ecf333767e9622c0c35dccc5b1dc6191bc9932ccae28", func := "gouache/gouachelaw12.NodeOnes", spec := "nodeOnes", unfollowed := true, recurses := true, named := ["gouache/gouacheref12.least", "gouache/gouacheref12.most", "gouache/gouacheref12.params"], apart := false, laid := [("gouache/gouacheref12.least", laid_gouache_gouacheref12_least), ("gouache/gouacheref12.most", laid_gouache_gouacheref12_most), ("gouache/gouacheref12.params", laid_gouache_gouacheref12_params)], narrowed := true }
def NodeOnesUptoSaid : Prop := nodeOnesUptoRow.holds Tryd.pinned (OpenSpec.upto nodeOnesSpec)

/-- 'gouachelaw12.NodeChecks', WHERE WHAT IT READS IS OF BULK AT MOST 1048576: true; the input reads as it did. -/
def nodeChecksUptoRow : OpenClaim := { program := "ytfphlkoneocejaadoor", sum := "7be85e21adc51af00941ecf333767e9622c0c35dccc5b1dc6191bc9932ccae28", func := "gouache/gouachelaw12.NodeChecks", spec := "nodeChecks", unfollowed := true, recurses := true, named := ["gouache/gouacheref12.least", "gouache/gouacheref12.most", "gouache/gouacheref12.params"], apart := false, laid := [("gouache/gouacheref12.least", laid_gouache_gouacheref12_least), ("gouache/gouacheref12.most", laid_gouache_gouacheref12_most), ("gouache/gouacheref12.params", laid_gouache_gouacheref12_params)], narrowed := true }
def NodeChecksUptoSaid : Prop := nodeChecksUptoRow.holds Tryd.pinned (OpenSpec.upto nodeChecksSpec)

/-- 'gouachelaw12.NodeArities', WHERE WHAT IT READS IS OF BULK AT MOST 1048576: true; the input reads as it did. -/
def nodeAritiesUptoRow : OpenClaim := { program := "ytfphlkoneocejaadoor", sum := "7be85e21adc51af00941ecf333767e9622c0c35dccc5b1dc6191bc9932ccae28", func := "gouache/gouachelaw12.NodeArities", spec := "nodeArities", unfollowed := true, recurses := true, named := ["gouache/gouacheref12.least", "gouache/gouacheref12.most", "gouache/gouacheref12.params"], apart := false, laid := [("gouache/gouacheref12.least", laid_gouache_gouacheref12_least), ("gouache/gouacheref12.most", laid_gouache_gouacheref12_most), ("gouache/gouacheref12.params", laid_gouache_gouacheref12_params)], narrowed := true }
def NodeAritiesUptoSaid : Prop := nodeAritiesUptoRow.holds Tryd.pinned (OpenSpec.upto nodeAritiesSpec)

end Rows
end Go.Proofs.YtfphlkoneocejaaDoor
