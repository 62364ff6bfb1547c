/- Acts as bytes: a fault is caught. -/
import Derived.Test.YtnamnmipgpcjjaaCRdK
import Derived.Defers
import Derived.Recover
namespace Go.Proofs.Ytnamnmipgpcjjaa
open Go.RowKit Go.Gou

theorem caught_nil (w : World) : Calls Try.prog 20 #[.nilIface] w fun e w' => e = .returned (.bool false) ∧ w' = w := by
  go_enter Try.func20, Try.ntmps20
  go_wp2
  go_ret
  exact ⟨rfl, rfl⟩

set_option maxRecDepth 100000 in
theorem caught_fault (w : World) : Calls Try.prog 20 #[.iface 84 (.agg #[])] w fun e w' => e = .returned (.bool true) ∧ Gou.Mod (fun _ => False) w w' := by
  go_enter Try.func20, Try.ntmps20
  have ha : (Instr.typeAssert (.iface 84 (.agg #[])) 20 84 true).run Try.prog w = .ok (.tuple #[.agg #[], .bool true]) w := by
    simp [Instr.typeAssert, go_sem, Try.underlying84]
  go_wp2
  go_ret
  exact ⟨rfl, Mod.alloc _ _ _⟩

end Go.Proofs.Ytnamnmipgpcjjaa
