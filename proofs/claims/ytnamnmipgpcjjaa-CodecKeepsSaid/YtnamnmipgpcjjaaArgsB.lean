/- The arguments of this seat's laws, opened. -/
import Derived.Test.YtnamnmipgpcjjaaArgsA
namespace Go.Proofs.Ytnamnmipgpcjjaa
open Go.RowKit Go.Gou Go.ChangeShapes Go.WideShapes Go.Deep Go.Joins

theorem laidOut : laidOutB Try.prog = true := by kernel_rfl
theorem own : ownKnob Try.prog.godebug = none := by kernel_rfl
theorem cellsNode : Try.prog.cellsOf 82 = 3 := by kernel_rfl
theorem cellsInt : Try.prog.cellsOf 3 = 1 := by kernel_rfl
theorem cellsByte : Try.prog.cellsOf 5 = 1 := by kernel_rfl
theorem cellsPx : Try.prog.cellsOf 27 = 4 := by kernel_rfl
theorem cellsAct : Try.prog.cellsOf 41 = 42 := by kernel_rfl

theorem nodeT : ∃ fs, NodeT Try.prog 82 fs 0 3 :=
  ⟨_, { ty := Try.underlying82, one := by kernel_rfl, cells := cellsNode, size := rfl, f0 := ⟨_, rfl, Try.underlying3⟩, f1 := ⟨_, rfl, Try.underlying72⟩, f2 := ⟨_, rfl, Try.underlying72⟩, tint := Try.underlying3, tc := cellsInt }⟩

set_option linter.constructorNameAsVariable false
set_option maxRecDepth 100000

section
variable {H : Type} {enc : TypeId × Value → H} {w : World} {base : Nat} {spare : Nat → Bool} {held : Bool} {r : Reach} {b0 : Nat} {v : Value} {d : DataW H} {p : List MemPlace} {fuel : Nat} {cs : List Value} {x : DataW H × List MemPlace}

theorem open_bytes (hv : Value.okWide Try.prog w r b0 44 v) (h : DataW.Trod enc Try.prog w base spare held 44 v d p) : ∃ bs, BytesAt (fun _ => True) w v bs ∧ ((∀ y ∈ bs, y < 256) ∧ bs.length ≤ maxLen) := by
  obtain ⟨a, len, cap, rfl⟩ := okWide_slice Try.underlying44 hv
  obtain ⟨n, h⟩ := h
  have h : DataW.trod enc Try.prog w base spare held n 44 [.slice a len cap] = some (d, p) := h
  obtain ⟨bs, h1, h2, h3⟩ := open_bytes_at Try.underlying44 Try.underlying5 cellsByte h
  exact ⟨bs, h1, h2, h3⟩
end

end Go.Proofs.Ytnamnmipgpcjjaa
