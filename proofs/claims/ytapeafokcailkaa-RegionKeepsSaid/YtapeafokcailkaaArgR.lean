/- The arguments of this seat's laws, opened: rows of rectangles. -/
import Derived.Test.YtapeafokcailkaaRwO
import Derived.Test.YtapeafokcailkaaRiA
set_option linter.unusedSimpArgs false
set_option linter.unusedVariables false
set_option linter.unusedSectionVars false
set_option linter.constructorNameAsVariable false
namespace Go.Proofs.Ytapeafokcailkaa
open Go.RowKit Go.Gou Go.ChangeShapes Go.WideShapes Go.Deep Go.Joins Go.Reg

theorem laidOut : laidOutB Try.prog = true := by kernel_rfl
theorem own : ownKnob Try.prog.godebug = none := by kernel_rfl
theorem cellsRect : Try.prog.cellsOf 36 = 4 := by kernel_rfl

theorem rectT : ∃ fs, RectT Try.prog 36 fs :=
  ⟨_, { ty := Try.underlying36, one := by kernel_rfl, cells := cellsRect, size := rfl, ints := fun i hi => by
          match i, hi with
          | 0, _ => exact ⟨_, rfl, Try.underlying3⟩
          | 1, _ => exact ⟨_, rfl, Try.underlying3⟩
          | 2, _ => exact ⟨_, rfl, Try.underlying3⟩
          | 3, _ => exact ⟨_, rfl, Try.underlying3⟩ }⟩

set_option linter.constructorNameAsVariable false
set_option maxRecDepth 100000

section
variable {H : Type} {enc : TypeId × Value → H} {w : World} {base : Nat} {spare : Nat → Bool} {held : Bool} {r : Reach} {b0 : Nat} {v : Value} {d : DataW H} {p : List MemPlace} {fuel : Nat} {cs : List Value} {x : DataW H × List MemPlace}

theorem open_rects (hv : Value.okWide Try.prog w r b0 22 v) (h : DataW.Trod enc Try.prog w base spare held 22 v d p) : ∃ l, RtR (fun _ => True) w v l ∧ ((∀ r ∈ l, RtWf r) ∧ l.length ≤ maxLen) := by
  obtain ⟨a, len, cap, rfl⟩ := okWide_slice Try.underlying22 hv
  obtain ⟨n, h⟩ := h
  have h : DataW.trod enc Try.prog w base spare held n 22 [.slice a len cap] = some (d, p) := h
  obtain ⟨fs, N⟩ := rectT
  obtain ⟨l, h1, h2, h3⟩ := open_rects_at N Try.underlying22 h
  exact ⟨l, h1, h2, h3⟩

theorem open_region (hv : Value.okWide Try.prog w r b0 27 v) (h : DataW.Trod enc Try.prog w base spare held 27 v d p) : ∃ l, RtR (fun _ => True) w v l ∧ ((∀ r ∈ l, RtWf r) ∧ l.length ≤ maxLen) := by
  obtain ⟨a, len, cap, rfl⟩ := okWide_slice Try.underlying27 hv
  obtain ⟨n, h⟩ := h
  have h : DataW.trod enc Try.prog w base spare held n 27 [.slice a len cap] = some (d, p) := h
  obtain ⟨fs, N⟩ := rectT
  obtain ⟨l, h1, h2, h3⟩ := open_rects_at N Try.underlying27 h
  exact ⟨l, h1, h2, h3⟩
end

end Go.Proofs.Ytapeafokcailkaa
