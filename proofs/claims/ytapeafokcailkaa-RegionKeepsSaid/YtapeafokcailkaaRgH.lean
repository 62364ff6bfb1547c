/- Regions: rectangles moved, grown and joined, in plain numbers. -/
import Derived.Test.YtapeafokcailkaaRgG
set_option linter.unusedSimpArgs false
set_option linter.unusedVariables false
set_option linter.unusedSectionVars false
set_option linter.constructorNameAsVariable false
namespace Go.Reg

def far : Int := 4398046511104
def Near (n : Int) : Prop := -far ≤ n ∧ n ≤ far
instance (n : Int) : Decidable (Near n) := by unfold Near; infer_instance
def Rt.Right (r : Rt) : Prop := Near r.x0 ∧ Near r.y0 ∧ Near r.x1 ∧ Near r.y1
instance (r : Rt) : Decidable r.Right := by unfold Rt.Right; infer_instance
def Rt.zero : Rt := ⟨0, 0, 0, 0⟩
def someP (r : Rt) : Rt := if r.Some then r else Rt.zero
def cutN (n : Int) : Int := max (-far) (min n far)
def edgeP (n by_ : Int) : Int := if n = far ∨ n = -far then n else cutN (n + by_)
def moveP (dx dy : Int) (r : Rt) : Rt := if r.Some then someP ⟨edgeP r.x0 dx, edgeP r.y0 dy, edgeP r.x1 dx, edgeP r.y1 dy⟩ else Rt.zero
def growP (l u r d : Int) (t : Rt) : Rt := if t.Some then someP ⟨cutN (t.x0 - l), cutN (t.y0 - u), cutN (t.x1 + r), cutN (t.y1 + d)⟩ else Rt.zero
def hullP (a b : Rt) : Rt := if a.Some then (if b.Some then ⟨min a.x0 b.x0, min a.y0 b.y0, max a.x1 b.x1, max a.y1 b.y1⟩ else a) else someP b
def boundsP (l : List Rt) : Rt := l.foldl hullP Rt.zero

/-- The code's own way to move an edge. -/
def movedP (n by_ : Int) : Int := if n = far ∨ n = -far then n else n + by_
theorem cut_moved (n by_ : Int) : cutN (movedP n by_) = edgeP n by_ := by
  unfold movedP edgeP
  split
  · rename_i h
    unfold cutN far at *
    omega
  · rfl
theorem someP_right {r : Rt} (h : r.Some → r.Right) : (someP r).Right := by
  unfold someP
  split
  · rename_i hs
    exact h hs
  · decide
theorem cutN_near (n : Int) : Near (cutN n) := by unfold Near cutN far; omega
theorem edgeP_near (n by_ : Int) : Near (edgeP n by_) := by
  unfold edgeP
  split
  · rename_i h
    unfold Near far at *
    omega
  · exact cutN_near _
theorem moveP_right (dx dy : Int) (r : Rt) : (moveP dx dy r).Right := by
  unfold moveP
  split
  · exact someP_right fun _ => ⟨edgeP_near _ _, edgeP_near _ _, edgeP_near _ _, edgeP_near _ _⟩
  · decide
theorem growP_right (l u r d : Int) (t : Rt) : (growP l u r d t).Right := by
  unfold growP
  split
  · exact someP_right fun _ => ⟨cutN_near _, cutN_near _, cutN_near _, cutN_near _⟩
  · decide

/-- The plane's own test of a rectangle that has points. -/
def inAll (r : Rt) : Prop := -far ≤ r.x0 ∧ -far ≤ r.y0 ∧ r.x1 ≤ far ∧ r.y1 ≤ far
instance (r : Rt) : Decidable (inAll r) := by unfold inAll; infer_instance
theorem inAll_right {r : Rt} (h : r.Some) : inAll r ↔ r.Right := by
  unfold inAll Rt.Right Near Rt.Some at *
  omega

end Go.Reg
