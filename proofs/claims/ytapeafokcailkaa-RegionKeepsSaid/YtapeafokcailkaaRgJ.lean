/- Regions: the last band is made longer, one rectangle after the other; in plain numbers. -/
import Derived.Test.YtapeafokcailkaaRgI
set_option linter.unusedSimpArgs false
set_option linter.unusedVariables false
set_option linter.unusedSectionVars false
set_option linter.constructorNameAsVariable false
namespace Go.Reg

/-- From place fr on, as far as k, the rectangles end at y. -/
def partY (out : List Rt) (fr : Nat) (y : Int) (k : Nat) : List Rt := out.mapIdx fun j r => if fr ≤ j ∧ j < k then setY1 y r else r
theorem partY_len (out : List Rt) (fr : Nat) (y : Int) (k : Nat) : (partY out fr y k).length = out.length := by simp [partY]
theorem partY_start (out : List Rt) (fr : Nat) (y : Int) : partY out fr y fr = out := by
  apply List.ext_getElem
  · simp [partY]
  · intro i h1 h2
    simp only [partY, List.getElem_mapIdx]
    rw [if_neg (by omega)]
theorem partY_get (out : List Rt) (fr : Nat) (y : Int) (k : Nat) (h : k < out.length) : (partY out fr y k)[k]'(by rw [partY_len]; exact h) = out[k] := by
  simp only [partY, List.getElem_mapIdx]
  rw [if_neg (by omega)]
theorem partY_set (out : List Rt) (fr : Nat) (y : Int) (k : Nat) (hf : fr ≤ k) (h : k < out.length) : (partY out fr y k).set k (setY1 y out[k]) = partY out fr y (k + 1) := by
  apply List.ext_getElem
  · simp [partY]
  · intro i h1 h2
    rw [List.getElem_set]
    simp only [partY, List.getElem_mapIdx]
    by_cases hik : k = i
    · subst hik
      rw [if_pos rfl, if_pos (by omega)]
    · rw [if_neg hik]
      by_cases hc : fr ≤ i ∧ i < k
      · rw [if_pos hc, if_pos (by omega)]
      · rw [if_neg hc, if_neg (by omega)]
theorem partY_end (out : List Rt) (fr : Nat) (y : Int) (hf : fr ≤ out.length) : partY out fr y out.length = out.take fr ++ (out.drop fr).map (setY1 y) := by
  apply List.ext_getElem
  · simp [partY]; omega
  · intro i h1 h2
    simp only [partY, List.getElem_mapIdx]
    have hi : i < out.length := by simpa [partY] using h1
    by_cases hc : fr ≤ i
    · rw [if_pos ⟨hc, hi⟩, List.getElem_append_right (by simp; omega)]
      simp only [List.getElem_map, List.getElem_drop, List.length_take]
      congr 2
      omega
    · rw [if_neg (by omega), List.getElem_append_left (by simp; omega)]
      simp

/-- A row's spans as rectangles of a band. -/
def bandOf (row : List Sp) (y0 y1 : Int) : List Rt := row.map fun s => ⟨s.a, y0, s.b, y1⟩
theorem bandOf_snoc (l : List Sp) (s : Sp) (y0 y1 : Int) : bandOf (l ++ [s]) y0 y1 = bandOf l y0 y1 ++ [⟨s.a, y0, s.b, y1⟩] := by simp [bandOf]
theorem bandOf_len (l : List Sp) (y0 y1 : Int) : (bandOf l y0 y1).length = l.length := by simp [bandOf]

end Go.Reg
