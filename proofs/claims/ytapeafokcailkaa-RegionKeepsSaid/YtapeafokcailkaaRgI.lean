/- Regions: merge's loops, in plain numbers. -/
import Derived.Test.YtapeafokcailkaaRgH
set_option linter.unusedSimpArgs false
set_option linter.unusedVariables false
set_option linter.unusedSectionVars false
set_option linter.constructorNameAsVariable false
namespace Go.Reg

/-- A row's edges from a place on: those that are x are gone over. -/
theorem Next.of_loop {l : List Sp} (hc : Canon l) {i j : Nat} {x c : Int} (hu : Upto (edgesOf l) i c) (hcx : c < x) (hge : ∀ u, (edgesOf l)[i]? = some u → x ≤ u) (hij : i ≤ j) (hj : j ≤ (edgesOf l).length)
    (heq : ∀ m u, i ≤ m → m < j → (edgesOf l)[m]? = some u → u = x) (hend : ∀ u, (edgesOf l)[j]? = some u → u ≠ x) : Next (edgesOf l) i j x := by
  refine ⟨hge, hj, fun m u hm he => ?_, fun m u hm he => ?_⟩
  · rcases Nat.lt_or_ge m i with h | h
    · have := hu.lo m u h he
      omega
    · have := heq m u h hm he
      omega
  · have hml := (List.getElem?_eq_some_iff.1 he).1
    have hjl : j < (edgesOf l).length := by omega
    have hji := List.getElem?_eq_getElem hjl
    have h1 := hend _ hji
    have h2 : x < (edgesOf l)[j] := by
      rcases Nat.lt_or_ge i j with h | h
      · have h3 := hge _ (List.getElem?_eq_getElem (by omega : i < (edgesOf l).length))
        have h4 := edges_rise hc h (List.getElem?_eq_getElem (by omega : i < (edgesOf l).length)) hji
        omega
      · obtain rfl : i = j := by omega
        have := hge _ hji
        omega
    rcases Nat.lt_or_ge j m with h | h
    · have := edges_rise hc h hji he
      omega
    · obtain rfl : j = m := by omega
      rw [hji] at he
      simp only [Option.some.injEq] at he
      omega

/-- Where the next edge is one's own, it is gone over. -/
theorem Next.moves {e : List Int} {i j : Nat} {x : Int} (h : Next e i j x) (hx : e[i]? = some x) : i < j := by
  rcases Nat.lt_or_ge i j with h1 | h1
  · exact h1
  · have := h.up.hi i x h1 hx
    omega

theorem edges_at (l : List Sp) (i : Nat) (h : i < 2 * l.length) : ∃ u, (edgesOf l)[i]? = some u := by
  have : i < (edgesOf l).length := by rw [edgesOf_len]; exact h
  exact ⟨_, List.getElem?_eq_getElem this⟩
theorem edges_end (l : List Sp) (i : Nat) (h : ¬ i < 2 * l.length) : (edgesOf l)[i]? = none := by
  rw [List.getElem?_eq_none_iff, edgesOf_len]
  omega

end Go.Reg
