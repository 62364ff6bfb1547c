/- Regions: the document's row out of a grid's cells; its test of two rows; in plain numbers. -/
import Derived.Test.YtapeafokcailkaaRgJ
set_option linter.unusedSimpArgs false
set_option linter.unusedVariables false
set_option linter.unusedSectionVars false
set_option linter.constructorNameAsVariable false
namespace Go.Reg

/-- On the way through a row's cells. -/
def GridB (a b : List Rt) (f : Bool → Bool → Bool) (xs : List Int) (y0 : Int) (i : Nat) (row : List Sp) : Prop :=
  (xs = [] ∧ row = [] ∧ i = 0) ∨ ∃ x, xs[i]? = some x ∧ GInv (fun x => Pts a b f x y0) row x

theorem GridB.start {a b : List Rt} {f : Bool → Bool → Bool} {xs : List Int} {y0 : Int} (hf : f false false = false) (hu : Up xs) (ha : XEdges xs a) (hb : XEdges xs b) : GridB a b f xs y0 0 [] := by
  cases xs with
  | nil => exact .inl ⟨rfl, rfl, rfl⟩
  | cons x r => exact .inr ⟨x, rfl, GInv.start _ _ fun y hy => Pts.out hf (ha.below hu rfl hy) (hb.below hu rfl hy)⟩
theorem GridB.step {a b : List Rt} {f : Bool → Bool → Bool} {xs : List Int} {y0 : Int} {i : Nat} {row : List Sp} (h : GridB a b f xs y0 i row) (hu : Up xs) (ha : XEdges xs a) (hb : XEdges xs b) {x0 x1 : Int} (h0 : xs[i]? = some x0) (h1 : xs[i + 1]? = some x1) :
    GridB a b f xs y0 (i + 1) (gridStep (fun x => Pts a b f x y0) row x0 x1) := by
  rcases h with ⟨rfl, _⟩ | ⟨x, hx, h⟩
  · simp at h0
  · rw [h0, Option.some.injEq] at hx
    subst hx
    exact .inr ⟨x1, h1, h.step (hu.next h0 h1) fun y k1 k2 => Pts.congr (ha.const hu h0 h1 k1 k2) (hb.const hu h0 h1 k1 k2)⟩
theorem GridB.no {a b : List Rt} {f : Bool → Bool → Bool} {xs : List Int} {y0 : Int} {i : Nat} {row : List Sp} (h : GridB a b f xs y0 i row) (hu : Up xs) (ha : XEdges xs a) (hb : XEdges xs b) {x0 x1 : Int} (h0 : xs[i]? = some x0) (h1 : xs[i + 1]? = some x1)
    (hn : ¬ Pts a b f x0 y0) : GridB a b f xs y0 (i + 1) row := by
  have := h.step hu ha hb h0 h1
  rwa [gridStep, if_neg hn] at this
theorem GridB.first {a b : List Rt} {f : Bool → Bool → Bool} {xs : List Int} {y0 : Int} {i : Nat} (h : GridB a b f xs y0 i []) (hu : Up xs) (ha : XEdges xs a) (hb : XEdges xs b) {x0 x1 : Int} (h0 : xs[i]? = some x0) (h1 : xs[i + 1]? = some x1)
    (hy : Pts a b f x0 y0) : GridB a b f xs y0 (i + 1) [⟨x0, x1⟩] := by
  have := h.step hu ha hb h0 h1
  rwa [gridStep, if_pos hy] at this
theorem GridB.join {a b : List Rt} {f : Bool → Bool → Bool} {xs : List Int} {y0 : Int} {i : Nat} {m : List Sp} {t : Sp} (h : GridB a b f xs y0 i (m ++ [t])) (hu : Up xs) (ha : XEdges xs a) (hb : XEdges xs b) {x0 x1 : Int} (h0 : xs[i]? = some x0) (h1 : xs[i + 1]? = some x1)
    (hy : Pts a b f x0 y0) (ht : t.b = x0) : GridB a b f xs y0 (i + 1) (m ++ [⟨t.a, x1⟩]) := by
  have := h.step hu ha hb h0 h1
  rw [gridStep, if_pos hy] at this
  simpa [ht] using this
theorem GridB.new {a b : List Rt} {f : Bool → Bool → Bool} {xs : List Int} {y0 : Int} {i : Nat} {m : List Sp} {t : Sp} (h : GridB a b f xs y0 i (m ++ [t])) (hu : Up xs) (ha : XEdges xs a) (hb : XEdges xs b) {x0 x1 : Int} (h0 : xs[i]? = some x0) (h1 : xs[i + 1]? = some x1)
    (hy : Pts a b f x0 y0) (ht : t.b ≠ x0) : GridB a b f xs y0 (i + 1) (m ++ [t] ++ [⟨x0, x1⟩]) := by
  have := h.step hu ha hb h0 h1
  rw [gridStep, if_pos hy] at this
  simpa [ht] using this
theorem GridB.done {a b : List Rt} {f : Bool → Bool → Bool} {xs : List Int} {y0 : Int} {i : Nat} {row : List Sp} (h : GridB a b f xs y0 i row) (hf : f false false = false) (hu : Up xs) (ha : XEdges xs a) (hb : XEdges xs b) (hi : ¬ i + 1 < xs.length) :
    Canon row ∧ ∀ x, In row x ↔ Pts a b f x y0 := by
  rcases h with ⟨rfl, rfl, _⟩ | ⟨x, hx, h⟩
  · exact ⟨trivial, fun x => ⟨fun h => (In.nil _ h).elim, fun h => (Pts.out hf ha.none hb.none h).elim⟩⟩
  · have hl := (List.getElem?_eq_some_iff.1 hx).1
    have hn : xs.length = i + 1 := by omega
    exact h.done fun y hy => Pts.out hf (ha.above hu hn hx hy) (hb.above hu hn hx hy)

/-- Does the i-th rectangle of the last band stand as the row's? -/
def TestAt (out : List Rt) (fr : Nat) (row : List Sp) (y0 : Int) (i : Nat) : Prop := ∃ r s, out[fr + i]? = some r ∧ row[i]? = some s ∧ r.x0 = s.a ∧ r.x1 = s.b ∧ r.y1 = y0

theorem RunB.tests {a b : List Rt} {f : Bool → Bool → Bool} {ys : List Int} {j : Nat} {out : List Rt} {fr : Nat} {last row : List Sp} {y0 : Int} (h : RunB a b f ys j out fr last) (h0 : ys[j]? = some y0) (hr : row ≠ []) (hl : out.length - fr = row.length) :
    (∀ i, i < row.length → TestAt out fr row y0 i) ↔ row = last := by
  rw [← h.test h0 hr]
  constructor
  · refine fun k => ⟨hl, fun i hi => ?_⟩
    obtain ⟨r, s, k1, k2, k3, k4, k5⟩ := k i hi
    have hs : s = row[i] := by rw [List.getElem?_eq_getElem hi] at k2; simpa using k2.symm
    subst hs
    exact ⟨r, k1, k3, k4, k5⟩
  · rintro ⟨_, k⟩ i hi
    obtain ⟨r, k1, k3, k4, k5⟩ := k i hi
    exact ⟨r, row[i], k1, List.getElem?_eq_getElem hi, k3, k4, k5⟩
theorem RunB.len_of {a b : List Rt} {f : Bool → Bool → Bool} {ys : List Int} {j : Nat} {out : List Rt} {fr : Nat} {last row : List Sp} {y0 : Int} (h : RunB a b f ys j out fr last) (h0 : ys[j]? = some y0) (hr : row ≠ []) (he : row = last) : out.length - fr = row.length := ((h.test h0 hr).2 he).1

theorem XEdges.imp {xs ys : List Int} {l : List Rt} (h : XEdges xs l) (hm : ∀ x ∈ xs, x ∈ ys) : XEdges ys l := fun r hr hs => ⟨hm _ (h r hr hs).1, hm _ (h r hr hs).2⟩
theorem YEdges.imp {xs ys : List Int} {l : List Rt} (h : YEdges xs l) (hm : ∀ x ∈ xs, x ∈ ys) : YEdges ys l := fun r hr hs => ⟨hm _ (h r hr hs).1, hm _ (h r hr hs).2⟩
theorem XEdges.snoc {xs : List Int} {l : List Rt} {r : Rt} (h : XEdges xs l) (hr : r.Some → r.x0 ∈ xs ∧ r.x1 ∈ xs) : XEdges xs (l ++ [r]) := fun t ht hs => by
  rcases List.mem_append.1 ht with ht | ht
  · exact h t ht hs
  · simp only [List.mem_singleton] at ht
    subst ht
    exact hr hs
theorem YEdges.snoc {xs : List Int} {l : List Rt} {r : Rt} (h : YEdges xs l) (hr : r.Some → r.y0 ∈ xs ∧ r.y1 ∈ xs) : YEdges xs (l ++ [r]) := fun t ht hs => by
  rcases List.mem_append.1 ht with ht | ht
  · exact h t ht hs
  · simp only [List.mem_singleton] at ht
    subst ht
    exact hr hs
theorem putN_len (l : List Int) (n : Int) : (putN l n).length ≤ l.length + 1 + l.length := by
  have h1 := List.length_filter_le (fun x => decide (x < n)) l
  have h2 := List.length_filter_le (fun x => decide (n < x)) l
  simp [putN]
  omega
theorem filter_disj (l : List Int) (n : Int) : (l.filter (fun x => decide (x < n))).length + (l.filter (fun x => decide (n < x))).length ≤ l.length := by
  induction l with
  | nil => simp
  | cons x l ih =>
    by_cases h1 : x < n
    · have h2 : ¬ n < x := by omega
      simp [h1, h2]
      omega
    · by_cases h2 : n < x
      · simp [h1, h2]
        omega
      · simp [h1, h2]
        omega
theorem putN_len1 (l : List Int) (n : Int) : (putN l n).length ≤ l.length + 1 := by
  have := filter_disj l n
  simp [putN]
  omega

end Go.Reg
