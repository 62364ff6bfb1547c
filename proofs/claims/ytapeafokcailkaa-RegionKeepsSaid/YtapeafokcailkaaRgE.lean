/- Regions: the code's bands and the document's; numbers that rise; in plain numbers. -/
import Derived.Test.YtapeafokcailkaaRgD
set_option linter.unusedSimpArgs false
set_option linter.unusedVariables false
set_option linter.unusedSectionVars false
set_option linter.constructorNameAsVariable false
namespace Go.Reg

theorem flat_app (a b : List Bd) : flat (a ++ b) = flat a ++ flat b := by simp [flat]
theorem flat_one (b : Bd) : flat [b] = b.rects := by simp [flat]

/-- The code's own way to keep the bands: what is out, where the last band begins, its row ([]: none). -/
structure CodeB (acc : List Bd) (out : List Rt) (fr : Nat) (last : List Sp) (y : Int) : Prop where
  out_eq : out = flat acc
  lo : ∀ t ∈ acc, t.y1 ≤ y
  ok : ∀ t ∈ acc, t.row ≠ []
  way : (last = [] ∧ fr = out.length ∧ ∀ t ∈ acc, t.y1 < y) ∨ ∃ m t, acc = m ++ [t] ∧ t.row = last ∧ t.y1 = y ∧ fr = (flat m).length

theorem CodeB.start (y : Int) : CodeB [] [] 0 [] y := ⟨rfl, fun t ht => (by cases ht), fun t ht => (by cases ht), .inl ⟨rfl, rfl, fun t ht => (by cases ht)⟩⟩

def setY1 (y : Int) (r : Rt) : Rt := ⟨r.x0, r.y0, r.x1, y⟩

theorem CodeB.same {acc : List Bd} {out : List Rt} {fr : Nat} {last row : List Sp} {y0 y1 : Int} (h : CodeB acc out fr last y0) (hy : y0 < y1) (hr : row ≠ []) (he : row = last) :
    CodeB (bandStep acc y0 y1 row) (out.take fr ++ (out.drop fr).map (setY1 y1)) fr last y1 := by
  rcases h.way with ⟨h1, _, _⟩ | ⟨m, t, rfl, h2, h3, h4⟩
  · exact (hr (he.trans h1)).elim
  · have hb : bandStep (m ++ [t]) y0 y1 row = m ++ [⟨t.y0, y1, t.row⟩] := by
      unfold bandStep
      rw [if_neg hr]
      simp only [List.getLast?_append, List.getLast?_singleton, Option.some_or]
      rw [if_pos ⟨h3, by rw [h2, he]⟩]
      simp
    rw [hb]
    have ho := h.out_eq
    rw [flat_app, flat_one] at ho
    have e1 : out.take fr = flat m := by rw [ho, h4]; simp
    have e2 : out.drop fr = t.rects := by rw [ho, h4]; simp
    refine ⟨?_, fun u hu => ?_, fun u hu => ?_, .inr ⟨m, _, rfl, h2, rfl, h4⟩⟩
    · rw [e1, e2, flat_app, flat_one]
      congr 1
      simp only [Bd.rects, List.map_map]
      rfl
    · rcases List.mem_append.1 hu with hu | hu
      · have := h.lo u (by simp [hu])
        omega
      · simp only [List.mem_singleton] at hu
        subst hu
        exact Int.le_refl _
    · rcases List.mem_append.1 hu with hu | hu
      · exact h.ok u (by simp [hu])
      · simp only [List.mem_singleton] at hu
        subst hu
        exact h.ok t (by simp)
theorem CodeB.other {acc : List Bd} {out : List Rt} {fr : Nat} {last row : List Sp} {y0 y1 : Int} (h : CodeB acc out fr last y0) (hy : y0 < y1) (hr : row = [] ∨ row ≠ last) :
    CodeB (bandStep acc y0 y1 row) (out ++ row.map fun s => ⟨s.a, y0, s.b, y1⟩) out.length row y1 := by
  by_cases he : row = []
  · subst he
    have hb : bandStep acc y0 y1 [] = acc := by simp [bandStep]
    rw [hb]
    exact ⟨by simpa using h.out_eq, fun t ht => by have := h.lo t ht; omega, h.ok, .inl ⟨rfl, by simp, fun t ht => by have := h.lo t ht; omega⟩⟩
  · have hne : row ≠ last := hr.resolve_left he
    have hb : bandStep acc y0 y1 row = acc ++ [⟨y0, y1, row⟩] := by
      unfold bandStep
      rw [if_neg he]
      rcases bands_cases acc with rfl | ⟨m, t, rfl⟩
      · rfl
      · simp only [List.getLast?_append, List.getLast?_singleton, Option.some_or]
        rw [if_neg]
        rintro ⟨k1, k2⟩
        rcases h.way with ⟨_, _, h3⟩ | ⟨m', t', e, h2, _, _⟩
        · have := h3 t (by simp)
          omega
        · have := List.append_inj_right' e rfl
          simp only [List.cons.injEq, and_true] at this
          subst this
          exact hne (k2.symm.trans h2)
    rw [hb]
    refine ⟨?_, fun u hu => ?_, fun u hu => ?_, .inr ⟨acc, _, rfl, rfl, rfl, by rw [h.out_eq]⟩⟩
    · rw [flat_app, flat_one, h.out_eq]
      rfl
    · rcases List.mem_append.1 hu with hu | hu
      · have := h.lo u hu
        omega
      · simp only [List.mem_singleton] at hu
        subst hu
        exact Int.le_refl _
    · rcases List.mem_append.1 hu with hu | hu
      · exact h.ok u hu
      · simp only [List.mem_singleton] at hu
        subst hu
        exact he

/-- The document's test whether a row is the last band's. -/
theorem CodeB.test {acc : List Bd} {out : List Rt} {fr : Nat} {last row : List Sp} {y : Int} (h : CodeB acc out fr last y) (hr : row ≠ []) :
    (out.length - fr = row.length ∧ ∀ i, (hi : i < row.length) → ∃ r, out[fr + i]? = some r ∧ r.x0 = row[i].a ∧ r.x1 = row[i].b ∧ r.y1 = y) ↔ row = last := by
  rcases h.way with ⟨h1, h2, _⟩ | ⟨m, t, rfl, h2, h3, h4⟩
  · constructor
    · rintro ⟨k, _⟩
      have : row.length = 0 := by omega
      exact (hr (List.length_eq_zero_iff.1 this)).elim
    · intro k
      exact (hr (k.trans h1)).elim
  · have ho := h.out_eq
    rw [flat_app, flat_one] at ho
    have hl : out.length - fr = t.row.length := by rw [ho, h4]; simp [Bd.rects]
    have hg : ∀ i, out[fr + i]? = t.rects[i]? := fun i => by
      rw [ho, h4, List.getElem?_append_right (by omega), Nat.add_sub_cancel_left]
    constructor
    · rintro ⟨k1, k2⟩
      rw [← h2]
      refine List.ext_getElem (by omega) fun i hi hi' => ?_
      obtain ⟨r, e1, e2, e3, _⟩ := k2 i hi
      rw [hg i] at e1
      simp only [Bd.rects, List.getElem?_map, List.getElem?_eq_getElem hi', Option.map_some, Option.some.injEq] at e1
      subst e1
      simp only at e2 e3
      cases hrow : row[i]
      cases htrow : t.row[i]
      rw [hrow, htrow] at e2 e3
      simp only at e2 e3
      rw [e2, e3]
    · rintro rfl
      refine ⟨by rw [hl, h2], fun i hi => ⟨⟨row[i].a, t.y0, row[i].b, t.y1⟩, ?_, rfl, rfl, h3⟩⟩
      rw [hg i]
      have hi' : i < t.row.length := by rw [h2]; exact hi
      simp only [Bd.rects, List.getElem?_map, List.getElem?_eq_getElem hi', Option.map_some]
      simp only [h2]

/-! Numbers that rise: one more. -/

def putN (l : List Int) (n : Int) : List Int := l.filter (fun x => decide (x < n)) ++ [n] ++ l.filter (fun x => decide (n < x))
theorem putN_mem (l : List Int) (n x : Int) : x ∈ putN l n ↔ x = n ∨ x ∈ l := by
  unfold putN
  simp only [List.mem_append, List.mem_filter, decide_eq_true_eq, List.mem_singleton]
  constructor
  · rintro ((h | h) | h)
    · exact .inr h.1
    · exact .inl h
    · exact .inr h.1
  · rintro (h | h)
    · exact .inl (.inr h)
    · rcases Int.lt_trichotomy x n with h1 | h1 | h1
      · exact .inl (.inl ⟨h, h1⟩)
      · exact .inl (.inr h1)
      · exact .inr ⟨h, h1⟩
theorem putN_up {l : List Int} (h : Up l) (n : Int) : Up (putN l n) := by
  unfold putN Up
  rw [List.pairwise_append]
  refine ⟨?_, h.filter _, ?_⟩
  · rw [List.pairwise_append]
    refine ⟨h.filter _, by simp, fun a ha b hb => ?_⟩
    simp only [List.mem_filter, decide_eq_true_eq] at ha
    simp only [List.mem_singleton] at hb
    omega
  · intro a ha b hb
    simp only [List.mem_append, List.mem_filter, decide_eq_true_eq, List.mem_singleton] at ha hb
    omega

/-! Numbers in order, each once: by sorting and leaving out. -/

def Sorted (l : List Int) : Prop := l.Pairwise (· ≤ ·)
def compactP : List Int → List Int
  | [] => []
  | [x] => [x]
  | x :: y :: r => if x = y then compactP (y :: r) else x :: compactP (y :: r)
theorem compactP_mem : ∀ (l : List Int) (x : Int), x ∈ compactP l ↔ x ∈ l
  | [], x => Iff.rfl
  | [y], x => Iff.rfl
  | y :: z :: r, x => by
    rw [compactP]
    have ih := compactP_mem (z :: r) x
    split
    · rename_i h
      subst h
      rw [ih]
      simp
    · rw [List.mem_cons, ih, List.mem_cons (a := x) (b := y)]
theorem compactP_up : ∀ {l : List Int}, Sorted l → Up (compactP l)
  | [], _ => List.Pairwise.nil
  | [x], _ => List.pairwise_singleton _ _
  | x :: y :: r, h => by
    rw [compactP]
    have h2 := List.pairwise_cons.1 h
    split
    · exact compactP_up h2.2
    · rename_i hne
      refine List.pairwise_cons.2 ⟨fun z hz => ?_, compactP_up h2.2⟩
      rw [compactP_mem] at hz
      have h3 := h2.1 y (List.mem_cons_self ..)
      rcases List.mem_cons.1 hz with rfl | hz
      · omega
      · have := (List.pairwise_cons.1 h2.2).1 z hz
        omega

end Go.Reg
