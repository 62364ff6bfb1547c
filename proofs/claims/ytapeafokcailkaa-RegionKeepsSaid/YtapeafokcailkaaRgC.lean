/- Regions: a grid's rows; rectangles in bands, in plain numbers. -/
import Derived.Test.YtapeafokcailkaaRgB
set_option linter.unusedSimpArgs false
set_option linter.unusedVariables false
set_option linter.unusedSectionVars false
set_option linter.constructorNameAsVariable false
namespace Go.Reg

/-! A row out of a grid's cells. -/

def gridStep (p : Int → Prop) [DecidablePred p] (row : List Sp) (x0 x1 : Int) : List Sp :=
  if p x0 then (match row.getLast? with
    | some t => if t.b = x0 then row.dropLast ++ [⟨t.a, x1⟩] else row ++ [⟨x0, x1⟩]
    | none => [⟨x0, x1⟩]) else row

/-- On the way through a grid's row. -/
structure GInv (p : Int → Prop) (row : List Sp) (x : Int) : Prop where
  canon : Canon row
  lo : ∀ t ∈ row, t.b ≤ x
  all : ∀ y, y < x → (p y ↔ In row y)

theorem GInv.start (p : Int → Prop) (x : Int) (h : ∀ y, y < x → ¬ p y) : GInv p [] x := ⟨trivial, fun t ht => (by cases ht), fun y hy => (by simp [In.nil, h y hy])⟩
theorem GInv.step {p : Int → Prop} [DecidablePred p] {row : List Sp} {x0 x1 : Int} (h : GInv p row x0) (hx : x0 < x1) (hp : ∀ y, x0 ≤ y → y < x1 → (p y ↔ p x0)) : GInv p (gridStep p row x0 x1) x1 := by
  have hno : ∀ y, x0 ≤ y → ¬ In row y := by
    rintro y hy ⟨t, ht, h1, h2⟩
    have := h.lo t ht
    omega
  unfold gridStep
  by_cases h0 : p x0
  · rw [if_pos h0]
    rcases last_cases row with rfl | ⟨m, t, rfl⟩
    · refine ⟨hx, fun t ht => ?_, fun y hy => ?_⟩
      · simp at ht
        subst ht
        exact Int.le_refl _
      · by_cases hy0 : y < x0
        · have := h.all y hy0
          rw [this]
          simp [In]
          omega
        · rw [hp y (by omega) hy]
          simp [In, h0]
          omega
    · obtain ⟨h1, h2, h3⟩ := h.canon.init
      simp only [List.getLast?_append, List.getLast?_singleton, Option.some_or]
      have hmem : ∀ u ∈ m, u.b ≤ x0 := fun u hu => h.lo u (List.mem_append_left _ hu)
      have htb := h.lo t (by simp)
      split
      · rename_i he
        have hdl : (m ++ [t]).dropLast = m := by simp
        rw [hdl]
        refine ⟨h1.snoc (by simp only; omega) fun u hu => h3 u hu, fun u hu => ?_, fun y hy => ?_⟩
        · rcases List.mem_append.1 hu with hu | hu
          · have := hmem u hu
            omega
          · simp only [List.mem_singleton] at hu
            subst hu
            exact Int.le_refl _
        · rw [In.app, In.cons]
          simp only [In.nil, or_false]
          by_cases hy0 : y < x0
          · rw [h.all y hy0, In.app, In.cons]
            simp only [In.nil, or_false]
            constructor
            · rintro (h | h)
              · exact .inl h
              · exact .inr (by omega)
            · rintro (h | h)
              · exact .inl h
              · exact .inr (by omega)
          · rw [hp y (by omega) hy]
            simp only [h0, true_iff]
            exact .inr (by omega)
      · rename_i he
        refine ⟨h.canon.snoc hx fun u hu => ?_, fun u hu => ?_, fun y hy => ?_⟩
        · rcases List.mem_append.1 hu with hu | hu
          · have := h3 u hu
            simp only
            omega
          · simp only [List.mem_singleton] at hu
            subst hu
            simp only
            omega
        · rcases List.mem_append.1 hu with hu | hu
          · have := h.lo u hu
            omega
          · simp only [List.mem_singleton] at hu
            subst hu
            exact Int.le_refl _
        · rw [In.app, In.cons (⟨x0, x1⟩ : Sp)]
          simp only [In.nil, or_false]
          by_cases hy0 : y < x0
          · rw [h.all y hy0]
            constructor
            · exact fun h => .inl h
            · rintro (h | h)
              · exact h
              · omega
          · rw [hp y (by omega) hy]
            simp only [h0, true_iff]
            exact .inr (by omega)
  · rw [if_neg h0]
    refine ⟨h.canon, fun t ht => by have := h.lo t ht; omega, fun y hy => ?_⟩
    by_cases hy0 : y < x0
    · exact h.all y hy0
    · rw [hp y (by omega) hy]
      simp only [h0, false_iff]
      exact hno y (by omega)
theorem GInv.done {p : Int → Prop} {row : List Sp} {x : Int} (h : GInv p row x) (hp : ∀ y, x ≤ y → ¬ p y) : Canon row ∧ ∀ y, In row y ↔ p y := by
  refine ⟨h.canon, fun y => ?_⟩
  by_cases hy : y < x
  · exact (h.all y hy).symm
  · simp only [hp y (by omega), iff_false]
    rintro ⟨t, ht, h1, h2⟩
    have := h.lo t ht
    omega

/-! Rectangles. -/

def Rt.Has (r : Rt) (x y : Int) : Prop := r.x0 ≤ x ∧ x < r.x1 ∧ r.y0 ≤ y ∧ y < r.y1
def Has (l : List Rt) (x y : Int) : Prop := ∃ r ∈ l, r.Has x y
def Rt.Some (r : Rt) : Prop := r.x0 < r.x1 ∧ r.y0 < r.y1
instance (r : Rt) (x y : Int) : Decidable (r.Has x y) := by unfold Rt.Has; infer_instance
instance (r : Rt) : Decidable r.Some := by unfold Rt.Some; infer_instance
instance (l : List Rt) (x y : Int) : Decidable (Has l x y) := by unfold Has; infer_instance

theorem Has.nil (x y : Int) : ¬ Has [] x y := fun ⟨_, h, _⟩ => by cases h
theorem Has.cons (r : Rt) (l : List Rt) (x y : Int) : Has (r :: l) x y ↔ r.Has x y ∨ Has l x y := by
  constructor
  · rintro ⟨t, ht, h⟩
    rcases List.mem_cons.1 ht with rfl | ht
    · exact .inl h
    · exact .inr ⟨t, ht, h⟩
  · rintro (h | ⟨t, ht, h⟩)
    · exact ⟨r, List.mem_cons_self .., h⟩
    · exact ⟨t, List.mem_cons_of_mem _ ht, h⟩
theorem Has.app (l m : List Rt) (x y : Int) : Has (l ++ m) x y ↔ Has l x y ∨ Has m x y := by
  induction l with
  | nil => simp [Has.nil]
  | cons r l ih => rw [List.cons_append, Has.cons, Has.cons, ih, or_assoc]

/-- A row's spans of rectangles. -/
def rowOf (l : List Rt) (y : Int) : List Sp := (l.filter fun r => decide (r.y0 ≤ y ∧ y < r.y1 ∧ r.x0 < r.x1)).map fun r => ⟨r.x0, r.x1⟩
theorem rowOf_in (l : List Rt) (x y : Int) : In (rowOf l y) x ↔ Has l x y := by
  induction l with
  | nil => simp [rowOf, In.nil, Has.nil]
  | cons r l ih =>
    rw [Has.cons, ← ih]
    unfold rowOf
    rw [List.filter_cons]
    unfold Rt.Has
    split
    · rename_i h
      simp only [decide_eq_true_eq] at h
      rw [List.map_cons, In.cons]
      simp only
      constructor
      · rintro (h1 | h1)
        · exact .inl (by omega)
        · exact .inr h1
      · rintro (h1 | h1)
        · exact .inl (by omega)
        · exact .inr h1
    · rename_i h
      simp only [decide_eq_true_eq] at h
      constructor
      · exact fun h1 => .inr h1
      · rintro (h1 | h1)
        · exact (h (by omega)).elim
        · exact h1
theorem rowOf_some (l : List Rt) (y : Int) : ∀ s ∈ rowOf l y, s.a < s.b := by
  intro s hs
  unfold rowOf at hs
  obtain ⟨r, hr, rfl⟩ := List.mem_map.1 hs
  have := (List.mem_filter.1 hr).2
  simp only [decide_eq_true_eq] at this
  exact this.2.2

/-! Bands. -/

structure Bd where
  y0 : Int
  y1 : Int
  row : List Sp
  deriving DecidableEq

def Bd.rects (b : Bd) : List Rt := b.row.map fun s => ⟨s.a, b.y0, s.b, b.y1⟩
def flat (l : List Bd) : List Rt := l.flatMap Bd.rects
def In2 (l : List Bd) (x y : Int) : Prop := ∃ b ∈ l, b.y0 ≤ y ∧ y < b.y1 ∧ In b.row x

theorem In2.nil (x y : Int) : ¬ In2 [] x y := fun ⟨_, h, _⟩ => by cases h
theorem In2.cons (b : Bd) (l : List Bd) (x y : Int) : In2 (b :: l) x y ↔ (b.y0 ≤ y ∧ y < b.y1 ∧ In b.row x) ∨ In2 l x y := by
  constructor
  · rintro ⟨t, ht, h⟩
    rcases List.mem_cons.1 ht with rfl | ht
    · exact .inl h
    · exact .inr ⟨t, ht, h⟩
  · rintro (h | ⟨t, ht, h⟩)
    · exact ⟨b, List.mem_cons_self .., h⟩
    · exact ⟨t, List.mem_cons_of_mem _ ht, h⟩
theorem In2.app (l m : List Bd) (x y : Int) : In2 (l ++ m) x y ↔ In2 l x y ∨ In2 m x y := by
  induction l with
  | nil => simp [In2.nil]
  | cons r l ih => rw [List.cons_append, In2.cons, In2.cons, ih, or_assoc]

theorem Bd.has (b : Bd) (x y : Int) : Has b.rects x y ↔ b.y0 ≤ y ∧ y < b.y1 ∧ In b.row x := by
  unfold Bd.rects Has In Rt.Has
  constructor
  · rintro ⟨r, hr, h⟩
    obtain ⟨s, hs, rfl⟩ := List.mem_map.1 hr
    exact ⟨h.2.2.1, h.2.2.2, s, hs, h.1, h.2.1⟩
  · rintro ⟨h1, h2, s, hs, h3, h4⟩
    exact ⟨_, List.mem_map.2 ⟨s, hs, rfl⟩, h3, h4, h1, h2⟩
theorem flat_has (l : List Bd) (x y : Int) : Has (flat l) x y ↔ In2 l x y := by
  induction l with
  | nil => simp [flat, Has.nil, In2.nil]
  | cons b l ih =>
    rw [In2.cons, ← ih, flat, List.flatMap_cons, Has.app, Bd.has]
    rfl

structure Bd.Ok (b : Bd) : Prop where
  lt : b.y0 < b.y1
  some : b.row ≠ []
  canon : Canon b.row

/-- Bands in their one order. -/
def Canon2 : List Bd → Prop
  | [] => True
  | [b] => b.Ok
  | b :: t :: r => b.Ok ∧ b.y1 ≤ t.y0 ∧ (b.y1 = t.y0 → b.row ≠ t.row) ∧ Canon2 (t :: r)

theorem Canon2.head {b : Bd} {l : List Bd} (h : Canon2 (b :: l)) : b.Ok := by
  cases l with
  | nil => exact h
  | cons t r => exact h.1
theorem Canon2.tail {b : Bd} {l : List Bd} (h : Canon2 (b :: l)) : Canon2 l := by
  cases l with
  | nil => trivial
  | cons t r => exact h.2.2.2
theorem Canon2.beyond {b : Bd} {l : List Bd} (h : Canon2 (b :: l)) : ∀ t ∈ l, b.y1 ≤ t.y0 := by
  induction l generalizing b with
  | nil => intro t ht; cases ht
  | cons t r ih =>
    intro u hu
    rcases List.mem_cons.1 hu with rfl | hu
    · exact h.2.1
    · have := ih h.2.2.2 u hu
      have := h.2.2.2.head.lt
      have := h.2.1
      omega
theorem Canon2.in_beyond {b : Bd} {l : List Bd} (h : Canon2 (b :: l)) {x y : Int} (hx : In2 l x y) : b.y1 ≤ y := by
  obtain ⟨t, ht, h1, _⟩ := hx
  have := h.beyond t ht
  omega
theorem Bd.Ok.point {b : Bd} (h : b.Ok) : ∃ x, In b.row x := by
  have := h.some
  have hc := h.canon
  cases hr : b.row with
  | nil => exact (this hr).elim
  | cons s r =>
    rw [hr] at hc
    exact ⟨_, hc.first⟩
/-- The row of a canonical list's first band, at each y of it. -/
theorem Canon2.row_at {b : Bd} {l : List Bd} (h : Canon2 (b :: l)) {x y : Int} (h1 : b.y0 ≤ y) (h2 : y < b.y1) : In2 (b :: l) x y ↔ In b.row x := by
  rw [In2.cons]
  constructor
  · rintro (h3 | h3)
    · exact h3.2.2
    · have := h.in_beyond h3
      omega
  · exact fun h3 => .inl ⟨h1, h2, h3⟩
theorem Canon2.low {b : Bd} {l : List Bd} (h : Canon2 (b :: l)) {x y : Int} (hx : In2 (b :: l) x y) : b.y0 ≤ y := by
  rcases (In2.cons _ _ _ _).1 hx with h1 | h1
  · exact h1.1
  · have := h.in_beyond h1
    have := h.head.lt
    omega

theorem canon2_half {b c : Bd} {l m : List Bd} (hl : Canon2 (b :: l)) (hm : Canon2 (c :: m)) (h : ∀ x y, In2 (b :: l) x y ↔ In2 (c :: m) x y) (h0 : b.y0 = c.y0) (hr : b.row = c.row) : ¬ b.y1 < c.y1 := by
  intro hlt
  have hb := hl.head
  have hb0 := hb.lt
  have hc := hm.head
  -- at the first band's end the other one goes on
  have key : ∀ x, In2 l x b.y1 ↔ In b.row x := fun x => by
    have h1 := h x b.y1
    rw [hm.row_at (by omega) hlt, In2.cons, hr] at h1
    rw [hr, ← h1]
    constructor
    · exact fun h => .inr h
    · rintro (h | h)
      · omega
      · exact h
  cases l with
  | nil =>
    obtain ⟨x, hx⟩ := hb.point
    exact In2.nil _ _ ((key x).2 hx)
  | cons t r =>
    obtain ⟨x, hx⟩ := hb.point
    have h1 := hl.tail.low ((key x).2 hx)
    have h2 := hl.2.1
    have he : b.y1 = t.y0 := by omega
    refine hl.2.2.1 he (hb.canon.uniq hl.tail.head.canon fun x => ?_)
    rw [← key x, hl.tail.row_at (by omega) (by have := hl.tail.head.lt; omega)]

/-- The same points are the same bands. -/
theorem Canon2.uniq : ∀ {l m : List Bd}, Canon2 l → Canon2 m → (∀ x y, In2 l x y ↔ In2 m x y) → l = m
  | [], [], _, _, _ => rfl
  | [], c :: m, _, hm, h => by
    obtain ⟨x, hx⟩ := hm.head.point
    exact ((In2.nil _ _) ((h x c.y0).2 ((In2.cons _ _ _ _).2 (.inl ⟨Int.le_refl _, hm.head.lt, hx⟩)))).elim
  | b :: l, [], hl, _, h => by
    obtain ⟨x, hx⟩ := hl.head.point
    exact ((In2.nil _ _) ((h x b.y0).1 ((In2.cons _ _ _ _).2 (.inl ⟨Int.le_refl _, hl.head.lt, hx⟩)))).elim
  | b :: l, c :: m, hl, hm, h => by
    have hb := hl.head
    have hc := hm.head
    have h0 : b.y0 = c.y0 := by
      obtain ⟨x, hx⟩ := hb.point
      obtain ⟨z, hz⟩ := hc.point
      have a1 := hm.low ((h x b.y0).1 ((In2.cons _ _ _ _).2 (.inl ⟨Int.le_refl _, hb.lt, hx⟩)))
      have a2 := hl.low ((h z c.y0).2 ((In2.cons _ _ _ _).2 (.inl ⟨Int.le_refl _, hc.lt, hz⟩)))
      omega
    have hr : b.row = c.row := hb.canon.uniq hc.canon fun x => by
      rw [← hl.row_at (Int.le_refl _) hb.lt, h x b.y0, h0, hm.row_at (Int.le_refl _) hc.lt]
    have h1 : b.y1 = c.y1 := by
      have a1 := canon2_half hl hm h h0 hr
      have a2 := canon2_half hm hl (fun x y => (h x y).symm) h0.symm hr.symm
      omega
    have he : b = c := by
      cases b; cases c
      simp only at h0 h1 hr
      rw [h0, h1, hr]
    subst he
    congr 1
    refine Canon2.uniq hl.tail hm.tail fun x y => ⟨fun hx => ?_, fun hx => ?_⟩
    · have := hl.in_beyond hx
      rcases (In2.cons _ _ _ _).1 ((h x y).1 ((In2.cons _ _ _ _).2 (.inr hx))) with h3 | h3
      · omega
      · exact h3
    · have := hm.in_beyond hx
      rcases (In2.cons _ _ _ _).1 ((h x y).2 ((In2.cons _ _ _ _).2 (.inr hx))) with h3 | h3
      · omega
      · exact h3
theorem Canon2.snoc : ∀ {l : List Bd} {b : Bd}, Canon2 l → b.Ok → (∀ t ∈ l, t.y1 ≤ b.y0) → (∀ t, l.getLast? = some t → t.y1 = b.y0 → t.row ≠ b.row) → Canon2 (l ++ [b])
  | [], b, _, h, _, _ => h
  | [t], b, h1, h2, h3, h4 => ⟨h1, h3 t (List.mem_cons_self ..), h4 t rfl, h2⟩
  | t :: u :: r, b, h1, h2, h3, h4 => ⟨h1.1, h1.2.1, h1.2.2.1, Canon2.snoc (l := u :: r) h1.2.2.2 h2 (fun v hv => h3 v (List.mem_cons_of_mem _ hv)) fun v hv => h4 v (by rw [List.getLast?_cons_cons]; exact hv)⟩
theorem Canon2.init : ∀ {l : List Bd} {b : Bd}, Canon2 (l ++ [b]) → Canon2 l ∧ b.Ok ∧ (∀ t ∈ l, t.y1 ≤ b.y0) ∧ (∀ t, l.getLast? = some t → t.y1 = b.y0 → t.row ≠ b.row)
  | [], b, h => ⟨trivial, h, fun t ht => (by cases ht), fun t ht => (by cases ht)⟩
  | [t], b, h => ⟨h.1, h.2.2.2, fun u hu => (by
      rcases List.mem_cons.1 hu with rfl | hu
      · exact h.2.1
      · cases hu), fun u hu => (by
      simp at hu
      subst hu
      exact h.2.2.1)⟩
  | t :: u :: r, b, h => by
    have ih := Canon2.init (l := u :: r) h.2.2.2
    refine ⟨⟨h.1, h.2.1, h.2.2.1, ih.1⟩, ih.2.1, fun v hv => ?_, fun v hv => ih.2.2.2 v (by rw [List.getLast?_cons_cons] at hv; exact hv)⟩
    rcases List.mem_cons.1 hv with rfl | hv
    · have h1 := ih.2.2.1 u (List.mem_cons_self ..)
      have h2 := h.2.1
      have h3 := ih.1.head.lt
      omega
    · exact ih.2.2.1 v hv

end Go.Reg
