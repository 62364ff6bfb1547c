/- Regions: a row's spans, in plain numbers. -/
set_option linter.unusedSimpArgs false
set_option linter.unusedVariables false
set_option linter.unusedSectionVars false
set_option linter.constructorNameAsVariable false
namespace Go.Reg

/-- A row's points from one x to another one. -/
structure Sp where
  a : Int
  b : Int
  deriving DecidableEq

/-- A rectangle. -/
structure Rt where
  x0 : Int
  y0 : Int
  x1 : Int
  y1 : Int
  deriving DecidableEq

/-- Has a row's list of spans a point? -/
def In (l : List Sp) (x : Int) : Prop := ∃ s ∈ l, s.a ≤ x ∧ x < s.b

/-- Spans that rise, with a gap between each two. -/
def Canon : List Sp → Prop
  | [] => True
  | [s] => s.a < s.b
  | s :: t :: r => s.a < s.b ∧ s.b < t.a ∧ Canon (t :: r)

theorem In.nil (x : Int) : ¬ In [] x := fun ⟨_, h, _⟩ => by cases h
theorem In.cons (s : Sp) (l : List Sp) (x : Int) : In (s :: l) x ↔ (s.a ≤ x ∧ x < s.b) ∨ In l x := by
  constructor
  · rintro ⟨t, ht, h⟩
    rcases List.mem_cons.1 ht with rfl | ht
    · exact .inl h
    · exact .inr ⟨t, ht, h⟩
  · rintro (h | ⟨t, ht, h⟩)
    · exact ⟨s, List.mem_cons_self .., h⟩
    · exact ⟨t, List.mem_cons_of_mem _ ht, h⟩
theorem In.app (l m : List Sp) (x : Int) : In (l ++ m) x ↔ In l x ∨ In m x := by
  induction l with
  | nil => simp [In.nil]
  | cons s l ih => rw [List.cons_append, In.cons, In.cons, ih, or_assoc]

theorem Canon.head {s : Sp} {l : List Sp} (h : Canon (s :: l)) : s.a < s.b := by
  cases l with
  | nil => exact h
  | cons t r => exact h.1
theorem Canon.tail {s : Sp} {l : List Sp} (h : Canon (s :: l)) : Canon l := by
  cases l with
  | nil => trivial
  | cons t r => exact h.2.2
/-- What stands behind the first span lies beyond a gap. -/
theorem Canon.beyond {s : Sp} {l : List Sp} (h : Canon (s :: l)) : ∀ t ∈ l, s.b < t.a ∧ t.a < t.b := by
  induction l generalizing s with
  | nil => intro t ht; cases ht
  | cons t r ih =>
    intro u hu
    rcases List.mem_cons.1 hu with rfl | hu
    · exact ⟨h.2.1, h.2.2.head⟩
    · have := ih h.2.2 u hu
      have := h.2.2.head
      have := h.2.1
      omega
theorem Canon.in_beyond {s : Sp} {l : List Sp} (h : Canon (s :: l)) {x : Int} (hx : In l x) : s.b < x := by
  obtain ⟨t, ht, h1, _⟩ := hx
  have := (h.beyond t ht).1
  omega
theorem Canon.low {s : Sp} {l : List Sp} (h : Canon (s :: l)) {x : Int} (hx : In (s :: l) x) : s.a ≤ x := by
  rcases (In.cons _ _ _).1 hx with h1 | h1
  · exact h1.1
  · have := h.in_beyond h1
    have := h.head
    omega
theorem Canon.first {s : Sp} {l : List Sp} (h : Canon (s :: l)) : In (s :: l) s.a := (In.cons _ _ _).2 (.inl ⟨Int.le_refl _, h.head⟩)

/-- The same points are the same spans. -/
theorem Canon.uniq : ∀ {l m : List Sp}, Canon l → Canon m → (∀ x, In l x ↔ In m x) → l = m
  | [], [], _, _, _ => rfl
  | [], t :: m, _, hm, h => ((In.nil _) ((h _).2 hm.first)).elim
  | s :: l, [], hl, _, h => ((In.nil _) ((h _).1 hl.first)).elim
  | s :: l, t :: m, hl, hm, h => by
    have h1 : s.a = t.a := by
      have a1 := hm.low ((h _).1 hl.first)
      have a2 := hl.low ((h _).2 hm.first)
      omega
    have hs := hl.head
    have ht := hm.head
    have no : ∀ {s : Sp} {l : List Sp}, Canon (s :: l) → ¬ In (s :: l) s.b := fun {s l} hc hx => by
      rcases (In.cons _ _ _).1 hx with h1 | h1
      · omega
      · have := hc.in_beyond h1
        omega
    have h2 : s.b = t.b := by
      rcases Int.lt_trichotomy s.b t.b with hlt | he | hlt
      · exact (no hl ((h _).2 ((In.cons _ _ _).2 (.inl ⟨by omega, hlt⟩)))).elim
      · exact he
      · exact (no hm ((h _).1 ((In.cons _ _ _).2 (.inl ⟨by omega, hlt⟩)))).elim
    have he : s = t := by
      cases s; cases t
      simp only at h1 h2
      rw [h1, h2]
    subst he
    congr 1
    refine Canon.uniq hl.tail hm.tail fun x => ⟨fun hx => ?_, fun hx => ?_⟩
    · have := hl.in_beyond hx
      rcases (In.cons _ _ _).1 ((h x).1 ((In.cons _ _ _).2 (.inr hx))) with h3 | h3
      · omega
      · exact h3
    · have := hm.in_beyond hx
      rcases (In.cons _ _ _).1 ((h x).2 ((In.cons _ _ _).2 (.inr hx))) with h3 | h3
      · omega
      · exact h3

/-- One span more behind the others. -/
theorem Canon.snoc : ∀ {l : List Sp} {s : Sp}, Canon l → s.a < s.b → (∀ t ∈ l, t.b < s.a) → Canon (l ++ [s])
  | [], s, _, h, _ => h
  | [t], s, h1, h2, h3 => ⟨h1, h3 t (List.mem_cons_self ..), h2⟩
  | t :: u :: r, s, h1, h2, h3 => ⟨h1.1, h1.2.1, Canon.snoc (l := u :: r) h1.2.2 h2 fun v hv => h3 v (List.mem_cons_of_mem _ hv)⟩
theorem Canon.init : ∀ {l : List Sp} {s : Sp}, Canon (l ++ [s]) → Canon l ∧ s.a < s.b ∧ ∀ t ∈ l, t.b < s.a
  | [], s, h => ⟨trivial, h, fun t ht => by cases ht⟩
  | [t], s, h => ⟨h.1, h.2.2, fun u hu => by
      rcases List.mem_cons.1 hu with rfl | hu
      · exact h.2.1
      · cases hu⟩
  | t :: u :: r, s, h => by
    have ih := Canon.init (l := u :: r) h.2.2
    refine ⟨⟨h.1, h.2.1, ih.1⟩, ih.2.1, fun v hv => ?_⟩
    rcases List.mem_cons.1 hv with rfl | hv
    · have h1 := ih.2.2 u (List.mem_cons_self ..)
      have h2 := h.2.1
      have h3 := ih.1.head
      omega
    · exact ih.2.2 v hv

/-! Spans that touch, or cross, are one. -/

def joinStep (out : List Sp) (s : Sp) : List Sp :=
  match out.getLast? with
  | some t => if s.a ≤ t.b then out.dropLast ++ [⟨t.a, max t.b s.b⟩] else out ++ [s]
  | none => [s]
def joinP (l : List Sp) : List Sp := l.foldl joinStep []

/-- Rising by their beginnings. -/
def Rise (l : List Sp) : Prop := l.Pairwise fun s t => s.a ≤ t.a

theorem joinStep_snoc (l : List Sp) (t s : Sp) : joinStep (l ++ [t]) s = if s.a ≤ t.b then l ++ [⟨t.a, max t.b s.b⟩] else l ++ [t] ++ [s] := by
  simp [joinStep]
theorem last_cases (l : List Sp) : l = [] ∨ ∃ m t, l = m ++ [t] := by
  rcases List.eq_nil_or_concat l with h | ⟨m, t, h⟩
  · exact .inl h
  · exact .inr ⟨m, t, by rw [h, List.concat_eq_append]⟩

theorem joinStep_canon {out : List Sp} {s : Sp} (h : Canon out) (hs : s.a < s.b) (hr : ∀ t ∈ out, t.a ≤ s.a) : Canon (joinStep out s) ∧ (∀ x, In (joinStep out s) x ↔ In out x ∨ (s.a ≤ x ∧ x < s.b)) ∧ ∀ t ∈ joinStep out s, t.a ≤ s.a := by
  rcases last_cases out with rfl | ⟨m, t, rfl⟩
  · refine ⟨hs, fun x => ?_, fun t ht => ?_⟩
    · simp [joinStep, In]
    · simp [joinStep] at ht
      subst ht
      exact Int.le_refl _
  · obtain ⟨h1, h2, h3⟩ := h.init
    have h4 := hr t (by simp)
    rw [joinStep_snoc]
    split
    · rename_i hle
      refine ⟨h1.snoc (by simp only; omega) fun u hu => h3 u hu, fun x => ?_, fun u hu => ?_⟩
      · rw [In.app, In.app, In.cons, In.cons]
        simp only [In.nil, or_false]
        have : ∀ p : Prop, ((p ∨ t.a ≤ x ∧ x < max t.b s.b) ↔ (p ∨ t.a ≤ x ∧ x < t.b) ∨ s.a ≤ x ∧ x < s.b) := fun p => by
          constructor
          · rintro (h | h)
            · exact .inl (.inl h)
            · by_cases hx : x < t.b
              · exact .inl (.inr ⟨h.1, hx⟩)
              · exact .inr (by omega)
          · rintro ((h | h) | h)
            · exact .inl h
            · exact .inr (by omega)
            · exact .inr (by omega)
        exact this _
      · rcases List.mem_append.1 hu with hu | hu
        · exact hr u (by simp [hu])
        · simp only [List.mem_singleton] at hu
          subst hu
          exact h4
    · rename_i hle
      refine ⟨h.snoc hs fun u hu => ?_, fun x => ?_, fun u hu => ?_⟩
      · rcases List.mem_append.1 hu with hu | hu
        · have := h3 u hu
          omega
        · simp only [List.mem_singleton] at hu
          subst hu
          omega
      · rw [In.app, In.cons]
        simp only [In.nil, or_false]
      · rcases List.mem_append.1 hu with hu | hu
        · exact hr u hu
        · simp only [List.mem_singleton] at hu
          subst hu
          exact Int.le_refl _

theorem joinP_run : ∀ (l : List Sp) (out : List Sp), Canon out → (∀ s ∈ l, s.a < s.b) → Rise l → (∀ t ∈ out, ∀ s ∈ l, t.a ≤ s.a) → Canon (l.foldl joinStep out) ∧ ∀ x, In (l.foldl joinStep out) x ↔ In out x ∨ In l x
  | [], out, h, _, _, _ => ⟨h, fun x => by simp [In.nil]⟩
  | s :: l, out, h, hs, hr, ho => by
    obtain ⟨h1, h2, h3⟩ := joinStep_canon h (hs s (List.mem_cons_self ..)) fun t ht => ho t ht s (List.mem_cons_self ..)
    rw [Rise, List.pairwise_cons] at hr
    obtain ⟨k1, k2⟩ := joinP_run l (joinStep out s) h1 (fun u hu => hs u (List.mem_cons_of_mem _ hu)) hr.2 fun t ht u hu => by
      have := h3 t ht
      have := hr.1 u hu
      omega
    refine ⟨k1, fun x => ?_⟩
    show In (l.foldl joinStep (joinStep out s)) x ↔ _
    rw [k2, h2, In.cons, or_assoc]
theorem joinP_canon {l : List Sp} (hs : ∀ s ∈ l, s.a < s.b) (hr : Rise l) : Canon (joinP l) ∧ ∀ x, In (joinP l) x ↔ In l x := by
  have := joinP_run l [] trivial hs hr (fun t ht => by cases ht)
  exact ⟨this.1, fun x => by rw [joinP, this.2]; simp [In.nil]⟩

end Go.Reg
