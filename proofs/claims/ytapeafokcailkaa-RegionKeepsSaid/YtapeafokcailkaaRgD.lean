/- Regions: bands on the way; edges; points that are wanted; in plain numbers. -/
import Derived.Test.YtapeafokcailkaaRgC
set_option linter.unusedSimpArgs false
set_option linter.unusedVariables false
set_option linter.unusedSectionVars false
set_option linter.constructorNameAsVariable false
namespace Go.Reg

def bandStep (acc : List Bd) (y0 y1 : Int) (row : List Sp) : List Bd :=
  if row = [] then acc else match acc.getLast? with
  | some t => if t.y1 = y0 ∧ t.row = row then acc.dropLast ++ [⟨t.y0, y1, t.row⟩] else acc ++ [⟨y0, y1, row⟩]
  | none => [⟨y0, y1, row⟩]

/-- On the way through the bands: below y all is told. -/
structure BInv (p : Int → Int → Prop) (acc : List Bd) (y : Int) : Prop where
  canon : Canon2 acc
  lo : ∀ t ∈ acc, t.y1 ≤ y
  all : ∀ x v, v < y → (p x v ↔ In2 acc x v)

theorem bands_cases (l : List Bd) : l = [] ∨ ∃ m t, l = m ++ [t] := by
  rcases List.eq_nil_or_concat l with h | ⟨m, t, h⟩
  · exact .inl h
  · exact .inr ⟨m, t, by rw [h, List.concat_eq_append]⟩

theorem BInv.start (p : Int → Int → Prop) (y : Int) (h : ∀ x v, v < y → ¬ p x v) : BInv p [] y :=
  ⟨trivial, fun t ht => (by cases ht), fun x v hv => (by simp [In2.nil, h x v hv])⟩
theorem BInv.high {p : Int → Int → Prop} {acc : List Bd} {y : Int} (h : BInv p acc y) {x v : Int} (hv : y ≤ v) : ¬ In2 acc x v := by
  rintro ⟨t, ht, h1, h2, _⟩
  have := h.lo t ht
  omega
theorem BInv.step {p : Int → Int → Prop} {acc : List Bd} {y0 y1 : Int} {row : List Sp} (h : BInv p acc y0) (hy : y0 < y1) (hc : Canon row) (hr : ∀ x, In row x ↔ p x y0) (hp : ∀ x v, y0 ≤ v → v < y1 → (p x v ↔ p x y0)) : BInv p (bandStep acc y0 y1 row) y1 := by
  have hin : ∀ x v, y0 ≤ v → v < y1 → (p x v ↔ In row x) := fun x v h1 h2 => (hp x v h1 h2).trans (hr x).symm
  unfold bandStep
  by_cases he : row = []
  · rw [if_pos he]
    subst he
    refine ⟨h.canon, fun t ht => by have := h.lo t ht; omega, fun x v hv => ?_⟩
    by_cases h0 : v < y0
    · exact h.all x v h0
    · rw [hin x v (by omega) hv]
      simp [In.nil, h.high (by omega : y0 ≤ v)]
  · rw [if_neg he]
    have new : ∀ acc', Canon2 acc' → (∀ t ∈ acc', t.y1 ≤ y0) → (∀ x v, v < y0 → (p x v ↔ In2 acc' x v)) → (∀ t, acc'.getLast? = some t → t.y1 = y0 → t.row ≠ row) → BInv p (acc' ++ [⟨y0, y1, row⟩]) y1 := by
      intro acc' c1 c2 c3 c4
      refine ⟨c1.snoc ⟨hy, he, hc⟩ c2 c4, fun t ht => ?_, fun x v hv => ?_⟩
      · rcases List.mem_append.1 ht with ht | ht
        · have := c2 t ht
          omega
        · simp only [List.mem_singleton] at ht
          subst ht
          exact Int.le_refl _
      · rw [In2.app, In2.cons]
        simp only [In2.nil, or_false]
        by_cases h0 : v < y0
        · rw [c3 x v h0]
          constructor
          · exact fun h => .inl h
          · rintro (h | h)
            · exact h
            · omega
        · rw [hin x v (by omega) hv]
          constructor
          · exact fun h => .inr ⟨by omega, hv, h⟩
          · rintro (⟨t, ht, h1, h2, _⟩ | h)
            · have := c2 t ht
              omega
            · exact h.2.2
    rcases bands_cases acc with rfl | ⟨m, t, rfl⟩
    · exact new [] trivial (fun t ht => by cases ht) h.all (fun t ht => by cases ht)
    · simp only [List.getLast?_append, List.getLast?_singleton, Option.some_or]
      split
      · rename_i hm
        obtain ⟨h1, h2⟩ := hm
        have hdl : (m ++ [t]).dropLast = m := by simp
        rw [hdl]
        obtain ⟨i1, i2, i3, i4⟩ := h.canon.init
        refine ⟨i1.snoc ⟨by have := i2.lt; simp only; omega, i2.some, i2.canon⟩ i3 i4, fun u hu => ?_, fun x v hv => ?_⟩
        · rcases List.mem_append.1 hu with hu | hu
          · have := h.lo u (by simp [hu])
            omega
          · simp only [List.mem_singleton] at hu
            subst hu
            exact Int.le_refl _
        · rw [In2.app, In2.cons]
          simp only [In2.nil, or_false]
          by_cases h0 : v < y0
          · rw [h.all x v h0, In2.app, In2.cons]
            simp only [In2.nil, or_false]
            constructor
            · rintro (h | h)
              · exact .inl h
              · exact .inr ⟨h.1, hv, h.2.2⟩
            · rintro (h | h)
              · exact .inl h
              · exact .inr ⟨h.1, by omega, h.2.2⟩
          · rw [hin x v (by omega) hv, ← h2]
            have := i2.lt
            constructor
            · exact fun h => .inr ⟨by omega, hv, h⟩
            · rintro (⟨u, hu, k1, k2, _⟩ | h)
              · have := h.lo u (by simp [hu])
                omega
              · exact h.2.2
      · rename_i hm
        refine new _ h.canon h.lo h.all fun u hu => ?_
        simp at hu
        subst hu
        exact fun h1 h2 => hm ⟨h1, h2⟩
theorem BInv.done {p : Int → Int → Prop} {acc : List Bd} {y : Int} (h : BInv p acc y) (hp : ∀ x v, y ≤ v → ¬ p x v) : Canon2 acc ∧ ∀ x v, In2 acc x v ↔ p x v := by
  refine ⟨h.canon, fun x v => ?_⟩
  by_cases hv : v < y
  · exact (h.all x v hv).symm
  · simp only [hp x v (by omega), iff_false]
    exact h.high (by omega)

/-! Edges. -/

/-- Numbers that rise, each once. -/
def Up (l : List Int) : Prop := l.Pairwise (· < ·)

theorem Up.gap {l : List Int} (h : Up l) {j : Nat} {u v e : Int} (hu : l[j]? = some u) (hv : l[j + 1]? = some v) (he : e ∈ l) : e ≤ u ∨ v ≤ e := by
  obtain ⟨k, hk, rfl⟩ := List.getElem_of_mem he
  obtain ⟨hj, rfl⟩ := List.getElem?_eq_some_iff.1 hu
  obtain ⟨hj1, rfl⟩ := List.getElem?_eq_some_iff.1 hv
  have hp := List.pairwise_iff_getElem.1 h
  rcases Nat.lt_trichotomy k (j + 1) with h1 | h1 | h1
  · left
    rcases Nat.lt_or_eq_of_le (Nat.le_of_lt_succ h1) with h2 | h2
    · exact Int.le_of_lt (hp k j hk hj h2)
    · subst h2
      exact Int.le_refl _
  · subst h1
    exact .inr (Int.le_refl _)
  · exact .inr (Int.le_of_lt (hp (j + 1) k hj1 hk h1))
theorem Up.next {l : List Int} (h : Up l) {j : Nat} {u v : Int} (hu : l[j]? = some u) (hv : l[j + 1]? = some v) : u < v := by
  obtain ⟨hj, rfl⟩ := List.getElem?_eq_some_iff.1 hu
  obtain ⟨hj1, rfl⟩ := List.getElem?_eq_some_iff.1 hv
  exact List.pairwise_iff_getElem.1 h j (j + 1) hj hj1 (by omega)
theorem Up.first {l : List Int} (h : Up l) {u e : Int} (hu : l[0]? = some u) (he : e ∈ l) : u ≤ e := by
  obtain ⟨k, hk, rfl⟩ := List.getElem_of_mem he
  obtain ⟨hj, rfl⟩ := List.getElem?_eq_some_iff.1 hu
  rcases Nat.eq_zero_or_pos k with h1 | h1
  · subst h1
    exact Int.le_refl _
  · exact Int.le_of_lt (List.pairwise_iff_getElem.1 h 0 k hj hk h1)
theorem Up.last {l : List Int} (h : Up l) {u e : Int} {n : Nat} (hn : l.length = n + 1) (hu : l[n]? = some u) (he : e ∈ l) : e ≤ u := by
  obtain ⟨k, hk, rfl⟩ := List.getElem_of_mem he
  obtain ⟨hj, rfl⟩ := List.getElem?_eq_some_iff.1 hu
  rcases Nat.lt_or_ge k n with h1 | h1
  · exact Int.le_of_lt (List.pairwise_iff_getElem.1 h k n hk hj h1)
  · have : k = n := by omega
    subst this
    exact Int.le_refl _

/-- Have these numbers all edges of rectangles in Y? in X? -/
def YEdges (ys : List Int) (l : List Rt) : Prop := ∀ r ∈ l, r.Some → r.y0 ∈ ys ∧ r.y1 ∈ ys
def XEdges (xs : List Int) (l : List Rt) : Prop := ∀ r ∈ l, r.Some → r.x0 ∈ xs ∧ r.x1 ∈ xs

theorem Rt.Has.some {r : Rt} {x y : Int} (h : r.Has x y) : r.Some := by
  unfold Rt.Has at h
  unfold Rt.Some
  omega
theorem YEdges.const {ys : List Int} {l : List Rt} (h : YEdges ys l) (hu : Up ys) {j : Nat} {u v : Int} (h0 : ys[j]? = some u) (h1 : ys[j + 1]? = some v) {x y : Int} (hy : u ≤ y) (hy1 : y < v) : Has l x y ↔ Has l x u := by
  constructor
  · rintro ⟨r, hr, hh⟩
    refine ⟨r, hr, ?_⟩
    have e := h r hr hh.some
    have g0 := hu.gap h0 h1 e.1
    have g1 := hu.gap h0 h1 e.2
    unfold Rt.Has at hh ⊢
    omega
  · rintro ⟨r, hr, hh⟩
    refine ⟨r, hr, ?_⟩
    have e := h r hr hh.some
    have g0 := hu.gap h0 h1 e.1
    have g1 := hu.gap h0 h1 e.2
    unfold Rt.Has at hh ⊢
    omega
theorem XEdges.const {xs : List Int} {l : List Rt} (h : XEdges xs l) (hu : Up xs) {j : Nat} {u v : Int} (h0 : xs[j]? = some u) (h1 : xs[j + 1]? = some v) {x y : Int} (hx : u ≤ x) (hx1 : x < v) : Has l x y ↔ Has l u y := by
  constructor
  · rintro ⟨r, hr, hh⟩
    refine ⟨r, hr, ?_⟩
    have e := h r hr hh.some
    have g0 := hu.gap h0 h1 e.1
    have g1 := hu.gap h0 h1 e.2
    unfold Rt.Has at hh ⊢
    omega
  · rintro ⟨r, hr, hh⟩
    refine ⟨r, hr, ?_⟩
    have e := h r hr hh.some
    have g0 := hu.gap h0 h1 e.1
    have g1 := hu.gap h0 h1 e.2
    unfold Rt.Has at hh ⊢
    omega
theorem YEdges.below {ys : List Int} {l : List Rt} (h : YEdges ys l) (hu : Up ys) {u : Int} (h0 : ys[0]? = some u) {x y : Int} (hy : y < u) : ¬ Has l x y := by
  rintro ⟨r, hr, hh⟩
  have e := hu.first h0 (h r hr hh.some).1
  unfold Rt.Has at hh
  omega
theorem YEdges.above {ys : List Int} {l : List Rt} (h : YEdges ys l) (hu : Up ys) {n : Nat} (hn : ys.length = n + 1) {u : Int} (h0 : ys[n]? = some u) {x y : Int} (hy : u ≤ y) : ¬ Has l x y := by
  rintro ⟨r, hr, hh⟩
  have e := hu.last hn h0 (h r hr hh.some).2
  unfold Rt.Has at hh
  omega
theorem YEdges.none {l : List Rt} (h : YEdges [] l) {x y : Int} : ¬ Has l x y := by
  rintro ⟨r, hr, hh⟩
  have := (h r hr hh.some).1
  cases this
theorem XEdges.below {xs : List Int} {l : List Rt} (h : XEdges xs l) (hu : Up xs) {u : Int} (h0 : xs[0]? = some u) {x y : Int} (hx : x < u) : ¬ Has l x y := by
  rintro ⟨r, hr, hh⟩
  have e := hu.first h0 (h r hr hh.some).1
  unfold Rt.Has at hh
  omega
theorem XEdges.above {xs : List Int} {l : List Rt} (h : XEdges xs l) (hu : Up xs) {n : Nat} (hn : xs.length = n + 1) {u : Int} (h0 : xs[n]? = some u) {x y : Int} (hx : u ≤ x) : ¬ Has l x y := by
  rintro ⟨r, hr, hh⟩
  have e := hu.last hn h0 (h r hr hh.some).2
  unfold Rt.Has at hh
  omega
theorem XEdges.none {l : List Rt} (h : XEdges [] l) {x y : Int} : ¬ Has l x y := by
  rintro ⟨r, hr, hh⟩
  have := (h r hr hh.some).1
  cases this

/-- The points that are wanted. -/
def Pts (a b : List Rt) (f : Bool → Bool → Bool) (x y : Int) : Prop := f (decide (Has a x y)) (decide (Has b x y)) = true
instance (a b : List Rt) (f : Bool → Bool → Bool) (x y : Int) : Decidable (Pts a b f x y) := by unfold Pts; infer_instance

theorem Pts.congr {a b : List Rt} {f : Bool → Bool → Bool} {x y x' y' : Int} (h1 : Has a x y ↔ Has a x' y') (h2 : Has b x y ↔ Has b x' y') : Pts a b f x y ↔ Pts a b f x' y' := by
  unfold Pts
  rw [decide_eq_decide.2 h1, decide_eq_decide.2 h2]
theorem Pts.out {a b : List Rt} {f : Bool → Bool → Bool} (hf : f false false = false) {x y : Int} (h1 : ¬ Has a x y) (h2 : ¬ Has b x y) : ¬ Pts a b f x y := by
  unfold Pts
  rw [decide_eq_false h1, decide_eq_false h2, hf]
  simp

/-- A right region: rectangles in their one order of bands. -/
structure RegOf (out : List Rt) (p : Int → Int → Prop) : Prop where
  ex : ∃ B, Canon2 B ∧ out = flat B ∧ ∀ x y, In2 B x y ↔ p x y
theorem RegOf.uniq {o1 o2 : List Rt} {p q : Int → Int → Prop} (h1 : RegOf o1 p) (h2 : RegOf o2 q) (h : ∀ x y, p x y ↔ q x y) : o1 = o2 := by
  obtain ⟨B1, c1, rfl, i1⟩ := h1.ex
  obtain ⟨B2, c2, rfl, i2⟩ := h2.ex
  rw [c1.uniq c2 fun x y => by rw [i1, h, i2]]
theorem RegOf.has {o : List Rt} {p : Int → Int → Prop} (h : RegOf o p) (x y : Int) : Has o x y ↔ p x y := by
  obtain ⟨B, c, rfl, i⟩ := h.ex
  rw [flat_has, i]

/-- The row of the points that are wanted, of two rows' spans. -/
theorem rows_want {a b : List Rt} {f : Bool → Bool → Bool} {y : Int} {sa sb row : List Sp} (h1 : ∀ x, In sa x ↔ Has a x y) (h2 : ∀ x, In sb x ↔ Has b x y) (h : ∀ x, In row x ↔ Want f (In sa x) (In sb x)) (x : Int) : In row x ↔ Pts a b f x y := by
  rw [h]
  unfold Want Pts
  rw [decide_eq_decide.2 (h1 x), decide_eq_decide.2 (h2 x)]

end Go.Reg
