/- Regions: two rows' edges merged, in plain numbers. -/
import Derived.Test.YtapeafokcailkaaRgA
set_option linter.unusedSimpArgs false
set_option linter.unusedVariables false
set_option linter.unusedSectionVars false
set_option linter.constructorNameAsVariable false
namespace Go.Reg

/-- A row's edges, one behind the other. -/
def edgesOf : List Sp → List Int
  | [] => []
  | s :: r => s.a :: s.b :: edgesOf r

theorem edgesOf_len (l : List Sp) : (edgesOf l).length = 2 * l.length := by
  induction l with
  | nil => rfl
  | cons s r ih => simp only [edgesOf, List.length_cons, ih]; omega

theorem edgesOf_get : ∀ (l : List Sp) (k : Nat) (h : k < l.length), (edgesOf l)[2 * k]? = some l[k].a ∧ (edgesOf l)[2 * k + 1]? = some l[k].b
  | [], k, h => by simp at h
  | s :: r, 0, _ => ⟨rfl, rfl⟩
  | s :: r, k + 1, h => by
    have := edgesOf_get r k (by simpa using h)
    rw [show 2 * (k + 1) = 2 * k + 1 + 1 from by omega]
    simpa [edgesOf] using this

/-- How many edges are no greater than a point: the first i. -/
structure Upto (e : List Int) (i : Nat) (y : Int) : Prop where
  le : i ≤ e.length
  lo : ∀ j u, j < i → e[j]? = some u → u ≤ y
  hi : ∀ j u, i ≤ j → e[j]? = some u → y < u

theorem Upto.nil (y : Int) : Upto [] 0 y := ⟨Nat.le_refl _, fun j u h => by omega, fun j u _ h => by simp at h⟩

/-- A point is in a row if so many edges are no greater than it as is odd. -/
theorem parity : ∀ {l : List Sp} {i : Nat} {y : Int}, Canon l → Upto (edgesOf l) i y → (In l y ↔ i % 2 = 1)
  | [], i, y, _, h => by
    have := h.le
    simp [edgesOf] at this
    subst this
    simp [In.nil]
  | s :: r, 0, y, hc, h => by
    have := h.hi 0 s.a (Nat.le_refl _) rfl
    constructor
    · intro hx
      have := hc.low hx
      omega
    · intro h; simp at h
  | s :: r, 1, y, hc, h => by
    have h1 := h.lo 0 s.a (by omega) rfl
    have h2 := h.hi 1 s.b (Nat.le_refl _) rfl
    simp only [Nat.reduceMod, iff_true]
    exact (In.cons _ _ _).2 (.inl ⟨h1, h2⟩)
  | s :: r, i + 2, y, hc, h => by
    have h1 := h.lo 1 s.b (by omega) rfl
    have ih := parity (i := i) (y := y) hc.tail ⟨by have := h.le; simp only [edgesOf, List.length_cons] at this; omega,
      fun j u hj hu => h.lo (j + 2) u (by omega) (by simpa [edgesOf] using hu), fun j u hj hu => h.hi (j + 2) u (by omega) (by simpa [edgesOf] using hu)⟩
    rw [In.cons, ih]
    omega

/-- Edges rise. -/
theorem edges_rise : ∀ {l : List Sp}, Canon l → ∀ {i j : Nat} {u v : Int}, i < j → (edgesOf l)[i]? = some u → (edgesOf l)[j]? = some v → u < v := by
  intro l hc i j u v hij hu hv
  induction l generalizing i j with
  | nil => simp [edgesOf] at hu
  | cons s r ih =>
    have hs := hc.head
    have low : ∀ (j : Nat) (v : Int), (edgesOf r)[j]? = some v → s.b < v := by
      intro j v hv
      have hj : j < (edgesOf r).length := (List.getElem?_eq_some_iff.1 hv).1
      rw [edgesOf_len] at hj
      have h0 := edgesOf_get r (j / 2) (by omega)
      have hb := hc.beyond r[j / 2] (List.getElem_mem _)
      rcases (by omega : j = 2 * (j / 2) ∨ j = 2 * (j / 2) + 1) with h | h
      · rw [h, h0.1] at hv
        simp only [Option.some.injEq] at hv
        omega
      · rw [h, h0.2] at hv
        simp only [Option.some.injEq] at hv
        omega
    match i, j, hij with
    | 0, 1, _ =>
      simp [edgesOf] at hu hv
      omega
    | 0, j + 2, _ =>
      simp [edgesOf] at hu hv
      have := low j v hv
      omega
    | 1, j + 2, _ =>
      simp [edgesOf] at hu hv
      have := low j v hv
      omega
    | i + 2, j + 2, hij =>
      simp only [edgesOf, List.getElem?_cons_succ] at hu hv
      exact ih hc.tail (by omega) hu hv

/-- What is wanted at a point. -/
def Want (f : Bool → Bool → Bool) (p q : Prop) [Decidable p] [Decidable q] : Prop := f (decide p) (decide q) = true

instance (l : List Sp) (x : Int) : Decidable (In l x) := by unfold In; infer_instance

/-- The way through two rows' edges: upto the edge c all is told. -/
structure MInv (a b : List Sp) (f : Bool → Bool → Bool) (i k : Nat) (op : Int) (is : Bool) (out : List Sp) (c : Int) : Prop where
  ui : Upto (edgesOf a) i c
  uk : Upto (edgesOf b) k c
  canon : Canon out
  isc : is = f (decide (i % 2 = 1)) (decide (k % 2 = 1))
  on : is = true → op ≤ c ∧ ∀ t ∈ out, t.b < op
  off : is = false → ∀ t ∈ out, t.b ≤ c
  all : ∀ y, y ≤ c → (Want f (In a y) (In b y) ↔ In out y ∨ (is = true ∧ op ≤ y))

theorem want_at {a b : List Sp} {f : Bool → Bool → Bool} {i k : Nat} {y : Int} (ha : Canon a) (hb : Canon b) (h1 : Upto (edgesOf a) i y) (h2 : Upto (edgesOf b) k y) : Want f (In a y) (In b y) ↔ f (decide (i % 2 = 1)) (decide (k % 2 = 1)) = true := by
  unfold Want
  rw [decide_eq_decide.2 (parity ha h1), decide_eq_decide.2 (parity hb h2)]

theorem exists_below (l : List Int) : ∃ c, ∀ u ∈ l, c < u := by
  induction l with
  | nil => exact ⟨0, fun u h => by cases h⟩
  | cons x r ih =>
    obtain ⟨c, hc⟩ := ih
    refine ⟨min c (x - 1), fun u hu => ?_⟩
    rcases List.mem_cons.1 hu with rfl | hu
    · omega
    · have := hc u hu
      omega

theorem MInv.start (a b : List Sp) {f : Bool → Bool → Bool} (ha : Canon a) (hb : Canon b) (hf : f false false = false) : ∃ c, MInv a b f 0 0 0 false [] c := by
  obtain ⟨c, hc⟩ := exists_below (edgesOf a ++ edgesOf b)
  have u1 : ∀ y, y ≤ c → Upto (edgesOf a) 0 y := fun y hy => ⟨by omega, fun j u h => by omega, fun j u _ h => by
    have := hc u (List.mem_append_left _ (List.mem_of_getElem? h))
    omega⟩
  have u2 : ∀ y, y ≤ c → Upto (edgesOf b) 0 y := fun y hy => ⟨by omega, fun j u h => by omega, fun j u _ h => by
    have := hc u (List.mem_append_right _ (List.mem_of_getElem? h))
    omega⟩
  refine ⟨c, u1 c (by omega), u2 c (by omega), trivial, by simp [hf], fun h => (by cases h), fun _ t ht => (by cases ht), fun y hy => ?_⟩
  rw [want_at ha hb (u1 y hy) (u2 y hy)]
  simp [hf, In.nil]

/-- The next edge. -/
structure Next (e : List Int) (i i' : Nat) (x : Int) : Prop where
  ge : ∀ u, e[i]? = some u → x ≤ u
  up : Upto e i' x

theorem Next.before {l : List Sp} (hc : Canon l) {i i' : Nat} {x c y : Int} (h : Next (edgesOf l) i i' x) (hu : Upto (edgesOf l) i c) (h1 : c ≤ y) (h2 : y < x) : Upto (edgesOf l) i y :=
  ⟨hu.le, fun j u hj he => Int.le_trans (hu.lo j u hj he) h1, fun j u hj he => by
    rcases Nat.lt_or_ge i j with hij | hij
    · have hi : i < (edgesOf l).length := by
        have := (List.getElem?_eq_some_iff.1 he).1
        omega
      have h3 := h.ge _ (List.getElem?_eq_getElem hi)
      have h4 := edges_rise hc hij (List.getElem?_eq_getElem hi) he
      omega
    · obtain rfl : i = j := by omega
      have := h.ge u he
      omega⟩

theorem MInv.step {a b : List Sp} {f : Bool → Bool → Bool} {i k i' k' : Nat} {op : Int} {is : Bool} {out : List Sp} {c x : Int} (ha : Canon a) (hb : Canon b) (h : MInv a b f i k op is out c) (hx : c < x)
    (n1 : Next (edgesOf a) i i' x) (n2 : Next (edgesOf b) k k' x) (now : Bool) (hnow : now = f (decide (i' % 2 = 1)) (decide (k' % 2 = 1))) :
    MInv a b f i' k' (if now = is then op else x) now (if now = is then out else if is then out ++ [⟨op, x⟩] else out) x := by
  have hS : ∀ y, y ≤ x → (Want f (In a y) (In b y) ↔ if y ≤ c then In out y ∨ (is = true ∧ op ≤ y) else if y < x then is = true else now = true) := by
    intro y hy
    split
    · rename_i hyc
      exact h.all y hyc
    · split
      · rename_i hyc hyx
        rw [want_at ha hb (n1.before ha h.ui (by omega) hyx) (n2.before hb h.uk (by omega) hyx), h.isc]
      · rename_i hyc hyx
        obtain rfl : y = x := by omega
        rw [want_at ha hb n1.up n2.up, hnow]
  have hout : ∀ y, c < y → ¬ In out y := by
    rintro y hy ⟨t, ht, h1, h2⟩
    cases his : is with
    | true =>
      have := (h.on his).2 t ht
      have := (h.on his).1
      omega
    | false =>
      have := h.off his t ht
      omega
  cases his : is with
  | true =>
    have h1 := (h.on his).1
    have h2 := (h.on his).2
    cases hn : now with
    | true =>
      rw [hn] at hnow
      simp only [if_true]
      refine ⟨n1.up, n2.up, h.canon, hnow, fun _ => ⟨by omega, h2⟩, fun h => (by cases h), fun y hy => ?_⟩
      rw [hS y hy, his, hn]
      have := hout y
      split
      · exact Iff.rfl
      · simp
        right
        omega
    | false =>
      rw [hn] at hnow
      simp only [Bool.false_eq_true, if_false, if_true]
      refine ⟨n1.up, n2.up, h.canon.snoc (by simp only; omega) h2, hnow, fun h => (by cases h), fun _ t ht => ?_, fun y hy => ?_⟩
      · rcases List.mem_append.1 ht with ht | ht
        · have := h2 t ht
          omega
        · simp only [List.mem_singleton] at ht
          subst ht
          exact Int.le_refl _
      · rw [hS y hy, his, hn, In.app, In.cons]
        simp only [In.nil, or_false, Bool.false_eq_true, false_and, true_and]
        have := hout y
        split
        · rename_i hc
          constructor
          · rintro (h | h)
            · exact .inl h
            · exact .inr (by omega)
          · rintro (h | h)
            · exact .inl h
            · exact .inr h.1
        · split
          · rename_i h3 h4
            simp only [true_iff]
            exact .inr (by omega)
          · rename_i h3 h4
            simp only [false_iff]
            rintro (h | h)
            · exact this (by omega) h
            · omega
  | false =>
    have h2 := h.off his
    cases hn : now with
    | true =>
      rw [hn] at hnow
      simp only [Bool.true_eq_false, if_false, Bool.false_eq_true]
      refine ⟨n1.up, n2.up, h.canon, hnow, fun _ => ⟨by omega, fun t ht => by have := h2 t ht; omega⟩, fun h => (by cases h), fun y hy => ?_⟩
      rw [hS y hy, his, hn]
      have := hout y
      split
      · simp only [Bool.false_eq_true, false_and, or_false, true_and]
        constructor
        · exact fun h => .inl h
        · rintro (h | h)
          · exact h
          · omega
      · split
        · simp only [Bool.false_eq_true, true_and, false_iff]
          rintro (h | h)
          · exact this (by omega) h
          · omega
        · simp only [true_and, true_iff]
          exact .inr (by omega)
    | false =>
      rw [hn] at hnow
      simp only [if_true]
      refine ⟨n1.up, n2.up, h.canon, hnow, fun h => (by cases h), fun _ t ht => (by have := h2 t ht; omega), fun y hy => ?_⟩
      rw [hS y hy, his, hn]
      have := hout y
      split
      · exact Iff.rfl
      · simp only [Bool.false_eq_true, false_and, or_false]
        split <;> simp only [false_iff] <;> exact this (by omega)

theorem MInv.done {a b : List Sp} {f : Bool → Bool → Bool} {op : Int} {is : Bool} {out : List Sp} {c : Int} (ha : Canon a) (hb : Canon b) (hf : f false false = false) (h : MInv a b f (2 * a.length) (2 * b.length) op is out c) :
    Canon out ∧ ∀ y, In out y ↔ Want f (In a y) (In b y) := by
  have his : is = false := by
    rw [h.isc]
    simp [hf]
  refine ⟨h.canon, fun y => ?_⟩
  by_cases hy : y ≤ c
  · rw [h.all y hy, his]
    simp
  · have hu1 : Upto (edgesOf a) (2 * a.length) y := ⟨by rw [edgesOf_len]; omega, fun j u hj he => by have := h.ui.lo j u hj he; omega, fun j u hj he => by
      have := (List.getElem?_eq_some_iff.1 he).1
      rw [edgesOf_len] at this
      omega⟩
    have hu2 : Upto (edgesOf b) (2 * b.length) y := ⟨by rw [edgesOf_len]; omega, fun j u hj he => by have := h.uk.lo j u hj he; omega, fun j u hj he => by
      have := (List.getElem?_eq_some_iff.1 he).1
      rw [edgesOf_len] at this
      omega⟩
    rw [want_at ha hb hu1 hu2]
    simp only [Nat.mul_mod_right, Nat.zero_ne_one, decide_false, hf, Bool.false_eq_true, iff_false]
    rintro ⟨t, ht, h1, h2⟩
    have := h.off his t ht
    omega

end Go.Reg
