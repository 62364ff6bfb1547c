/- Regions: the way through the bands; areas; in plain numbers. -/
import Derived.Test.YtapeafokcailkaaRgE
set_option linter.unusedSimpArgs false
set_option linter.unusedVariables false
set_option linter.unusedSectionVars false
set_option linter.constructorNameAsVariable false
namespace Go.Reg

/-- The way through the bands, at the edge j. -/
structure RunB (a b : List Rt) (f : Bool → Bool → Bool) (ys : List Int) (j : Nat) (out : List Rt) (fr : Nat) (last : List Sp) : Prop where
  ex : ∃ acc y, ys[j]? = some y ∧ BInv (Pts a b f) acc y ∧ CodeB acc out fr last y

theorem RunB.start {a b : List Rt} {f : Bool → Bool → Bool} {ys : List Int} (hf : f false false = false) (hu : Up ys) (ha : YEdges ys a) (hb : YEdges ys b) (h : 0 < ys.length) : RunB a b f ys 0 [] 0 [] :=
  ⟨[], ys[0], List.getElem?_eq_getElem h, BInv.start _ _ fun x v hv => Pts.out hf (ha.below hu (List.getElem?_eq_getElem h) hv) (hb.below hu (List.getElem?_eq_getElem h) hv), CodeB.start _⟩

theorem RunB.binv {a b : List Rt} {f : Bool → Bool → Bool} {ys : List Int} {y0 y1 : Int} {j : Nat} (hu : Up ys) (ha : YEdges ys a) (hb : YEdges ys b) (h0 : ys[j]? = some y0) (h1 : ys[j + 1]? = some y1) {acc : List Bd} {row : List Sp} (h : BInv (Pts a b f) acc y0) (hc : Canon row) (hr : ∀ x, In row x ↔ Pts a b f x y0) : BInv (Pts a b f) (bandStep acc y0 y1 row) y1 :=
  h.step (hu.next h0 h1) hc hr fun _ _ k1 k2 => Pts.congr (ha.const hu h0 h1 k1 k2) (hb.const hu h0 h1 k1 k2)

theorem RunB.same {a b : List Rt} {f : Bool → Bool → Bool} {ys : List Int} {j : Nat} {out : List Rt} {fr : Nat} {last row : List Sp} {y0 y1 : Int} (h : RunB a b f ys j out fr last) (hu : Up ys) (ha : YEdges ys a) (hb : YEdges ys b) (h0 : ys[j]? = some y0) (h1 : ys[j + 1]? = some y1)
    (hc : Canon row) (hr : ∀ x, In row x ↔ Pts a b f x y0) (hne : row ≠ []) (he : row = last) : RunB a b f ys (j + 1) (out.take fr ++ (out.drop fr).map (setY1 y1)) fr last := by
  obtain ⟨acc, y, hy, k1, k2⟩ := h.ex
  rw [h0, Option.some.injEq] at hy
  subst hy
  exact ⟨_, y1, h1, RunB.binv hu ha hb h0 h1 k1 hc hr, k2.same (hu.next h0 h1) hne he⟩
theorem RunB.other {a b : List Rt} {f : Bool → Bool → Bool} {ys : List Int} {j : Nat} {out : List Rt} {fr : Nat} {last row : List Sp} {y0 y1 : Int} (h : RunB a b f ys j out fr last) (hu : Up ys) (ha : YEdges ys a) (hb : YEdges ys b) (h0 : ys[j]? = some y0) (h1 : ys[j + 1]? = some y1)
    (hc : Canon row) (hr : ∀ x, In row x ↔ Pts a b f x y0) (he : row = [] ∨ row ≠ last) : RunB a b f ys (j + 1) (out ++ row.map fun s => ⟨s.a, y0, s.b, y1⟩) out.length row := by
  obtain ⟨acc, y, hy, k1, k2⟩ := h.ex
  rw [h0, Option.some.injEq] at hy
  subst hy
  exact ⟨_, y1, h1, RunB.binv hu ha hb h0 h1 k1 hc hr, k2.other (hu.next h0 h1) he⟩
theorem RunB.test {a b : List Rt} {f : Bool → Bool → Bool} {ys : List Int} {j : Nat} {out : List Rt} {fr : Nat} {last row : List Sp} {y0 : Int} (h : RunB a b f ys j out fr last) (h0 : ys[j]? = some y0) (hr : row ≠ []) :
    (out.length - fr = row.length ∧ ∀ i, (hi : i < row.length) → ∃ r, out[fr + i]? = some r ∧ r.x0 = row[i].a ∧ r.x1 = row[i].b ∧ r.y1 = y0) ↔ row = last := by
  obtain ⟨acc, y, hy, k1, k2⟩ := h.ex
  rw [h0, Option.some.injEq] at hy
  subst hy
  exact k2.test hr
theorem CodeB.fr_le {acc : List Bd} {out : List Rt} {fr : Nat} {last : List Sp} {y : Int} (h : CodeB acc out fr last y) : fr ≤ out.length := by
  rcases h.way with ⟨_, h2, _⟩ | ⟨m, t, rfl, _, _, h4⟩
  · omega
  · rw [h.out_eq, flat_app, List.length_append]
    omega
theorem RunB.fr_le {a b : List Rt} {f : Bool → Bool → Bool} {ys : List Int} {j : Nat} {out : List Rt} {fr : Nat} {last : List Sp} (h : RunB a b f ys j out fr last) : fr ≤ out.length := by
  obtain ⟨acc, y, hy, k1, k2⟩ := h.ex
  exact k2.fr_le
theorem RunB.done {a b : List Rt} {f : Bool → Bool → Bool} {ys : List Int} {n : Nat} {out : List Rt} {fr : Nat} {last : List Sp} (h : RunB a b f ys n out fr last) (hf : f false false = false) (hu : Up ys) (ha : YEdges ys a) (hb : YEdges ys b) (hn : ys.length = n + 1) : RegOf out (Pts a b f) := by
  obtain ⟨acc, y, hy, k1, k2⟩ := h.ex
  obtain ⟨c, hin⟩ := k1.done fun x v hv => Pts.out hf (ha.above hu hn hy hv) (hb.above hu hn hy hv)
  exact ⟨acc, c, k2.out_eq, hin⟩
theorem reg_empty {a b : List Rt} {f : Bool → Bool → Bool} (hf : f false false = false) (ha : YEdges [] a) (hb : YEdges [] b) : RegOf [] (Pts a b f) :=
  ⟨[], trivial, rfl, fun x y => by
    have := Pts.out (f := f) hf (ha.none (x := x) (y := y)) (hb.none (x := x) (y := y))
    simp [In2.nil, this]⟩

/-! Areas. -/

/-- How many of the n points from L on. -/
def cnt (p : Int → Prop) [DecidablePred p] (L : Int) : Nat → Int
  | 0 => 0
  | n + 1 => cnt p L n + if p (L + n) then 1 else 0

theorem cnt_add (p q : Int → Prop) [DecidablePred p] [DecidablePred q] (r s : Int → Prop) [DecidablePred r] [DecidablePred s] (L : Int) (h : ∀ x, (if p x then (1 : Int) else 0) + (if q x then 1 else 0) = (if r x then 1 else 0) + (if s x then 1 else 0)) : ∀ n, cnt p L n + cnt q L n = cnt r L n + cnt s L n
  | 0 => rfl
  | n + 1 => by
    have ih := cnt_add p q r s L h n
    have := h (L + n)
    simp only [cnt]
    omega
theorem cnt_congr {p q : Int → Prop} [DecidablePred p] [DecidablePred q] (L : Int) (h : ∀ x, p x ↔ q x) : ∀ n, cnt p L n = cnt q L n
  | 0 => rfl
  | n + 1 => by
    simp only [cnt, cnt_congr L h n]
    by_cases hp : p (L + n)
    · rw [if_pos hp, if_pos ((h _).1 hp)]
    · rw [if_neg hp, if_neg (fun k => hp ((h _).2 k))]
theorem cnt_none {p : Int → Prop} [DecidablePred p] (L : Int) (h : ∀ x, ¬ p x) : ∀ n, cnt p L n = 0
  | 0 => rfl
  | n + 1 => by simp only [cnt, cnt_none L h n, if_neg (h _)]; rfl
theorem cnt_nonneg (p : Int → Prop) [DecidablePred p] (L : Int) : ∀ n, 0 ≤ cnt p L n
  | 0 => Int.le_refl _
  | n + 1 => by
    have := cnt_nonneg p L n
    simp only [cnt]
    split <;> omega

/-- Points of one span. -/
theorem cnt_span (a b L : Int) (hL : L ≤ a) (hab : a ≤ b) : ∀ n : Nat, cnt (fun x => a ≤ x ∧ x < b) L n = max 0 (min b (L + n) - a)
  | 0 => by simp only [cnt]; omega
  | n + 1 => by
    have ih := cnt_span a b L hL hab n
    simp only [cnt, ih]
    split <;> omega

/-- So many points as spans are long. -/
def wide (l : List Sp) : Int := (l.map fun s => s.b - s.a).sum
theorem cnt_row {l : List Sp} (h : Canon l) (L : Int) (n : Nat) (hL : ∀ s ∈ l, L ≤ s.a ∧ s.b ≤ L + n) : cnt (fun x => In l x) L n = wide l := by
  induction l with
  | nil => rw [cnt_none L fun x => In.nil x]; rfl
  | cons s r ih =>
    have hs := h.head
    have h1 := cnt_span s.a s.b L (hL s (List.mem_cons_self ..)).1 (by omega) n
    have h2 := ih h.tail fun t ht => hL t (List.mem_cons_of_mem _ ht)
    have h3 := cnt_add (fun x => In (s :: r) x) (fun _ => False) (fun x => s.a ≤ x ∧ x < s.b) (fun x => In r x) L (fun x => by
      have hc := In.cons s r x
      by_cases k1 : s.a ≤ x ∧ x < s.b
      · have k2 : ¬ In r x := fun k => by have := h.in_beyond k; omega
        rw [if_pos (hc.2 (.inl k1)), if_pos k1, if_neg k2]
        simp
      · by_cases k2 : In r x
        · rw [if_pos (hc.2 (.inr k2)), if_neg k1, if_pos k2]
          simp
        · rw [if_neg (fun k => (hc.1 k).elim k1 k2), if_neg k1, if_neg k2]
          simp) n
    rw [cnt_none (p := fun _ => False) L fun x h => h] at h3
    have h4 := (hL s (List.mem_cons_self ..)).2
    rw [wide, List.map_cons, List.sum_cons]
    have h5 : (r.map fun s => s.b - s.a).sum = wide r := rfl
    rw [h5]
    omega

/-- How many of m rows of n points. -/
def cnt2 (p : Int → Int → Prop) [∀ x y, Decidable (p x y)] (L : Int) (n : Nat) : Nat → Int
  | 0 => 0
  | m + 1 => cnt2 p L n m + cnt (fun x => p x (L + m)) L n

theorem cnt2_add (p q r s : Int → Int → Prop) [∀ x y, Decidable (p x y)] [∀ x y, Decidable (q x y)] [∀ x y, Decidable (r x y)] [∀ x y, Decidable (s x y)] (L : Int) (n : Nat)
    (h : ∀ x y, (if p x y then (1 : Int) else 0) + (if q x y then 1 else 0) = (if r x y then 1 else 0) + (if s x y then 1 else 0)) : ∀ m, cnt2 p L n m + cnt2 q L n m = cnt2 r L n m + cnt2 s L n m
  | 0 => rfl
  | m + 1 => by
    have ih := cnt2_add p q r s L n h m
    have := cnt_add (fun x => p x (L + m)) (fun x => q x (L + m)) (fun x => r x (L + m)) (fun x => s x (L + m)) L (fun x => h x _) n
    simp only [cnt2]
    omega
theorem cnt2_none {p : Int → Int → Prop} [∀ x y, Decidable (p x y)] (L : Int) (n : Nat) (h : ∀ x y, ¬ p x y) : ∀ m, cnt2 p L n m = 0
  | 0 => rfl
  | m + 1 => by simp only [cnt2, cnt2_none L n h m, cnt_none (p := fun x => p x (L + m)) L (fun x => h x _)]; rfl
theorem cnt2_nonneg (p : Int → Int → Prop) [∀ x y, Decidable (p x y)] (L : Int) (n : Nat) : ∀ m, 0 ≤ cnt2 p L n m
  | 0 => Int.le_refl _
  | m + 1 => by
    have h1 := cnt2_nonneg p L n m
    have h2 := cnt_nonneg (fun x => p x (L + m)) L n
    simp only [cnt2]
    omega
theorem cnt2_congr {p q : Int → Int → Prop} [∀ x y, Decidable (p x y)] [∀ x y, Decidable (q x y)] (L : Int) (n : Nat) (h : ∀ x y, p x y ↔ q x y) : ∀ m, cnt2 p L n m = cnt2 q L n m
  | 0 => rfl
  | m + 1 => by simp only [cnt2, cnt2_congr L n h m, cnt_congr (p := fun x => p x (L + m)) (q := fun x => q x (L + m)) L (fun x => h x _)]

instance (l : List Bd) (x y : Int) : Decidable (In2 l x y) := by unfold In2; infer_instance

theorem cnt2_band (y0 y1 : Int) {row : List Sp} (hc : Canon row) (L : Int) (n : Nat) (hr : ∀ s ∈ row, L ≤ s.a ∧ s.b ≤ L + n) (hL : L ≤ y0) (h01 : y0 ≤ y1) : ∀ m : Nat, cnt2 (fun x y => y0 ≤ y ∧ y < y1 ∧ In row x) L n m = max 0 (min y1 (L + m) - y0) * wide row
  | 0 => by
    have : max 0 (min y1 (L + (0 : Nat)) - y0) = 0 := by omega
    rw [this, Int.zero_mul]
    rfl
  | m + 1 => by
    have ih := cnt2_band y0 y1 hc L n hr hL h01 m
    simp only [cnt2, ih]
    by_cases hm : y0 ≤ L + m ∧ L + m < y1
    · rw [cnt_congr (q := fun x => In row x) L (fun x => by simp [hm]), cnt_row hc L n hr]
      have : max 0 (min y1 (L + ((m + 1 : Nat) : Int)) - y0) = max 0 (min y1 (L + m) - y0) + 1 := by omega
      rw [this, Int.add_mul, Int.one_mul]
    · rw [cnt_none (p := fun x => y0 ≤ L + m ∧ L + m < y1 ∧ In row x) L (fun x h => hm ⟨h.1, h.2.1⟩), Int.add_zero]
      congr 1
      omega

def Rt.area (r : Rt) : Int := (r.x1 - r.x0) * (r.y1 - r.y0)
def total (l : List Rt) : Int := (l.map Rt.area).sum

theorem total_app (a b : List Rt) : total (a ++ b) = total a + total b := by simp [total]
theorem total_band (b : Bd) : total b.rects = (b.y1 - b.y0) * wide b.row := by
  unfold Bd.rects total wide
  rw [List.map_map]
  generalize b.row = l
  induction l with
  | nil => simp
  | cons s r ih =>
    simp only [List.map_cons, List.sum_cons, Function.comp, Rt.area] at ih ⊢
    rw [ih, Int.mul_add, Int.mul_comm]

theorem total_flat {B : List Bd} (h : Canon2 B) (L : Int) (n : Nat) (hr : ∀ b ∈ B, (∀ s ∈ b.row, L ≤ s.a ∧ s.b ≤ L + n) ∧ L ≤ b.y0 ∧ b.y1 ≤ L + n) : total (flat B) = cnt2 (fun x y => In2 B x y) L n n := by
  induction B with
  | nil => rw [cnt2_none L n fun x y => In2.nil x y]; rfl
  | cons b r ih =>
    have hb := h.head
    obtain ⟨h1, h2, h3⟩ := hr b (List.mem_cons_self ..)
    have k1 := cnt2_band b.y0 b.y1 hb.canon L n h1 h2 (Int.le_of_lt hb.lt) n
    have k2 := ih h.tail fun t ht => hr t (List.mem_cons_of_mem _ ht)
    have k3 := cnt2_add (fun x y => In2 (b :: r) x y) (fun _ _ => False) (fun x y => b.y0 ≤ y ∧ y < b.y1 ∧ In b.row x) (fun x y => In2 r x y) L n (fun x y => by
      have hc := In2.cons b r x y
      by_cases j1 : b.y0 ≤ y ∧ y < b.y1 ∧ In b.row x
      · have j2 : ¬ In2 r x y := fun k => by have := h.in_beyond k; omega
        rw [if_pos (hc.2 (.inl j1)), if_pos j1, if_neg j2]
        simp
      · by_cases j2 : In2 r x y
        · rw [if_pos (hc.2 (.inr j2)), if_neg j1, if_pos j2]
          simp
        · rw [if_neg (fun k => (hc.1 k).elim j1 j2), if_neg j1, if_neg j2]
          simp) n
    rw [cnt2_none (p := fun _ _ => False) L n fun x y h => h] at k3
    have h4 : max 0 (min b.y1 (L + n) - b.y0) = b.y1 - b.y0 := by have := hb.lt; omega
    rw [h4] at k1
    have h5 : total (flat (b :: r)) = (b.y1 - b.y0) * wide b.row + total (flat r) := by
      rw [flat, List.flatMap_cons, total_app, total_band]
      rfl
    rw [h5]
    omega

end Go.Reg
