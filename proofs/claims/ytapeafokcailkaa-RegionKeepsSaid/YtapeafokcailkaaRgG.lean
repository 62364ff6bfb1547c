/- Regions: what regions come to, and their areas, in plain numbers. -/
import Derived.Test.YtapeafokcailkaaRgF
set_option linter.unusedSimpArgs false
set_option linter.unusedVariables false
set_option linter.unusedSectionVars false
set_option linter.constructorNameAsVariable false
namespace Go.Reg

def orF (p q : Bool) : Bool := p || q
def andF (p q : Bool) : Bool := p && q
def cutF (p q : Bool) : Bool := p && !q

theorem pts_or (a b : List Rt) (x y : Int) : Pts a b orF x y ↔ Has a x y ∨ Has b x y := by simp [Pts, orF]
theorem pts_and (a b : List Rt) (x y : Int) : Pts a b andF x y ↔ Has a x y ∧ Has b x y := by simp [Pts, andF]
theorem pts_cut (a b : List Rt) (x y : Int) : Pts a b cutF x y ↔ Has a x y ∧ ¬ Has b x y := by simp [Pts, cutF]

/-- A region that is what it comes to. -/
theorem RegOf.self {a : List Rt} {o : List Rt} (h : RegOf o (Pts a [] orF)) (he : a = o) : RegOf a (fun x y => Has a x y) := by
  obtain ⟨B, c, e, i⟩ := h.ex
  exact ⟨B, c, he.trans e, fun x y => by rw [i, pts_or]; simp [Has.nil]⟩
theorem RegOf.imp {o : List Rt} {p q : Int → Int → Prop} (h : RegOf o p) (hq : ∀ x y, p x y ↔ q x y) : RegOf o q := by
  obtain ⟨B, c, e, i⟩ := h.ex
  exact ⟨B, c, e, fun x y => (i x y).trans (hq x y)⟩
theorem RegOf.nil_of {o : List Rt} {p : Int → Int → Prop} (h : RegOf o p) (hp : ∀ x y, ¬ p x y) : o = [] :=
  RegOf.uniq h (q := fun _ _ => False) ⟨[], trivial, rfl, fun x y => by simp [In2.nil]⟩ fun x y => by simp [hp x y]
theorem RegOf.some {o : List Rt} {p : Int → Int → Prop} (h : RegOf o p) : ∀ r ∈ o, r.Some := by
  obtain ⟨B, c, rfl, _⟩ := h.ex
  intro r hr
  unfold flat at hr
  obtain ⟨b, hb, hr⟩ := List.mem_flatMap.1 hr
  obtain ⟨s, hs, rfl⟩ := List.mem_map.1 hr
  have hok : ∀ {B : List Bd}, Canon2 B → ∀ b ∈ B, b.Ok := by
    intro B
    induction B with
    | nil => intro _ b hb; cases hb
    | cons t r ih =>
      intro hc b hb
      rcases List.mem_cons.1 hb with rfl | hb
      · exact hc.head
      · exact ih hc.tail b hb
  have ho := hok c b hb
  have hsp : ∀ {l : List Sp}, Canon l → ∀ s ∈ l, s.a < s.b := by
    intro l
    induction l with
    | nil => intro _ s hs; cases hs
    | cons t r ih =>
      intro hc s hs
      rcases List.mem_cons.1 hs with rfl | hs
      · exact hc.head
      · exact ih hc.tail s hs
  exact ⟨hsp ho.canon s hs, ho.lt⟩

theorem bounds (B : List Bd) : ∃ K : Nat, ∀ b ∈ B, (∀ s ∈ b.row, -(K : Int) ≤ s.a ∧ s.b ≤ K) ∧ -(K : Int) ≤ b.y0 ∧ b.y1 ≤ K := by
  have rowB : ∀ l : List Sp, ∃ K : Nat, ∀ s ∈ l, -(K : Int) ≤ s.a ∧ s.b ≤ K := by
    intro l
    induction l with
    | nil => exact ⟨0, fun s hs => by cases hs⟩
    | cons s r ih =>
      obtain ⟨K, hK⟩ := ih
      refine ⟨K + s.a.natAbs + s.b.natAbs, fun t ht => ?_⟩
      rcases List.mem_cons.1 ht with rfl | ht
      · omega
      · have := hK t ht
        omega
  induction B with
  | nil => exact ⟨0, fun b hb => by cases hb⟩
  | cons b r ih =>
    obtain ⟨K, hK⟩ := ih
    obtain ⟨M, hM⟩ := rowB b.row
    refine ⟨K + M + b.y0.natAbs + b.y1.natAbs, fun t ht => ?_⟩
    rcases List.mem_cons.1 ht with rfl | ht
    · exact ⟨fun s hs => by have := hM s hs; omega, by omega, by omega⟩
    · obtain ⟨h1, h2, h3⟩ := hK t ht
      exact ⟨fun s hs => by have := h1 s hs; omega, by omega, by omega⟩

/-- A region's points, counted in a square that has it. -/
theorem RegOf.count {o : List Rt} {p : Int → Int → Prop} [∀ x y, Decidable (p x y)] (h : RegOf o p) : ∃ K : Nat, ∀ k : Nat, K ≤ k → total o = cnt2 p (-(k : Int)) (2 * k) (2 * k) := by
  obtain ⟨B, c, rfl, i⟩ := h.ex
  obtain ⟨K, hK⟩ := bounds B
  refine ⟨K, fun k hk => ?_⟩
  rw [total_flat c (-(k : Int)) (2 * k) fun b hb => ?_, cnt2_congr _ _ i]
  obtain ⟨h1, h2, h3⟩ := hK b hb
  exact ⟨fun s hs => by have := h1 s hs; omega, by omega, by omega⟩

theorem RegOf.nonneg {o : List Rt} {p : Int → Int → Prop} [∀ x y, Decidable (p x y)] (h : RegOf o p) : 0 ≤ total o := by
  obtain ⟨K, hK⟩ := h.count
  rw [hK K (Nat.le_refl _)]
  exact cnt2_nonneg _ _ _ _

/-- Areas add up. -/
theorem RegOf.add {o1 o2 o3 o4 : List Rt} {p q r s : Int → Int → Prop} [∀ x y, Decidable (p x y)] [∀ x y, Decidable (q x y)] [∀ x y, Decidable (r x y)] [∀ x y, Decidable (s x y)] (h1 : RegOf o1 p) (h2 : RegOf o2 q) (h3 : RegOf o3 r) (h4 : RegOf o4 s)
    (h : ∀ x y, (if p x y then (1 : Int) else 0) + (if q x y then 1 else 0) = (if r x y then 1 else 0) + (if s x y then 1 else 0)) : total o1 + total o2 = total o3 + total o4 := by
  obtain ⟨K1, k1⟩ := h1.count
  obtain ⟨K2, k2⟩ := h2.count
  obtain ⟨K3, k3⟩ := h3.count
  obtain ⟨K4, k4⟩ := h4.count
  have e1 := k1 (K1 + K2 + K3 + K4) (by omega)
  have e2 := k2 (K1 + K2 + K3 + K4) (by omega)
  have e3 := k3 (K1 + K2 + K3 + K4) (by omega)
  have e4 := k4 (K1 + K2 + K3 + K4) (by omega)
  rw [e1, e2, e3, e4]
  exact cnt2_add p q r s _ _ h _

theorem reg_none : RegOf [] (fun _ _ => False) := ⟨[], trivial, rfl, fun x y => by simp [In2.nil]⟩

/-- The areas of what two regions come to. -/
theorem areas {a b m one j : List Rt} (ha : RegOf a (fun x y => Has a x y)) (hb : RegOf b (fun x y => Has b x y)) (hm : RegOf m (Pts a b andF)) (ho : RegOf one (Pts a b cutF)) (hj : RegOf j (Pts a b orF)) :
    total m + total one = total a ∧ total j + total m = total a + total b ∧ 0 ≤ total m ∧ 0 ≤ total one ∧ 0 ≤ total a ∧ 0 ≤ total b ∧ total a ≤ total j ∧ total b ≤ total j := by
  have e1 := hm.add ho ha reg_none fun x y => by
    simp only [pts_and, pts_cut]
    by_cases h1 : Has a x y <;> by_cases h2 : Has b x y <;> simp [h1, h2]
  have e2 := hj.add hm ha hb fun x y => by
    simp only [pts_and, pts_or]
    by_cases h1 : Has a x y <;> by_cases h2 : Has b x y <;> simp [h1, h2]
  have z : total [] = 0 := rfl
  have n1 := hm.nonneg
  have n2 := ho.nonneg
  have n3 := ha.nonneg
  have n4 := hb.nonneg
  -- m is a part of a, and of b
  obtain ⟨K, hK⟩ := (RegOf.imp hm (q := fun x y => Has a x y ∧ Has b x y) (pts_and a b)).count
  obtain ⟨K2, hK2⟩ := hb.count
  have part : total m ≤ total b := by
    have d1 := hK (K + K2) (by omega)
    have d2 := hK2 (K + K2) (by omega)
    have d3 := cnt2_add (fun x y => Has b x y) (fun _ _ => False) (fun x y => Has a x y ∧ Has b x y) (fun x y => ¬ Has a x y ∧ Has b x y) (-((K + K2 : Nat) : Int)) (2 * (K + K2)) (fun x y => by
      by_cases h1 : Has a x y <;> by_cases h2 : Has b x y <;> simp [h1, h2]) (2 * (K + K2))
    have d4 := cnt2_nonneg (fun x y => ¬ Has a x y ∧ Has b x y) (-((K + K2 : Nat) : Int)) (2 * (K + K2)) (2 * (K + K2))
    rw [cnt2_none (p := fun _ _ => False) _ _ fun x y h => h] at d3
    omega
  refine ⟨by omega, by omega, n1, n2, n3, n4, by omega, by omega⟩

/-! Areas as they are told. -/

def maxArea : Int := 2305843009213693952
/-- A rectangle's area, as far as it is told. -/
def areaP (r : Rt) : Int := if r.Some then (if maxArea / (r.y1 - r.y0) < r.x1 - r.x0 then maxArea else (r.x1 - r.x0) * (r.y1 - r.y0)) else 0
theorem areaP_eq {r : Rt} (h : r.Some) : areaP r = min r.area maxArea := by
  unfold areaP
  rw [if_pos h]
  have hy : 0 < r.y1 - r.y0 := by have := h.2; omega
  unfold Rt.area
  split
  · rename_i h1
    have := (Int.ediv_lt_iff_lt_mul hy).1 h1
    omega
  · rename_i h1
    have h2 : ¬ maxArea < (r.x1 - r.x0) * (r.y1 - r.y0) := fun k => h1 ((Int.ediv_lt_iff_lt_mul hy).2 k)
    omega
def areasP (l : List Rt) : Int := l.foldl (fun n r => min (n + areaP r) maxArea) 0
theorem area_pos {r : Rt} (h : r.Some) : 0 < r.area := by
  unfold Rt.area
  exact Int.mul_pos (by have := h.1; omega) (by have := h.2; omega)
theorem areas_run : ∀ (l : List Rt) (n t : Int), (∀ r ∈ l, r.Some) → 0 ≤ t → n = min t maxArea → l.foldl (fun n r => min (n + areaP r) maxArea) n = min (t + total l) maxArea
  | [], n, t, _, _, h => by simp [total, h]
  | r :: l, n, t, hs, ht, h => by
    have hr := hs r (List.mem_cons_self ..)
    have hp := area_pos hr
    rw [List.foldl_cons, areas_run l _ (t + r.area) (fun x hx => hs x (List.mem_cons_of_mem _ hx)) (by omega) (by
      rw [areaP_eq hr, h]
      unfold maxArea
      omega)]
    simp only [total, List.map_cons, List.sum_cons]
    congr 1
    omega
theorem areasP_eq {l : List Rt} (h : ∀ r ∈ l, r.Some) : areasP l = min (total l) maxArea := by
  unfold areasP
  rw [areas_run l 0 0 h (Int.le_refl _) (by unfold maxArea; omega), Int.zero_add]
theorem areasP_take_le (l : List Rt) (h : ∀ r ∈ l, r.Some) : 0 ≤ areasP l ∧ areasP l ≤ maxArea := by
  rw [areasP_eq h]
  have tn : ∀ l : List Rt, (∀ r ∈ l, r.Some) → 0 ≤ total l := by
    intro l h
    induction l with
    | nil => exact Int.le_refl _
    | cons r l ih =>
      have h1 := area_pos (h r (List.mem_cons_self ..))
      have h2 := ih fun x hx => h x (List.mem_cons_of_mem _ hx)
      have : total (r :: l) = r.area + total l := by simp [total]
      omega
  have := tn l h
  unfold maxArea
  omega

end Go.Reg
