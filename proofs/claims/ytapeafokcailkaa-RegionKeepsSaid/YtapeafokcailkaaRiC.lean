/- Regions: the areas of single rectangles. -/
import Derived.Test.YtapeafokcailkaaRiB
set_option linter.unusedSimpArgs false
set_option linter.unusedVariables false
set_option linter.unusedSectionVars false
set_option linter.constructorNameAsVariable false
namespace Go.Proofs.Ytapeafokcailkaa
open Go.RowKit Go.Gou Go.Reg
set_option maxRecDepth 100000

theorem tdiv_pos {a b : Int} (ha : 0 ≤ a) (hb : 0 < b) : a.tdiv b = a / b := by
  rw [Int.tdiv_eq_ediv_of_nonneg ha]

set_option maxHeartbeats 2000000 in
theorem refArea_any (r : Rt) (w : World) (hr : r.Right) :
    Calls Try.prog 52 #[rtV r] w fun e w' => e = .returned (.int .i64 (areaP r)) ∧ Gou.Mod (fun _ => False) w w' := by
  obtain ⟨a, b, c, d⟩ := r
  obtain ⟨ha, hb', hc, hd⟩ := hr
  simp only [Near, far] at ha hb' hc hd
  by_cases h : Rt.Some ⟨a, b, c, d⟩
  · have hh : decide (Rt.Some ⟨a, b, c, d⟩) = true := by simpa using h
    have h1 : a < c := h.1
    have h2 : b < d := h.2
    have Hs : Hid (areaP ⟨a, b, c, d⟩ = if maxArea / (d - b) < c - a then maxArea else (c - a) * (d - b)) := Lib.hid (by simp [areaP, h])
    have e1 : IntKind.i64.wrap (c - a) = c - a := wrap_id (by omega) (by omega)
    have e2 : IntKind.i64.wrap (d - b) = d - b := wrap_id (by omega) (by omega)
    have e3 : (d - b == 0) = false := by simp; omega
    have e6 : ¬ d - b = 0 := by omega
    have e8 : ¬ d = b := by omega
    have e4 : Int.tdiv 2305843009213693952 (d - b) = 2305843009213693952 / (d - b) := tdiv_pos (by omega) (by omega)
    have q0 : 0 ≤ 2305843009213693952 / (d - b) := Int.ediv_nonneg (by omega) (by omega)
    have q1 : 2305843009213693952 / (d - b) ≤ 2305843009213693952 := Int.ediv_le_self _ (by omega)
    have e5 : IntKind.i64.wrap (2305843009213693952 / (d - b)) = 2305843009213693952 / (d - b) := wrap_id (by omega) (by omega)
    have Hmul := Lib.hid (fun (hle : ¬ 2305843009213693952 / (d - b) < c - a) => (by
      have hm : (c - a) * (d - b) ≤ 2305843009213693952 := Int.le_trans (Int.mul_le_mul_of_nonneg_right (Int.not_lt.1 hle) (by omega)) (Int.ediv_mul_le _ (by omega))
      have hm0 : 0 ≤ (c - a) * (d - b) := Int.mul_nonneg (by omega) (by omega)
      exact wrap_id (by omega) (by omega) : IntKind.i64.wrap ((c - a) * (d - b)) = (c - a) * (d - b)))
    clear h ha hb' hc hd h1 h2 q0 q1
    go_enter Try.func52, Try.ntmps52
    go_wp2_with fail
    refine (refEmpty_any ⟨a, b, c, d⟩ _).mono ?_
    rintro e w1 ⟨rfl, hb⟩
    rw [hh]
    have B0 := (Blk.new w 36 #[.int .i64 a, .int .i64 b, .int .i64 c, .int .i64 d]).up hb
    obtain ⟨⟨c0, c1, c2, c3⟩, -⟩ := four B0
    have Hm : Hid (Gou.Mod (fun _ => False) w w1) := Lib.hid ((Gou.Mod.alloc0 _ _).trans' (Gou.Mod.of_below hb _))
    have HB := Lib.hid B0
    clear hb B0 hh
    by_cases hlt : 2305843009213693952 / (d - b) < c - a
    · have hd : decide (2305843009213693952 / (d - b) < c - a) = true := by simpa using hlt
      have Hv : Hid (areaP ⟨a, b, c, d⟩ = 2305843009213693952) := Lib.hid (by rw [Hs.out]; unfold maxArea; rw [if_pos hlt])
      clear hlt
      go_wp2_with fail
      go_quiet (fail)
      go_wp2_with fail
      go_ret
      exact ⟨by rw [Hv.out]; rfl, Hm.out.trans' (Gou.Mod.drewN _ _ _)⟩
    · have hd : decide (2305843009213693952 / (d - b) < c - a) = false := by simpa using hlt
      have Hv : Hid (areaP ⟨a, b, c, d⟩ = (c - a) * (d - b)) := Lib.hid (by rw [Hs.out]; unfold maxArea; rw [if_neg hlt])
      have em := Hmul.out (Int.not_lt.1 hlt)
      clear hlt
      go_wp2_with fail
      go_quiet (fail)
      obtain ⟨⟨g0, g1, g2, g3⟩, -⟩ := four (HB.out.mod0 (Gou.Mod.drewN _ _ nq))
      have Hm2 : Hid (Gou.Mod (fun _ => False) w (w1.drewN nq)) := Lib.hid (Hm.out.trans' (Gou.Mod.drewN _ _ _))
      clear Hm HB c0 c1 c2 c3
      generalize w1.drewN nq = w2 at *
      go_wp2_with fail
      go_ret
      exact ⟨by rw [Hv.out]; rfl, Hm2.out⟩
  · have hh : decide (Rt.Some ⟨a, b, c, d⟩) = false := by simpa using h
    have Hs : Hid (areaP ⟨a, b, c, d⟩ = 0) := Lib.hid (by simp [areaP, h])
    clear h ha hb' hc hd
    go_enter Try.func52, Try.ntmps52
    go_wp2_with fail
    refine (refEmpty_any ⟨a, b, c, d⟩ _).mono ?_
    rintro e w1 ⟨rfl, hb⟩
    rw [hh]
    have Hm : Hid (Gou.Mod (fun _ => False) w w1) := Lib.hid ((Gou.Mod.alloc0 _ _).trans' (Gou.Mod.of_below hb _))
    clear hb hh
    go_wp2_with fail
    go_ret
    exact ⟨by rw [Hs.out]; rfl, Hm.out⟩

set_option maxHeartbeats 2000000 in
theorem rectArea_any (r : Rt) (w : World) (hr : r.Right) :
    Calls Try.prog 42 #[rtV r] w fun e w' => e = .returned (.int .i64 (areaP r)) ∧ Gou.Mod (fun _ => False) w w' := by
  obtain ⟨a, b, c, d⟩ := r
  obtain ⟨ha, hb', hc, hd⟩ := hr
  simp only [Near, far] at ha hb' hc hd
  by_cases h : Rt.Some ⟨a, b, c, d⟩
  · have hh : decide (Rt.Some ⟨a, b, c, d⟩) = true := by simpa using h
    have h1 : a < c := h.1
    have h2 : b < d := h.2
    have Hs : Hid (areaP ⟨a, b, c, d⟩ = if maxArea / (d - b) < c - a then maxArea else (c - a) * (d - b)) := Lib.hid (by simp [areaP, h])
    have e1 : IntKind.i64.wrap (c - a) = c - a := wrap_id (by omega) (by omega)
    have e2 : IntKind.i64.wrap (d - b) = d - b := wrap_id (by omega) (by omega)
    have e3 : (d - b == 0) = false := by simp; omega
    have e6 : ¬ d - b = 0 := by omega
    have e8 : ¬ d = b := by omega
    have e4 : Int.tdiv 2305843009213693952 (d - b) = 2305843009213693952 / (d - b) := tdiv_pos (by omega) (by omega)
    have q0 : 0 ≤ 2305843009213693952 / (d - b) := Int.ediv_nonneg (by omega) (by omega)
    have q1 : 2305843009213693952 / (d - b) ≤ 2305843009213693952 := Int.ediv_le_self _ (by omega)
    have e5 : IntKind.i64.wrap (2305843009213693952 / (d - b)) = 2305843009213693952 / (d - b) := wrap_id (by omega) (by omega)
    have Hmul := Lib.hid (fun (hle : ¬ 2305843009213693952 / (d - b) < c - a) => (by
      have hm : (c - a) * (d - b) ≤ 2305843009213693952 := Int.le_trans (Int.mul_le_mul_of_nonneg_right (Int.not_lt.1 hle) (by omega)) (Int.ediv_mul_le _ (by omega))
      have hm0 : 0 ≤ (c - a) * (d - b) := Int.mul_nonneg (by omega) (by omega)
      exact wrap_id (by omega) (by omega) : IntKind.i64.wrap ((c - a) * (d - b)) = (c - a) * (d - b)))
    clear h ha hb' hc hd h1 h2 q0 q1
    go_enter Try.func42, Try.ntmps42
    go_wp2_with fail
    refine (rectEmpty_any ⟨a, b, c, d⟩ _).mono ?_
    rintro e w1 ⟨rfl, hb⟩
    rw [hh]
    have B0 := (Blk.new w 36 #[.int .i64 a, .int .i64 b, .int .i64 c, .int .i64 d]).up hb
    obtain ⟨⟨c0, c1, c2, c3⟩, -⟩ := four B0
    have Hm : Hid (Gou.Mod (fun _ => False) w w1) := Lib.hid ((Gou.Mod.alloc0 _ _).trans' (Gou.Mod.of_below hb _))
    have HB := Lib.hid B0
    clear hb B0 hh
    by_cases hlt : 2305843009213693952 / (d - b) < c - a
    · have hd : decide (2305843009213693952 / (d - b) < c - a) = true := by simpa using hlt
      have Hv : Hid (areaP ⟨a, b, c, d⟩ = 2305843009213693952) := Lib.hid (by rw [Hs.out]; unfold maxArea; rw [if_pos hlt])
      clear hlt
      go_wp2_with fail
      go_quiet (fail)
      go_wp2_with fail
      go_ret
      exact ⟨by rw [Hv.out]; rfl, Hm.out.trans' (Gou.Mod.drewN _ _ _)⟩
    · have hd : decide (2305843009213693952 / (d - b) < c - a) = false := by simpa using hlt
      have Hv : Hid (areaP ⟨a, b, c, d⟩ = (c - a) * (d - b)) := Lib.hid (by rw [Hs.out]; unfold maxArea; rw [if_neg hlt])
      have em := Hmul.out (Int.not_lt.1 hlt)
      clear hlt
      go_wp2_with fail
      go_quiet (fail)
      obtain ⟨⟨g0, g1, g2, g3⟩, -⟩ := four (HB.out.mod0 (Gou.Mod.drewN _ _ nq))
      have Hm2 : Hid (Gou.Mod (fun _ => False) w (w1.drewN nq)) := Lib.hid (Hm.out.trans' (Gou.Mod.drewN _ _ _))
      clear Hm HB c0 c1 c2 c3
      generalize w1.drewN nq = w2 at *
      go_wp2_with fail
      go_ret
      exact ⟨by rw [Hv.out]; rfl, Hm2.out⟩
  · have hh : decide (Rt.Some ⟨a, b, c, d⟩) = false := by simpa using h
    have Hs : Hid (areaP ⟨a, b, c, d⟩ = 0) := Lib.hid (by simp [areaP, h])
    clear h ha hb' hc hd
    go_enter Try.func42, Try.ntmps42
    go_wp2_with fail
    refine (rectEmpty_any ⟨a, b, c, d⟩ _).mono ?_
    rintro e w1 ⟨rfl, hb⟩
    rw [hh]
    have Hm : Hid (Gou.Mod (fun _ => False) w w1) := Lib.hid ((Gou.Mod.alloc0 _ _).trans' (Gou.Mod.of_below hb _))
    clear hb hh
    go_wp2_with fail
    go_ret
    exact ⟨by rw [Hs.out]; rfl, Hm.out⟩

end Go.Proofs.Ytapeafokcailkaa
