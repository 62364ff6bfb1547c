/- Regions: the code's rectangles joined. -/
import Derived.Test.YtapeafokcailkaaRiE
set_option linter.unusedSimpArgs false
set_option linter.unusedVariables false
set_option linter.unusedSectionVars false
set_option linter.constructorNameAsVariable false
namespace Go.Proofs.Ytapeafokcailkaa
open Go.RowKit Go.Gou Go.Reg
set_option maxRecDepth 100000

theorem min_ite (a b : Int) : (if b < a then b else a) = min a b := by split <;> omega
theorem max_ite (a b : Int) : (if a < b then b else a) = max a b := by split <;> omega

theorem refine_eq_bool {P : Program} {f : FuncId} {args : Array Value} {w : World} {B : Nat} {p q : Bool} (h : p = q) (hc : Calls P f args w fun e w' => e = .returned (.bool (!p)) ∧ Below B w w') :
    Calls P f args w fun e w' => e = .returned (.bool (!q)) ∧ Below B w w' := h ▸ hc

/-- The three boxes of the joining. -/
structure JBox (w w1 : World) (a0 a1 a2 a3 b0 b1 b2 b3 : Int) : Prop where
  A : Blk w1 w.heap.size 36 #[.int .i64 a0, .int .i64 a1, .int .i64 a2, .int .i64 a3]
  B : Blk w1 (w.heap.size + 1) 36 #[.int .i64 b0, .int .i64 b1, .int .i64 b2, .int .i64 b3]
  Z : Blk w1 (w.heap.size + 1 + 1) 36 #[.int .i64 0, .int .i64 0, .int .i64 0, .int .i64 0]
  M : Below w.heap.size w w1

theorem JBox.up {w w1 w2 : World} {a0 a1 a2 a3 b0 b1 b2 b3 : Int} (h : JBox w w1 a0 a1 a2 a3 b0 b1 b2 b3) (hb : Below w1.heap.size w1 w2) : JBox w w2 a0 a1 a2 a3 b0 b1 b2 b3 :=
  ⟨h.A.up hb, h.B.up hb, h.Z.up hb, h.M.trans (hb.mono (by have := h.Z.lt; omega))⟩

set_option maxHeartbeats 4000000 in
theorem rectJoin_any (a b : Rt) (w : World) :
    Calls Try.prog 50 #[rtV a, rtV b] w fun e w' => e = .returned (rtV (if a.Some then (if b.Some then ⟨min a.x0 b.x0, min a.y0 b.y0, max a.x1 b.x1, max a.y1 b.y1⟩ else a) else if b.Some then b else Rt.zero)) ∧ Below w.heap.size w w' := by
  obtain ⟨a0, a1, a2, a3⟩ := a
  obtain ⟨b0, b1, b2, b3⟩ := b
  have key : ∀ s t : Bool, decide (Rt.Some ⟨a0, a1, a2, a3⟩) = s → decide (Rt.Some ⟨b0, b1, b2, b3⟩) = t → Calls Try.prog 50 #[.agg #[.int .i64 a0, .int .i64 a1, .int .i64 a2, .int .i64 a3], .agg #[.int .i64 b0, .int .i64 b1, .int .i64 b2, .int .i64 b3]] w
      fun e w' => e = .returned (rtV (if s then (if t then ⟨min a0 b0, min a1 b1, max a2 b2, max a3 b3⟩ else ⟨a0, a1, a2, a3⟩) else if t then ⟨b0, b1, b2, b3⟩ else Rt.zero)) ∧ Below w.heap.size w w' := by
    intro s t hs ht
    have HS := Lib.hid hs
    have HT := Lib.hid ht
    clear hs ht
    have EA := Lib.hid (fun (w : World) => refine_eq_bool HS.out (rectEmpty_any ⟨a0, a1, a2, a3⟩ w))
    have EB := Lib.hid (fun (w : World) => refine_eq_bool HT.out (rectEmpty_any ⟨b0, b1, b2, b3⟩ w))
    clear HS HT
    go_enter Try.func50, Try.ntmps50
    go_wp2_with fail
    refine (EA.out _).mono ?_
    rintro e w1 ⟨rfl, hb⟩
    have J1 : Hid (JBox w w1 a0 a1 a2 a3 b0 b1 b2 b3) := Lib.hid ⟨(three_new w _ _ _ _ _ _).1.up hb, (three_new w _ _ _ _ _ _).2.1.up hb, (three_new w _ _ _ _ _ _).2.2.up hb, (below3 _ _ _ _).trans (hb.mono (by simp; omega))⟩
    clear hb
    cases s with
    | true =>
      obtain ⟨⟨c0, c1, c2, c3⟩, -⟩ := four J1.out.A
      go_wp2_with fail
      refine (EA.out _).mono ?_
      rintro e w2 ⟨rfl, hb⟩
      have J2 := Lib.hid (J1.out.up hb)
      clear hb J1 c0 c1 c2 c3
      obtain ⟨⟨c0, c1, c2, c3⟩, -⟩ := four J2.out.B
      go_wp2_with fail
      refine (EB.out _).mono ?_
      rintro e w3 ⟨rfl, hb⟩
      have J3 := Lib.hid (J2.out.up hb)
      clear hb J2 c0 c1 c2 c3
      obtain ⟨⟨c0, c1, c2, c3⟩, -⟩ := four J3.out.A
      obtain ⟨⟨d0, d1, d2, d3⟩, ⟨f0, f1, f2, f3⟩⟩ := four J3.out.Z
      cases t with
      | true =>
        obtain ⟨⟨k0, k1, k2, k3⟩, -⟩ := four J3.out.B
        go_wp2_with fail
        all_goals refine ret_rect ⟨_, _, _, _⟩ rfl rfl rfl (set4 J3.out.Z J3.out.M (by omega) _ _ _ _).1 Try.underlying36 rfl size_rect ⟨ret_val (congrArg rtV ?_), (set4 J3.out.Z J3.out.M (by omega) _ _ _ _).2⟩
        all_goals simp only [Rt.mk.injEq]
        all_goals omega
      | false =>
        go_wp2_with fail
        have h := set4 J3.out.Z J3.out.M (by omega) (.int .i64 a0) (.int .i64 a1) (.int .i64 a2) (.int .i64 a3)
        exact ret_rect ⟨a0, a1, a2, a3⟩ rfl rfl rfl h.1 Try.underlying36 rfl size_rect ⟨rfl, h.2⟩
    | false =>
      obtain ⟨⟨c0, c1, c2, c3⟩, -⟩ := four J1.out.B
      go_wp2_with fail
      refine (EB.out _).mono ?_
      rintro e w2 ⟨rfl, hb⟩
      have J2 := Lib.hid (J1.out.up hb)
      clear hb J1 c0 c1 c2 c3
      cases t with
      | true =>
        obtain ⟨⟨c0, c1, c2, c3⟩, -⟩ := four J2.out.A
        go_wp2_with fail
        refine (EA.out _).mono ?_
        rintro e w3 ⟨rfl, hb⟩
        have J3 := Lib.hid (J2.out.up hb)
        clear hb J2 c0 c1 c2 c3
        obtain ⟨⟨c0, c1, c2, c3⟩, -⟩ := four J3.out.B
        obtain ⟨⟨d0, d1, d2, d3⟩, ⟨f0, f1, f2, f3⟩⟩ := four J3.out.Z
        go_wp2_with fail
        have h := set4 J3.out.Z J3.out.M (by omega) (.int .i64 b0) (.int .i64 b1) (.int .i64 b2) (.int .i64 b3)
        exact ret_rect ⟨b0, b1, b2, b3⟩ rfl rfl rfl h.1 Try.underlying36 rfl size_rect ⟨rfl, h.2⟩
      | false =>
        obtain ⟨⟨d0, d1, d2, d3⟩, ⟨f0, f1, f2, f3⟩⟩ := four J2.out.Z
        go_wp2_with fail
        have h := set4 J2.out.Z J2.out.M (by omega) (.int .i64 0) (.int .i64 0) (.int .i64 0) (.int .i64 0)
        exact ret_rect ⟨0, 0, 0, 0⟩ rfl rfl rfl h.1 Try.underlying36 rfl size_rect ⟨rfl, h.2⟩
  refine (key _ _ rfl rfl).mono ?_
  rintro e w' ⟨rfl, hb⟩
  exact ⟨by simp only [decide_eq_true_eq], hb⟩

end Go.Proofs.Ytapeafokcailkaa
