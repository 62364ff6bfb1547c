/- Regions: the code's rectangles: within, moved, cut to the plane. -/
import Derived.Test.YtapeafokcailkaaRiC
set_option linter.unusedSimpArgs false
set_option linter.unusedVariables false
set_option linter.unusedSectionVars false
set_option linter.constructorNameAsVariable false
namespace Go.Proofs.Ytapeafokcailkaa
open Go.RowKit Go.Gou Go.Reg
set_option maxRecDepth 100000

set_option maxHeartbeats 2000000 in
theorem within_any (r t : Rt) (w : World) :
    Calls Try.prog 31 #[rtV r, rtV t] w fun e w' => e = .returned (.bool (!decide r.Some || (decide (t.x0 ≤ r.x0) && (decide (t.y0 ≤ r.y0) && (decide (r.x1 ≤ t.x1) && decide (r.y1 ≤ t.y1)))))) ∧ Gou.Mod (fun _ => False) w w' := by
  obtain ⟨a, b, c, d⟩ := r
  obtain ⟨a', b', c', d'⟩ := t
  generalize hs : decide (Rt.Some ⟨a, b, c, d⟩) = s
  go_enter Try.func31, Try.ntmps31
  go_wp2_with fail
  refine (rectEmpty_any ⟨a, b, c, d⟩ _).mono ?_
  rintro e w1 ⟨rfl, hb⟩
  rw [hs]
  obtain ⟨B0, B1⟩ := two_new w 36 36 #[.int .i64 a, .int .i64 b, .int .i64 c, .int .i64 d] #[.int .i64 a', .int .i64 b', .int .i64 c', .int .i64 d']
  obtain ⟨⟨c0, c1, c2, c3⟩, -⟩ := four (B0.up hb)
  obtain ⟨⟨k0, k1, k2, k3⟩, -⟩ := four (B1.up hb)
  have Hm : Hid (Gou.Mod (fun _ => False) w w1) := Lib.hid (((Gou.Mod.alloc0 _ _).trans' (Gou.Mod.alloc0 _ _)).trans' (Gou.Mod.of_below hb _))
  clear hb B0 B1 hs
  cases s with
  | true =>
    go_wp2_with fail
    all_goals go_ret
    all_goals refine ⟨ret_bool ?_, Hm.out⟩
    all_goals simp [*]
    all_goals omega
  | false =>
    go_wp2_with fail
    go_ret
    exact ⟨rfl, Hm.out⟩

set_option maxHeartbeats 400000 in
theorem moved_any (n b : Int) (w : World) (hn : Near n) (hb : Near b) :
    Calls Try.prog 59 #[.int .i64 n, .int .i64 b] w fun e w' => e = .returned (.int .i64 (movedP n b)) ∧ w' = w := by
  have hw : IntKind.i64.wrap (n + b) = n + b := wrap_id (by unfold Near far at *; omega) (by unfold Near far at *; omega)
  clear hn hb
  go_enter Try.func59, Try.ntmps59
  by_cases h1 : n = 4398046511104
  · subst h1
    go_wp2_with fail
    go_ret
    exact ⟨rfl, rfl⟩
  · have e1 : (n == 4398046511104) = false := by simpa using h1
    by_cases h2 : n = -4398046511104
    · subst h2
      go_wp2_with fail
      go_ret
      exact ⟨rfl, rfl⟩
    · have e2 : (n == -4398046511104) = false := by simpa using h2
      have He : Hid (movedP n b = n + b) := Lib.hid (by simp [movedP, far, h1, h2])
      clear h1 h2
      go_wp2_with fail
      go_ret
      rw [He.out]
      exact ⟨rfl, rfl⟩

theorem cut_ite (n : Int) : (if -4398046511104 < if 4398046511104 < n then 4398046511104 else n then if 4398046511104 < n then 4398046511104 else n else -4398046511104) = cutN n := by
  unfold cutN far
  repeat' split
  all_goals omega

/-- The four edges of the box N, each behind a pointer of the block M: cut to the plane, one behind the other. -/
def cutsTo (l : List Int) (i : Nat) : Array Value := ((l.take i).map fun n => Value.int .i64 (cutN n)).toArray ++ ((l.drop i).map fun n => Value.int .i64 n).toArray

set_option maxHeartbeats 4000000 in
theorem cut_any (w : World) (N M : Nat) (a b c d : Int) (T U : TypeId) (hN : Blk w N T #[.int .i64 a, .int .i64 b, .int .i64 c, .int .i64 d])
    (hM : Blk w M U #[.pointer (some ⟨N, 0, none⟩), .pointer (some ⟨N, 1, none⟩), .pointer (some ⟨N, 2, none⟩), .pointer (some ⟨N, 3, none⟩)]) (hne : M ≠ N) :
    Calls Try.prog 72 #[.slice (some ⟨M, 0, none⟩) 4 4] w fun e w' => e = .returned (.tuple #[]) ∧ Gou.Mod (fun k => k = N) w w' ∧ Blk w' N T #[.int .i64 (cutN a), .int .i64 (cutN b), .int .i64 (cutN c), .int .i64 (cutN d)] := by
  have HM := Lib.hid hM
  have HN := Lib.hid hN
  have Hne := Lib.hid hne
  clear hM hN hne
  go_enter Try.func72, Try.ntmps72
  go_wp2_with fail
  go_loopw [6] (fun x wr => ∃ i : Nat, x = .int .i64 i ∧ i ≤ 4 ∧ Gou.Mod (fun k => k = N) w wr ∧ Blk wr N T (cutsTo [a, b, c, d] i)) (fun x _ => 4 - (intOf x).toNat)
  case atStart => exact ⟨0, rfl, by omega, Gou.Mod.refl _ _, HN.out⟩
  case round =>
    obtain ⟨i, rfl, hi, hm, hB⟩ := hrel
    have Hm := Lib.hid hm
    have HB := Lib.hid hB
    obtain ⟨⟨p0, p1, p2, p3⟩, -⟩ := four (HM.out.mod hm Hne.out)
    clear hm hB
    rcases (by omega : i = 0 ∨ i = 1 ∨ i = 2 ∨ i = 3 ∨ i = 4) with rfl | rfl | rfl | rfl | rfl
    · obtain ⟨⟨c0, c1, c2, c3⟩, ⟨f0, f1, f2, f3⟩⟩ := four (a := .int .i64 a) (b := .int .i64 b) (c := .int .i64 c) (d := .int .i64 d) HB.out
      clear hi
      go_wp2_with fail
      go_roundw
      case rel => exact ⟨1, rfl, by omega, Hm.out.trans' (Gou.Mod.setCell _ ⟨N, 0, none⟩ _), by rw [cut_ite]; exact HB.out.set 0 _⟩
      case measure => simp [intOf]
    · obtain ⟨⟨c0, c1, c2, c3⟩, ⟨f0, f1, f2, f3⟩⟩ := four (a := .int .i64 (cutN a)) (b := .int .i64 b) (c := .int .i64 c) (d := .int .i64 d) HB.out
      clear hi
      go_wp2_with fail
      go_roundw
      case rel => exact ⟨2, rfl, by omega, Hm.out.trans' (Gou.Mod.setCell _ ⟨N, 1, none⟩ _), by rw [cut_ite]; exact HB.out.set 1 _⟩
      case measure => simp [intOf]
    · obtain ⟨⟨c0, c1, c2, c3⟩, ⟨f0, f1, f2, f3⟩⟩ := four (a := .int .i64 (cutN a)) (b := .int .i64 (cutN b)) (c := .int .i64 c) (d := .int .i64 d) HB.out
      clear hi
      go_wp2_with fail
      go_roundw
      case rel => exact ⟨3, rfl, by omega, Hm.out.trans' (Gou.Mod.setCell _ ⟨N, 2, none⟩ _), by rw [cut_ite]; exact HB.out.set 2 _⟩
      case measure => simp [intOf]
    · obtain ⟨⟨c0, c1, c2, c3⟩, ⟨f0, f1, f2, f3⟩⟩ := four (a := .int .i64 (cutN a)) (b := .int .i64 (cutN b)) (c := .int .i64 (cutN c)) (d := .int .i64 d) HB.out
      clear hi
      go_wp2_with fail
      go_roundw
      case rel => exact ⟨4, rfl, by omega, Hm.out.trans' (Gou.Mod.setCell _ ⟨N, 3, none⟩ _), by rw [cut_ite]; exact HB.out.set 3 _⟩
      case measure => simp [intOf]
    · clear hi
      go_wp2_with fail
      go_end0
      exact ⟨rfl, Hm.out, HB.out⟩

set_option maxHeartbeats 2000000 in
theorem whole_any (r : Rt) (w : World) :
    Calls Try.prog 58 #[rtV r] w fun e w' => e = .returned (rtV (someP ⟨cutN r.x0, cutN r.y0, cutN r.x1, cutN r.y1⟩)) ∧ Gou.Mod (fun _ => False) w w' := by
  obtain ⟨a, b, c, d⟩ := r
  have key : ∀ s : Bool, decide (Rt.Some ⟨cutN a, cutN b, cutN c, cutN d⟩) = s → Calls Try.prog 58 #[.agg #[.int .i64 a, .int .i64 b, .int .i64 c, .int .i64 d]] w
      fun e w' => e = .returned (rtV (if s then ⟨cutN a, cutN b, cutN c, cutN d⟩ else Rt.zero)) ∧ Gou.Mod (fun _ => False) w w' := by
    intro s hs
    go_enter Try.func58, Try.ntmps58
    go_wp2_with fail
    refine (cut_any _ w.heap.size (w.heap.size + 1 + 1) a b c d _ _ (three_new w _ _ _ _ _ _).1 (three_new w _ _ _ _ _ _).2.2 (by omega)).mono ?_
    rintro e w1 ⟨rfl, hm, hB⟩
    have HB0 := Lib.hid hB
    have HB1 := Lib.hid ((three_new w _ _ _ _ _ _).2.1.mod hm (by omega))
    have Hm : Hid (Below w.heap.size w w1) := Lib.hid ((below3 _ _ _ _).trans (hm.below (by simp; omega) (fun k hk h => by omega)))
    have Hz : Hid (w.heap.size + 1 < w1.heap.size) := Lib.hid (Blk.lt HB1.out)
    clear hm hB
    obtain ⟨⟨c0, c1, c2, c3⟩, -⟩ := four HB0.out
    go_wp2_with fail
    refine (rectEmpty_any ⟨cutN a, cutN b, cutN c, cutN d⟩ _).mono ?_
    rintro e w2 ⟨rfl, hb⟩
    rw [hs]
    have HC0 := Lib.hid (HB0.out.up hb)
    have HC1 := Lib.hid (HB1.out.up hb)
    have Hm2 : Hid (Below w.heap.size w w2) := Lib.hid (Hm.out.trans (hb.mono (by have := Hz.out; omega)))
    clear c0 c1 c2 c3 hs hb HB0 HB1 Hm Hz
    obtain ⟨⟨c0, c1, c2, c3⟩, -⟩ := four HC0.out
    obtain ⟨⟨d0, d1, d2, d3⟩, ⟨f0, f1, f2, f3⟩⟩ := four HC1.out
    cases s with
    | true =>
      go_wp2_with fail
      have h := set4 HC1.out Hm2.out (by omega) (.int .i64 (cutN a)) (.int .i64 (cutN b)) (.int .i64 (cutN c)) (.int .i64 (cutN d))
      exact ret_rect ⟨cutN a, cutN b, cutN c, cutN d⟩ rfl rfl rfl h.1 Try.underlying36 rfl size_rect ⟨rfl, Gou.Mod.of_below h.2 _⟩
    | false =>
      go_wp2_with fail
      have h := set4 HC1.out Hm2.out (by omega) (.int .i64 0) (.int .i64 0) (.int .i64 0) (.int .i64 0)
      exact ret_rect ⟨0, 0, 0, 0⟩ rfl rfl rfl h.1 Try.underlying36 rfl size_rect ⟨rfl, Gou.Mod.of_below h.2 _⟩
  refine (key _ rfl).mono ?_
  rintro e w' ⟨rfl, hb⟩
  exact ⟨by simp only [decide_eq_true_eq]; rfl, hb⟩

end Go.Proofs.Ytapeafokcailkaa
