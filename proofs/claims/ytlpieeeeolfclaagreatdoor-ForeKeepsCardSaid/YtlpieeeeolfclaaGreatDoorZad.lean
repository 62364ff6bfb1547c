/- Texts of the scenes' proofs, laid together: RiA, RiD. -/
import Derived.Test.YtlpieeeeolfclaaGreatDoorRows
import Derived.Test.YtlpieeeeolfclaaGreatDoorProg
import Derived.Test.YtlpieeeeolfclaaGreatDoorZac
import Derived.WalkMore
import Derived.Deep.RegionHeld3
import Derived.Deep.RegionWith
import Derived.Deep.DeepFit
import Derived.StillTailTactics
import Derived.BigQuiet
import Derived.Laws.Rows
set_option linter.unusedSimpArgs false
set_option linter.unusedVariables false
set_option linter.unusedSectionVars false
set_option linter.constructorNameAsVariable false

/- Regions: the functions on numbers and on single rectangles (the document's and the code's), each once. -/
namespace Go.Gou
open Go.RowKit Go.Reg
abbrev rtV (r : Rt) : Value := .agg #[.int .i64 r.x0, .int .i64 r.y0, .int .i64 r.x1, .int .i64 r.y1]
theorem ret_bool {a b : Bool} (h : a = b) : Ending.returned (.bool a) = .returned (.bool b) := by rw [h]
theorem ret_int {a b : Int} (h : a = b) : Ending.returned (.int .i64 a) = .returned (.int .i64 b) := by rw [h]
theorem ret_val {a b : Value} (h : a = b) : Ending.returned a = .returned b := by rw [h]
/-- The end of a function whose result is a rectangle in a box. -/
theorem ret_rect {P : Program} {fn : Func} {R : Ending → World → Prop} {a : Act} {w : World} {p : Tmp} {T : TypeId} {N : Nat} (r : Rt) {d : TypeDesc} (h : fn.results = #[.cell p T]) (hp : a.tmps.getD p undef = .pointer (some ⟨N, 0, none⟩)) (hd : a.defers = [])
    (hB : Blk w N T #[.int .i64 r.x0, .int .i64 r.y0, .int .i64 r.x1, .int .i64 r.y1]) (hu : P.underlying T = some d) (hdd : (match d with | .struct _ | .array _ _ => true | _ => false) = true)
    (hi : (P.info? T).map (·.size) = some 4) (hR : R (.returned (rtV r)) w) : bodyPost P fn R Exit.ret a w :=
  bodyPost_ret (results_cell_row h a.tmps w N T _ (0, 0) d hp hB hu hdd hi) hd hR
theorem four {w : World} {N : Nat} {T : TypeId} {a b c d : Value} (h : Blk w N T #[a, b, c, d]) : (w.cell? ⟨N, 0, none⟩ = some a ∧ w.cell? ⟨N, 1, none⟩ = some b ∧ w.cell? ⟨N, 2, none⟩ = some c ∧ w.cell? ⟨N, 3, none⟩ = some d) ∧
    (w.frozen? ⟨N, 0, none⟩ = false ∧ w.frozen? ⟨N, 1, none⟩ = false ∧ w.frozen? ⟨N, 2, none⟩ = false ∧ w.frozen? ⟨N, 3, none⟩ = false) :=
  ⟨⟨h.cell 0 rfl, h.cell 1 rfl, h.cell 2 rfl, h.cell 3 rfl⟩, ⟨h.frozen 0, h.frozen 1, h.frozen 2, h.frozen 3⟩⟩
theorem Blk.up {w w' : World} {b : Nat} {T : TypeId} {cs : Array Value} (h : Blk w b T cs) (hb : Below w.heap.size w w') : Blk w' b T cs := h.mod (Mod.of_below hb (fun _ => False)) (fun h => h)
theorem Blk.al {w : World} {b : Nat} {T : TypeId} {cs : Array Value} (h : Blk w b T cs) (o : Obj) : Blk (w.alloc o) b T cs := h.up ((Below.refl _ _).alloc (Nat.le_refl _) o)
theorem Blk.new (w : World) (T : TypeId) (cs : Array Value) : Blk (w.alloc (.cells cs T)) w.heap.size T cs := heap_alloc_new _ _
theorem two_new (w : World) (T U : TypeId) (cs ds : Array Value) : Blk ((w.alloc (.cells cs T)).alloc (.cells ds U)) w.heap.size T cs ∧ Blk ((w.alloc (.cells cs T)).alloc (.cells ds U)) (w.heap.size + 1) U ds :=
  ⟨(Blk.new w T cs).al _, by have := Blk.new (w.alloc (.cells cs T)) U ds; simpa only [World.size_alloc] using this⟩
theorem three_new (w : World) (T U V : TypeId) (cs ds es : Array Value) : Blk (((w.alloc (.cells cs T)).alloc (.cells ds U)).alloc (.cells es V)) w.heap.size T cs ∧ Blk (((w.alloc (.cells cs T)).alloc (.cells ds U)).alloc (.cells es V)) (w.heap.size + 1) U ds ∧ Blk (((w.alloc (.cells cs T)).alloc (.cells ds U)).alloc (.cells es V)) (w.heap.size + 1 + 1) V es := by
  obtain ⟨h1, h2⟩ := two_new (w.alloc (.cells cs T)) U V ds es
  exact ⟨((Blk.new w T cs).al _).al _, by simpa only [World.size_alloc] using h1, by simpa only [World.size_alloc] using h2⟩
theorem below_al {B : Nat} {w w' : World} (h : Below B w w') (hB : B ≤ w'.heap.size) (o : Obj) : Below B w (w'.alloc o) := h.alloc hB o
theorem below2 (w : World) (A B : Obj) : Below w.heap.size w ((w.alloc A).alloc B) := ((Below.refl _ _).alloc (Nat.le_refl _) _).alloc (by simp) _
theorem below3 (w : World) (A B C : Obj) : Below w.heap.size w (((w.alloc A).alloc B).alloc C) := (below2 w A B).alloc (by simp; omega) _
theorem set4 {w w1 : World} {B N : Nat} {T : TypeId} {x y z u : Value} (h : Blk w1 N T #[x, y, z, u]) (hb : Below B w w1) (hN : B ≤ N) (a b c d : Value) :
    Blk ((((w1.setCell ⟨N, 0, none⟩ a).setCell ⟨N, 1, none⟩ b).setCell ⟨N, 2, none⟩ c).setCell ⟨N, 3, none⟩ d) N T #[a, b, c, d] ∧
    Below B w ((((w1.setCell ⟨N, 0, none⟩ a).setCell ⟨N, 1, none⟩ b).setCell ⟨N, 2, none⟩ c).setCell ⟨N, 3, none⟩ d) :=
  ⟨(((h.set 0 _).set 1 _).set 2 _).set 3 _, ((((hb.setCell hN _).setCell hN _).setCell hN _).setCell hN _)⟩
theorem Blk.mod0 {w w' : World} {b : Nat} {T : TypeId} {cs : Array Value} (h : Blk w b T cs) (hm : Mod (fun _ => False) w w') : Blk w' b T cs := h.mod hm (fun h => h)
theorem store_end {w w1 w3 : World} {B N : Nat} {T : TypeId} {x y z u : Value} (hm : Below B w w1) (hB : B ≤ N) (hz : B ≤ w1.heap.size) (hb : Blk w1 N T #[x, y, z, u]) (hM : Mod (fun _ => False) w1 w3) (a b c d : Value) :
    Blk (w3.setCells N 0 [a, b, c, d]) N T #[a, b, c, d] ∧ Below B w (w3.setCells N 0 [a, b, c, d]) := by
  refine ⟨by simpa [setMany] using (hb.mod0 hM).sets 0 [a, b, c, d], (hm.trans (hM.below hz (fun _ _ h => h))).trans ?_⟩
  exact (Blk.setMod w3 N 0 _).below (Nat.le_trans hz hM.size) (fun k hk h => by omega)
theorem one4 (a b c d : Int) : (#[.int .i64 a, .int .i64 b, .int .i64 c, .int .i64 d] : Array Value).all (·.oneCell') = true := by
  simp [Value.oneCell']
theorem Mod.alloc0 (w : World) (o : Obj) : Mod (fun _ => False) w (w.alloc o) := Mod.alloc _ w o
end Go.Gou
namespace Go.Proofs.YtlpieeeeolfclaaGreatDoor
open Go.RowKit Go.Gou Go.Reg
set_option maxRecDepth 100000

set_option maxHeartbeats 400000 in
theorem refNear_any (n : Int) (w : World) :
    Calls Tryz.prog 46 #[.int .i64 n] w fun e w' => e = .returned (.bool (decide (Near n))) ∧ w' = w := by
  go_enter Tryz.func46, Tryz.ntmps46
  go_wp2
  all_goals go_ret
  all_goals refine ⟨ret_bool ?_, rfl⟩
  all_goals (rw [Bool.eq_iff_iff]; simp only [decide_eq_true_eq, Bool.false_eq_true, false_iff, true_iff, Bool.and_eq_true, Bool.or_eq_true]; simp only [Near, far, Rt.Some, Rt.Has]; omega)

set_option maxHeartbeats 400000 in
theorem refEmpty_any (r : Rt) (w : World) :
    Calls Tryz.prog 22 #[rtV r] w fun e w' => e = .returned (.bool (!decide r.Some)) ∧ Below w.heap.size w w' := by
  obtain ⟨a, b, c, d⟩ := r
  go_enter Tryz.func22, Tryz.ntmps22
  go_wp2
  all_goals go_ret
  all_goals refine ⟨ret_bool ?_, (Below.refl _ _).alloc (Nat.le_refl _) _⟩
  all_goals (rw [Bool.eq_iff_iff]; simp only [decide_eq_true_eq, Bool.not_eq_true', decide_eq_false_iff_not, Bool.false_eq_true, false_iff, true_iff, Bool.and_eq_true, Bool.or_eq_true]; simp only [Near, far, Rt.Some, Rt.Has]; omega)

set_option maxHeartbeats 400000 in
theorem rectEmpty_any (r : Rt) (w : World) :
    Calls Tryz.prog 41 #[rtV r] w fun e w' => e = .returned (.bool (!decide r.Some)) ∧ Below w.heap.size w w' := by
  obtain ⟨a, b, c, d⟩ := r
  go_enter Tryz.func41, Tryz.ntmps41
  go_wp2
  all_goals go_ret
  all_goals refine ⟨ret_bool ?_, (Below.refl _ _).alloc (Nat.le_refl _) _⟩
  all_goals (rw [Bool.eq_iff_iff]; simp only [decide_eq_true_eq, Bool.not_eq_true', decide_eq_false_iff_not, Bool.false_eq_true, false_iff, true_iff, Bool.and_eq_true, Bool.or_eq_true]; simp only [Near, far, Rt.Some, Rt.Has]; omega)

set_option maxHeartbeats 400000 in
theorem refHas_any (r : Rt) (x y : Int) (w : World) :
    Calls Tryz.prog 87 #[rtV r, .int .i64 x, .int .i64 y] w fun e w' => e = .returned (.bool (decide (r.Has x y))) ∧ Below w.heap.size w w' := by
  obtain ⟨a, b, c, d⟩ := r
  go_enter Tryz.func87, Tryz.ntmps87
  go_wp2
  all_goals go_ret
  all_goals refine ⟨ret_bool ?_, (Below.refl _ _).alloc (Nat.le_refl _) _⟩
  all_goals (rw [Bool.eq_iff_iff]; simp only [decide_eq_true_eq, Bool.not_eq_true', decide_eq_false_iff_not, Bool.false_eq_true, false_iff, true_iff, Bool.and_eq_true, Bool.or_eq_true]; simp only [Near, far, Rt.Some, Rt.Has]; omega)

theorem size_rect : (Tryz.prog.info? 32).map (·.size) = some 4 := by kernel_rfl

set_option maxHeartbeats 400000 in
theorem all_any (w : World) :
    Calls Tryz.prog 37 #[] w fun e w' => e = .returned (rtV ⟨-4398046511104, -4398046511104, 4398046511104, 4398046511104⟩) ∧ Below w.heap.size w w' := by
  go_enter Tryz.func37, Tryz.ntmps37
  go_wp2
  exact ret_rect ⟨-4398046511104, -4398046511104, 4398046511104, 4398046511104⟩ rfl rfl rfl (heap_alloc_new _ _) Tryz.underlying32 rfl size_rect ⟨rfl, (Below.refl _ _).alloc (Nat.le_refl _) _⟩

theorem wrap_id {n : Int} (h1 : -9223372036854775808 ≤ n) (h2 : n ≤ 9223372036854775807) : IntKind.i64.wrap n = n := by
  simp [IntKind.wrap, IntKind.signed, IntKind.bits]; omega

set_option maxHeartbeats 400000 in
theorem refRtRight_any (r : Rt) (w : World) :
    Calls Tryz.prog 21 #[rtV r] w fun e w' => e = .returned (.bool (decide r.Right)) ∧ Below w.heap.size w w' := by
  obtain ⟨a, b, c, d⟩ := r
  have hr : decide (Rt.Right ⟨a, b, c, d⟩) = (decide (Near a) && (decide (Near b) && (decide (Near c) && decide (Near d)))) := by
    rw [Bool.eq_iff_iff]; simp only [decide_eq_true_eq, Bool.and_eq_true]; rfl
  rw [hr]
  have h1 := fun (n : Int) (w : World) => refNear_any n w
  clear hr
  obtain ⟨q, hq⟩ : ∃ q : Int → Bool, ∀ n, decide (Near n) = q n := ⟨_, fun _ => rfl⟩
  simp only [hq] at h1 ⊢
  clear hq
  go_enter Tryz.func21, Tryz.ntmps21
  go_wp2_with (go_at_call 46; refine (h1 _ _).mono ?_; rintro e w1 ⟨rfl, rfl⟩)
  all_goals go_ret
  all_goals refine ⟨ret_bool ?_, (Below.refl _ _).alloc (Nat.le_refl _) _⟩
  all_goals simp [*]

end Go.Proofs.YtlpieeeeolfclaaGreatDoor

/- Regions: the code's rectangles: within, moved, cut to the plane. -/
namespace Go.Proofs.YtlpieeeeolfclaaGreatDoor
open Go.RowKit Go.Gou Go.Reg
set_option maxRecDepth 100000

set_option maxHeartbeats 400000 in
theorem moved_any (n b : Int) (w : World) (hn : Near n) (hb : Near b) :
    Calls Tryz.prog 60 #[.int .i64 n, .int .i64 b] w fun e w' => e = .returned (.int .i64 (movedP n b)) ∧ w' = w := by
  have hw : IntKind.i64.wrap (n + b) = n + b := wrap_id (by unfold Near far at *; omega) (by unfold Near far at *; omega)
  clear hn hb
  go_enter Tryz.func60, Tryz.ntmps60
  by_cases h1 : n = 4398046511104
  · subst h1
    go_wp2_with fail
    go_ret
    exact ⟨rfl, rfl⟩
  · have e1 : (n == 4398046511104) = false := by simpa using h1
    by_cases h2 : n = -4398046511104
    · subst h2
      go_wp2_with fail
      go_ret
      exact ⟨rfl, rfl⟩
    · have e2 : (n == -4398046511104) = false := by simpa using h2
      have He : Hid (movedP n b = n + b) := Lib.hid (by simp [movedP, far, h1, h2])
      clear h1 h2
      go_wp2_with fail
      go_ret
      rw [He.out]
      exact ⟨rfl, rfl⟩

theorem cut_ite (n : Int) : (if -4398046511104 < if 4398046511104 < n then 4398046511104 else n then if 4398046511104 < n then 4398046511104 else n else -4398046511104) = cutN n := by
  unfold cutN far
  repeat' split
  all_goals omega

/-- The four edges of the box N, each behind a pointer of the block M: cut to the plane, one behind the other. -/
def cutsTo (l : List Int) (i : Nat) : Array Value := ((l.take i).map fun n => Value.int .i64 (cutN n)).toArray ++ ((l.drop i).map fun n => Value.int .i64 n).toArray

set_option maxHeartbeats 4000000 in
theorem cut_any (w : World) (N M : Nat) (a b c d : Int) (T U : TypeId) (hN : Blk w N T #[.int .i64 a, .int .i64 b, .int .i64 c, .int .i64 d])
    (hM : Blk w M U #[.pointer (some ⟨N, 0, none⟩), .pointer (some ⟨N, 1, none⟩), .pointer (some ⟨N, 2, none⟩), .pointer (some ⟨N, 3, none⟩)]) (hne : M ≠ N) :
    Calls Tryz.prog 72 #[.slice (some ⟨M, 0, none⟩) 4 4] w fun e w' => e = .returned (.tuple #[]) ∧ Gou.Mod (fun k => k = N) w w' ∧ Blk w' N T #[.int .i64 (cutN a), .int .i64 (cutN b), .int .i64 (cutN c), .int .i64 (cutN d)] := by
  have HM := Lib.hid hM
  have HN := Lib.hid hN
  have Hne := Lib.hid hne
  clear hM hN hne
  go_enter Tryz.func72, Tryz.ntmps72
  go_wp2_with fail
  go_loopw [6] (fun x wr => ∃ i : Nat, x = .int .i64 i ∧ i ≤ 4 ∧ Gou.Mod (fun k => k = N) w wr ∧ Blk wr N T (cutsTo [a, b, c, d] i)) (fun x _ => 4 - (intOf x).toNat)
  case atStart => exact ⟨0, rfl, by omega, Gou.Mod.refl _ _, HN.out⟩
  case round =>
    obtain ⟨i, rfl, hi, hm, hB⟩ := hrel
    have Hm := Lib.hid hm
    have HB := Lib.hid hB
    obtain ⟨⟨p0, p1, p2, p3⟩, -⟩ := four (HM.out.mod hm Hne.out)
    clear hm hB
    rcases (by omega : i = 0 ∨ i = 1 ∨ i = 2 ∨ i = 3 ∨ i = 4) with rfl | rfl | rfl | rfl | rfl
    · obtain ⟨⟨c0, c1, c2, c3⟩, ⟨f0, f1, f2, f3⟩⟩ := four (a := .int .i64 a) (b := .int .i64 b) (c := .int .i64 c) (d := .int .i64 d) HB.out
      clear hi
      go_wp2_with fail
      go_roundw
      case rel => exact ⟨1, rfl, by omega, Hm.out.trans' (Gou.Mod.setCell _ ⟨N, 0, none⟩ _), by rw [cut_ite]; exact HB.out.set 0 _⟩
      case measure => simp [intOf]
    · obtain ⟨⟨c0, c1, c2, c3⟩, ⟨f0, f1, f2, f3⟩⟩ := four (a := .int .i64 (cutN a)) (b := .int .i64 b) (c := .int .i64 c) (d := .int .i64 d) HB.out
      clear hi
      go_wp2_with fail
      go_roundw
      case rel => exact ⟨2, rfl, by omega, Hm.out.trans' (Gou.Mod.setCell _ ⟨N, 1, none⟩ _), by rw [cut_ite]; exact HB.out.set 1 _⟩
      case measure => simp [intOf]
    · obtain ⟨⟨c0, c1, c2, c3⟩, ⟨f0, f1, f2, f3⟩⟩ := four (a := .int .i64 (cutN a)) (b := .int .i64 (cutN b)) (c := .int .i64 c) (d := .int .i64 d) HB.out
      clear hi
      go_wp2_with fail
      go_roundw
      case rel => exact ⟨3, rfl, by omega, Hm.out.trans' (Gou.Mod.setCell _ ⟨N, 2, none⟩ _), by rw [cut_ite]; exact HB.out.set 2 _⟩
      case measure => simp [intOf]
    · obtain ⟨⟨c0, c1, c2, c3⟩, ⟨f0, f1, f2, f3⟩⟩ := four (a := .int .i64 (cutN a)) (b := .int .i64 (cutN b)) (c := .int .i64 (cutN c)) (d := .int .i64 d) HB.out
      clear hi
      go_wp2_with fail
      go_roundw
      case rel => exact ⟨4, rfl, by omega, Hm.out.trans' (Gou.Mod.setCell _ ⟨N, 3, none⟩ _), by rw [cut_ite]; exact HB.out.set 3 _⟩
      case measure => simp [intOf]
    · clear hi
      go_wp2_with fail
      go_end0
      exact ⟨rfl, Hm.out, HB.out⟩

set_option maxHeartbeats 2000000 in
theorem whole_any (r : Rt) (w : World) :
    Calls Tryz.prog 59 #[rtV r] w fun e w' => e = .returned (rtV (someP ⟨cutN r.x0, cutN r.y0, cutN r.x1, cutN r.y1⟩)) ∧ Gou.Mod (fun _ => False) w w' := by
  obtain ⟨a, b, c, d⟩ := r
  have key : ∀ s : Bool, decide (Rt.Some ⟨cutN a, cutN b, cutN c, cutN d⟩) = s → Calls Tryz.prog 59 #[.agg #[.int .i64 a, .int .i64 b, .int .i64 c, .int .i64 d]] w
      fun e w' => e = .returned (rtV (if s then ⟨cutN a, cutN b, cutN c, cutN d⟩ else Rt.zero)) ∧ Gou.Mod (fun _ => False) w w' := by
    intro s hs
    go_enter Tryz.func59, Tryz.ntmps59
    go_wp2_with fail
    refine (cut_any _ w.heap.size (w.heap.size + 1 + 1) a b c d _ _ (three_new w _ _ _ _ _ _).1 (three_new w _ _ _ _ _ _).2.2 (by omega)).mono ?_
    rintro e w1 ⟨rfl, hm, hB⟩
    have HB0 := Lib.hid hB
    have HB1 := Lib.hid ((three_new w _ _ _ _ _ _).2.1.mod hm (by omega))
    have Hm : Hid (Below w.heap.size w w1) := Lib.hid ((below3 _ _ _ _).trans (hm.below (by simp; omega) (fun k hk h => by omega)))
    have Hz : Hid (w.heap.size + 1 < w1.heap.size) := Lib.hid (Blk.lt HB1.out)
    clear hm hB
    obtain ⟨⟨c0, c1, c2, c3⟩, -⟩ := four HB0.out
    go_wp2_with fail
    refine (rectEmpty_any ⟨cutN a, cutN b, cutN c, cutN d⟩ _).mono ?_
    rintro e w2 ⟨rfl, hb⟩
    rw [hs]
    have HC0 := Lib.hid (HB0.out.up hb)
    have HC1 := Lib.hid (HB1.out.up hb)
    have Hm2 : Hid (Below w.heap.size w w2) := Lib.hid (Hm.out.trans (hb.mono (by have := Hz.out; omega)))
    clear c0 c1 c2 c3 hs hb HB0 HB1 Hm Hz
    obtain ⟨⟨c0, c1, c2, c3⟩, -⟩ := four HC0.out
    obtain ⟨⟨d0, d1, d2, d3⟩, ⟨f0, f1, f2, f3⟩⟩ := four HC1.out
    cases s with
    | true =>
      go_wp2_with fail
      have h := set4 HC1.out Hm2.out (by omega) (.int .i64 (cutN a)) (.int .i64 (cutN b)) (.int .i64 (cutN c)) (.int .i64 (cutN d))
      exact ret_rect ⟨cutN a, cutN b, cutN c, cutN d⟩ rfl rfl rfl h.1 Tryz.underlying32 rfl size_rect ⟨rfl, Gou.Mod.of_below h.2 _⟩
    | false =>
      go_wp2_with fail
      have h := set4 HC1.out Hm2.out (by omega) (.int .i64 0) (.int .i64 0) (.int .i64 0) (.int .i64 0)
      exact ret_rect ⟨0, 0, 0, 0⟩ rfl rfl rfl h.1 Tryz.underlying32 rfl size_rect ⟨rfl, Gou.Mod.of_below h.2 _⟩
  refine (key _ rfl).mono ?_
  rintro e w' ⟨rfl, hb⟩
  exact ⟨by simp only [decide_eq_true_eq]; rfl, hb⟩

end Go.Proofs.YtlpieeeeolfclaaGreatDoor

