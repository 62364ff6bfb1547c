/- The document's answer for layer 12: the bounds of a node's parameters, kind by kind. -/
import Derived.Test.YtfphlkoneocejaaDoorRefD
namespace Go.Proofs.YtfphlkoneocejaaDoor
open Go.RowKit Go.Gou

theorem box_below (w : World) (o : Obj) : Below w.heap.size w (w.alloc o) := (Below.refl w.heap.size w).alloc (Nat.le_refl _) o

set_option maxHeartbeats 2000000 in
theorem refB_near (op lo hi : Int) (B : Nat) (hop : (op = 1 ∧ B = 2 ∧ lo = -1048576 ∧ hi = 1048576) ∨ (op = 2 ∧ B = 2 ∧ lo = 0 ∧ hi = 255) ∨ (op = 3 ∧ B = 2 ∧ lo = 0 ∧ hi = 255) ∨ (op = 4 ∧ B = 2 ∧ lo = 0 ∧ hi = 255) ∨ (op = 7 ∧ B = 1 ∧ lo = 0 ∧ hi = 6) ∨ (op = 8 ∧ B = 1 ∧ lo = 0 ∧ hi = 5) ∨ (op = 12 ∧ B = 4 ∧ lo = -1048576 ∧ hi = 1048576))
    (w : World) (vi vp : Value) (ps : List Int) (hx : IntsAt w.heap.size w vp ps) (hl : ps.length = B) :
    Calls Tryd.prog 20 #[.agg #[.int .i64 op, vi, vp]] w fun e w' => e = .returned (.bool (ps.all (withinB lo hi))) ∧ Below w.heap.size w w' := by
  have hs : (seg ps 0 B).all (withinB lo hi) = ps.all (withinB lo hi) := by rw [← hl, seg_all]
  have hB : B ≤ 4 := by omega
  have hnear := fun (wx : World) (hbx : Below w.heap.size w wx) (b : Int) (hb : b = B) => near_at wx _ ps 0 b lo hi 0 B _ rfl hb hs (hx.up hbx) (Nat.zero_le _) (by omega) (by omega)
  have Hnear := Lib.hid hnear
  clear hnear hs hB
  generalize ps.all (withinB lo hi) = r at *
  clear hx
  rcases hop with ⟨rfl, rfl, rfl, rfl⟩ | ⟨rfl, rfl, rfl, rfl⟩ | ⟨rfl, rfl, rfl, rfl⟩ | ⟨rfl, rfl, rfl, rfl⟩ | ⟨rfl, rfl, rfl, rfl⟩ | ⟨rfl, rfl, rfl, rfl⟩ | ⟨rfl, rfl, rfl, rfl⟩
  all_goals
    go_enter Tryd.func20, Tryd.ntmps20
    go_wp2_with fail
    refine (Hnear.out _ (box_below _ _) _ rfl).mono ?_
    rintro e w1 ⟨rfl, rfl⟩
    go_wp2
    go_ret
    exact ⟨rfl, box_below _ _⟩

set_option maxHeartbeats 1000000 in
theorem refB_mat (w : World) (vi vp : Value) (ps : List Int) (hx : IntsAt w.heap.size w vp ps) (hl : ps.length = 20) :
    Calls Tryd.prog 20 #[.agg #[.int .i64 5, vi, vp]] w fun e w' => e = .returned (.bool (matB ps)) ∧ Below w.heap.size w w' := by
  go_enter Tryd.func20, Tryd.ntmps20
  go_wp2_with fail
  refine (refMat_any _ _ ps (hx.up (box_below _ _)) (by omega)).mono ?_
  rintro e w1 ⟨rfl, rfl⟩
  go_wp2
  go_ret
  exact ⟨rfl, box_below _ _⟩

set_option maxHeartbeats 1000000 in
theorem refB_merge (w : World) (vi vp : Value) :
    Calls Tryd.prog 20 #[.agg #[.int .i64 9, vi, vp]] w fun e w' => e = .returned (.bool true) ∧ Below w.heap.size w w' := by
  go_enter Tryd.func20, Tryd.ntmps20
  go_wp2_with fail
  go_ret
  exact ⟨rfl, box_below _ _⟩

set_option maxHeartbeats 2000000 in
theorem refB_flood (w : World) (vi vp : Value) (ps : List Int) (hx : IntsAt w.heap.size w vp ps) (hl : ps.length = 8) :
    Calls Tryd.prog 20 #[.agg #[.int .i64 6, vi, vp]] w fun e w' => e = .returned (.bool (pixB (ps.take 4) && (ps.drop 4).all (withinB (-1048576) 1048576))) ∧ Below w.heap.size w w' := by
  have hs : (seg ps 4 8).all (withinB (-1048576) 1048576) = (ps.drop 4).all (withinB (-1048576) 1048576) := by rw [seg_eq, List.take_of_length_le (by simp; omega)]
  have hnear := fun (wx : World) (hbx : Below w.heap.size w wx) => near_at wx _ ps 4 8 (-1048576) 1048576 4 8 _ rfl rfl hs (hx.up hbx) (by omega) (by omega) (by omega)
  have hpix := fun (wx : World) (hbx : Below w.heap.size w wx) => refPixel_any wx _ ps 0 (.inl rfl) (hx.up hbx) (by omega) (by omega)
  rw [List.drop_zero] at hpix
  have Hnear := Lib.hid hnear
  have Hpix := Lib.hid hpix
  clear hnear hs hpix
  generalize (ps.drop 4).all (withinB (-1048576) 1048576) = r at *
  cases hp : pixB (ps.take 4) with
  | false =>
    have Hp := Lib.hid hp
    clear hx hp
    go_enter Tryd.func20, Tryd.ntmps20
    go_wp2_with fail
    refine (Hpix.out _ (box_below _ _)).mono ?_
    rintro e w1 ⟨rfl, hb1⟩
    rw [Hp.out]
    go_wp2
    go_ret
    exact ⟨rfl, later_below (box_below _ _) hb1⟩
  | true =>
    have Hp := Lib.hid hp
    clear hx hp
    go_enter Tryd.func20, Tryd.ntmps20
    go_wp2_with fail
    refine (Hpix.out _ (box_below _ _)).mono ?_
    rintro e w1 ⟨rfl, hb1⟩
    rw [Hp.out]
    have hb01 := later_below (box_below _ _) hb1
    have hq0 : ∀ o : Nat, w1.cell? ⟨w.heap.size, o, none⟩ = (w.alloc (.cells #[.int .i64 6, vi, vp] 24)).cell? ⟨w.heap.size, o, none⟩ := fun o => hb1.cell (p := ⟨_, o, none⟩) (by simp)
    go_wp2_with fail
    refine (Hnear.out _ hb01).mono ?_
    rintro e w2 ⟨rfl, rfl⟩
    go_wp2
    go_ret
    exact ⟨rfl, hb01⟩

set_option maxHeartbeats 4000000 in
theorem refB_shadow (w : World) (vi vp : Value) (ps : List Int) (hx : IntsAt w.heap.size w vp ps) (hl : ps.length = 8) :
    Calls Tryd.prog 20 #[.agg #[.int .i64 11, vi, vp]] w fun e w' => e = .returned (.bool ((ps.take 2).all (withinB (-1048576) 1048576) && ((ps.drop 2).take 2).all (withinB 0 255) && pixB (ps.drop 4))) ∧ Below w.heap.size w w' := by
  have hs : (seg ps 0 2).all (withinB (-1048576) 1048576) = (ps.take 2).all (withinB (-1048576) 1048576) := by rw [seg_eq]; rfl
  have hs2 : (seg ps 2 4).all (withinB 0 255) = ((ps.drop 2).take 2).all (withinB 0 255) := by rw [seg_eq]
  have hnear := fun (wx : World) (hbx : Below w.heap.size w wx) => near_at wx _ ps 0 2 (-1048576) 1048576 0 2 _ rfl rfl hs (hx.up hbx) (by omega) (by omega) (by omega)
  have hnear2 := fun (wx : World) (hbx : Below w.heap.size w wx) => near_at wx _ ps 2 4 0 255 2 4 _ rfl rfl hs2 (hx.up hbx) (by omega) (by omega) (by omega)
  have hpix := fun (wx : World) (hbx : Below w.heap.size w wx) => refPixel_any wx _ ps 4 (.inr rfl) (hx.up hbx) (by omega) (by omega)
  rw [List.take_of_length_le (show (ps.drop 4).length ≤ 4 by simp; omega)] at hpix
  have Hnear := Lib.hid hnear
  have Hnear2 := Lib.hid hnear2
  have Hpix := Lib.hid hpix
  clear hnear hs hpix hnear2 hs2 hx
  generalize (ps.take 2).all (withinB (-1048576) 1048576) = r1 at *
  generalize ((ps.drop 2).take 2).all (withinB 0 255) = r2 at *
  generalize pixB (ps.drop 4) = r3 at *
  cases r1 with
  | false =>
    go_enter Tryd.func20, Tryd.ntmps20
    go_wp2_with fail
    refine (Hnear.out _ (box_below _ _)).mono ?_
    rintro e w1 ⟨rfl, rfl⟩
    go_wp2
    go_ret
    exact ⟨rfl, box_below _ _⟩
  | true =>
    cases r2 with
    | false =>
      go_enter Tryd.func20, Tryd.ntmps20
      go_wp2_with fail
      refine (Hnear.out _ (box_below _ _)).mono ?_
      rintro e w1 ⟨rfl, rfl⟩
      go_wp2_with fail
      refine (Hnear2.out _ (box_below _ _)).mono ?_
      rintro e w1 ⟨rfl, rfl⟩
      go_wp2
      go_ret
      exact ⟨rfl, box_below _ _⟩
    | true =>
      go_enter Tryd.func20, Tryd.ntmps20
      go_wp2_with fail
      refine (Hnear.out _ (box_below _ _)).mono ?_
      rintro e w1 ⟨rfl, rfl⟩
      go_wp2_with fail
      refine (Hnear2.out _ (box_below _ _)).mono ?_
      rintro e w1 ⟨rfl, rfl⟩
      go_wp2_with fail
      refine (Hpix.out _ (box_below _ _)).mono ?_
      rintro e w1 ⟨rfl, hb1⟩
      go_wp2
      go_ret
      exact ⟨rfl, later_below (box_below _ _) hb1⟩

end Go.Proofs.YtfphlkoneocejaaDoor
