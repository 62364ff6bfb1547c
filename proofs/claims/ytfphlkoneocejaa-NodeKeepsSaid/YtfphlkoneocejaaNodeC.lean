/- The node check: the bounds of a node's parameters, kind by kind (written by gen_nodec.py). -/
import Derived.Test.YtfphlkoneocejaaNodeB
namespace Go.Proofs.Ytfphlkoneocejaa
open Go.RowKit Go.Gou

theorem eqF {a b : Int} (h : a ≠ b) : (a == b) = false := by simpa using h

theorem bounds_start (w w1 w2 : World) (o : Obj) (hb1 : Below (w.alloc o).heap.size (w.alloc o) w1) (hb2 : Below w1.heap.size w1 w2) : Below w.heap.size w w2 :=
  later_below ((Below.refl w.heap.size w).alloc (Nat.le_refl _) _) (later_below hb1 hb2)

set_option maxHeartbeats 1000000 in
theorem bounds_place (op : Int) (hop : op = 1 ∨ op = 12) (w : World) (vi vp : Value) (ps : List Int) (hx : IntsAt w.heap.size w vp ps) (hl : ps.length ≤ 100) :
    Calls Try.prog 17 #[.agg #[.int .i64 op, vi, vp]] w fun e w' => e = .returned (.bool (ps.all (withinB (-1048576) 1048576))) ∧ Below w.heap.size w w' := by
  have hle : ps.length ≤ maxLen := by unfold maxLen; omega
  rcases hop with rfl | rfl
  all_goals
    go_enter Try.func17, Try.ntmps17
    go_wp2_with fail
    refine (within_any _ _ _).mono ?_
    rintro e w1 ⟨fv1, rfl, hq1, hb1⟩
    have hz1 : w.heap.size < w1.heap.size := by have := hb1.size; simp at this; omega
    obtain ⟨hc1, _⟩ := bcell hb1
    go_wp2_with fail
    refine (within_any _ _ _).mono ?_
    rintro e w2 ⟨fv2, rfl, hq2, hb2⟩
    have hz2 : w.heap.size < w2.heap.size := by have := hb2.size; omega
    obtain ⟨hc2, _⟩ := bcell hb2
    have hb02 := later_below ((Below.refl w.heap.size w).alloc (Nat.le_refl _) _) (later_below hb1 hb2)
    replace hq1 := hq1.up hb2
    go_wp2_with fail
    refine (all_any w2 _ _ ps _ (hx.up hb02) (hq1.asks ps) hle).mono ?_
    rintro e w3 ⟨rfl, hb3⟩
    go_wp2
    go_ret
    exact ⟨rfl, later_below hb02 hb3⟩

set_option maxHeartbeats 1000000 in
theorem bounds_radius (op : Int) (hop : op = 2 ∨ op = 3 ∨ op = 4) (w : World) (vi vp : Value) (ps : List Int) (hx : IntsAt w.heap.size w vp ps) (hl : ps.length ≤ 100) :
    Calls Try.prog 17 #[.agg #[.int .i64 op, vi, vp]] w fun e w' => e = .returned (.bool (ps.all (withinB 0 255))) ∧ Below w.heap.size w w' := by
  have hle : ps.length ≤ maxLen := by unfold maxLen; omega
  rcases hop with rfl | rfl | rfl
  all_goals
    go_enter Try.func17, Try.ntmps17
    go_wp2_with fail
    refine (within_any _ _ _).mono ?_
    rintro e w1 ⟨fv1, rfl, hq1, hb1⟩
    have hz1 : w.heap.size < w1.heap.size := by have := hb1.size; simp at this; omega
    obtain ⟨hc1, _⟩ := bcell hb1
    go_wp2_with fail
    refine (within_any _ _ _).mono ?_
    rintro e w2 ⟨fv2, rfl, hq2, hb2⟩
    have hz2 : w.heap.size < w2.heap.size := by have := hb2.size; omega
    obtain ⟨hc2, _⟩ := bcell hb2
    have hb02 := later_below ((Below.refl w.heap.size w).alloc (Nat.le_refl _) _) (later_below hb1 hb2)
    replace hq1 := hq1.up hb2
    go_wp2_with fail
    refine (all_any w2 _ _ ps _ (hx.up hb02) (hq2.asks ps) hle).mono ?_
    rintro e w3 ⟨rfl, hb3⟩
    go_wp2
    go_ret
    exact ⟨rfl, later_below hb02 hb3⟩

set_option maxHeartbeats 1000000 in
theorem bounds_matrix (op : Int) (hop : op = 5) (w : World) (vi vp : Value) (ps : List Int) (hx : IntsAt w.heap.size w vp ps) (hl : ps.length ≤ 100) :
    Calls Try.prog 17 #[.agg #[.int .i64 op, vi, vp]] w fun e w' => e = .returned (.bool (matB ps)) ∧ Below w.heap.size w w' := by
  have hle : ps.length ≤ maxLen := by unfold maxLen; omega
  subst hop
  go_enter Try.func17, Try.ntmps17
  go_wp2_with fail
  refine (within_any _ _ _).mono ?_
  rintro e w1 ⟨fv1, rfl, hq1, hb1⟩
  have hz1 : w.heap.size < w1.heap.size := by have := hb1.size; simp at this; omega
  obtain ⟨hc1, _⟩ := bcell hb1
  go_wp2_with fail
  refine (within_any _ _ _).mono ?_
  rintro e w2 ⟨fv2, rfl, hq2, hb2⟩
  have hz2 : w.heap.size < w2.heap.size := by have := hb2.size; omega
  obtain ⟨hc2, _⟩ := bcell hb2
  have hb02 := later_below ((Below.refl w.heap.size w).alloc (Nat.le_refl _) _) (later_below hb1 hb2)
  replace hq1 := hq1.up hb2
  go_wp2_with fail
  refine (matrix_any w2 _ ps (hx.up hb02) hle).mono ?_
  rintro e w3 ⟨rfl, hb3⟩
  go_wp2
  go_ret
  exact ⟨rfl, later_below hb02 hb3⟩

set_option maxHeartbeats 1000000 in
theorem bounds_flood (op : Int) (hop : op = 6) (w : World) (vi vp : Value) (ps : List Int) (hx : IntsAt w.heap.size w vp ps) (hl8 : ps.length = 8) :
    Calls Try.prog 17 #[.agg #[.int .i64 op, vi, vp]] w fun e w' => e = .returned (.bool (pixB (ps.take 4) && (ps.drop 4).all (withinB (-1048576) 1048576))) ∧ Below w.heap.size w w' := by
  have hle : ps.length ≤ maxLen := by unfold maxLen; omega
  subst hop
  obtain ⟨b, o, cap, rfl, hcap, hb, _⟩ := ints_cells hx (by omega)
  have hx4 := hx.part 0 4 cap (by omega) (by omega) (by omega)
  have hx8 := hx.part 4 4 (cap - 4) (by omega) (by omega) (by omega)
  simp only [List.drop_zero, Nat.add_zero] at hx4
  rw [List.take_of_length_le (by simp; omega)] at hx8
  have hcap' : 8 ≤ cap := by omega
  have hne : ¬ (4 = cap) := by omega
  have hl4 : (ps.take 4).length = 4 := by simp; omega
  have hm4 : (ps.drop 4).length ≤ maxLen := by unfold maxLen; simp; omega
  rw [hl8]
  have Hl4 := Lib.hid hl4
  have Hm4 := Lib.hid hm4
  clear hl8 hcap hl4 hm4 hx hle
  generalize ps.take 4 = p4 at *
  generalize ps.drop 4 = p8 at *
  cases hp4 : pixB p4 with
  | false =>
    have Hp4 := Lib.hid hp4
    clear hp4
    go_enter Try.func17, Try.ntmps17
    go_wp2_with fail
    refine (within_any _ _ _).mono ?_
    rintro e w1 ⟨fv1, rfl, hq1, hb1⟩
    have hz1 : w.heap.size < w1.heap.size := by have := hb1.size; simp at this; omega
    obtain ⟨hc1, _⟩ := bcell hb1
    go_wp2_with fail
    refine (within_any _ _ _).mono ?_
    rintro e w2 ⟨fv2, rfl, hq2, hb2⟩
    have hz2 : w.heap.size < w2.heap.size := by have := hb2.size; omega
    obtain ⟨hc2, _⟩ := bcell hb2
    have hb02 := later_below ((Below.refl w.heap.size w).alloc (Nat.le_refl _) _) (later_below hb1 hb2)
    replace hq1 := hq1.up hb2
    go_wp2_with fail
    refine (pixel_any w2 _ p4 (hx4.up hb02) Hl4.out).mono ?_
    rintro e w3 ⟨rfl, hb3⟩
    rw [Hp4.out]
    go_wp2
    go_ret
    exact ⟨rfl, later_below hb02 hb3⟩
  | true =>
    have Hp4 := Lib.hid hp4
    clear hp4
    go_enter Try.func17, Try.ntmps17
    go_wp2_with fail
    refine (within_any _ _ _).mono ?_
    rintro e w1 ⟨fv1, rfl, hq1, hb1⟩
    have hz1 : w.heap.size < w1.heap.size := by have := hb1.size; simp at this; omega
    obtain ⟨hc1, _⟩ := bcell hb1
    go_wp2_with fail
    refine (within_any _ _ _).mono ?_
    rintro e w2 ⟨fv2, rfl, hq2, hb2⟩
    have hz2 : w.heap.size < w2.heap.size := by have := hb2.size; omega
    obtain ⟨hc2, _⟩ := bcell hb2
    have hb02 := later_below ((Below.refl w.heap.size w).alloc (Nat.le_refl _) _) (later_below hb1 hb2)
    replace hq1 := hq1.up hb2
    go_wp2_with fail
    refine (pixel_any w2 _ p4 (hx4.up hb02) Hl4.out).mono ?_
    rintro e w3 ⟨rfl, hb3⟩
    rw [Hp4.out]
    have hz3 : w.heap.size < w3.heap.size := by have := hb3.size; omega
    have hb03 := later_below hb02 hb3
    obtain ⟨hc3, _⟩ := bcell hb3
    go_wp2_with fail
    refine (all_any w3 _ _ p8 _ (hx8.up hb03) ((hq1.up hb3).asks p8) Hm4.out).mono ?_
    rintro e w4 ⟨rfl, hb4⟩
    go_wp2
    go_ret
    exact ⟨rfl, later_below hb03 hb4⟩

set_option maxHeartbeats 1000000 in
theorem bounds_blend (op : Int) (hop : op = 7) (w : World) (vi vp : Value) (ps : List Int) (hx : IntsAt w.heap.size w vp ps) (hl : ps.length ≤ 100) :
    Calls Try.prog 17 #[.agg #[.int .i64 op, vi, vp]] w fun e w' => e = .returned (.bool (ps.all (withinB 0 6))) ∧ Below w.heap.size w w' := by
  have hle : ps.length ≤ maxLen := by unfold maxLen; omega
  subst hop
  go_enter Try.func17, Try.ntmps17
  go_wp2_with fail
  refine (within_any _ _ _).mono ?_
  rintro e w1 ⟨fv1, rfl, hq1, hb1⟩
  have hz1 : w.heap.size < w1.heap.size := by have := hb1.size; simp at this; omega
  obtain ⟨hc1, _⟩ := bcell hb1
  go_wp2_with fail
  refine (within_any _ _ _).mono ?_
  rintro e w2 ⟨fv2, rfl, hq2, hb2⟩
  have hz2 : w.heap.size < w2.heap.size := by have := hb2.size; omega
  obtain ⟨hc2, _⟩ := bcell hb2
  have hb02 := later_below ((Below.refl w.heap.size w).alloc (Nat.le_refl _) _) (later_below hb1 hb2)
  replace hq1 := hq1.up hb2
  go_wp2_with fail
  have hcp : w2.cell? ⟨w.heap.size, 2, none⟩ = some vp := by rw [hc2 _ _ (by omega), hc1 _ _ (by simp)]; simp [go_sem]
  go_region_held3 (fun w' => (Below w2.heap.size w2 w' ∧ w'.cell? ⟨w.heap.size, 2, none⟩ = some vp))
    (first
      | exact ⟨(Below.refl _ _).drew, hcp⟩
      | (obtain ⟨g0, g1⟩ := ‹Below w2.heap.size w2 _ ∧ _›; exact ⟨later_below g0 hb3, later_cell g0 hb3 hz2 g1⟩)
      | (obtain ⟨g0, g1⟩ := ‹Below w2.heap.size w2 _ ∧ _›; exact ⟨later_below g0 hb4, later_cell g0 hb4 hz2 g1⟩))
    (first
      | (go_at_call 20; refine (within_any _ _ _).mono ?_; rintro e w3 ⟨fv3, rfl, hq3, hb3⟩)
      | (go_at_call 15; refine (all_any _ _ _ ps _ ?_ (hq3.asks ps) hle).mono ?_; (exact hx.up (later_below hb02 (‹Below w2.heap.size w2 _ ∧ _›).1)); rintro e w4 ⟨rfl, hb4⟩))
  go_wp2
  go_ret
  exact ⟨rfl, later_below hb02 (‹Below w2.heap.size w2 _ ∧ _›).1⟩

set_option maxHeartbeats 1000000 in
theorem bounds_compose (op : Int) (hop : op = 8) (w : World) (vi vp : Value) (ps : List Int) (hx : IntsAt w.heap.size w vp ps) (hl : ps.length ≤ 100) :
    Calls Try.prog 17 #[.agg #[.int .i64 op, vi, vp]] w fun e w' => e = .returned (.bool (ps.all (withinB 0 5))) ∧ Below w.heap.size w w' := by
  have hle : ps.length ≤ maxLen := by unfold maxLen; omega
  subst hop
  go_enter Try.func17, Try.ntmps17
  go_wp2_with fail
  refine (within_any _ _ _).mono ?_
  rintro e w1 ⟨fv1, rfl, hq1, hb1⟩
  have hz1 : w.heap.size < w1.heap.size := by have := hb1.size; simp at this; omega
  obtain ⟨hc1, _⟩ := bcell hb1
  go_wp2_with fail
  refine (within_any _ _ _).mono ?_
  rintro e w2 ⟨fv2, rfl, hq2, hb2⟩
  have hz2 : w.heap.size < w2.heap.size := by have := hb2.size; omega
  obtain ⟨hc2, _⟩ := bcell hb2
  have hb02 := later_below ((Below.refl w.heap.size w).alloc (Nat.le_refl _) _) (later_below hb1 hb2)
  replace hq1 := hq1.up hb2
  go_wp2_with fail
  have hcp : w2.cell? ⟨w.heap.size, 2, none⟩ = some vp := by rw [hc2 _ _ (by omega), hc1 _ _ (by simp)]; simp [go_sem]
  go_region_held3 (fun w' => (Below w2.heap.size w2 w' ∧ w'.cell? ⟨w.heap.size, 2, none⟩ = some vp))
    (first
      | exact ⟨(Below.refl _ _).drew, hcp⟩
      | (obtain ⟨g0, g1⟩ := ‹Below w2.heap.size w2 _ ∧ _›; exact ⟨later_below g0 hb3, later_cell g0 hb3 hz2 g1⟩)
      | (obtain ⟨g0, g1⟩ := ‹Below w2.heap.size w2 _ ∧ _›; exact ⟨later_below g0 hb4, later_cell g0 hb4 hz2 g1⟩))
    (first
      | (go_at_call 20; refine (within_any _ _ _).mono ?_; rintro e w3 ⟨fv3, rfl, hq3, hb3⟩)
      | (go_at_call 15; refine (all_any _ _ _ ps _ ?_ (hq3.asks ps) hle).mono ?_; (exact hx.up (later_below hb02 (‹Below w2.heap.size w2 _ ∧ _›).1)); rintro e w4 ⟨rfl, hb4⟩))
  go_wp2
  go_ret
  exact ⟨rfl, later_below hb02 (‹Below w2.heap.size w2 _ ∧ _›).1⟩

set_option maxHeartbeats 1000000 in
theorem bounds_tile (op : Int) (hop : op = 10) (w : World) (vi vp : Value) (ps : List Int) (hx : IntsAt w.heap.size w vp ps) (hl4 : ps.length = 4) :
    Calls Try.prog 17 #[.agg #[.int .i64 op, vi, vp]] w fun e w' => e = .returned (.bool (ps.all (withinB (-1048576) 1048576) && tileB ps)) ∧ Below w.heap.size w w' := by
  have hle : ps.length ≤ maxLen := by unfold maxLen; omega
  subst hop
  have Hl4 := Lib.hid hl4
  clear hl4
  cases hp4 : ps.all (withinB (-1048576) 1048576) with
  | false =>
    have Hp4 := Lib.hid hp4
    clear hp4
    go_enter Try.func17, Try.ntmps17
    go_wp2_with fail
    refine (within_any _ _ _).mono ?_
    rintro e w1 ⟨fv1, rfl, hq1, hb1⟩
    have hz1 : w.heap.size < w1.heap.size := by have := hb1.size; simp at this; omega
    obtain ⟨hc1, _⟩ := bcell hb1
    go_wp2_with fail
    refine (within_any _ _ _).mono ?_
    rintro e w2 ⟨fv2, rfl, hq2, hb2⟩
    have hz2 : w.heap.size < w2.heap.size := by have := hb2.size; omega
    obtain ⟨hc2, _⟩ := bcell hb2
    have hb02 := later_below ((Below.refl w.heap.size w).alloc (Nat.le_refl _) _) (later_below hb1 hb2)
    replace hq1 := hq1.up hb2
    go_wp2_with fail
    refine (all_any w2 _ _ ps _ (hx.up hb02) (hq1.asks ps) hle).mono ?_
    rintro e w3 ⟨rfl, hb3⟩
    rw [Hp4.out]
    go_wp2
    go_ret
    exact ⟨rfl, later_below hb02 hb3⟩
  | true =>
    have Hp4 := Lib.hid hp4
    clear hp4
    go_enter Try.func17, Try.ntmps17
    go_wp2_with fail
    refine (within_any _ _ _).mono ?_
    rintro e w1 ⟨fv1, rfl, hq1, hb1⟩
    have hz1 : w.heap.size < w1.heap.size := by have := hb1.size; simp at this; omega
    obtain ⟨hc1, _⟩ := bcell hb1
    go_wp2_with fail
    refine (within_any _ _ _).mono ?_
    rintro e w2 ⟨fv2, rfl, hq2, hb2⟩
    have hz2 : w.heap.size < w2.heap.size := by have := hb2.size; omega
    obtain ⟨hc2, _⟩ := bcell hb2
    have hb02 := later_below ((Below.refl w.heap.size w).alloc (Nat.le_refl _) _) (later_below hb1 hb2)
    replace hq1 := hq1.up hb2
    go_wp2_with fail
    refine (all_any w2 _ _ ps _ (hx.up hb02) (hq1.asks ps) hle).mono ?_
    rintro e w3 ⟨rfl, hb3⟩
    rw [Hp4.out]
    have hz3 : w.heap.size < w3.heap.size := by have := hb3.size; omega
    have hb03 := later_below hb02 hb3
    obtain ⟨hc3, _⟩ := bcell hb3
    go_wp2_with fail
    refine (tile_any w3 _ ps (hx.up hb03) Hl4.out Hp4.out).mono ?_
    rintro e w4 ⟨rfl, hb4⟩
    go_wp2
    go_ret
    exact ⟨rfl, later_below hb03 hb4⟩

set_option maxHeartbeats 1000000 in
theorem bounds_shadow (op : Int) (hop : op = 11) (w : World) (vi vp : Value) (ps : List Int) (hx : IntsAt w.heap.size w vp ps) (hl8 : ps.length = 8) :
    Calls Try.prog 17 #[.agg #[.int .i64 op, vi, vp]] w fun e w' => e = .returned (.bool ((ps.take 2).all (withinB (-1048576) 1048576) && ((ps.drop 2).take 2).all (withinB 0 255) && pixB (ps.drop 4))) ∧ Below w.heap.size w w' := by
  have hle : ps.length ≤ maxLen := by unfold maxLen; omega
  subst hop
  obtain ⟨b, o, cap, rfl, hcap, hb, _⟩ := ints_cells hx (by omega)
  have hx2 := hx.part 0 2 cap (by omega) (by omega) (by omega)
  have hx4 := hx.part 2 2 (cap - 2) (by omega) (by omega) (by omega)
  have hx8 := hx.part 4 4 (cap - 4) (by omega) (by omega) (by omega)
  simp only [List.drop_zero, Nat.add_zero] at hx2
  rw [List.take_of_length_le (by simp; omega)] at hx8
  have hcap' : 8 ≤ cap := by omega
  have hne : ¬ (4 = cap) := by omega
  have hne2 : ¬ (2 = cap) := by omega
  have hl2 : (ps.take 2).length ≤ maxLen := by unfold maxLen; simp; omega
  have hl4 : ((ps.drop 2).take 2).length ≤ maxLen := by unfold maxLen; simp; omega
  have hm4 : (ps.drop 4).length = 4 := by simp; omega
  rw [hl8]
  have Hl2 := Lib.hid hl2
  have Hl4 := Lib.hid hl4
  have Hm4 := Lib.hid hm4
  clear hl8 hcap hl2 hl4 hm4 hx hle
  generalize ps.take 2 = p2 at *
  generalize (ps.drop 2).take 2 = p4 at *
  generalize ps.drop 4 = p8 at *
  cases hp2 : p2.all (withinB (-1048576) 1048576) with
  | false =>
    have Hp2 := Lib.hid hp2
    clear hp2
    go_enter Try.func17, Try.ntmps17
    go_wp2_with fail
    refine (within_any _ _ _).mono ?_
    rintro e w1 ⟨fv1, rfl, hq1, hb1⟩
    have hz1 : w.heap.size < w1.heap.size := by have := hb1.size; simp at this; omega
    obtain ⟨hc1, _⟩ := bcell hb1
    go_wp2_with fail
    refine (within_any _ _ _).mono ?_
    rintro e w2 ⟨fv2, rfl, hq2, hb2⟩
    have hz2 : w.heap.size < w2.heap.size := by have := hb2.size; omega
    obtain ⟨hc2, _⟩ := bcell hb2
    have hb02 := later_below ((Below.refl w.heap.size w).alloc (Nat.le_refl _) _) (later_below hb1 hb2)
    replace hq1 := hq1.up hb2
    go_wp2_with fail
    refine (all_any w2 _ _ p2 _ (hx2.up hb02) (hq1.asks p2) Hl2.out).mono ?_
    rintro e w3 ⟨rfl, hb3⟩
    rw [Hp2.out]
    go_wp2
    go_ret
    exact ⟨rfl, later_below hb02 hb3⟩
  | true =>
    have Hp2 := Lib.hid hp2
    clear hp2
    cases hp4 : p4.all (withinB 0 255) with
    | false =>
      have Hp4 := Lib.hid hp4
      clear hp4
      go_enter Try.func17, Try.ntmps17
      go_wp2_with fail
      refine (within_any _ _ _).mono ?_
      rintro e w1 ⟨fv1, rfl, hq1, hb1⟩
      have hz1 : w.heap.size < w1.heap.size := by have := hb1.size; simp at this; omega
      obtain ⟨hc1, _⟩ := bcell hb1
      go_wp2_with fail
      refine (within_any _ _ _).mono ?_
      rintro e w2 ⟨fv2, rfl, hq2, hb2⟩
      have hz2 : w.heap.size < w2.heap.size := by have := hb2.size; omega
      obtain ⟨hc2, _⟩ := bcell hb2
      have hb02 := later_below ((Below.refl w.heap.size w).alloc (Nat.le_refl _) _) (later_below hb1 hb2)
      replace hq1 := hq1.up hb2
      go_wp2_with fail
      refine (all_any w2 _ _ p2 _ (hx2.up hb02) (hq1.asks p2) Hl2.out).mono ?_
      rintro e w3 ⟨rfl, hb3⟩
      rw [Hp2.out]
      have hz3 : w.heap.size < w3.heap.size := by have := hb3.size; omega
      have hb03 := later_below hb02 hb3
      obtain ⟨hc3, _⟩ := bcell hb3
      go_wp2_with fail
      refine (all_any w3 _ _ p4 _ (hx4.up hb03) ((hq2.up hb3).asks p4) Hl4.out).mono ?_
      rintro e w4 ⟨rfl, hb4⟩
      rw [Hp4.out]
      go_wp2
      go_ret
      exact ⟨rfl, later_below hb03 hb4⟩
    | true =>
      have Hp4 := Lib.hid hp4
      clear hp4
      go_enter Try.func17, Try.ntmps17
      go_wp2_with fail
      refine (within_any _ _ _).mono ?_
      rintro e w1 ⟨fv1, rfl, hq1, hb1⟩
      have hz1 : w.heap.size < w1.heap.size := by have := hb1.size; simp at this; omega
      obtain ⟨hc1, _⟩ := bcell hb1
      go_wp2_with fail
      refine (within_any _ _ _).mono ?_
      rintro e w2 ⟨fv2, rfl, hq2, hb2⟩
      have hz2 : w.heap.size < w2.heap.size := by have := hb2.size; omega
      obtain ⟨hc2, _⟩ := bcell hb2
      have hb02 := later_below ((Below.refl w.heap.size w).alloc (Nat.le_refl _) _) (later_below hb1 hb2)
      replace hq1 := hq1.up hb2
      go_wp2_with fail
      refine (all_any w2 _ _ p2 _ (hx2.up hb02) (hq1.asks p2) Hl2.out).mono ?_
      rintro e w3 ⟨rfl, hb3⟩
      rw [Hp2.out]
      have hz3 : w.heap.size < w3.heap.size := by have := hb3.size; omega
      have hb03 := later_below hb02 hb3
      obtain ⟨hc3, _⟩ := bcell hb3
      go_wp2_with fail
      refine (all_any w3 _ _ p4 _ (hx4.up hb03) ((hq2.up hb3).asks p4) Hl4.out).mono ?_
      rintro e w4 ⟨rfl, hb4⟩
      rw [Hp4.out]
      have hz4 : w.heap.size < w4.heap.size := by have := hb4.size; omega
      have hb04 := later_below hb03 hb4
      obtain ⟨hc4, _⟩ := bcell hb4
      go_wp2_with fail
      refine (pixel_any w4 _ p8 (hx8.up hb04) Hm4.out).mono ?_
      rintro e w5 ⟨rfl, hb5⟩
      go_wp2
      go_ret
      exact ⟨rfl, later_below hb04 hb5⟩

set_option maxHeartbeats 1000000 in
theorem bounds_merge (op : Int) (hop : op = 9) (w : World) (vi vp : Value) (ps : List Int) (hx : IntsAt w.heap.size w vp ps) (hl : ps.length ≤ 100) :
    Calls Try.prog 17 #[.agg #[.int .i64 op, vi, vp]] w fun e w' => e = .returned (.bool (true)) ∧ Below w.heap.size w w' := by
  subst hop
  go_enter Try.func17, Try.ntmps17
  go_wp2_with fail
  refine (within_any _ _ _).mono ?_
  rintro e w1 ⟨fv1, rfl, hq1, hb1⟩
  have hz1 : w.heap.size < w1.heap.size := by have := hb1.size; simp at this; omega
  obtain ⟨hc1, _⟩ := bcell hb1
  go_wp2_with fail
  refine (within_any _ _ _).mono ?_
  rintro e w2 ⟨fv2, rfl, hq2, hb2⟩
  have hz2 : w.heap.size < w2.heap.size := by have := hb2.size; omega
  obtain ⟨hc2, _⟩ := bcell hb2
  have hb02 := later_below ((Below.refl w.heap.size w).alloc (Nat.le_refl _) _) (later_below hb1 hb2)
  replace hq1 := hq1.up hb2
  go_wp2
  go_ret
  exact ⟨rfl, hb02⟩

/-- The whole. -/
theorem bounds_any (w : World) (vi vp : Value) (n : GNode) (hx : IntsAt w.heap.size w vp n.ps) (hok : (ofS n.op).2 = true) (hl : (n.ps.length : Int) = (ofS n.op).1.2.2) :
    Calls Try.prog 17 #[.agg #[.int .i64 n.op, vi, vp]] w fun e w' => e = .returned (.bool (boundsB n)) ∧ Below w.heap.size w w' := by
  obtain ⟨op, ins, ps⟩ := n
  dsimp only at hx hok hl ⊢
  have hcases : op = 1 ∨ op = 2 ∨ op = 3 ∨ op = 4 ∨ op = 5 ∨ op = 6 ∨ op = 7 ∨ op = 8 ∨ op = 9 ∨ op = 10 ∨ op = 11 ∨ op = 12 := by
    apply Classical.byContradiction
    intro hn
    simp only [not_or] at hn
    obtain ⟨h1, h2, h3, h4, h5, h6, h7, h8, h9, h10, h11, h12⟩ := hn
    simp [ofS, h1, h2, h3, h4, h5, h6, h7, h8, h9, h10, h11, h12] at hok
  rcases hcases with rfl | rfl | rfl | rfl | rfl | rfl | rfl | rfl | rfl | rfl | rfl | rfl
  all_goals simp [ofS] at hl
  · have := bounds_place 1 (.inl rfl) w vi vp ps hx (by omega)
    simpa [boundsB] using this
  · have := bounds_radius 2 (by omega) w vi vp ps hx (by omega)
    simpa [boundsB] using this
  · have := bounds_radius 3 (by omega) w vi vp ps hx (by omega)
    simpa [boundsB] using this
  · have := bounds_radius 4 (by omega) w vi vp ps hx (by omega)
    simpa [boundsB] using this
  · have := bounds_matrix 5 rfl w vi vp ps hx (by omega)
    simpa [boundsB] using this
  · have := bounds_flood 6 rfl w vi vp ps hx (by omega)
    simpa [boundsB] using this
  · have := bounds_blend 7 rfl w vi vp ps hx (by omega)
    simpa [boundsB] using this
  · have := bounds_compose 8 rfl w vi vp ps hx (by omega)
    simpa [boundsB] using this
  · have := bounds_merge 9 rfl w vi vp ps hx (by simp [hl])
    simpa [boundsB] using this
  · have := bounds_tile 10 rfl w vi vp ps hx (by omega)
    simpa [boundsB] using this
  · have := bounds_shadow 11 rfl w vi vp ps hx (by omega)
    simpa [boundsB] using this
  · have := bounds_place 12 (.inr rfl) w vi vp ps hx (by omega)
    simpa [boundsB] using this

end Go.Proofs.Ytfphlkoneocejaa
