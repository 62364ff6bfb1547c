/- The document's answer for layer 12: the bounds of a Tile's parameters; the bounds of all kinds. -/
import Derived.Test.YtfphlkoneocejaaDoorRefE
import Derived.IntWalk
namespace Go.Proofs.YtfphlkoneocejaaDoor
open Go.RowKit Go.Gou

set_option maxHeartbeats 4000000 in
theorem refB_tile (w : World) (vi vp : Value) (ps : List Int) (hx : IntsAt w.heap.size w vp ps) (hl : ps.length = 4) :
    Calls Tryd.prog 20 #[.agg #[.int .i64 10, vi, vp]] w fun e w' => e = .returned (.bool (ps.all (withinB (-1048576) 1048576) && tileB ps)) ∧ Below w.heap.size w w' := by
  have hs : (seg ps 0 4).all (withinB (-1048576) 1048576) = ps.all (withinB (-1048576) 1048576) := by rw [← hl, seg_all]
  have hnear := fun (wx : World) (hbx : Below w.heap.size w wx) => near_at wx _ ps 0 4 (-1048576) 1048576 0 4 _ rfl rfl hs (hx.up hbx) (by omega) (by omega) (by omega)
  obtain ⟨b, o, cap, rfl, hcap, hb, hc⟩ := ints_cells hx (by omega)
  have c0 := hc 0 (by omega)
  have c1 := hc 1 (by omega)
  have c2 := hc 2 (by omega)
  have c3 := hc 3 (by omega)
  have hw1 := box_below w (.cells #[.int .i64 10, vi, .slice (some ⟨b, o, none⟩) ps.length cap] 24)
  rw [← hw1.cell (p := ⟨b, o + 0, none⟩) hb] at c0
  rw [← hw1.cell (p := ⟨b, o + 1, none⟩) hb] at c1
  rw [← hw1.cell (p := ⟨b, o + 2, none⟩) hb] at c2
  rw [← hw1.cell (p := ⟨b, o + 3, none⟩) hb] at c3
  rw [Nat.add_zero] at c0
  have hgd : ∀ h : ps.all (withinB (-1048576) 1048576) = true, ∀ i, i < 4 → -1048576 ≤ ps.getD i 0 ∧ ps.getD i 0 ≤ 1048576 := fun h i hi => within_getD h (by omega)
  have htile : tileB ps = (decide (0 < ps.getD 2 0 - ps.getD 0 0) && decide (0 < ps.getD 3 0 - ps.getD 1 0) && decide (ps.getD 2 0 - ps.getD 0 0 ≤ 4096) && decide (ps.getD 3 0 - ps.getD 1 0 ≤ 4096)) := rfl
  rw [htile]
  rw [hl] at hnear hw1 c0 c1 c2 c3 ⊢
  have Hnear := Lib.hid hnear
  have Hw1 := Lib.hid hw1
  have h0 : _ := fun h => hgd h 0 (by omega)
  have h1 : _ := fun h => hgd h 1 (by omega)
  have h2 : _ := fun h => hgd h 2 (by omega)
  have h3 : _ := fun h => hgd h 3 (by omega)
  clear hnear hs hx hgd hc hw1 htile
  generalize ps.getD 0 0 = x0 at *
  generalize ps.getD 1 0 = x1 at *
  generalize ps.getD 2 0 = x2 at *
  generalize ps.getD 3 0 = x3 at *
  generalize ps.all (withinB (-1048576) 1048576) = r at *
  clear hl
  cases r with
  | false =>
    have Hn := Lib.hid (fun (m : Nat) => Hnear.out _ (below_drewN Hw1.out m))
    clear h0 h1 h2 h3
    go_enter Tryd.func20, Tryd.ntmps20
    go_wp2_with fail
    go_quiet (first | (go_at_call 19; exact Calls.quiet_of_same (Hn.out _)))
    go_wp2
    go_ret
    exact ⟨rfl, below_drewN Hw1.out _⟩
  | true =>
    have Hn := Lib.hid (fun (m : Nat) => Hnear.out _ (below_drewN Hw1.out m))
    obtain ⟨l0, u0⟩ := h0 rfl
    obtain ⟨l1, u1⟩ := h1 rfl
    obtain ⟨l2, u2⟩ := h2 rfl
    obtain ⟨l3, u3⟩ := h3 rfl
    have s1 : IntKind.i64.wrap (x2 - x0) = x2 - x0 := IntWalk.i64_in _ (by omega)
    have s2 : IntKind.i64.wrap (x3 - x1) = x3 - x1 := IntWalk.i64_in _ (by omega)
    clear h0 h1 h2 h3
    by_cases t0 : x0 < x2
    case neg =>
      have f0 : decide (x0 < x2) = false := decide_eq_false t0
      have Hr : Hid ((decide (0 < x2 - x0) && decide (0 < x3 - x1) && decide (x2 - x0 ≤ 4096) && decide (x3 - x1 ≤ 4096)) = false) := by show _ = _; simp; omega
      clear l0 u0 l1 u1 l2 u2 l3 u3
      go_enter Tryd.func20, Tryd.ntmps20
      go_wp2_with fail
      go_quiet (first | (go_at_call 19; exact Calls.quiet_of_same (Hn.out _)))
      go_wp2
      go_ret
      exact ⟨ret_bool (by rw [Hr.out]; rfl), below_drewN Hw1.out _⟩
    case pos =>
      by_cases t1 : x1 < x3
      case neg =>
        have f1 : decide (x1 < x3) = false := decide_eq_false t1
        have Hr : Hid ((decide (0 < x2 - x0) && decide (0 < x3 - x1) && decide (x2 - x0 ≤ 4096) && decide (x3 - x1 ≤ 4096)) = false) := by show _ = _; simp; omega
        clear l0 u0 l1 u1 l2 u2 l3 u3
        go_enter Tryd.func20, Tryd.ntmps20
        go_wp2_with fail
        go_quiet (first | (go_at_call 19; exact Calls.quiet_of_same (Hn.out _)))
        go_wp2
        go_ret
        exact ⟨ret_bool (by rw [Hr.out]; rfl), below_drewN Hw1.out _⟩
      case pos =>
        by_cases t2 : x2 - x0 ≤ 4096
        case neg =>
          have f2 : decide (x2 - x0 ≤ 4096) = false := decide_eq_false t2
          have Hr : Hid ((decide (0 < x2 - x0) && decide (0 < x3 - x1) && decide (x2 - x0 ≤ 4096) && decide (x3 - x1 ≤ 4096)) = false) := by show _ = _; simp; omega
          clear l0 u0 l1 u1 l2 u2 l3 u3
          go_enter Tryd.func20, Tryd.ntmps20
          go_wp2_with fail
          go_quiet (first | (go_at_call 19; exact Calls.quiet_of_same (Hn.out _)))
          go_wp2
          go_ret
          exact ⟨ret_bool (by rw [Hr.out]; rfl), below_drewN Hw1.out _⟩
        case pos =>
          by_cases t3 : x3 - x1 ≤ 4096
          case neg =>
            have f3 : decide (x3 - x1 ≤ 4096) = false := decide_eq_false t3
            have Hr : Hid ((decide (0 < x2 - x0) && decide (0 < x3 - x1) && decide (x2 - x0 ≤ 4096) && decide (x3 - x1 ≤ 4096)) = false) := by show _ = _; simp; omega
            clear l0 u0 l1 u1 l2 u2 l3 u3
            go_enter Tryd.func20, Tryd.ntmps20
            go_wp2_with fail
            go_quiet (first | (go_at_call 19; exact Calls.quiet_of_same (Hn.out _)))
            go_wp2
            go_ret
            exact ⟨ret_bool (by rw [Hr.out]; rfl), below_drewN Hw1.out _⟩
          case pos =>
            have Hr : Hid ((decide (0 < x2 - x0) && decide (0 < x3 - x1) && decide (x2 - x0 ≤ 4096) && decide (x3 - x1 ≤ 4096)) = true) := by show _ = _; simp; omega
            clear l0 u0 l1 u1 l2 u2 l3 u3
            go_enter Tryd.func20, Tryd.ntmps20
            go_wp2_with fail
            go_quiet (first | (go_at_call 19; exact Calls.quiet_of_same (Hn.out _)))
            go_wp2
            go_ret
            exact ⟨ret_bool (by rw [Hr.out]; rfl), below_drewN Hw1.out _⟩

theorem refB_any (w : World) (vi vp : Value) (n : GNode) (hx : IntsAt w.heap.size w vp n.ps) (hok : (ofS n.op).2 = true) (hl : (n.ps.length : Int) = (ofS n.op).1.2.2) :
    Calls Tryd.prog 20 #[.agg #[.int .i64 n.op, vi, vp]] w fun e w' => e = .returned (.bool (boundsB n)) ∧ Below w.heap.size w w' := by
  obtain ⟨op, ins, ps⟩ := n
  dsimp only at hx hok hl ⊢
  have hcases : op = 1 ∨ op = 2 ∨ op = 3 ∨ op = 4 ∨ op = 5 ∨ op = 6 ∨ op = 7 ∨ op = 8 ∨ op = 9 ∨ op = 10 ∨ op = 11 ∨ op = 12 := by
    apply Classical.byContradiction
    intro hn
    simp only [not_or] at hn
    obtain ⟨h1, h2, h3, h4, h5, h6, h7, h8, h9, h10, h11, h12⟩ := hn
    simp [ofS, h1, h2, h3, h4, h5, h6, h7, h8, h9, h10, h11, h12] at hok
  rcases hcases with rfl | rfl | rfl | rfl | rfl | rfl | rfl | rfl | rfl | rfl | rfl | rfl
  all_goals simp [ofS] at hl
  · have := refB_near 1 (-1048576) 1048576 2 (by simp) w vi vp ps hx (by omega)
    simpa [boundsB] using this
  · have := refB_near 2 0 255 2 (by simp) w vi vp ps hx (by omega)
    simpa [boundsB] using this
  · have := refB_near 3 0 255 2 (by simp) w vi vp ps hx (by omega)
    simpa [boundsB] using this
  · have := refB_near 4 0 255 2 (by simp) w vi vp ps hx (by omega)
    simpa [boundsB] using this
  · have := refB_mat w vi vp ps hx (by omega)
    simpa [boundsB] using this
  · have := refB_flood w vi vp ps hx (by omega)
    simpa [boundsB] using this
  · have := refB_near 7 0 6 1 (by simp) w vi vp ps hx (by omega)
    simpa [boundsB] using this
  · have := refB_near 8 0 5 1 (by simp) w vi vp ps hx (by omega)
    simpa [boundsB] using this
  · have := refB_merge w vi vp
    simpa [boundsB] using this
  · have := refB_tile w vi vp ps hx (by omega)
    simpa [boundsB] using this
  · have := refB_shadow w vi vp ps hx (by omega)
    simpa [boundsB] using this
  · have := refB_near 12 (-1048576) 1048576 4 (by simp) w vi vp ps hx (by omega)
    simpa [boundsB] using this

end Go.Proofs.YtfphlkoneocejaaDoor
