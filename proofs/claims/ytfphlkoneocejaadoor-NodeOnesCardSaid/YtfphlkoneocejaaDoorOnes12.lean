/- NodeOnes: whatever node is handed in, the law answers true. -/
import Derived.Test.YtfphlkoneocejaaDoorRefG
import Derived.Test.YtfphlkoneocejaaDoorArgs
namespace Go.Proofs.YtfphlkoneocejaaDoor
open Go.RowKit Go.Gou

theorem box3 (w : World) (a b c : Value) (T : TypeId) : (w.alloc (.cells #[a, b, c] T)).cell? ⟨w.heap.size, 0, none⟩ = some a ∧ (w.alloc (.cells #[a, b, c] T)).cell? ⟨w.heap.size, 1, none⟩ = some b ∧ (w.alloc (.cells #[a, b, c] T)).cell? ⟨w.heap.size, 2, none⟩ = some c := by
  refine ⟨?_, ?_, ?_⟩ <;> simp [go_sem]

set_option maxHeartbeats 4000000 in
theorem nodeOnes_few (w : World) (v : Value) (n : GNode) (count : Int) (hv : NodeV w v n) (ht : Tabs w) (hli : n.ins.length ≤ 50) (hlp : n.ps.length ≤ 50) (hc0 : 0 ≤ count) (hc1 : count ≤ 1000) :
    Calls Tryd.prog 3 #[v, .int .i64 count] w fun e w' => e = .returned (.bool true) ∧ Below w.heap.size w w' := by
  have hone := fun (wx : World) (hbx : Below w.heap.size w wx) (v' : Value) (hv' : v' = v) => one_any wx v' n count (by subst hv'; obtain ⟨vi, vp, rfl, h1, h2⟩ := hv; exact ⟨_, _, rfl, h1.up hbx, h2.up hbx⟩) (by unfold maxLen; omega) (by unfold maxLen; omega)
  have href := fun (wx : World) (hbx : Below w.heap.size w wx) (v' : Value) (hv' : v' = v) => refOne_any wx v' n count (by subst hv'; obtain ⟨vi, vp, rfl, h1, h2⟩ := hv; exact ⟨_, _, rfl, h1.up hbx, h2.up hbx⟩) (ht.up hbx) (by omega) (by omega) hc0 (by omega)
  obtain ⟨vi, vp, rfl, hi, hp⟩ := hv
  obtain ⟨pi, ci, rfl⟩ := hi.len
  obtain ⟨pp, cp, rfl⟩ := hp.len
  have Hone := Lib.hid hone
  have Href := Lib.hid href
  clear hone href hi hp ht
  obtain ⟨b0, b1, b2⟩ := box3 w (.int .i64 n.op) (.slice pi n.ins.length ci) (.slice pp n.ps.length cp) 24
  have hbel := (Below.refl w.heap.size w).alloc (Nat.le_refl _) (.cells #[.int .i64 n.op, .slice pi n.ins.length ci, .slice pp n.ps.length cp] 24)
  have hsz : w.heap.size < (w.alloc (.cells #[.int .i64 n.op, .slice pi n.ins.length ci, .slice pp n.ps.length cp] 24)).heap.size := by simp
  generalize oneS n count = r at *
  generalize n.ins.length = li at *
  generalize n.ps.length = lp at *
  generalize n.op = op at *
  go_enter Tryd.func3, Tryd.ntmps3
  go_wp2_with fail
  generalize w.alloc (.cells #[.int .i64 op, .slice pi li ci, .slice pp lp cp] 24) = wb at *
  go_region_held3 (fun w' => Below w.heap.size w w' ∧ w.heap.size < w'.heap.size ∧ w'.cell? ⟨w.heap.size, 0, none⟩ = some (.int .i64 op) ∧ w'.cell? ⟨w.heap.size, 1, none⟩ = some (.slice pi li ci) ∧ w'.cell? ⟨w.heap.size, 2, none⟩ = some (.slice pp lp cp))
    (first | exact ⟨hbel.drew, hsz, b0, b1, b2⟩ | (obtain ⟨g0, g1, g2, g3, g4⟩ := ‹Below w.heap.size w _ ∧ _›; exact ⟨later_below g0 hb3, Nat.lt_of_lt_of_le g1 hb3.size, (hb3.cell (p := ⟨w.heap.size, 0, none⟩) g1).trans g2, (hb3.cell (p := ⟨w.heap.size, 1, none⟩) g1).trans g3, (hb3.cell (p := ⟨w.heap.size, 2, none⟩) g1).trans g4⟩))
    (first | (go_at_call 6; refine (awake_any _).mono ?_; rintro e w3 ⟨rfl, hb3⟩) | (go_at_call 7; refine (Hone.out _ (by (first | exact (‹Below w.heap.size w _ ∧ _›).1 | exact hbel.drew)) _ rfl).mono ?_; rintro e w3 ⟨rfl, hb3⟩) | (go_at_call 8; refine (Href.out _ (by (first | exact (‹Below w.heap.size w _ ∧ _›).1 | exact hbel.drew)) _ rfl).mono ?_; rintro e w3 ⟨rfl, hb3⟩))
  go_wp2
  go_ret
  exact ⟨ret_bool (by simp), (‹Below w.heap.size w _ ∧ _›).1⟩

set_option maxHeartbeats 4000000 in
theorem nodeOnes_law (w : World) (v : Value) (n : GNode) (hv : NodeV w v n) (hwf : NodeWf n) (count : Int) (hc : (Lit.int .i64 count).wf = true) (ht : Tabs w) :
    Calls Tryd.prog 3 #[v, .int .i64 count] w fun e w' => e = .returned (.bool true) ∧ Below w.heap.size w w' := by
  by_cases hall : n.ins.length ≤ 50 ∧ n.ps.length ≤ 50 ∧ 0 ≤ count ∧ count ≤ 1000
  · exact nodeOnes_few w v n count hv ht hall.1 hall.2.1 hall.2.2.1 hall.2.2.2
  · obtain ⟨vi, vp, rfl, hi, hp⟩ := hv
    obtain ⟨pi, ci, rfl⟩ := hi.len
    obtain ⟨pp, cp, rfl⟩ := hp.len
    have hli := hwf.insl
    have hlp := hwf.psl
    unfold maxLen at hli hlp
    have hb0 := fun (o : Obj) => box_below w o
    have Hb0 := Lib.hid hb0
    clear hb0 hi hp hwf ht
    generalize n.ins.length = li at *
    generalize n.ps.length = lp at *
    generalize n.op = op at *
    by_cases h1 : li ≤ 50
    · by_cases h2 : lp ≤ 50
      · by_cases h3 : 0 ≤ count
        · have h4 : 1000 < count := by omega
          clear hall hc
          go_enter Tryd.func3, Tryd.ntmps3
          go_wp2_with fail
          refine (awake_any _).mono ?_
          rintro e w1 ⟨rfl, hb1⟩
          go_wp2_with fail
          go_ret
          exact ⟨rfl, later_below (Hb0.out _) hb1⟩
        · clear hall hc
          go_enter Tryd.func3, Tryd.ntmps3
          go_wp2_with fail
          refine (awake_any _).mono ?_
          rintro e w1 ⟨rfl, hb1⟩
          go_wp2_with fail
          go_ret
          exact ⟨rfl, later_below (Hb0.out _) hb1⟩
      · clear hall hc
        go_enter Tryd.func3, Tryd.ntmps3
        go_wp2_with fail
        refine (awake_any _).mono ?_
        rintro e w1 ⟨rfl, hb1⟩
        go_wp2_with fail
        go_ret
        exact ⟨rfl, later_below (Hb0.out _) hb1⟩
    · clear hall hc
      go_enter Tryd.func3, Tryd.ntmps3
      go_wp2_with fail
      refine (awake_any _).mono ?_
      rintro e w1 ⟨rfl, hb1⟩
      go_wp2_with fail
      go_ret
      exact ⟨rfl, later_below (Hb0.out _) hb1⟩

end Go.Proofs.YtfphlkoneocejaaDoor
