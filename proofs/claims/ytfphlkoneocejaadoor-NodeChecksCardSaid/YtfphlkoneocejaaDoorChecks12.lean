/- NodeChecks: whatever filter is handed in, the law answers true. -/
import Derived.Test.YtfphlkoneocejaaDoorChk12
import Derived.Test.YtfphlkoneocejaaDoorArgs
namespace Go.Proofs.YtfphlkoneocejaaDoor
open Go.RowKit Go.Gou

set_option maxHeartbeats 4000000 in
theorem nodeChecks_law (w : World) (v : Value) (g : Gr) (hg : GrV w v g) (hwf : GrWf g) (ht : Tabs w) :
    Calls Tryd.prog 4 #[v] w fun e w' => e = .returned (.bool true) ∧ Below w.heap.size w w' := by
  have Hg := Lib.hid hg
  have Hwf := Lib.hid hwf
  have Ht := Lib.hid ht
  obtain ⟨p, cap, rfl⟩ := hg.form
  clear hg hwf ht
  have hbox := BoxAt.start w (.slice p g.nodes.length cap) (.int .i64 g.out) 32
  have Hbox := Lib.hid hbox
  clear hbox
  cases hf : fewB g 300 with
  | false =>
    go_enter Tryd.func4, Tryd.ntmps4
    go_wp2_with fail
    refine (few_any _ _ g 300 (Hg.out.up Hbox.out.bel) Hwf.out).mono ?_
    rintro e w2 ⟨rfl, hb2⟩
    rw [hf]
    have Hbox2 := Lib.hid (Hbox.out.step hb2)
    clear hb2 hf
    go_wp2_with fail
    refine (awake_any _).mono ?_
    rintro e w3 ⟨rfl, hb3⟩
    go_wp2_with fail
    go_ret
    exact ⟨rfl, (Hbox2.out.step hb3).bel⟩
  | true =>
    have Hf := Lib.hid hf
    have hchk := fun (wx : World) (hbx : Below w.heap.size w wx) => check_any wx _ g (Hg.out.up hbx) Hwf.out
    have href := fun (wx : World) (hbx : Below w.heap.size w wx) => refCheck_any wx _ g (Hg.out.up hbx) Hwf.out Hf.out (Ht.out.up hbx)
    have Hchk := Lib.hid hchk
    have Href := Lib.hid href
    clear hchk href hf
    generalize checkS g = r at *
    go_enter Tryd.func4, Tryd.ntmps4
    go_wp2_with fail
    refine (few_any _ _ g 300 (Hg.out.up Hbox.out.bel) Hwf.out).mono ?_
    rintro e w2 ⟨rfl, hb2⟩
    rw [Hf.out]
    have hbox2 := Hbox.out.step hb2
    clear hb2
    obtain ⟨c0, c1, lt, hbel⟩ := hbox2
    have Hbel := Lib.hid hbel
    clear hbel
    go_wp2_with fail
    go_region_held3 (fun w' => Below w.heap.size w w' ∧ w.heap.size < w'.heap.size ∧ w'.cell? ⟨w.heap.size, 0, none⟩ = some (.slice p g.nodes.length cap) ∧ w'.cell? ⟨w.heap.size, 1, none⟩ = some (.int .i64 g.out))
      (first | exact ⟨Hbel.out.drew, lt, c0, c1⟩ | (obtain ⟨g0, g1, g2, g3⟩ := ‹Below w.heap.size w _ ∧ _›; exact ⟨later_below g0 hb3, Nat.lt_of_lt_of_le g1 hb3.size, (hb3.cell (p := ⟨w.heap.size, 0, none⟩) g1).trans g2, (hb3.cell (p := ⟨w.heap.size, 1, none⟩) g1).trans g3⟩))
      (first | (go_at_call 6; refine (awake_any _).mono ?_; rintro e w3 ⟨rfl, hb3⟩) | (go_at_call 10; refine (Hchk.out _ (by (first | exact (‹Below w.heap.size w _ ∧ _›).1 | exact Hbel.out.drew))).mono ?_; rintro e w3 ⟨rfl, hb3⟩) | (go_at_call 11; refine (Href.out _ (by (first | exact (‹Below w.heap.size w _ ∧ _›).1 | exact Hbel.out.drew))).mono ?_; rintro e w3 ⟨rfl, hb3⟩))
    go_wp2
    go_ret
    exact ⟨ret_bool (by simp), (‹Below w.heap.size w _ ∧ _›).1⟩

end Go.Proofs.YtfphlkoneocejaaDoor
