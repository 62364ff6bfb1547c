/- Texts of the codec's proofs, laid together: Gets28. -/
import Derived.Test.YtnamnmipgpcjjaaYRnK
set_option linter.unusedSimpArgs false
set_option linter.unusedVariables false
set_option linter.unusedSectionVars false
set_option linter.constructorNameAsVariable false

/- Acts as bytes: what bytes are: the law's walk. -/
namespace Go.Proofs.Ytnamnmipgpcjjaa
open Go.RowKit Go.Gou

set_option linter.constructorNameAsVariable false
set_option maxRecDepth 100000

set_option maxHeartbeats 4000000 in
theorem codecGets_law (w : World) (vb : Value) (bs : List Nat) (h : BytesAt (fun _ => True) w vb bs) (hby : ∀ x ∈ bs, x < 256) (hlen : bs.length ≤ maxLen) :
    Calls Try.prog 4 #[vb] w fun e w' => e = .returned (.bool true) ∧ Gou.Mod (fun _ => False) w w' := by
  obtain ⟨pb, cb, rfl⟩ := h.len
  have H := Lib.hid h
  have Hby := Lib.hid hby
  clear h hby
  go_enter Try.func4, Try.ntmps4
  go_wp2_with fail
  refine (awake_any w).mono ?_
  rintro e w1 ⟨rfl, hm1⟩
  have Hm1 := Lib.hid hm1
  clear hm1
  by_cases hl : bs.length ≤ 3000
  case neg =>
    have e1 : decide ((3000 : Int) < (bs.length : Int)) = true := decide_eq_true (by omega)
    clear hl
    go_wp2_with fail
    refine (awake_any w1).mono ?_
    rintro e w2 ⟨rfl, hm2⟩
    go_wp2_with fail
    go_ret
    exact ⟨rfl, Hm1.out.trans' hm2⟩
  have e1 : decide ((3000 : Int) < (bs.length : Int)) = false := decide_eq_false (by omega)
  have H1 := Lib.hid (H.out.mod Hm1.out (fun _ _ _ h => h))
  go_wp2_with fail
  refine (get_any w1 _ bs H1.out Hby.out (by omega)).mono ?_
  rintro e w2 ⟨xs, n, v, hr, hn, hend, rfl, hav, hm2⟩
  obtain ⟨pv, cv, rfl, hcv⟩ := hav.toR.form
  have HX := Lib.hid hav.toR
  have Hr := Lib.hid hr
  have Hend := Lib.hid hend
  have Hm2 := Lib.hid (Hm1.out.trans' hm2)
  have H2 := Lib.hid (H1.out.mod hm2 (fun _ _ _ h => h))
  clear hav hr hend hm2 hcv
  generalize hcode : (if n < bs.length then (2 : Int) else 0) = code at *
  have Hcode := Lib.hid hcode
  clear hcode
  go_wp2_with fail
  refine (getR_any w2 pb cb bs H2.out Hby.out (by omega)).mono ?_
  rintro e w3 ⟨ys, k, v, hr2, hk, hend2, rfl, hav2, hm3⟩
  obtain ⟨rfl, rfl⟩ := Reads.det hr2 (by
    by_cases h : k < bs.length
    · exact hend2 h
    · exact actAt_end h) Hr.out (by
    by_cases h : n < bs.length
    · exact Hend.out h
    · exact actAt_end h)
  rw [Hcode.out]
  obtain ⟨pu, cu, rfl, hcu⟩ := hav2.form
  have HY := Lib.hid hav2
  have HX3 := Lib.hid (HX.out.mod hm3 (fun _ _ h => h))
  have Hm3 := Lib.hid (Hm2.out.trans' hm3)
  have Hall := Lib.hid (readsAll Hby.out hr2)
  have hyl := readsLe hr2
  have f1 : ((k : Int) == (k : Int)) = true := by simp
  have f2 : (code == code) = true := by simp
  clear hr2 hk hend2 hav2 hm3 HX hcu H1 H2
  go_wp2_with fail
  refine (sameAll_any w3 pv pu cv cu ys ys HX3.out HY.out (fun x hx => (Hall.out x hx).1) (fun x hx => (Hall.out x hx).1) (by omega) (by omega)).mono ?_
  rintro e w4 ⟨rfl, hm4⟩
  have Hm4 := Lib.hid (Hm3.out.trans' hm4)
  rw [show decide (ys = ys) = true from decide_eq_true rfl]
  clear hm4
  go_wp2_with fail
  go_ret
  exact ⟨rfl, Hm4.out⟩

end Go.Proofs.Ytnamnmipgpcjjaa

