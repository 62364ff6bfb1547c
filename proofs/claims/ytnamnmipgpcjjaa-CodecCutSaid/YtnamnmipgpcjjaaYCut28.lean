/- Texts of the codec's proofs, laid together: Cut28. -/
import Derived.Test.YtnamnmipgpcjjaaZl
set_option linter.unusedSimpArgs false
set_option linter.unusedVariables false
set_option linter.unusedSectionVars false
set_option linter.constructorNameAsVariable false

/- Acts as bytes: bytes that are cut off: the law's walk. -/
namespace Go.Proofs.Ytnamnmipgpcjjaa
open Go.RowKit Go.Gou

set_option linter.constructorNameAsVariable false
set_option maxRecDepth 100000

theorem cut_end (A k n : Nat) (h : A < k + n) (hk : k ≤ 3000) (hn : n ≤ 1100001) : wrap64 ((k : Int) + (n : Int)) = (k : Int) + (n : Int) ∧ decide ((A : Int) < (k : Int) + (n : Int)) = true :=
  ⟨IntWalk.wrap64_in _ (by omega), decide_eq_true (by omega)⟩

set_option maxHeartbeats 4000000 in
theorem codecCut_law (w : World) (vb : Value) (bs : List Nat) (h : BytesAt (fun _ => True) w vb bs) (hby : ∀ x ∈ bs, x < 256) (hlen : bs.length ≤ maxLen) (at_ : Int) (hat : (Lit.int .i64 at_).wf = true) :
    Calls Try.prog 6 #[vb, .int .i64 at_] w fun e w' => e = .returned (.bool true) ∧ Gou.Mod (fun _ => False) w w' := by
  clear hat
  obtain ⟨pb, cb, rfl⟩ := h.len
  have H := Lib.hid h
  have Hby := Lib.hid hby
  clear h hby
  go_enter Try.func6, Try.ntmps6
  go_wp2_with fail
  refine (awake_any w).mono ?_
  rintro e w1 ⟨rfl, hm1⟩
  have Hm1 := Lib.hid hm1
  clear hm1
  by_cases hl : bs.length ≤ 3000
  case neg =>
    have e1 : decide ((3000 : Int) < (bs.length : Int)) = true := decide_eq_true (by omega)
    clear hl
    go_wp2_with fail
    refine (awake_any w1).mono ?_
    rintro e w2 ⟨rfl, hm2⟩
    go_wp2_with fail
    go_ret
    exact ⟨rfl, Hm1.out.trans' hm2⟩
  have e1 : decide ((3000 : Int) < (bs.length : Int)) = false := decide_eq_false (by omega)
  by_cases ha : 0 ≤ at_
  case neg =>
    have e2 : decide (at_ < 0) = true := decide_eq_true (by omega)
    clear ha
    go_wp2_with fail
    refine (awake_any w1).mono ?_
    rintro e w2 ⟨rfl, hm2⟩
    go_wp2_with fail
    go_ret
    exact ⟨rfl, Hm1.out.trans' hm2⟩
  obtain ⟨A, rfl⟩ : ∃ A : Nat, at_ = (A : Int) := ⟨at_.toNat, by omega⟩
  have e2 : decide ((A : Int) < 0) = false := decide_eq_false (by omega)
  by_cases hA : A ≤ bs.length
  case neg =>
    have e3 : decide ((bs.length : Int) < (A : Int)) = true := decide_eq_true (by omega)
    have e3' : decide (bs.length < A) = true := decide_eq_true (by omega)
    clear hA
    go_wp2_with fail
    refine (awake_any w1).mono ?_
    rintro e w2 ⟨rfl, hm2⟩
    go_wp2_with fail
    go_ret
    exact ⟨rfl, Hm1.out.trans' hm2⟩
  have e3 : decide ((bs.length : Int) < (A : Int)) = false := decide_eq_false (by omega)
  have e3' : decide (bs.length < A) = false := decide_eq_false (by omega)
  have H1 := Lib.hid (H.out.mod Hm1.out (fun _ _ _ h => h))
  have Hcap : Hid (bs.length ≤ cb) := Lib.hid (by
    obtain ⟨_, _, e, h, _⟩ := H.out
    simp only [Value.slice.injEq] at e
    obtain ⟨_, _, rfl⟩ := e
    exact h)
  go_wp2_with fail
  refine (get_any w1 _ bs H1.out Hby.out (by omega)).mono ?_
  rintro e w2 ⟨xs, n, v, hr, hn, hend, rfl, hav, hm2⟩
  obtain ⟨pv, cv, rfl, hcv⟩ := hav.toR.form
  have HX := Lib.hid hav.toR
  have Hr := Lib.hid hr
  have Hend := Lib.hid hend
  have Hn := Lib.hid hn
  have Hm2 := Lib.hid (Hm1.out.trans' hm2)
  have H2 := Lib.hid (H1.out.mod hm2 (fun _ _ _ h => h))
  have Hcv := Lib.hid hcv
  clear hav hr hend hn hm2 hcv
  generalize (if n < bs.length then (2 : Int) else 0) = code at *
  have hcap := Hcap.out
  have hAc : (A : Int) ≤ (cb : Int) := by omega
  have hA0 : (0 : Int) ≤ (A : Int) := by omega
  go_wp2_with fail
  refine (get_any w2 _ (bs.take A) (H2.out.take A hA) (small_take Hby.out A) (by simp; omega)).mono ?_
  rintro e w3 ⟨ys, k, v, hr2, hk, hend2, rfl, hav2, hm3⟩
  obtain ⟨pu, cu, rfl, hcu⟩ := hav2.toR.form
  have HY := Lib.hid hav2.toR
  have HX3 := Lib.hid (HX.out.mod hm3 (fun _ _ h => h))
  have Hm3 := Lib.hid (Hm2.out.trans' hm3)
  obtain ⟨hyx, htk, hkn, hkA, heq, hlast⟩ := cut_reads Hby.out hA Hr.out Hend.out hr2 hk hend2
  have Hall := Lib.hid (readsAll Hby.out Hr.out)
  have Hall2 := Lib.hid (readsAll (small_take Hby.out A) hr2)
  have hxn := readsLe Hr.out
  have hn2 := Hn.out
  have Htk := Lib.hid htk
  have Heq := Lib.hid heq
  have Hlast := Lib.hid hlast
  have hcv := Hcv.out
  clear hr2 hk hend2 hav2 hm3 htk heq hlast H2 H1 HX hcu
  generalize (if k < (bs.take A).length then (2 : Int) else 0) = code2 at *
  have f1 : decide ((xs.length : Int) < (ys.length : Int)) = false := decide_eq_false (by omega)
  have f1' : decide (xs.length < ys.length) = false := decide_eq_false (by omega)
  have f2 : decide ((n : Int) < (k : Int)) = false := decide_eq_false (by omega)
  have f2' : decide (n < k) = false := decide_eq_false (by omega)
  have f3 : decide ((A : Int) < (k : Int)) = false := decide_eq_false (by omega)
  have f3' : decide (A < k) = false := decide_eq_false (by omega)
  have g1 : (ys.length : Int) ≤ (cv : Int) := by omega
  have g0 : (0 : Int) ≤ (ys.length : Int) := by omega
  go_wp2_with fail
  have HX4 : Hid (ActsR w3 (.slice pv ys.length cv) ys) := Lib.hid (by
    have := HX3.out.take ys.length hyx cv (by omega)
    rw [← Htk.out] at this
    exact this)
  refine (sameAll_any w3 pu pv cu cv ys ys HY.out HX4.out (fun x hx => (Hall2.out x hx).1) (fun x hx => (Hall2.out x hx).1) (by omega) (by omega)).mono ?_
  rintro e w4 ⟨rfl, hm4⟩
  have Hm4 := Lib.hid (Hm3.out.trans' hm4)
  have HX5 := Lib.hid (HX3.out.mod hm4 (fun _ _ h => h))
  rw [show decide (ys = ys) = true from decide_eq_true rfl]
  clear hm4 HX3 HX4 HY
  by_cases hlen2 : ys.length = xs.length
  · have f4 : ((ys.length : Int) == (xs.length : Int)) = true := by simp [hlen2]
    have f5 : ((k : Int) == (n : Int)) = true := by have := Heq.out hlen2; simp [this]
    clear hlen2
    go_wp2_with fail
    go_ret
    exact ⟨rfl, Hm4.out⟩
  · have f4 : ((ys.length : Int) == (xs.length : Int)) = false := by simp; omega
    have hlt : ys.length < xs.length := by omega
    obtain ⟨-, b, o, rfl, hb, hc⟩ := HX5.out.act (by omega)
    obtain ⟨p1, k1, p2, k2, p3, k3, h1, l1⟩ := hc ys.length hlt
    obtain ⟨es, hes, hA2, hsm, hbo⟩ := Hlast.out hlt
    have hfi : es.length ≤ 1100001 := by
      obtain ⟨e2, he2, hp⟩ := Option.bind_eq_some_iff.1 (show (encAct _).bind _ = some es from hes)
      obtain ⟨_, _, hp⟩ := Option.bind_eq_some_iff.1 hp
      split at hp
      · simp only [Option.some.injEq] at hp
        subst hp
        exact (encAct_fine he2 hsm).1
      · cases hp
    have g2 : (ys.length : Int) < (xs.length : Int) := by omega
    have Hse := Lib.hid (cut_end A k es.length hA2 (by omega) hfi)
    clear hfi hA2
    clear hc
    generalize xs[ys.length] = x at *
    have Hrg : Hid (w4.rangeAt b (o + ys.length * 42) (actC x (.slice p1 x.op.look.content.pix.length k1) (.slice p2 x.op.look.filt.nodes.length k2) (.slice p3 x.op.look.back.nodes.length k3)).toList) := Lib.hid h1
    have Hl1 := Lib.hid l1
    have Hes := Lib.hid hes
    clear h1 l1 hes hlen2
    go_wp2_with (first | ((with_reducible refine wpList_load_mid ?g1_1 41 ?x1_1 ?o1_1 b (o + ys.length * 42) ?h1_1 (actC x (.slice p1 x.op.look.content.pix.length k1) (.slice p2 x.op.look.filt.nodes.length k2) (.slice p3 x.op.look.back.nodes.length k3)).toList ?d1_1 ?c1_1 ?u1_1 ?s1_1 ?i1_1 ?r1_1); (case g1_1 => exact rfl); (case o1_1 => exact rfl); (case h1_1 => exact rfl); (case c1_1 => exact Hrg.out); (case u1_1 => exact Try.underlying41); (case s1_1 => exact rfl); (case i1_1 => exact size_act.trans (by simp [actC]))) | fail)
    refine (put_any w4 p1 p2 p3 k1 k2 k3 x Hl1.out hbo hsm).mono ?_
    rintro e w5 ⟨hm5, hp⟩
    rw [Hes.out] at hp
    obtain ⟨v, rfl, hown⟩ := hp
    obtain ⟨pc, cc, rfl⟩ := Gou.ownsRow_form hown
    have Hm5 := Lib.hid (Hm4.out.trans' hm5)
    clear hown hm5 hb
    obtain ⟨s1, f6⟩ := Hse.out
    go_wp2_with fail
    go_ret
    exact ⟨rfl, Hm5.out⟩

end Go.Proofs.Ytnamnmipgpcjjaa

