/- Regions moved and grown, their bounds and areas: the law. -/
import Derived.Test.YtapeafokcailkaaRqH
set_option linter.unusedSimpArgs false
set_option linter.unusedVariables false
set_option linter.unusedSectionVars false
set_option linter.constructorNameAsVariable false
namespace Go.Proofs.Ytapeafokcailkaa
open Go.RowKit Go.Gou Go.Reg Go.Shelf
set_option maxRecDepth 100000
theorem near_all {q : Bool} {n : Int} (h : q = decide (Near n)) (hq : q = true) : Near n := by
  subst hq
  exact of_decide_eq_true h.symm

set_option maxHeartbeats 8000000 in
theorem regionMoves_law (w : World) (va : Value) (a : List Rt) (ha : RtR (fun _ => True) w va a) (hwa : ∀ r ∈ a, RtWf r) (hna : a.length ≤ maxLen) (dx : Int) (wdx : (Lit.int .i64 dx).wf = true) (dy : Int) (wdy : (Lit.int .i64 dy).wf = true) (by_ : Int) (wby_ : (Lit.int .i64 by_).wf = true) :
    Calls Try.prog 7 #[va, .int .i64 dx, .int .i64 dy, .int .i64 by_] w fun e w' => e = .returned (.bool true) ∧ Gou.Mod (fun _ => False) w w' := by
  obtain ⟨pa, ca, rfl⟩ := ha.form
  have HLa0 := Lib.hid ha
  have Hna := Lib.hid hna
  clear ha hwa hna
  clear wdx wdy wby_
  obtain ⟨qdx, hqdx⟩ : ∃ q, q = decide (Near dx) := ⟨_, rfl⟩
  have HNdx := Lib.hid (fun (w' : World) => refNear_any dx w')
  rw [← hqdx] at HNdx
  have Hqdx := Lib.hid hqdx
  clear hqdx
  obtain ⟨qdy, hqdy⟩ : ∃ q, q = decide (Near dy) := ⟨_, rfl⟩
  have HNdy := Lib.hid (fun (w' : World) => refNear_any dy w')
  rw [← hqdy] at HNdy
  have Hqdy := Lib.hid hqdy
  clear hqdy
  obtain ⟨qby_, hqby_⟩ : ∃ q, q = decide (Near by_) := ⟨_, rfl⟩
  have HNby_ := Lib.hid (fun (w' : World) => refNear_any by_ w')
  rw [← hqby_] at HNby_
  have Hqby_ := Lib.hid hqby_
  clear hqby_
  go_enter Try.func7, Try.ntmps7
  go_wp2_with fail
  refine (awake_any _).mono ?_
  rintro e w1 ⟨rfl, hs⟩
  have Hm1 := Lib.hid (hs)
  have HLa1 := Lib.hid (HLa0.out.under hs)
  clear HLa0 hs
  go_wp2_with fail
  refine (lawRight_any _ pa ca a HLa1.out Hna.out).mono ?_
  rintro e w2 ⟨hs, q, rfl, hq⟩
  have Hqa := Lib.hid hq
  clear hq
  have Hm2 := Lib.hid (Hm1.out.trans' hs)
  have HLa2 := Lib.hid (HLa1.out.under hs)
  clear Hm1 HLa1 hs
  cases q with
  | false =>
    go_wp2_with fail
    refine (awake_any _).mono ?_
    rintro e w3 ⟨rfl, hs⟩
    have Hm3 := Lib.hid (Hm2.out.trans' hs)
    have HLa3 := Lib.hid (HLa2.out.under hs)
    clear Hm2 HLa2 hs
    go_wp2_with fail
    go_ret
    exact ⟨rfl, Hm3.out⟩
  | true =>
    have HRa := Lib.hid (Hqa.out.1 rfl)
    clear Hqa
    have Hxa := Lib.hid (near_x HRa.out.1)
    have Hca := Lib.hid HRa.out.1.1
    go_wp2_with fail
    refine (HNdx.out _).mono ?_
    rintro e w3 ⟨rfl, hw'⟩
    have hs : Gou.Mod (fun _ => False) w2 w3 := hw' ▸ Gou.Mod.refl _ _
    clear hw'
    have Hm3 := Lib.hid (Hm2.out.trans' hs)
    have HLa3 := Lib.hid (HLa2.out.under hs)
    clear Hm2 HLa2 hs
    clear HNdx
    cases qdx with
    | false =>
      go_wp2_with fail
      refine (awake_any _).mono ?_
      rintro e w4 ⟨rfl, hs⟩
      have Hm4 := Lib.hid (Hm3.out.trans' hs)
      have HLa4 := Lib.hid (HLa3.out.under hs)
      clear Hm3 HLa3 hs
      go_wp2_with fail
      go_ret
      exact ⟨rfl, Hm4.out⟩
    | true =>
      have Hneardx := Lib.hid (of_decide_eq_true Hqdx.out.symm)
      clear Hqdx
      go_wp2_with fail
      refine (HNdy.out _).mono ?_
      rintro e w4 ⟨rfl, hw'⟩
      have hs : Gou.Mod (fun _ => False) w3 w4 := hw' ▸ Gou.Mod.refl _ _
      clear hw'
      have Hm4 := Lib.hid (Hm3.out.trans' hs)
      have HLa4 := Lib.hid (HLa3.out.under hs)
      clear Hm3 HLa3 hs
      clear HNdy
      cases qdy with
      | false =>
        go_wp2_with fail
        refine (awake_any _).mono ?_
        rintro e w5 ⟨rfl, hs⟩
        have Hm5 := Lib.hid (Hm4.out.trans' hs)
        have HLa5 := Lib.hid (HLa4.out.under hs)
        clear Hm4 HLa4 hs
        go_wp2_with fail
        go_ret
        exact ⟨rfl, Hm5.out⟩
      | true =>
        have Hneardy := Lib.hid (of_decide_eq_true Hqdy.out.symm)
        clear Hqdy
        go_wp2_with fail
        refine (HNby_.out _).mono ?_
        rintro e w5 ⟨rfl, hw'⟩
        have hs : Gou.Mod (fun _ => False) w4 w5 := hw' ▸ Gou.Mod.refl _ _
        clear hw'
        have Hm5 := Lib.hid (Hm4.out.trans' hs)
        have HLa5 := Lib.hid (HLa4.out.under hs)
        clear Hm4 HLa4 hs
        clear HNby_
        cases qby_ with
        | false =>
          go_wp2_with fail
          refine (awake_any _).mono ?_
          rintro e w6 ⟨rfl, hs⟩
          have Hm6 := Lib.hid (Hm5.out.trans' hs)
          have HLa6 := Lib.hid (HLa5.out.under hs)
          clear Hm5 HLa5 hs
          go_wp2_with fail
          go_ret
          exact ⟨rfl, Hm6.out⟩
        | true =>
          have Hnearby_ := Lib.hid (of_decide_eq_true Hqby_.out.symm)
          clear Hqby_
          by_cases hneg : by_ < 0
          · skip
            have e0 : decide (by_ < 0) = true := decide_eq_true hneg
            go_wp2_with fail
            refine (awake_any _).mono ?_
            rintro e w6 ⟨rfl, hs⟩
            have Hm6 := Lib.hid (Hm5.out.trans' hs)
            have HLa6 := Lib.hid (HLa5.out.under hs)
            clear Hm5 HLa5 hs
            go_wp2_with fail
            go_ret
            exact ⟨rfl, Hm6.out⟩
          · skip
            have e0 : decide (by_ < 0) = false := decide_eq_false hneg
            clear hneg
            go_wp2_with fail
            refine (regMove_any _ pa ca a dx dy HLa5.out HRa.out.1.2 Hneardx.out Hneardy.out Hca.out).mono ?_
            rintro e w6 hc
            obtain ⟨pm, cm, m, rfl, hr, hg, hl, hs⟩ := hc.got
            have HLm6 := Lib.hid hr
            have Hgm := Lib.hid hg
            have Hcm := Lib.hid (len_out hl (k := 20) (by have h1 := Hca.out; simpa using h1))
            clear hr hg hl hc
            have Hm6 := Lib.hid (Hm5.out.trans' hs)
            have HLa6 := Lib.hid (HLa5.out.under hs)
            clear Hm5 HLa5 hs
            go_wp2_with fail
            refine (refRMove_any _ pa ca a dx dy HLa6.out HRa.out.1.2 Hneardx.out Hneardy.out Hca.out).mono ?_
            rintro e w7 hc
            obtain ⟨pn, cn, n, rfl, hr, hg, hl, hs⟩ := hc.got
            have HLn7 := Lib.hid hr
            have Hgn := Lib.hid hg
            have Hcn := Lib.hid (len_out hl (k := 20) (by have h1 := Hca.out; simpa using h1))
            clear hr hg hl hc
            have Hm7 := Lib.hid (Hm6.out.trans' hs)
            have HLa7 := Lib.hid (HLa6.out.under hs)
            have HLm7 := Lib.hid (HLm6.out.under hs)
            clear Hm6 HLa6 HLm6 hs
            go_wp2_with fail
            refine (refSame_any _ _ _ pm pn cm cn m n HLm7.out HLn7.out (by have h1 := Hcm.out; omega) (by have h1 := Hcn.out; omega)).mono ?_
            rintro e w8 ⟨rfl, hs⟩
            rw [decide_eq_true (Hgm.out.uniq Hgn.out (fun _ _ => Iff.rfl) : m = n)]
            have Hm8 := Lib.hid (Hm7.out.trans' hs)
            have HLa8 := Lib.hid (HLa7.out.under hs)
            have HLm8 := Lib.hid (HLm7.out.under hs)
            have HLn8 := Lib.hid (HLn7.out.under hs)
            clear Hm7 HLa7 HLm7 HLn7 hs
            go_wp2_with fail
            refine (regGrow_any _ pa ca a by_ 1 2 by_ HLa8.out HRa.out.1.2 Hnearby_.out (by decide) (by decide) Hnearby_.out Hca.out).mono ?_
            rintro e w9 hc
            obtain ⟨pg, cg, g, rfl, hr, hg, hl, hs⟩ := hc.got
            have HLg9 := Lib.hid hr
            have Hgg := Lib.hid hg
            have Hcg := Lib.hid (len_out hl (k := 20) (by have h1 := Hca.out; simpa using h1))
            clear hr hg hl hc
            have Hm9 := Lib.hid (Hm8.out.trans' hs)
            have HLa9 := Lib.hid (HLa8.out.under hs)
            have HLm9 := Lib.hid (HLm8.out.under hs)
            have HLn9 := Lib.hid (HLn8.out.under hs)
            clear Hm8 HLa8 HLm8 HLn8 hs
            go_wp2_with fail
            refine (refRGrow_any _ pa ca a by_ 1 2 by_ HLa9.out HRa.out.1.2 Hnearby_.out (by decide) (by decide) Hnearby_.out Hca.out).mono ?_
            rintro e w10 hc
            obtain ⟨ph, ch, h, rfl, hr, hg, hl, hs⟩ := hc.got
            have HLh10 := Lib.hid hr
            have Hgh := Lib.hid hg
            have Hch := Lib.hid (len_out hl (k := 20) (by have h1 := Hca.out; simpa using h1))
            clear hr hg hl hc
            have Hm10 := Lib.hid (Hm9.out.trans' hs)
            have HLa10 := Lib.hid (HLa9.out.under hs)
            have HLm10 := Lib.hid (HLm9.out.under hs)
            have HLn10 := Lib.hid (HLn9.out.under hs)
            have HLg10 := Lib.hid (HLg9.out.under hs)
            clear Hm9 HLa9 HLm9 HLn9 HLg9 hs
            go_wp2_with fail
            refine (refSame_any _ _ _ pg ph cg ch g h HLg10.out HLh10.out (by have h1 := Hcg.out; omega) (by have h1 := Hch.out; omega)).mono ?_
            rintro e w11 ⟨rfl, hs⟩
            rw [decide_eq_true (Hgg.out.uniq Hgh.out (fun _ _ => Iff.rfl) : g = h)]
            have Hm11 := Lib.hid (Hm10.out.trans' hs)
            have HLa11 := Lib.hid (HLa10.out.under hs)
            have HLm11 := Lib.hid (HLm10.out.under hs)
            have HLn11 := Lib.hid (HLn10.out.under hs)
            have HLg11 := Lib.hid (HLg10.out.under hs)
            have HLh11 := Lib.hid (HLh10.out.under hs)
            clear Hm10 HLa10 HLm10 HLn10 HLg10 HLh10 hs
            go_wp2_with fail
            obtain ⟨t, ht⟩ : ∃ t, t = boundsP a := ⟨_, rfl⟩
            obtain ⟨n2, hn2⟩ : ∃ n2, n2 = areasP a := ⟨_, rfl⟩
            have HBc := Lib.hid (fun (w' : World) (h : RtR (fun _ => True) w' (.slice pa a.length ca) a) => regBounds_any w' pa ca a h (by have := Hca.out; omega))
            have HBr := Lib.hid (fun (w' : World) (h : RtR (fun _ => True) w' (.slice pa a.length ca) a) => refBoundsL_any w' pa ca a h (by have := Hca.out; omega))
            have HAc := Lib.hid (fun (w' : World) (h : RtR (fun _ => True) w' (.slice pa a.length ca) a) => regArea_any w' pa ca a h HRa.out.1.2 (by have := Hca.out; omega))
            have HAr := Lib.hid (fun (w' : World) (h : RtR (fun _ => True) w' (.slice pa a.length ca) a) => refAreas_any w' pa ca a h HRa.out.1.2 (by have := Hca.out; omega))
            rw [← ht] at HBc HBr
            rw [← hn2] at HAc HAr
            clear ht hn2
            refine (HBc.out _ HLa11.out).mono ?_
            rintro e w12 ⟨rfl, hs⟩
            have Hm12 := Lib.hid (Hm11.out.trans' hs)
            have HLa12 := Lib.hid (HLa11.out.under hs)
            have HLm12 := Lib.hid (HLm11.out.under hs)
            have HLn12 := Lib.hid (HLn11.out.under hs)
            have HLg12 := Lib.hid (HLg11.out.under hs)
            have HLh12 := Lib.hid (HLh11.out.under hs)
            clear Hm11 HLa11 HLm11 HLn11 HLg11 HLh11 hs
            go_wp2_with fail
            refine (HBr.out _ HLa12.out).mono ?_
            rintro e w13 ⟨rfl, hs⟩
            have Hm13 := Lib.hid (Hm12.out.trans' hs)
            have HLa13 := Lib.hid (HLa12.out.under hs)
            have HLm13 := Lib.hid (HLm12.out.under hs)
            have HLn13 := Lib.hid (HLn12.out.under hs)
            have HLg13 := Lib.hid (HLg12.out.under hs)
            have HLh13 := Lib.hid (HLh12.out.under hs)
            clear Hm12 HLa12 HLm12 HLn12 HLg12 HLh12 hs
            go_wp2_with fail
            refine (HAc.out _ HLa13.out).mono ?_
            rintro e w14 ⟨rfl, hs⟩
            have Hm14 := Lib.hid (Hm13.out.trans' hs)
            have HLa14 := Lib.hid (HLa13.out.under hs)
            have HLm14 := Lib.hid (HLm13.out.under hs)
            have HLn14 := Lib.hid (HLn13.out.under hs)
            have HLg14 := Lib.hid (HLg13.out.under hs)
            have HLh14 := Lib.hid (HLh13.out.under hs)
            clear Hm13 HLa13 HLm13 HLn13 HLg13 HLh13 hs
            go_wp2_with fail
            refine (HAr.out _ HLa14.out).mono ?_
            rintro e w15 ⟨rfl, hs⟩
            have Hm15 := Lib.hid (Hm14.out.trans' hs)
            have HLa15 := Lib.hid (HLa14.out.under hs)
            have HLm15 := Lib.hid (HLm14.out.under hs)
            have HLn15 := Lib.hid (HLn14.out.under hs)
            have HLg15 := Lib.hid (HLg14.out.under hs)
            have HLh15 := Lib.hid (HLh14.out.under hs)
            clear Hm14 HLa14 HLm14 HLn14 HLg14 HLh14 hs
            go_wp2_with fail
            go_ret
            exact ⟨rfl, Hm15.out⟩

end Go.Proofs.Ytapeafokcailkaa
