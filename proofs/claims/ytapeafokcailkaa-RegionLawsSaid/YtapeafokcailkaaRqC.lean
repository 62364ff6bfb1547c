/- Regions: what two regions have in common, and what each has alone; areas; cutting twice. -/
import Derived.Test.YtapeafokcailkaaRqB
set_option linter.unusedSimpArgs false
set_option linter.unusedVariables false
set_option linter.unusedSectionVars false
set_option linter.constructorNameAsVariable false
namespace Go.Reg
/-- Rectangles within the plane, and their points. -/
def PX (l : List Rt) : Prop := (∀ r ∈ l, r.Right) ∧ ∀ x y, Has l x y → (-far ≤ x ∧ x < far) ∧ (-far ≤ y ∧ y < far)
theorem few_px {l : List Rt} (h : FewP l) : PX l := ⟨h.2, fun x y ⟨r, hr, h1, h2, h3, h4⟩ => by
  obtain ⟨⟨a, _⟩, ⟨b, _⟩, ⟨_, c⟩, ⟨_, d⟩⟩ := h.2 r hr
  omega⟩
theorem reg_px {a b out : List Rt} {f : Bool → Bool → Bool} (hg : RegOf out (Pts a b f)) (hf : f false false = false) (ha : PX a) (hb : PX b) : PX out := by
  have key : ∀ x y, Has out x y → (-far ≤ x ∧ x < far) ∧ (-far ≤ y ∧ y < far) := fun x y h => by
    have hp : Pts a b f x y := (hg.has x y).1 h
    by_cases h1 : Has a x y
    · exact ha.2 x y h1
    · by_cases h2 : Has b x y
      · exact hb.2 x y h2
      · unfold Pts at hp
        rw [decide_eq_false h1, decide_eq_false h2, hf] at hp
        cases hp
  refine ⟨fun r hr => ?_, key⟩
  obtain ⟨h1, h2⟩ := hg.some r hr
  have k1 := key r.x0 r.y0 ⟨r, hr, by unfold Rt.Has; omega⟩
  have k2 := key (r.x1 - 1) (r.y1 - 1) ⟨r, hr, by unfold Rt.Has; omega⟩
  unfold Rt.Right Near
  omega

section
variable {a b c m one j x : List Rt}
theorem law_join (hm : RegOf m (Pts a b andF)) (ho : RegOf one (Pts a b cutF)) (hx : RegOf x (Pts m one orF)) (ha : RegOf a (Pts a [] orF)) : x = a :=
  hx.uniq ha fun u v => by
    rw [pts_or, pts_or, hm.has, ho.has, pts_and, pts_cut]
    by_cases h1 : Has a u v <;> by_cases h2 : Has b u v <;> simp [h1, h2, Has.nil]
theorem law_both (ho : RegOf one (Pts a b cutF)) (hj : RegOf j (Pts a b orF)) (hx : RegOf x (Pts b one orF)) : j = x :=
  hj.uniq hx fun u v => by
    rw [pts_or, pts_or, ho.has, pts_cut]
    by_cases h1 : Has a u v <;> by_cases h2 : Has b u v <;> simp [h1, h2]
theorem law_cut {y z : List Rt} (ho : RegOf one (Pts a b cutF)) (hx : RegOf x (Pts one c cutF)) (hz : RegOf z (Pts b c orF)) (hy : RegOf y (Pts a z cutF)) : x = y :=
  hx.uniq hy fun u v => by
    rw [pts_cut, pts_cut, ho.has, hz.has, pts_cut, pts_or]
    by_cases h1 : Has a u v <;> by_cases h2 : Has b u v <;> simp [h1, h2]
theorem law_none (ho : RegOf one (Pts a b cutF)) (hx : RegOf x (Pts one b andF)) : x = [] :=
  hx.nil_of fun u v => by
    rw [pts_and, ho.has, pts_cut]
    exact fun h => h.1.2 h.2
theorem law_comm {y : List Rt} (hx : RegOf x (Pts a b andF)) (hy : RegOf y (Pts b a andF)) : x = y :=
  hx.uniq hy fun u v => by
    rw [pts_and, pts_and]
    exact And.comm
theorem law_areas (ha : RegOf a (Pts a [] orF)) (hb : RegOf b (Pts b [] orF)) (hm : RegOf m (Pts a b andF)) (ho : RegOf one (Pts a b cutF)) (hj : RegOf j (Pts a b orF)) (h : areasP j < 1152921504606846976) :
    areasP m + areasP one = areasP a ∧ areasP j + areasP m = areasP a + areasP b := by
  have A := areas (ha.self rfl) (hb.self rfl) hm ho hj
  have e1 := areasP_eq hm.some
  have e2 := areasP_eq ho.some
  have e3 := areasP_eq ha.some
  have e4 := areasP_eq hb.some
  have e5 := areasP_eq hj.some
  unfold maxArea at *
  omega
end
end Go.Reg
namespace Go.Proofs.Ytapeafokcailkaa
open Go.RowKit Go.Gou Go.Reg Go.Shelf
set_option maxRecDepth 100000

set_option maxHeartbeats 8000000 in
theorem regionLaws_law (w : World) (va : Value) (a : List Rt) (ha : RtR (fun _ => True) w va a) (hwa : ∀ r ∈ a, RtWf r) (hna : a.length ≤ maxLen) (vb : Value) (b : List Rt) (hb : RtR (fun _ => True) w vb b) (hwb : ∀ r ∈ b, RtWf r) (hnb : b.length ≤ maxLen) (vc : Value) (c : List Rt) (hc : RtR (fun _ => True) w vc c) (hwc : ∀ r ∈ c, RtWf r) (hnc : c.length ≤ maxLen) :
    Calls Try.prog 5 #[va, vb, vc] w fun e w' => e = .returned (.bool true) ∧ Gou.Mod (fun _ => False) w w' := by
  obtain ⟨pa, ca, rfl⟩ := ha.form
  have HLa0 := Lib.hid ha
  have Hna := Lib.hid hna
  clear ha hwa hna
  obtain ⟨pb, cb, rfl⟩ := hb.form
  have HLb0 := Lib.hid hb
  have Hnb := Lib.hid hnb
  clear hb hwb hnb
  obtain ⟨pc, cc, rfl⟩ := hc.form
  have HLc0 := Lib.hid hc
  have Hnc := Lib.hid hnc
  clear hc hwc hnc
  go_enter Try.func5, Try.ntmps5
  go_wp2_with fail
  refine (awake_any _).mono ?_
  rintro e w1 ⟨rfl, hs⟩
  have Hm1 := Lib.hid (hs)
  have HLa1 := Lib.hid (HLa0.out.under hs)
  have HLb1 := Lib.hid (HLb0.out.under hs)
  have HLc1 := Lib.hid (HLc0.out.under hs)
  clear HLa0 HLb0 HLc0 hs
  go_wp2_with fail
  refine (lawRight_any _ pa ca a HLa1.out Hna.out).mono ?_
  rintro e w2 ⟨hs, q, rfl, hq⟩
  have Hqa := Lib.hid hq
  clear hq
  have Hm2 := Lib.hid (Hm1.out.trans' hs)
  have HLa2 := Lib.hid (HLa1.out.under hs)
  have HLb2 := Lib.hid (HLb1.out.under hs)
  have HLc2 := Lib.hid (HLc1.out.under hs)
  clear Hm1 HLa1 HLb1 HLc1 hs
  cases q with
  | false =>
    go_wp2_with fail
    refine (awake_any _).mono ?_
    rintro e w3 ⟨rfl, hs⟩
    have Hm3 := Lib.hid (Hm2.out.trans' hs)
    have HLa3 := Lib.hid (HLa2.out.under hs)
    have HLb3 := Lib.hid (HLb2.out.under hs)
    have HLc3 := Lib.hid (HLc2.out.under hs)
    clear Hm2 HLa2 HLb2 HLc2 hs
    go_wp2_with fail
    go_ret
    exact ⟨rfl, Hm3.out⟩
  | true =>
    have HRa := Lib.hid (Hqa.out.1 rfl)
    clear Hqa
    have Hxa := Lib.hid (near_x HRa.out.1)
    have Hca := Lib.hid HRa.out.1.1
    go_wp2_with fail
    refine (lawRight_any _ pb cb b HLb2.out Hnb.out).mono ?_
    rintro e w3 ⟨hs, q, rfl, hq⟩
    have Hqb := Lib.hid hq
    clear hq
    have Hm3 := Lib.hid (Hm2.out.trans' hs)
    have HLa3 := Lib.hid (HLa2.out.under hs)
    have HLb3 := Lib.hid (HLb2.out.under hs)
    have HLc3 := Lib.hid (HLc2.out.under hs)
    clear Hm2 HLa2 HLb2 HLc2 hs
    cases q with
    | false =>
      go_wp2_with fail
      refine (awake_any _).mono ?_
      rintro e w4 ⟨rfl, hs⟩
      have Hm4 := Lib.hid (Hm3.out.trans' hs)
      have HLa4 := Lib.hid (HLa3.out.under hs)
      have HLb4 := Lib.hid (HLb3.out.under hs)
      have HLc4 := Lib.hid (HLc3.out.under hs)
      clear Hm3 HLa3 HLb3 HLc3 hs
      go_wp2_with fail
      go_ret
      exact ⟨rfl, Hm4.out⟩
    | true =>
      have HRb := Lib.hid (Hqb.out.1 rfl)
      clear Hqb
      have Hxb := Lib.hid (near_x HRb.out.1)
      have Hcb := Lib.hid HRb.out.1.1
      go_wp2_with fail
      refine (lawRight_any _ pc cc c HLc3.out Hnc.out).mono ?_
      rintro e w4 ⟨hs, q, rfl, hq⟩
      have Hqc := Lib.hid hq
      clear hq
      have Hm4 := Lib.hid (Hm3.out.trans' hs)
      have HLa4 := Lib.hid (HLa3.out.under hs)
      have HLb4 := Lib.hid (HLb3.out.under hs)
      have HLc4 := Lib.hid (HLc3.out.under hs)
      clear Hm3 HLa3 HLb3 HLc3 hs
      cases q with
      | false =>
        go_wp2_with fail
        refine (awake_any _).mono ?_
        rintro e w5 ⟨rfl, hs⟩
        have Hm5 := Lib.hid (Hm4.out.trans' hs)
        have HLa5 := Lib.hid (HLa4.out.under hs)
        have HLb5 := Lib.hid (HLb4.out.under hs)
        have HLc5 := Lib.hid (HLc4.out.under hs)
        clear Hm4 HLa4 HLb4 HLc4 hs
        go_wp2_with fail
        go_ret
        exact ⟨rfl, Hm5.out⟩
      | true =>
        have HRc := Lib.hid (Hqc.out.1 rfl)
        clear Hqc
        have Hxc := Lib.hid (near_x HRc.out.1)
        have Hcc := Lib.hid HRc.out.1.1
        go_wp2_with fail
        refine (regMeet_any _ pa pb ca cb a b HLa4.out HLb4.out Hxa.out.1 Hxb.out.1 (by have h1 := Hca.out; have h2 := Hcb.out; omega)).mono ?_
        rintro e w5 hc
        obtain ⟨pm, cm, m, rfl, hr, hg, hl, hs⟩ := hc.got
        have HLm5 := Lib.hid hr
        have Hgm := Lib.hid hg
        have Hxm := Lib.hid (reg_x hg rfl Hxa.out Hxb.out)
        have Hcm := Lib.hid (len_out hl (k := 40) (by have h1 := Hca.out; have h2 := Hcb.out; omega))
        clear hr hg hl hc
        have Hm5 := Lib.hid (Hm4.out.trans' hs)
        have HLa5 := Lib.hid (HLa4.out.under hs)
        have HLb5 := Lib.hid (HLb4.out.under hs)
        have HLc5 := Lib.hid (HLc4.out.under hs)
        clear Hm4 HLa4 HLb4 HLc4 hs
        go_wp2_with fail
        refine (regCut_any _ pa pb ca cb a b HLa5.out HLb5.out Hxa.out.1 Hxb.out.1 (by have h1 := Hca.out; have h2 := Hcb.out; omega)).mono ?_
        rintro e w6 hc
        obtain ⟨po, co, o, rfl, hr, hg, hl, hs⟩ := hc.got
        have HLo6 := Lib.hid hr
        have Hgo := Lib.hid hg
        have Hxo := Lib.hid (reg_x hg rfl Hxa.out Hxb.out)
        have Hco := Lib.hid (len_out hl (k := 40) (by have h1 := Hca.out; have h2 := Hcb.out; omega))
        clear hr hg hl hc
        have Hm6 := Lib.hid (Hm5.out.trans' hs)
        have HLa6 := Lib.hid (HLa5.out.under hs)
        have HLb6 := Lib.hid (HLb5.out.under hs)
        have HLc6 := Lib.hid (HLc5.out.under hs)
        have HLm6 := Lib.hid (HLm5.out.under hs)
        clear Hm5 HLa5 HLb5 HLc5 HLm5 hs
        go_wp2_with fail
        refine (regJoin_any _ pa pb ca cb a b HLa6.out HLb6.out Hxa.out.1 Hxb.out.1 (by have h1 := Hca.out; have h2 := Hcb.out; omega)).mono ?_
        rintro e w7 hc
        obtain ⟨pj, cj, j, rfl, hr, hg, hl, hs⟩ := hc.got
        have HLj7 := Lib.hid hr
        have Hgj := Lib.hid hg
        have Hxj := Lib.hid (reg_x hg rfl Hxa.out Hxb.out)
        have Hcj := Lib.hid (len_out hl (k := 40) (by have h1 := Hca.out; have h2 := Hcb.out; omega))
        clear hr hg hl hc
        have Hm7 := Lib.hid (Hm6.out.trans' hs)
        have HLa7 := Lib.hid (HLa6.out.under hs)
        have HLb7 := Lib.hid (HLb6.out.under hs)
        have HLc7 := Lib.hid (HLc6.out.under hs)
        have HLm7 := Lib.hid (HLm6.out.under hs)
        have HLo7 := Lib.hid (HLo6.out.under hs)
        clear Hm6 HLa6 HLb6 HLc6 HLm6 HLo6 hs
        go_wp2_with fail
        refine (regJoin_any _ pm po cm co m o HLm7.out HLo7.out Hxm.out.1 Hxo.out.1 (by have h1 := Hcm.out; have h2 := Hco.out; omega)).mono ?_
        rintro e w8 hc
        obtain ⟨px, cx, x, rfl, hr, hg, hl, hs⟩ := hc.got
        have HLx8 := Lib.hid hr
        have Hgx := Lib.hid hg
        have Hxx := Lib.hid (reg_x hg rfl Hxm.out Hxo.out)
        have Hcx := Lib.hid (len_out hl (k := 12800) (by have h1 := Hcm.out; have h2 := Hco.out; omega))
        clear hr hg hl hc
        have Hm8 := Lib.hid (Hm7.out.trans' hs)
        have HLa8 := Lib.hid (HLa7.out.under hs)
        have HLb8 := Lib.hid (HLb7.out.under hs)
        have HLc8 := Lib.hid (HLc7.out.under hs)
        have HLm8 := Lib.hid (HLm7.out.under hs)
        have HLo8 := Lib.hid (HLo7.out.under hs)
        have HLj8 := Lib.hid (HLj7.out.under hs)
        clear Hm7 HLa7 HLb7 HLc7 HLm7 HLo7 HLj7 hs
        go_wp2_with fail
        refine (refSame_any _ _ _ px pa cx ca x a HLx8.out HLa8.out (by have h1 := Hcx.out; omega) (by have h1 := Hca.out; omega)).mono ?_
        rintro e w9 ⟨rfl, hs⟩
        rw [decide_eq_true (law_join Hgm.out Hgo.out Hgx.out HRa.out.2.2 : x = a)]
        have Hm9 := Lib.hid (Hm8.out.trans' hs)
        have HLa9 := Lib.hid (HLa8.out.under hs)
        have HLb9 := Lib.hid (HLb8.out.under hs)
        have HLc9 := Lib.hid (HLc8.out.under hs)
        have HLm9 := Lib.hid (HLm8.out.under hs)
        have HLo9 := Lib.hid (HLo8.out.under hs)
        have HLj9 := Lib.hid (HLj8.out.under hs)
        have HLx9 := Lib.hid (HLx8.out.under hs)
        clear Hm8 HLa8 HLb8 HLc8 HLm8 HLo8 HLj8 HLx8 hs
        go_wp2_with fail
        refine (regJoin_any _ pb po cb co b o HLb9.out HLo9.out Hxb.out.1 Hxo.out.1 (by have h1 := Hcb.out; have h2 := Hco.out; omega)).mono ?_
        rintro e w10 hc
        obtain ⟨py, cy, y, rfl, hr, hg, hl, hs⟩ := hc.got
        have HLy10 := Lib.hid hr
        have Hgy := Lib.hid hg
        have Hxy := Lib.hid (reg_x hg rfl Hxb.out Hxo.out)
        have Hcy := Lib.hid (len_out hl (k := 12800) (by have h1 := Hcb.out; have h2 := Hco.out; omega))
        clear hr hg hl hc
        have Hm10 := Lib.hid (Hm9.out.trans' hs)
        have HLa10 := Lib.hid (HLa9.out.under hs)
        have HLb10 := Lib.hid (HLb9.out.under hs)
        have HLc10 := Lib.hid (HLc9.out.under hs)
        have HLm10 := Lib.hid (HLm9.out.under hs)
        have HLo10 := Lib.hid (HLo9.out.under hs)
        have HLj10 := Lib.hid (HLj9.out.under hs)
        have HLx10 := Lib.hid (HLx9.out.under hs)
        clear Hm9 HLa9 HLb9 HLc9 HLm9 HLo9 HLj9 HLx9 hs
        go_wp2_with fail
        refine (refSame_any _ _ _ pj py cj cy j y HLj10.out HLy10.out (by have h1 := Hcj.out; omega) (by have h1 := Hcy.out; omega)).mono ?_
        rintro e w11 ⟨rfl, hs⟩
        rw [decide_eq_true (law_both Hgo.out Hgj.out Hgy.out : j = y)]
        have Hm11 := Lib.hid (Hm10.out.trans' hs)
        have HLa11 := Lib.hid (HLa10.out.under hs)
        have HLb11 := Lib.hid (HLb10.out.under hs)
        have HLc11 := Lib.hid (HLc10.out.under hs)
        have HLm11 := Lib.hid (HLm10.out.under hs)
        have HLo11 := Lib.hid (HLo10.out.under hs)
        have HLj11 := Lib.hid (HLj10.out.under hs)
        have HLx11 := Lib.hid (HLx10.out.under hs)
        have HLy11 := Lib.hid (HLy10.out.under hs)
        clear Hm10 HLa10 HLb10 HLc10 HLm10 HLo10 HLj10 HLx10 HLy10 hs
        go_wp2_with fail
        have HPa := Lib.hid (few_px HRa.out.1)
        have HPb := Lib.hid (few_px HRb.out.1)
        have HPm := Lib.hid (reg_px Hgm.out rfl HPa.out HPb.out)
        have HPo := Lib.hid (reg_px Hgo.out rfl HPa.out HPb.out)
        have HPj := Lib.hid (reg_px Hgj.out rfl HPa.out HPb.out)
        refine (regArea_any _ pj cj j HLj11.out HPj.out.1 (by have h1 := Hcj.out; omega)).mono ?_
        rintro e w12 ⟨rfl, hs⟩
        have Hm12 := Lib.hid (Hm11.out.trans' hs)
        have HLa12 := Lib.hid (HLa11.out.under hs)
        have HLb12 := Lib.hid (HLb11.out.under hs)
        have HLc12 := Lib.hid (HLc11.out.under hs)
        have HLm12 := Lib.hid (HLm11.out.under hs)
        have HLo12 := Lib.hid (HLo11.out.under hs)
        have HLj12 := Lib.hid (HLj11.out.under hs)
        have HLx12 := Lib.hid (HLx11.out.under hs)
        have HLy12 := Lib.hid (HLy11.out.under hs)
        clear Hm11 HLa11 HLb11 HLc11 HLm11 HLo11 HLj11 HLx11 HLy11 hs
        have Hba := Lib.hid (areasP_bd a)
        have Hbb := Lib.hid (areasP_bd b)
        have Hbm := Lib.hid (areasP_bd m)
        have Hbo := Lib.hid (areasP_bd o)
        have Hbj := Lib.hid (areasP_bd j)
        have HLaw := Lib.hid (law_areas HRa.out.2.2 HRb.out.2.2 Hgm.out Hgo.out Hgj.out)
        by_cases hbig : areasP j < 1152921504606846976
        · skip
          have eb : decide (areasP j < 1152921504606846976) = true := decide_eq_true hbig
          obtain ⟨hl1, hl2⟩ := HLaw.out hbig
          have HA := Lib.hid (And.intro hl1 hl2)
          clear hl1 hl2 HLaw hbig
          have w1' : IntKind.i64.wrap (areasP m + areasP o) = areasP m + areasP o := wrap_id (by have := Hbm.out; have := Hbo.out; unfold maxArea at *; omega) (by have := Hbm.out; have := Hbo.out; unfold maxArea at *; omega)
          have w2' : IntKind.i64.wrap (areasP j + areasP m) = areasP j + areasP m := wrap_id (by have := Hbm.out; have := Hbj.out; unfold maxArea at *; omega) (by have := Hbm.out; have := Hbj.out; have := HA.out; unfold maxArea at *; omega)
          have w3' : IntKind.i64.wrap (areasP a + areasP b) = areasP a + areasP b := wrap_id (by have := Hba.out; have := Hbb.out; unfold maxArea at *; omega) (by have := Hba.out; have := Hbb.out; have := HA.out; unfold maxArea at *; omega)
          have d1 : (areasP m + areasP o != areasP a) = false := by rw [HA.out.1]; simp
          have d2 : (areasP j + areasP m != areasP a + areasP b) = false := by rw [HA.out.2]; simp
          go_wp2_with fail
          refine (regArea_any _ pm cm m HLm12.out HPm.out.1 (by have h1 := Hcm.out; omega)).mono ?_
          rintro e w13 ⟨rfl, hs⟩
          have Hm13 := Lib.hid (Hm12.out.trans' hs)
          have HLa13 := Lib.hid (HLa12.out.under hs)
          have HLb13 := Lib.hid (HLb12.out.under hs)
          have HLc13 := Lib.hid (HLc12.out.under hs)
          have HLm13 := Lib.hid (HLm12.out.under hs)
          have HLo13 := Lib.hid (HLo12.out.under hs)
          have HLj13 := Lib.hid (HLj12.out.under hs)
          have HLx13 := Lib.hid (HLx12.out.under hs)
          have HLy13 := Lib.hid (HLy12.out.under hs)
          clear Hm12 HLa12 HLb12 HLc12 HLm12 HLo12 HLj12 HLx12 HLy12 hs
          go_wp2_with fail
          refine (regArea_any _ po co o HLo13.out HPo.out.1 (by have h1 := Hco.out; omega)).mono ?_
          rintro e w14 ⟨rfl, hs⟩
          have Hm14 := Lib.hid (Hm13.out.trans' hs)
          have HLa14 := Lib.hid (HLa13.out.under hs)
          have HLb14 := Lib.hid (HLb13.out.under hs)
          have HLc14 := Lib.hid (HLc13.out.under hs)
          have HLm14 := Lib.hid (HLm13.out.under hs)
          have HLo14 := Lib.hid (HLo13.out.under hs)
          have HLj14 := Lib.hid (HLj13.out.under hs)
          have HLx14 := Lib.hid (HLx13.out.under hs)
          have HLy14 := Lib.hid (HLy13.out.under hs)
          clear Hm13 HLa13 HLb13 HLc13 HLm13 HLo13 HLj13 HLx13 HLy13 hs
          go_wp2_with fail
          refine (regArea_any _ pa ca a HLa14.out HPa.out.1 (by have h1 := Hca.out; omega)).mono ?_
          rintro e w15 ⟨rfl, hs⟩
          have Hm15 := Lib.hid (Hm14.out.trans' hs)
          have HLa15 := Lib.hid (HLa14.out.under hs)
          have HLb15 := Lib.hid (HLb14.out.under hs)
          have HLc15 := Lib.hid (HLc14.out.under hs)
          have HLm15 := Lib.hid (HLm14.out.under hs)
          have HLo15 := Lib.hid (HLo14.out.under hs)
          have HLj15 := Lib.hid (HLj14.out.under hs)
          have HLx15 := Lib.hid (HLx14.out.under hs)
          have HLy15 := Lib.hid (HLy14.out.under hs)
          clear Hm14 HLa14 HLb14 HLc14 HLm14 HLo14 HLj14 HLx14 HLy14 hs
          go_wp2_with fail
          refine (regArea_any _ pj cj j HLj15.out HPj.out.1 (by have h1 := Hcj.out; omega)).mono ?_
          rintro e w16 ⟨rfl, hs⟩
          have Hm16 := Lib.hid (Hm15.out.trans' hs)
          have HLa16 := Lib.hid (HLa15.out.under hs)
          have HLb16 := Lib.hid (HLb15.out.under hs)
          have HLc16 := Lib.hid (HLc15.out.under hs)
          have HLm16 := Lib.hid (HLm15.out.under hs)
          have HLo16 := Lib.hid (HLo15.out.under hs)
          have HLj16 := Lib.hid (HLj15.out.under hs)
          have HLx16 := Lib.hid (HLx15.out.under hs)
          have HLy16 := Lib.hid (HLy15.out.under hs)
          clear Hm15 HLa15 HLb15 HLc15 HLm15 HLo15 HLj15 HLx15 HLy15 hs
          go_wp2_with fail
          refine (regArea_any _ pm cm m HLm16.out HPm.out.1 (by have h1 := Hcm.out; omega)).mono ?_
          rintro e w17 ⟨rfl, hs⟩
          have Hm17 := Lib.hid (Hm16.out.trans' hs)
          have HLa17 := Lib.hid (HLa16.out.under hs)
          have HLb17 := Lib.hid (HLb16.out.under hs)
          have HLc17 := Lib.hid (HLc16.out.under hs)
          have HLm17 := Lib.hid (HLm16.out.under hs)
          have HLo17 := Lib.hid (HLo16.out.under hs)
          have HLj17 := Lib.hid (HLj16.out.under hs)
          have HLx17 := Lib.hid (HLx16.out.under hs)
          have HLy17 := Lib.hid (HLy16.out.under hs)
          clear Hm16 HLa16 HLb16 HLc16 HLm16 HLo16 HLj16 HLx16 HLy16 hs
          go_wp2_with fail
          refine (regArea_any _ pa ca a HLa17.out HPa.out.1 (by have h1 := Hca.out; omega)).mono ?_
          rintro e w18 ⟨rfl, hs⟩
          have Hm18 := Lib.hid (Hm17.out.trans' hs)
          have HLa18 := Lib.hid (HLa17.out.under hs)
          have HLb18 := Lib.hid (HLb17.out.under hs)
          have HLc18 := Lib.hid (HLc17.out.under hs)
          have HLm18 := Lib.hid (HLm17.out.under hs)
          have HLo18 := Lib.hid (HLo17.out.under hs)
          have HLj18 := Lib.hid (HLj17.out.under hs)
          have HLx18 := Lib.hid (HLx17.out.under hs)
          have HLy18 := Lib.hid (HLy17.out.under hs)
          clear Hm17 HLa17 HLb17 HLc17 HLm17 HLo17 HLj17 HLx17 HLy17 hs
          go_wp2_with fail
          refine (regArea_any _ pb cb b HLb18.out HPb.out.1 (by have h1 := Hcb.out; omega)).mono ?_
          rintro e w19 ⟨rfl, hs⟩
          have Hm19 := Lib.hid (Hm18.out.trans' hs)
          have HLa19 := Lib.hid (HLa18.out.under hs)
          have HLb19 := Lib.hid (HLb18.out.under hs)
          have HLc19 := Lib.hid (HLc18.out.under hs)
          have HLm19 := Lib.hid (HLm18.out.under hs)
          have HLo19 := Lib.hid (HLo18.out.under hs)
          have HLj19 := Lib.hid (HLj18.out.under hs)
          have HLx19 := Lib.hid (HLx18.out.under hs)
          have HLy19 := Lib.hid (HLy18.out.under hs)
          clear Hm18 HLa18 HLb18 HLc18 HLm18 HLo18 HLj18 HLx18 HLy18 hs
          go_wp2_with fail
          refine (regCut_any _ po pc co cc o c HLo19.out HLc19.out Hxo.out.1 Hxc.out.1 (by have h1 := Hco.out; have h2 := Hcc.out; omega)).mono ?_
          rintro e w20 hc
          obtain ⟨pu, cu, u, rfl, hr, hg, hl, hs⟩ := hc.got
          have HLu20 := Lib.hid hr
          have Hgu := Lib.hid hg
          have Hxu := Lib.hid (reg_x hg rfl Hxo.out Hxc.out)
          have Hcu := Lib.hid (len_out hl (k := 12800) (by have h1 := Hco.out; have h2 := Hcc.out; omega))
          clear hr hg hl hc
          have Hm20 := Lib.hid (Hm19.out.trans' hs)
          have HLa20 := Lib.hid (HLa19.out.under hs)
          have HLb20 := Lib.hid (HLb19.out.under hs)
          have HLc20 := Lib.hid (HLc19.out.under hs)
          have HLm20 := Lib.hid (HLm19.out.under hs)
          have HLo20 := Lib.hid (HLo19.out.under hs)
          have HLj20 := Lib.hid (HLj19.out.under hs)
          have HLx20 := Lib.hid (HLx19.out.under hs)
          have HLy20 := Lib.hid (HLy19.out.under hs)
          clear Hm19 HLa19 HLb19 HLc19 HLm19 HLo19 HLj19 HLx19 HLy19 hs
          go_wp2_with fail
          refine (regJoin_any _ pb pc cb cc b c HLb20.out HLc20.out Hxb.out.1 Hxc.out.1 (by have h1 := Hcb.out; have h2 := Hcc.out; omega)).mono ?_
          rintro e w21 hc
          obtain ⟨pz, cz, z, rfl, hr, hg, hl, hs⟩ := hc.got
          have HLz21 := Lib.hid hr
          have Hgz := Lib.hid hg
          have Hxz := Lib.hid (reg_x hg rfl Hxb.out Hxc.out)
          have Hcz := Lib.hid (len_out hl (k := 40) (by have h1 := Hcb.out; have h2 := Hcc.out; omega))
          clear hr hg hl hc
          have Hm21 := Lib.hid (Hm20.out.trans' hs)
          have HLa21 := Lib.hid (HLa20.out.under hs)
          have HLb21 := Lib.hid (HLb20.out.under hs)
          have HLc21 := Lib.hid (HLc20.out.under hs)
          have HLm21 := Lib.hid (HLm20.out.under hs)
          have HLo21 := Lib.hid (HLo20.out.under hs)
          have HLj21 := Lib.hid (HLj20.out.under hs)
          have HLx21 := Lib.hid (HLx20.out.under hs)
          have HLy21 := Lib.hid (HLy20.out.under hs)
          have HLu21 := Lib.hid (HLu20.out.under hs)
          clear Hm20 HLa20 HLb20 HLc20 HLm20 HLo20 HLj20 HLx20 HLy20 HLu20 hs
          go_wp2_with fail
          refine (regCut_any _ pa pz ca cz a z HLa21.out HLz21.out Hxa.out.1 Hxz.out.1 (by have h1 := Hca.out; have h2 := Hcz.out; omega)).mono ?_
          rintro e w22 hc
          obtain ⟨pv, cv, v, rfl, hr, hg, hl, hs⟩ := hc.got
          have HLv22 := Lib.hid hr
          have Hgv := Lib.hid hg
          have Hxv := Lib.hid (reg_x hg rfl Hxa.out Hxz.out)
          have Hcv := Lib.hid (len_out hl (k := 12800) (by have h1 := Hca.out; have h2 := Hcz.out; omega))
          clear hr hg hl hc
          have Hm22 := Lib.hid (Hm21.out.trans' hs)
          have HLa22 := Lib.hid (HLa21.out.under hs)
          have HLb22 := Lib.hid (HLb21.out.under hs)
          have HLc22 := Lib.hid (HLc21.out.under hs)
          have HLm22 := Lib.hid (HLm21.out.under hs)
          have HLo22 := Lib.hid (HLo21.out.under hs)
          have HLj22 := Lib.hid (HLj21.out.under hs)
          have HLx22 := Lib.hid (HLx21.out.under hs)
          have HLy22 := Lib.hid (HLy21.out.under hs)
          have HLu22 := Lib.hid (HLu21.out.under hs)
          have HLz22 := Lib.hid (HLz21.out.under hs)
          clear Hm21 HLa21 HLb21 HLc21 HLm21 HLo21 HLj21 HLx21 HLy21 HLu21 HLz21 hs
          go_wp2_with fail
          refine (refSame_any _ _ _ pu pv cu cv u v HLu22.out HLv22.out (by have h1 := Hcu.out; omega) (by have h1 := Hcv.out; omega)).mono ?_
          rintro e w23 ⟨rfl, hs⟩
          rw [decide_eq_true (law_cut Hgo.out Hgu.out Hgz.out Hgv.out : u = v)]
          have Hm23 := Lib.hid (Hm22.out.trans' hs)
          have HLa23 := Lib.hid (HLa22.out.under hs)
          have HLb23 := Lib.hid (HLb22.out.under hs)
          have HLc23 := Lib.hid (HLc22.out.under hs)
          have HLm23 := Lib.hid (HLm22.out.under hs)
          have HLo23 := Lib.hid (HLo22.out.under hs)
          have HLj23 := Lib.hid (HLj22.out.under hs)
          have HLx23 := Lib.hid (HLx22.out.under hs)
          have HLy23 := Lib.hid (HLy22.out.under hs)
          have HLu23 := Lib.hid (HLu22.out.under hs)
          have HLz23 := Lib.hid (HLz22.out.under hs)
          have HLv23 := Lib.hid (HLv22.out.under hs)
          clear Hm22 HLa22 HLb22 HLc22 HLm22 HLo22 HLj22 HLx22 HLy22 HLu22 HLz22 HLv22 hs
          go_wp2_with fail
          refine (regMeet_any _ po pb co cb o b HLo23.out HLb23.out Hxo.out.1 Hxb.out.1 (by have h1 := Hco.out; have h2 := Hcb.out; omega)).mono ?_
          rintro e w24 hc
          obtain ⟨pn, cn, n, rfl, hr, hg, hl, hs⟩ := hc.got
          obtain rfl := law_none Hgo.out hg
          clear hr hg hl hc
          have Hm24 := Lib.hid (Hm23.out.trans' hs)
          have HLa24 := Lib.hid (HLa23.out.under hs)
          have HLb24 := Lib.hid (HLb23.out.under hs)
          have HLc24 := Lib.hid (HLc23.out.under hs)
          have HLm24 := Lib.hid (HLm23.out.under hs)
          have HLo24 := Lib.hid (HLo23.out.under hs)
          have HLj24 := Lib.hid (HLj23.out.under hs)
          have HLx24 := Lib.hid (HLx23.out.under hs)
          have HLy24 := Lib.hid (HLy23.out.under hs)
          have HLu24 := Lib.hid (HLu23.out.under hs)
          have HLz24 := Lib.hid (HLz23.out.under hs)
          have HLv24 := Lib.hid (HLv23.out.under hs)
          clear Hm23 HLa23 HLb23 HLc23 HLm23 HLo23 HLj23 HLx23 HLy23 HLu23 HLz23 HLv23 hs
          go_wp2_with fail
          refine (regMeet_any _ pa pb ca cb a b HLa24.out HLb24.out Hxa.out.1 Hxb.out.1 (by have h1 := Hca.out; have h2 := Hcb.out; omega)).mono ?_
          rintro e w25 hc
          obtain ⟨pf, cf, f, rfl, hr, hg, hl, hs⟩ := hc.got
          have HLf25 := Lib.hid hr
          have Hgf := Lib.hid hg
          have Hxf := Lib.hid (reg_x hg rfl Hxa.out Hxb.out)
          have Hcf := Lib.hid (len_out hl (k := 40) (by have h1 := Hca.out; have h2 := Hcb.out; omega))
          clear hr hg hl hc
          have Hm25 := Lib.hid (Hm24.out.trans' hs)
          have HLa25 := Lib.hid (HLa24.out.under hs)
          have HLb25 := Lib.hid (HLb24.out.under hs)
          have HLc25 := Lib.hid (HLc24.out.under hs)
          have HLm25 := Lib.hid (HLm24.out.under hs)
          have HLo25 := Lib.hid (HLo24.out.under hs)
          have HLj25 := Lib.hid (HLj24.out.under hs)
          have HLx25 := Lib.hid (HLx24.out.under hs)
          have HLy25 := Lib.hid (HLy24.out.under hs)
          have HLu25 := Lib.hid (HLu24.out.under hs)
          have HLz25 := Lib.hid (HLz24.out.under hs)
          have HLv25 := Lib.hid (HLv24.out.under hs)
          clear Hm24 HLa24 HLb24 HLc24 HLm24 HLo24 HLj24 HLx24 HLy24 HLu24 HLz24 HLv24 hs
          go_wp2_with fail
          refine (regMeet_any _ pb pa cb ca b a HLb25.out HLa25.out Hxb.out.1 Hxa.out.1 (by have h1 := Hcb.out; have h2 := Hca.out; omega)).mono ?_
          rintro e w26 hc
          obtain ⟨pg, cg, g, rfl, hr, hg, hl, hs⟩ := hc.got
          have HLg26 := Lib.hid hr
          have Hgg := Lib.hid hg
          have Hxg := Lib.hid (reg_x hg rfl Hxb.out Hxa.out)
          have Hcg := Lib.hid (len_out hl (k := 40) (by have h1 := Hcb.out; have h2 := Hca.out; omega))
          clear hr hg hl hc
          have Hm26 := Lib.hid (Hm25.out.trans' hs)
          have HLa26 := Lib.hid (HLa25.out.under hs)
          have HLb26 := Lib.hid (HLb25.out.under hs)
          have HLc26 := Lib.hid (HLc25.out.under hs)
          have HLm26 := Lib.hid (HLm25.out.under hs)
          have HLo26 := Lib.hid (HLo25.out.under hs)
          have HLj26 := Lib.hid (HLj25.out.under hs)
          have HLx26 := Lib.hid (HLx25.out.under hs)
          have HLy26 := Lib.hid (HLy25.out.under hs)
          have HLu26 := Lib.hid (HLu25.out.under hs)
          have HLz26 := Lib.hid (HLz25.out.under hs)
          have HLv26 := Lib.hid (HLv25.out.under hs)
          have HLf26 := Lib.hid (HLf25.out.under hs)
          clear Hm25 HLa25 HLb25 HLc25 HLm25 HLo25 HLj25 HLx25 HLy25 HLu25 HLz25 HLv25 HLf25 hs
          go_wp2_with fail
          refine (refSame_any _ _ _ pf pg cf cg f g HLf26.out HLg26.out (by have h1 := Hcf.out; omega) (by have h1 := Hcg.out; omega)).mono ?_
          rintro e w27 ⟨rfl, hs⟩
          rw [decide_eq_true (law_comm Hgf.out Hgg.out : f = g)]
          have Hm27 := Lib.hid (Hm26.out.trans' hs)
          have HLa27 := Lib.hid (HLa26.out.under hs)
          have HLb27 := Lib.hid (HLb26.out.under hs)
          have HLc27 := Lib.hid (HLc26.out.under hs)
          have HLm27 := Lib.hid (HLm26.out.under hs)
          have HLo27 := Lib.hid (HLo26.out.under hs)
          have HLj27 := Lib.hid (HLj26.out.under hs)
          have HLx27 := Lib.hid (HLx26.out.under hs)
          have HLy27 := Lib.hid (HLy26.out.under hs)
          have HLu27 := Lib.hid (HLu26.out.under hs)
          have HLz27 := Lib.hid (HLz26.out.under hs)
          have HLv27 := Lib.hid (HLv26.out.under hs)
          have HLf27 := Lib.hid (HLf26.out.under hs)
          have HLg27 := Lib.hid (HLg26.out.under hs)
          clear Hm26 HLa26 HLb26 HLc26 HLm26 HLo26 HLj26 HLx26 HLy26 HLu26 HLz26 HLv26 HLf26 HLg26 hs
          go_wp2_with fail
          go_ret
          exact ⟨rfl, Hm27.out⟩
        · skip
          have eb : decide (areasP j < 1152921504606846976) = false := decide_eq_false hbig
          go_wp2_with fail
          refine (regCut_any _ po pc co cc o c HLo12.out HLc12.out Hxo.out.1 Hxc.out.1 (by have h1 := Hco.out; have h2 := Hcc.out; omega)).mono ?_
          rintro e w13 hc
          obtain ⟨pu, cu, u, rfl, hr, hg, hl, hs⟩ := hc.got
          have HLu13 := Lib.hid hr
          have Hgu := Lib.hid hg
          have Hxu := Lib.hid (reg_x hg rfl Hxo.out Hxc.out)
          have Hcu := Lib.hid (len_out hl (k := 12800) (by have h1 := Hco.out; have h2 := Hcc.out; omega))
          clear hr hg hl hc
          have Hm13 := Lib.hid (Hm12.out.trans' hs)
          have HLa13 := Lib.hid (HLa12.out.under hs)
          have HLb13 := Lib.hid (HLb12.out.under hs)
          have HLc13 := Lib.hid (HLc12.out.under hs)
          have HLm13 := Lib.hid (HLm12.out.under hs)
          have HLo13 := Lib.hid (HLo12.out.under hs)
          have HLj13 := Lib.hid (HLj12.out.under hs)
          have HLx13 := Lib.hid (HLx12.out.under hs)
          have HLy13 := Lib.hid (HLy12.out.under hs)
          clear Hm12 HLa12 HLb12 HLc12 HLm12 HLo12 HLj12 HLx12 HLy12 hs
          go_wp2_with fail
          refine (regJoin_any _ pb pc cb cc b c HLb13.out HLc13.out Hxb.out.1 Hxc.out.1 (by have h1 := Hcb.out; have h2 := Hcc.out; omega)).mono ?_
          rintro e w14 hc
          obtain ⟨pz, cz, z, rfl, hr, hg, hl, hs⟩ := hc.got
          have HLz14 := Lib.hid hr
          have Hgz := Lib.hid hg
          have Hxz := Lib.hid (reg_x hg rfl Hxb.out Hxc.out)
          have Hcz := Lib.hid (len_out hl (k := 40) (by have h1 := Hcb.out; have h2 := Hcc.out; omega))
          clear hr hg hl hc
          have Hm14 := Lib.hid (Hm13.out.trans' hs)
          have HLa14 := Lib.hid (HLa13.out.under hs)
          have HLb14 := Lib.hid (HLb13.out.under hs)
          have HLc14 := Lib.hid (HLc13.out.under hs)
          have HLm14 := Lib.hid (HLm13.out.under hs)
          have HLo14 := Lib.hid (HLo13.out.under hs)
          have HLj14 := Lib.hid (HLj13.out.under hs)
          have HLx14 := Lib.hid (HLx13.out.under hs)
          have HLy14 := Lib.hid (HLy13.out.under hs)
          have HLu14 := Lib.hid (HLu13.out.under hs)
          clear Hm13 HLa13 HLb13 HLc13 HLm13 HLo13 HLj13 HLx13 HLy13 HLu13 hs
          go_wp2_with fail
          refine (regCut_any _ pa pz ca cz a z HLa14.out HLz14.out Hxa.out.1 Hxz.out.1 (by have h1 := Hca.out; have h2 := Hcz.out; omega)).mono ?_
          rintro e w15 hc
          obtain ⟨pv, cv, v, rfl, hr, hg, hl, hs⟩ := hc.got
          have HLv15 := Lib.hid hr
          have Hgv := Lib.hid hg
          have Hxv := Lib.hid (reg_x hg rfl Hxa.out Hxz.out)
          have Hcv := Lib.hid (len_out hl (k := 12800) (by have h1 := Hca.out; have h2 := Hcz.out; omega))
          clear hr hg hl hc
          have Hm15 := Lib.hid (Hm14.out.trans' hs)
          have HLa15 := Lib.hid (HLa14.out.under hs)
          have HLb15 := Lib.hid (HLb14.out.under hs)
          have HLc15 := Lib.hid (HLc14.out.under hs)
          have HLm15 := Lib.hid (HLm14.out.under hs)
          have HLo15 := Lib.hid (HLo14.out.under hs)
          have HLj15 := Lib.hid (HLj14.out.under hs)
          have HLx15 := Lib.hid (HLx14.out.under hs)
          have HLy15 := Lib.hid (HLy14.out.under hs)
          have HLu15 := Lib.hid (HLu14.out.under hs)
          have HLz15 := Lib.hid (HLz14.out.under hs)
          clear Hm14 HLa14 HLb14 HLc14 HLm14 HLo14 HLj14 HLx14 HLy14 HLu14 HLz14 hs
          go_wp2_with fail
          refine (refSame_any _ _ _ pu pv cu cv u v HLu15.out HLv15.out (by have h1 := Hcu.out; omega) (by have h1 := Hcv.out; omega)).mono ?_
          rintro e w16 ⟨rfl, hs⟩
          rw [decide_eq_true (law_cut Hgo.out Hgu.out Hgz.out Hgv.out : u = v)]
          have Hm16 := Lib.hid (Hm15.out.trans' hs)
          have HLa16 := Lib.hid (HLa15.out.under hs)
          have HLb16 := Lib.hid (HLb15.out.under hs)
          have HLc16 := Lib.hid (HLc15.out.under hs)
          have HLm16 := Lib.hid (HLm15.out.under hs)
          have HLo16 := Lib.hid (HLo15.out.under hs)
          have HLj16 := Lib.hid (HLj15.out.under hs)
          have HLx16 := Lib.hid (HLx15.out.under hs)
          have HLy16 := Lib.hid (HLy15.out.under hs)
          have HLu16 := Lib.hid (HLu15.out.under hs)
          have HLz16 := Lib.hid (HLz15.out.under hs)
          have HLv16 := Lib.hid (HLv15.out.under hs)
          clear Hm15 HLa15 HLb15 HLc15 HLm15 HLo15 HLj15 HLx15 HLy15 HLu15 HLz15 HLv15 hs
          go_wp2_with fail
          refine (regMeet_any _ po pb co cb o b HLo16.out HLb16.out Hxo.out.1 Hxb.out.1 (by have h1 := Hco.out; have h2 := Hcb.out; omega)).mono ?_
          rintro e w17 hc
          obtain ⟨pn, cn, n, rfl, hr, hg, hl, hs⟩ := hc.got
          obtain rfl := law_none Hgo.out hg
          clear hr hg hl hc
          have Hm17 := Lib.hid (Hm16.out.trans' hs)
          have HLa17 := Lib.hid (HLa16.out.under hs)
          have HLb17 := Lib.hid (HLb16.out.under hs)
          have HLc17 := Lib.hid (HLc16.out.under hs)
          have HLm17 := Lib.hid (HLm16.out.under hs)
          have HLo17 := Lib.hid (HLo16.out.under hs)
          have HLj17 := Lib.hid (HLj16.out.under hs)
          have HLx17 := Lib.hid (HLx16.out.under hs)
          have HLy17 := Lib.hid (HLy16.out.under hs)
          have HLu17 := Lib.hid (HLu16.out.under hs)
          have HLz17 := Lib.hid (HLz16.out.under hs)
          have HLv17 := Lib.hid (HLv16.out.under hs)
          clear Hm16 HLa16 HLb16 HLc16 HLm16 HLo16 HLj16 HLx16 HLy16 HLu16 HLz16 HLv16 hs
          go_wp2_with fail
          refine (regMeet_any _ pa pb ca cb a b HLa17.out HLb17.out Hxa.out.1 Hxb.out.1 (by have h1 := Hca.out; have h2 := Hcb.out; omega)).mono ?_
          rintro e w18 hc
          obtain ⟨pf, cf, f, rfl, hr, hg, hl, hs⟩ := hc.got
          have HLf18 := Lib.hid hr
          have Hgf := Lib.hid hg
          have Hxf := Lib.hid (reg_x hg rfl Hxa.out Hxb.out)
          have Hcf := Lib.hid (len_out hl (k := 40) (by have h1 := Hca.out; have h2 := Hcb.out; omega))
          clear hr hg hl hc
          have Hm18 := Lib.hid (Hm17.out.trans' hs)
          have HLa18 := Lib.hid (HLa17.out.under hs)
          have HLb18 := Lib.hid (HLb17.out.under hs)
          have HLc18 := Lib.hid (HLc17.out.under hs)
          have HLm18 := Lib.hid (HLm17.out.under hs)
          have HLo18 := Lib.hid (HLo17.out.under hs)
          have HLj18 := Lib.hid (HLj17.out.under hs)
          have HLx18 := Lib.hid (HLx17.out.under hs)
          have HLy18 := Lib.hid (HLy17.out.under hs)
          have HLu18 := Lib.hid (HLu17.out.under hs)
          have HLz18 := Lib.hid (HLz17.out.under hs)
          have HLv18 := Lib.hid (HLv17.out.under hs)
          clear Hm17 HLa17 HLb17 HLc17 HLm17 HLo17 HLj17 HLx17 HLy17 HLu17 HLz17 HLv17 hs
          go_wp2_with fail
          refine (regMeet_any _ pb pa cb ca b a HLb18.out HLa18.out Hxb.out.1 Hxa.out.1 (by have h1 := Hcb.out; have h2 := Hca.out; omega)).mono ?_
          rintro e w19 hc
          obtain ⟨pg, cg, g, rfl, hr, hg, hl, hs⟩ := hc.got
          have HLg19 := Lib.hid hr
          have Hgg := Lib.hid hg
          have Hxg := Lib.hid (reg_x hg rfl Hxb.out Hxa.out)
          have Hcg := Lib.hid (len_out hl (k := 40) (by have h1 := Hcb.out; have h2 := Hca.out; omega))
          clear hr hg hl hc
          have Hm19 := Lib.hid (Hm18.out.trans' hs)
          have HLa19 := Lib.hid (HLa18.out.under hs)
          have HLb19 := Lib.hid (HLb18.out.under hs)
          have HLc19 := Lib.hid (HLc18.out.under hs)
          have HLm19 := Lib.hid (HLm18.out.under hs)
          have HLo19 := Lib.hid (HLo18.out.under hs)
          have HLj19 := Lib.hid (HLj18.out.under hs)
          have HLx19 := Lib.hid (HLx18.out.under hs)
          have HLy19 := Lib.hid (HLy18.out.under hs)
          have HLu19 := Lib.hid (HLu18.out.under hs)
          have HLz19 := Lib.hid (HLz18.out.under hs)
          have HLv19 := Lib.hid (HLv18.out.under hs)
          have HLf19 := Lib.hid (HLf18.out.under hs)
          clear Hm18 HLa18 HLb18 HLc18 HLm18 HLo18 HLj18 HLx18 HLy18 HLu18 HLz18 HLv18 HLf18 hs
          go_wp2_with fail
          refine (refSame_any _ _ _ pf pg cf cg f g HLf19.out HLg19.out (by have h1 := Hcf.out; omega) (by have h1 := Hcg.out; omega)).mono ?_
          rintro e w20 ⟨rfl, hs⟩
          rw [decide_eq_true (law_comm Hgf.out Hgg.out : f = g)]
          have Hm20 := Lib.hid (Hm19.out.trans' hs)
          have HLa20 := Lib.hid (HLa19.out.under hs)
          have HLb20 := Lib.hid (HLb19.out.under hs)
          have HLc20 := Lib.hid (HLc19.out.under hs)
          have HLm20 := Lib.hid (HLm19.out.under hs)
          have HLo20 := Lib.hid (HLo19.out.under hs)
          have HLj20 := Lib.hid (HLj19.out.under hs)
          have HLx20 := Lib.hid (HLx19.out.under hs)
          have HLy20 := Lib.hid (HLy19.out.under hs)
          have HLu20 := Lib.hid (HLu19.out.under hs)
          have HLz20 := Lib.hid (HLz19.out.under hs)
          have HLv20 := Lib.hid (HLv19.out.under hs)
          have HLf20 := Lib.hid (HLf19.out.under hs)
          have HLg20 := Lib.hid (HLg19.out.under hs)
          clear Hm19 HLa19 HLb19 HLc19 HLm19 HLo19 HLj19 HLx19 HLy19 HLu19 HLz19 HLv19 HLf19 HLg19 hs
          go_wp2_with fail
          go_ret
          exact ⟨rfl, Hm20.out⟩

end Go.Proofs.Ytapeafokcailkaa
