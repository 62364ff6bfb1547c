/- Regions: what the laws' walks share; the first two laws. -/
import Derived.Test.YtapeafokcailkaaRpR
import Derived.Test.YtapeafokcailkaaRwO
set_option linter.unusedSimpArgs false
set_option linter.unusedVariables false
set_option linter.unusedSectionVars false
set_option linter.constructorNameAsVariable false
namespace Go.Reg
/-- Rectangles whose points lie in the plane. -/
def NX (l : List Rt) : Prop := (∀ r ∈ l, Near r.x0) ∧ ∀ x y, Has l x y → Near x
theorem near_x {l : List Rt} (h : FewP l) : NX l := ⟨fun r hr => (h.2 r hr).1, fun x y ⟨r, hr, h1, h2, _⟩ => by
  obtain ⟨⟨a, _⟩, _, ⟨_, b⟩, _⟩ := h.2 r hr
  unfold Near at *
  omega⟩
theorem NX.nil : NX [] := ⟨fun r hr => (by cases hr), fun x y h => (Has.nil x y h).elim⟩
theorem reg_x {a b out : List Rt} {f : Bool → Bool → Bool} (hg : RegOf out (Pts a b f)) (hf : f false false = false) (ha : NX a) (hb : NX b) : NX out := by
  have key : ∀ x y, Has out x y → Near x := fun x y h => by
    have hp : Pts a b f x y := (hg.has x y).1 h
    by_cases h1 : Has a x y
    · exact ha.2 x y h1
    · by_cases h2 : Has b x y
      · exact hb.2 x y h2
      · unfold Pts at hp
        rw [decide_eq_false h1, decide_eq_false h2, hf] at hp
        cases hp
  refine ⟨fun r hr => key r.x0 r.y0 ⟨r, hr, ?_⟩, key⟩
  obtain ⟨h1, h2⟩ := hg.some r hr
  unfold Rt.Has
  omega
theorem len_out {x n m k : Nat} (h : x ≤ 2 * (n + m) * (2 * (n + m))) (hk : n + m ≤ k) : x ≤ 2 * k * (2 * k) :=
  Nat.le_trans h (Nat.mul_le_mul (by omega) (by omega))
end Go.Reg
namespace Go.Proofs.Ytapeafokcailkaa
open Go.RowKit Go.Gou Go.Reg Go.Shelf
set_option maxRecDepth 100000
theorem CombP.got {w : World} {a b : List Rt} {f : Bool → Bool → Bool} {e : Ending} {w' : World} (h : CombP w a b f e w') :
    ∃ p c out, e = .returned (.slice p out.length c) ∧ RtR (fun _ => True) w' (.slice p out.length c) out ∧ RegOf out (Pts a b f) ∧ out.length ≤ 2 * (a.length + b.length) * (2 * (a.length + b.length)) ∧ Gou.Mod (fun _ => False) w w' := by
  obtain ⟨hm, v, o, rfl, hown, h2, h3⟩ := h
  obtain ⟨p, c, rfl⟩ := Gou.ownsRow_form hown
  exact ⟨p, c, o, rfl, RowG.own_of hown (fun _ _ _ => trivial), h2, h3, hm⟩

theorem not_few {l : List Rt} {q : Bool} (h : false = decide (FewP l)) (h20 : l.length ≤ 20) (hq : q = true ↔ IsRight l) : q = false := by
  cases q with
  | false => rfl
  | true => exact absurd (⟨h20, fun r hr => ((hq.1 rfl).1 r hr).2⟩ : FewP l) (of_decide_eq_false h.symm)

set_option maxHeartbeats 8000000 in
theorem regionOfs_law (w : World) (vl : Value) (l : List Rt) (hl : RtR (fun _ => True) w vl l) (hwl : ∀ r ∈ l, RtWf r) (hnl : l.length ≤ maxLen) :
    Calls Try.prog 3 #[vl] w fun e w' => e = .returned (.bool true) ∧ Gou.Mod (fun _ => False) w w' := by
  obtain ⟨pl, cl, rfl⟩ := hl.form
  have HLl0 := Lib.hid hl
  have Hnl := Lib.hid hnl
  clear hl hwl hnl
  by_cases h20 : l.length ≤ 20
  rotate_left
  · have e20 : decide ((20 : Int) < (l.length : Int)) = true := decide_eq_true (by omega)
    go_enter Try.func3, Try.ntmps3
    go_wp2_with fail
    refine (awake_any _).mono ?_
    rintro e w1 ⟨rfl, hs⟩
    have Hm1 := Lib.hid (hs)
    have HLl1 := Lib.hid (HLl0.out.under hs)
    clear HLl0 hs
    go_wp2_with fail
    go_ret
    exact ⟨rfl, Hm1.out⟩
  · have e20 : decide ((20 : Int) < (l.length : Int)) = false := decide_eq_false (by omega)
    have Hc20 := Lib.hid h20
    have HF := Lib.hid (fun (w' : World) (p : Option Addr) (c : Nat) (hl : RtR (fun _ => True) w' (.slice p l.length c) l) => refFew_any w' p c l hl Hnl.out)
    obtain ⟨q0, hq0⟩ : ∃ q, q = decide (FewP l) := ⟨_, rfl⟩
    rw [← hq0] at HF
    have Hq0 := Lib.hid hq0
    clear hq0
    go_enter Try.func3, Try.ntmps3
    go_wp2_with fail
    refine (HF.out _ _ _ HLl0.out).mono ?_
    rintro e w1 ⟨rfl, hs⟩
    have Hm1 := Lib.hid (hs)
    have HLl1 := Lib.hid (HLl0.out.under hs)
    clear HLl0 hs
    clear HF
    cases q0 with
    | false =>
      go_wp2_with fail
      refine (awake_any _).mono ?_
      rintro e w2 ⟨rfl, hs⟩
      have Hm2 := Lib.hid (Hm1.out.trans' hs)
      have HLl2 := Lib.hid (HLl1.out.under hs)
      clear Hm1 HLl1 hs
      go_wp2_with fail
      refine (regRight_any _ pl cl l HLl2.out (by have := Hc20.out; omega)).mono ?_
      rintro e w3 ⟨hs, q, rfl, hq⟩
      obtain rfl : q = false := not_few Hq0.out Hc20.out hq
      clear hq
      have Hm3 := Lib.hid (Hm2.out.trans' hs)
      have HLl3 := Lib.hid (HLl2.out.under hs)
      clear Hm2 HLl2 hs
      go_wp2_with fail
      go_ret
      exact ⟨rfl, Hm3.out⟩
    | true =>
      have HRl := Lib.hid (of_decide_eq_true Hq0.out.symm)
      have Hxl := Lib.hid (near_x HRl.out)
      have Hcl := Lib.hid HRl.out.1
      go_wp2_with fail
      refine (awake_any _).mono ?_
      rintro e w2 ⟨rfl, hs⟩
      have Hm2 := Lib.hid (Hm1.out.trans' hs)
      have HLl2 := Lib.hid (HLl1.out.under hs)
      clear Hm1 HLl1 hs
      go_wp2_with fail
      refine (regOf_any _ pl cl l HLl2.out Hxl.out.1 (by have h1 := Hcl.out; omega)).mono ?_
      rintro e w3 hc
      obtain ⟨po, co, o, rfl, hr, hg, hl, hs⟩ := hc.got
      have HLo3 := Lib.hid hr
      have Hgo := Lib.hid hg
      have Hco := Lib.hid (len_out hl (k := 20) (by have h1 := Hcl.out; simpa using h1))
      clear hr hg hl hc
      have Hm3 := Lib.hid (Hm2.out.trans' hs)
      have HLl3 := Lib.hid (HLl2.out.under hs)
      clear Hm2 HLl2 hs
      go_wp2_with fail
      refine (refOf_any _ pl cl l HLl3.out (by have h1 := Hcl.out; omega)).mono ?_
      rintro e w4 hc
      obtain ⟨pd, cd, d, rfl, hr, hg, hl, hs⟩ := hc.got
      have HLd4 := Lib.hid hr
      have Hgd := Lib.hid hg
      have Hcd := Lib.hid (len_out hl (k := 20) (by have h1 := Hcl.out; simpa using h1))
      clear hr hg hl hc
      have Hm4 := Lib.hid (Hm3.out.trans' hs)
      have HLl4 := Lib.hid (HLl3.out.under hs)
      have HLo4 := Lib.hid (HLo3.out.under hs)
      clear Hm3 HLl3 HLo3 hs
      go_wp2_with fail
      refine (refSame_any _ _ _ po pd co cd o d HLo4.out HLd4.out (by have h1 := Hco.out; omega) (by have h1 := Hcd.out; omega)).mono ?_
      rintro e w5 ⟨rfl, hs⟩
      rw [decide_eq_true (Hgo.out.uniq Hgd.out (fun _ _ => Iff.rfl) : o = d)]
      have Hm5 := Lib.hid (Hm4.out.trans' hs)
      have HLl5 := Lib.hid (HLl4.out.under hs)
      have HLo5 := Lib.hid (HLo4.out.under hs)
      have HLd5 := Lib.hid (HLd4.out.under hs)
      clear Hm4 HLl4 HLo4 HLd4 hs
      go_wp2_with fail
      refine (regRight_any _ pl cl l HLl5.out (by have := Hcl.out; omega)).mono ?_
      rintro e w6 ⟨hs, q, rfl, hq⟩
      have Hqa := Lib.hid hq
      clear hq
      have Hm6 := Lib.hid (Hm5.out.trans' hs)
      have HLl6 := Lib.hid (HLl5.out.under hs)
      have HLo6 := Lib.hid (HLo5.out.under hs)
      have HLd6 := Lib.hid (HLd5.out.under hs)
      clear Hm5 HLl5 HLo5 HLd5 hs
      go_wp2_with fail
      refine (refRightL_any _ pl cl l HLl6.out (by have := Hcl.out; omega)).mono ?_
      rintro e w7 ⟨hs, q', rfl, hq⟩
      obtain rfl : q = q' := Bool.eq_iff_iff.2 (Hqa.out.trans hq.symm)
      clear hq Hqa
      have Hm7 := Lib.hid (Hm6.out.trans' hs)
      have HLl7 := Lib.hid (HLl6.out.under hs)
      have HLo7 := Lib.hid (HLo6.out.under hs)
      have HLd7 := Lib.hid (HLd6.out.under hs)
      clear Hm6 HLl6 HLo6 HLd6 hs
      cases q
      all_goals go_wp2_with fail
      all_goals go_ret
      all_goals exact ⟨rfl, Hm7.out⟩

set_option maxHeartbeats 8000000 in
theorem regionPairs_law (w : World) (va : Value) (a : List Rt) (ha : RtR (fun _ => True) w va a) (hwa : ∀ r ∈ a, RtWf r) (hna : a.length ≤ maxLen) (vb : Value) (b : List Rt) (hb : RtR (fun _ => True) w vb b) (hwb : ∀ r ∈ b, RtWf r) (hnb : b.length ≤ maxLen) :
    Calls Try.prog 4 #[va, vb] w fun e w' => e = .returned (.bool true) ∧ Gou.Mod (fun _ => False) w w' := by
  obtain ⟨pa, ca, rfl⟩ := ha.form
  have HLa0 := Lib.hid ha
  have Hna := Lib.hid hna
  clear ha hwa hna
  obtain ⟨pb, cb, rfl⟩ := hb.form
  have HLb0 := Lib.hid hb
  have Hnb := Lib.hid hnb
  clear hb hwb hnb
  go_enter Try.func4, Try.ntmps4
  go_wp2_with fail
  refine (awake_any _).mono ?_
  rintro e w1 ⟨rfl, hs⟩
  have Hm1 := Lib.hid (hs)
  have HLa1 := Lib.hid (HLa0.out.under hs)
  have HLb1 := Lib.hid (HLb0.out.under hs)
  clear HLa0 HLb0 hs
  go_wp2_with fail
  refine (lawRight_any _ pa ca a HLa1.out Hna.out).mono ?_
  rintro e w2 ⟨hs, q, rfl, hq⟩
  have Hqa := Lib.hid hq
  clear hq
  have Hm2 := Lib.hid (Hm1.out.trans' hs)
  have HLa2 := Lib.hid (HLa1.out.under hs)
  have HLb2 := Lib.hid (HLb1.out.under hs)
  clear Hm1 HLa1 HLb1 hs
  cases q with
  | false =>
    go_wp2_with fail
    refine (awake_any _).mono ?_
    rintro e w3 ⟨rfl, hs⟩
    have Hm3 := Lib.hid (Hm2.out.trans' hs)
    have HLa3 := Lib.hid (HLa2.out.under hs)
    have HLb3 := Lib.hid (HLb2.out.under hs)
    clear Hm2 HLa2 HLb2 hs
    go_wp2_with fail
    go_ret
    exact ⟨rfl, Hm3.out⟩
  | true =>
    have HRa := Lib.hid (Hqa.out.1 rfl)
    clear Hqa
    have Hxa := Lib.hid (near_x HRa.out.1)
    have Hca := Lib.hid HRa.out.1.1
    go_wp2_with fail
    refine (lawRight_any _ pb cb b HLb2.out Hnb.out).mono ?_
    rintro e w3 ⟨hs, q, rfl, hq⟩
    have Hqb := Lib.hid hq
    clear hq
    have Hm3 := Lib.hid (Hm2.out.trans' hs)
    have HLa3 := Lib.hid (HLa2.out.under hs)
    have HLb3 := Lib.hid (HLb2.out.under hs)
    clear Hm2 HLa2 HLb2 hs
    cases q with
    | false =>
      go_wp2_with fail
      refine (awake_any _).mono ?_
      rintro e w4 ⟨rfl, hs⟩
      have Hm4 := Lib.hid (Hm3.out.trans' hs)
      have HLa4 := Lib.hid (HLa3.out.under hs)
      have HLb4 := Lib.hid (HLb3.out.under hs)
      clear Hm3 HLa3 HLb3 hs
      go_wp2_with fail
      go_ret
      exact ⟨rfl, Hm4.out⟩
    | true =>
      have HRb := Lib.hid (Hqb.out.1 rfl)
      clear Hqb
      have Hxb := Lib.hid (near_x HRb.out.1)
      have Hcb := Lib.hid HRb.out.1.1
      go_wp2_with fail
      refine (regJoin_any _ pa pb ca cb a b HLa3.out HLb3.out Hxa.out.1 Hxb.out.1 (by have h1 := Hca.out; have h2 := Hcb.out; omega)).mono ?_
      rintro e w4 hc
      obtain ⟨po0, co0, o0, rfl, hr, hg, hl, hs⟩ := hc.got
      have HLo04 := Lib.hid hr
      have Hgo0 := Lib.hid hg
      have Hxo0 := Lib.hid (reg_x hg rfl Hxa.out Hxb.out)
      have Hco0 := Lib.hid (len_out hl (k := 40) (by have h1 := Hca.out; have h2 := Hcb.out; omega))
      clear hr hg hl hc
      have Hm4 := Lib.hid (Hm3.out.trans' hs)
      have HLa4 := Lib.hid (HLa3.out.under hs)
      have HLb4 := Lib.hid (HLb3.out.under hs)
      clear Hm3 HLa3 HLb3 hs
      go_wp2_with fail
      refine (refSets_any _ pa pb ca cb a b 0 HLa4.out HLb4.out (by have h1 := Hca.out; have h2 := Hcb.out; omega)).mono ?_
      rintro e w5 hc
      obtain ⟨pd0, cd0, d0, rfl, hr, hg, hl, hs⟩ := hc.got
      have HLd05 := Lib.hid hr
      have Hgd0 := Lib.hid hg
      have Hcd0 := Lib.hid (len_out hl (k := 40) (by have h1 := Hca.out; have h2 := Hcb.out; omega))
      clear hr hg hl hc
      have Hm5 := Lib.hid (Hm4.out.trans' hs)
      have HLa5 := Lib.hid (HLa4.out.under hs)
      have HLb5 := Lib.hid (HLb4.out.under hs)
      have HLo05 := Lib.hid (HLo04.out.under hs)
      clear Hm4 HLa4 HLb4 HLo04 hs
      go_wp2_with fail
      refine (refSame_any _ _ _ po0 pd0 co0 cd0 o0 d0 HLo05.out HLd05.out (by have h1 := Hco0.out; omega) (by have h1 := Hcd0.out; omega)).mono ?_
      rintro e w6 ⟨rfl, hs⟩
      rw [decide_eq_true (Hgo0.out.uniq Hgd0.out (fun _ _ => Iff.rfl) : o0 = d0)]
      have Hm6 := Lib.hid (Hm5.out.trans' hs)
      have HLa6 := Lib.hid (HLa5.out.under hs)
      have HLb6 := Lib.hid (HLb5.out.under hs)
      have HLo06 := Lib.hid (HLo05.out.under hs)
      have HLd06 := Lib.hid (HLd05.out.under hs)
      clear Hm5 HLa5 HLb5 HLo05 HLd05 hs
      go_wp2_with fail
      refine (regMeet_any _ pa pb ca cb a b HLa6.out HLb6.out Hxa.out.1 Hxb.out.1 (by have h1 := Hca.out; have h2 := Hcb.out; omega)).mono ?_
      rintro e w7 hc
      obtain ⟨po1, co1, o1, rfl, hr, hg, hl, hs⟩ := hc.got
      have HLo17 := Lib.hid hr
      have Hgo1 := Lib.hid hg
      have Hxo1 := Lib.hid (reg_x hg rfl Hxa.out Hxb.out)
      have Hco1 := Lib.hid (len_out hl (k := 40) (by have h1 := Hca.out; have h2 := Hcb.out; omega))
      clear hr hg hl hc
      have Hm7 := Lib.hid (Hm6.out.trans' hs)
      have HLa7 := Lib.hid (HLa6.out.under hs)
      have HLb7 := Lib.hid (HLb6.out.under hs)
      have HLo07 := Lib.hid (HLo06.out.under hs)
      have HLd07 := Lib.hid (HLd06.out.under hs)
      clear Hm6 HLa6 HLb6 HLo06 HLd06 hs
      go_wp2_with fail
      refine (refSets_any _ pa pb ca cb a b 1 HLa7.out HLb7.out (by have h1 := Hca.out; have h2 := Hcb.out; omega)).mono ?_
      rintro e w8 hc
      obtain ⟨pd1, cd1, d1, rfl, hr, hg, hl, hs⟩ := hc.got
      have HLd18 := Lib.hid hr
      have Hgd1 := Lib.hid hg
      have Hcd1 := Lib.hid (len_out hl (k := 40) (by have h1 := Hca.out; have h2 := Hcb.out; omega))
      clear hr hg hl hc
      have Hm8 := Lib.hid (Hm7.out.trans' hs)
      have HLa8 := Lib.hid (HLa7.out.under hs)
      have HLb8 := Lib.hid (HLb7.out.under hs)
      have HLo08 := Lib.hid (HLo07.out.under hs)
      have HLd08 := Lib.hid (HLd07.out.under hs)
      have HLo18 := Lib.hid (HLo17.out.under hs)
      clear Hm7 HLa7 HLb7 HLo07 HLd07 HLo17 hs
      go_wp2_with fail
      refine (refSame_any _ _ _ po1 pd1 co1 cd1 o1 d1 HLo18.out HLd18.out (by have h1 := Hco1.out; omega) (by have h1 := Hcd1.out; omega)).mono ?_
      rintro e w9 ⟨rfl, hs⟩
      rw [decide_eq_true (Hgo1.out.uniq Hgd1.out (fun _ _ => Iff.rfl) : o1 = d1)]
      have Hm9 := Lib.hid (Hm8.out.trans' hs)
      have HLa9 := Lib.hid (HLa8.out.under hs)
      have HLb9 := Lib.hid (HLb8.out.under hs)
      have HLo09 := Lib.hid (HLo08.out.under hs)
      have HLd09 := Lib.hid (HLd08.out.under hs)
      have HLo19 := Lib.hid (HLo18.out.under hs)
      have HLd19 := Lib.hid (HLd18.out.under hs)
      clear Hm8 HLa8 HLb8 HLo08 HLd08 HLo18 HLd18 hs
      go_wp2_with fail
      refine (regCut_any _ pa pb ca cb a b HLa9.out HLb9.out Hxa.out.1 Hxb.out.1 (by have h1 := Hca.out; have h2 := Hcb.out; omega)).mono ?_
      rintro e w10 hc
      obtain ⟨po2, co2, o2, rfl, hr, hg, hl, hs⟩ := hc.got
      have HLo210 := Lib.hid hr
      have Hgo2 := Lib.hid hg
      have Hxo2 := Lib.hid (reg_x hg rfl Hxa.out Hxb.out)
      have Hco2 := Lib.hid (len_out hl (k := 40) (by have h1 := Hca.out; have h2 := Hcb.out; omega))
      clear hr hg hl hc
      have Hm10 := Lib.hid (Hm9.out.trans' hs)
      have HLa10 := Lib.hid (HLa9.out.under hs)
      have HLb10 := Lib.hid (HLb9.out.under hs)
      have HLo010 := Lib.hid (HLo09.out.under hs)
      have HLd010 := Lib.hid (HLd09.out.under hs)
      have HLo110 := Lib.hid (HLo19.out.under hs)
      have HLd110 := Lib.hid (HLd19.out.under hs)
      clear Hm9 HLa9 HLb9 HLo09 HLd09 HLo19 HLd19 hs
      go_wp2_with fail
      refine (refSets_any _ pa pb ca cb a b 2 HLa10.out HLb10.out (by have h1 := Hca.out; have h2 := Hcb.out; omega)).mono ?_
      rintro e w11 hc
      obtain ⟨pd2, cd2, d2, rfl, hr, hg, hl, hs⟩ := hc.got
      have HLd211 := Lib.hid hr
      have Hgd2 := Lib.hid hg
      have Hcd2 := Lib.hid (len_out hl (k := 40) (by have h1 := Hca.out; have h2 := Hcb.out; omega))
      clear hr hg hl hc
      have Hm11 := Lib.hid (Hm10.out.trans' hs)
      have HLa11 := Lib.hid (HLa10.out.under hs)
      have HLb11 := Lib.hid (HLb10.out.under hs)
      have HLo011 := Lib.hid (HLo010.out.under hs)
      have HLd011 := Lib.hid (HLd010.out.under hs)
      have HLo111 := Lib.hid (HLo110.out.under hs)
      have HLd111 := Lib.hid (HLd110.out.under hs)
      have HLo211 := Lib.hid (HLo210.out.under hs)
      clear Hm10 HLa10 HLb10 HLo010 HLd010 HLo110 HLd110 HLo210 hs
      go_wp2_with fail
      refine (refSame_any _ _ _ po2 pd2 co2 cd2 o2 d2 HLo211.out HLd211.out (by have h1 := Hco2.out; omega) (by have h1 := Hcd2.out; omega)).mono ?_
      rintro e w12 ⟨rfl, hs⟩
      rw [decide_eq_true (Hgo2.out.uniq Hgd2.out (fun _ _ => Iff.rfl) : o2 = d2)]
      have Hm12 := Lib.hid (Hm11.out.trans' hs)
      have HLa12 := Lib.hid (HLa11.out.under hs)
      have HLb12 := Lib.hid (HLb11.out.under hs)
      have HLo012 := Lib.hid (HLo011.out.under hs)
      have HLd012 := Lib.hid (HLd011.out.under hs)
      have HLo112 := Lib.hid (HLo111.out.under hs)
      have HLd112 := Lib.hid (HLd111.out.under hs)
      have HLo212 := Lib.hid (HLo211.out.under hs)
      have HLd212 := Lib.hid (HLd211.out.under hs)
      clear Hm11 HLa11 HLb11 HLo011 HLd011 HLo111 HLd111 HLo211 HLd211 hs
      go_wp2_with fail
      go_ret
      exact ⟨rfl, Hm12.out⟩

end Go.Proofs.Ytapeafokcailkaa
