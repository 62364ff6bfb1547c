/- Regions: what is handed in stays. -/
import Derived.Test.YtapeafokcailkaaRqF
set_option linter.unusedSimpArgs false
set_option linter.unusedVariables false
set_option linter.unusedSectionVars false
set_option linter.constructorNameAsVariable false
namespace Go.Proofs.Ytapeafokcailkaa
open Go.RowKit Go.Gou Go.Reg Go.Shelf
set_option maxRecDepth 100000

theorem own_empty (w : World) (T : TypeId) (k : Nat) : (w.alloc (.cells #[] T)).ownsRow w.heap.size T k (.slice (some ⟨w.heap.size, 0, none⟩) 0 0) 0 [] :=
  ⟨by simp, .inr ⟨w.heap.size, 0, #[], rfl, Nat.le_refl _, heap_alloc_new w _, Nat.le_refl _, Nat.zero_le _, by simp, by simp⟩⟩
theorem CombP.own {w : World} {a b : List Rt} {f : Bool → Bool → Bool} {e : Ending} {w' : World} (h : CombP w a b f e w') :
    ∃ p c n xs, e = .returned (.slice p n c) ∧ w'.ownsRow w.heap.size 36 4 (.slice p n c) n xs ∧ Gou.Mod (fun _ => False) w w' := by
  obtain ⟨hm, v, o, rfl, hown, h2, h3⟩ := h
  obtain ⟨p, c, rfl⟩ := Gou.ownsRow_form hown
  exact ⟨p, c, o.length, rts o, rfl, hown, hm⟩
theorem own_row_set {w : World} {B : Nat} {T : TypeId} {g n c i : Nat} {xs : List Value} (h : w.ownsRow B T 4 (.slice (some ⟨g, 0, none⟩) n c) n xs) (hi : i < n) (a b d e : Value) :
    ∃ ys, (w.setCells g (i * 4) [a, b, d, e]).ownsRow B T 4 (.slice (some ⟨g, 0, none⟩) n c) n ys := by
  simp only [World.setCells]
  have hl : ∀ {zs : List Value} {u : World}, u.ownsRow B T 4 (.slice (some ⟨g, 0, none⟩) n c) n zs → zs.length = n * 4 := fun h => h.1
  exact ⟨_, own_set (own_set (own_set (own_set h _ _) _ _) _ _) _ _⟩
theorem own_there {w : World} {B : Nat} {T : TypeId} {g n c i : Nat} {xs : List Value} (h : w.ownsRow B T 4 (.slice (some ⟨g, 0, none⟩) n c) n xs) (hi : i < n) : w.there g (i * 4) 4 := by
  rcases h.2 with ⟨hv, _⟩ | ⟨g', cap, cur, hv, _, hh, hn, _, hs, _⟩
  · cases hv
  · simp only [Value.slice.injEq, Option.some.injEq, Addr.mk.injEq] at hv
    obtain ⟨⟨rfl, -, -⟩, -, rfl⟩ := hv
    exact Blk.there hh (i * 4) 4 (by rw [hs]; omega)
theorem own_some {w : World} {B : Nat} {T : TypeId} {p : Option Addr} {n c : Nat} {xs : List Value} (h : w.ownsRow B T 4 (.slice p n c) n xs) (hn : 0 < n) : ∃ g, p = some ⟨g, 0, none⟩ ∧ B ≤ g ∧ g < w.heap.size := by
  rcases h.2 with ⟨hv, h0⟩ | ⟨g', cap, cur, hv, hb, hh, _⟩
  · omega
  · simp only [Value.slice.injEq] at hv
    exact ⟨g', hv.1, hb, Blk.lt hh⟩
theorem own_lt {w : World} {B : Nat} {T : TypeId} {p : Option Addr} {n c : Nat} {xs : List Value} (h : w.ownsRow B T 4 (.slice p n c) n xs) : ∀ k, (Value.slice p n c).ownBlock = some k → k < w.heap.size := fun k hk => (h.lt k hk).2
theorem own_lenle {w : World} {B : Nat} {T : TypeId} {p : Option Addr} {n c : Nat} {xs : List Value} (h : w.ownsRow B T 4 (.slice p n c) n xs) : n ≤ maxLen := by
  rcases h.2 with ⟨hv, h0⟩ | ⟨g', cap, cur, hv, hb, hh, h1, h2, _⟩
  · omega
  · omega

set_option maxHeartbeats 8000000 in
theorem regionKeeps_law (w : World) (va : Value) (a : List Rt) (ha : RtR (fun _ => True) w va a) (hwa : ∀ r ∈ a, RtWf r) (hna : a.length ≤ maxLen) (vb : Value) (b : List Rt) (hb : RtR (fun _ => True) w vb b) (hwb : ∀ r ∈ b, RtWf r) (hnb : b.length ≤ maxLen) :
    Calls Try.prog 6 #[va, vb] w fun e w' => e = .returned (.bool true) ∧ Gou.Mod (fun _ => False) w w' := by
  obtain ⟨pa, ca, rfl⟩ := ha.form
  have HLa0 := Lib.hid ha
  have Hna := Lib.hid hna
  clear ha hwa hna
  obtain ⟨pb, cb, rfl⟩ := hb.form
  have HLb0 := Lib.hid hb
  have Hnb := Lib.hid hnb
  clear hb hwb hnb
  go_enter Try.func6, Try.ntmps6
  go_wp2_with fail
  refine (awake_any _).mono ?_
  rintro e w1 ⟨rfl, hs⟩
  have Hm1 := Lib.hid (hs)
  have HLa1 := Lib.hid (HLa0.out.under hs)
  have HLb1 := Lib.hid (HLb0.out.under hs)
  clear HLa0 HLb0 hs
  go_wp2_with fail
  refine (lawRight_any _ pa ca a HLa1.out Hna.out).mono ?_
  rintro e w2 ⟨hs, q, rfl, hq⟩
  have Hqa := Lib.hid hq
  clear hq
  have Hm2 := Lib.hid (Hm1.out.trans' hs)
  have HLa2 := Lib.hid (HLa1.out.under hs)
  have HLb2 := Lib.hid (HLb1.out.under hs)
  clear Hm1 HLa1 HLb1 hs
  cases q with
  | false =>
    go_wp2_with fail
    refine (awake_any _).mono ?_
    rintro e w3 ⟨rfl, hs⟩
    have Hm3 := Lib.hid (Hm2.out.trans' hs)
    have HLa3 := Lib.hid (HLa2.out.under hs)
    have HLb3 := Lib.hid (HLb2.out.under hs)
    clear Hm2 HLa2 HLb2 hs
    go_wp2_with fail
    go_ret
    exact ⟨rfl, Hm3.out⟩
  | true =>
    have HRa := Lib.hid (Hqa.out.1 rfl)
    clear Hqa
    have Hxa := Lib.hid (near_x HRa.out.1)
    have Hca := Lib.hid HRa.out.1.1
    go_wp2_with fail
    refine (lawRight_any _ pb cb b HLb2.out Hnb.out).mono ?_
    rintro e w3 ⟨hs, q, rfl, hq⟩
    have Hqb := Lib.hid hq
    clear hq
    have Hm3 := Lib.hid (Hm2.out.trans' hs)
    have HLa3 := Lib.hid (HLa2.out.under hs)
    have HLb3 := Lib.hid (HLb2.out.under hs)
    clear Hm2 HLa2 HLb2 hs
    cases q with
    | false =>
      go_wp2_with fail
      refine (awake_any _).mono ?_
      rintro e w4 ⟨rfl, hs⟩
      have Hm4 := Lib.hid (Hm3.out.trans' hs)
      have HLa4 := Lib.hid (HLa3.out.under hs)
      have HLb4 := Lib.hid (HLb3.out.under hs)
      clear Hm3 HLa3 HLb3 hs
      go_wp2_with fail
      go_ret
      exact ⟨rfl, Hm4.out⟩
    | true =>
      have HRb := Lib.hid (Hqb.out.1 rfl)
      clear Hqb
      have Hxb := Lib.hid (near_x HRb.out.1)
      have Hcb := Lib.hid HRb.out.1.1
      go_wp2_with (first | ((with_reducible show wpList _ _ _ (⟨_, Op.call ⟨.builtin .append, _, _⟩, _, _, _, _⟩ :: _) _ _); refine halt ?_) | fail)
      refine wpList_append_row T_reg rfl _ _ rfl (w3.heap.size) (.slice (some ⟨w3.heap.size, 0, none⟩) 0 0) (0) ([]) (fun _ => True) (.slice pa a.length ca) (a.length) (rts a) rfl rfl (by rw [World.size_alloc]; omega) (own_empty w3 36 4) (HLa3.out.under (Gou.Mod.alloc0 _ _)) (rts_one a) (by have := Hca.out; unfold maxLen; omega) (by have := Hca.out; omega) ?_
      intro v5 w4 G5
      have hs := G5.mod0 (Gou.Mod.alloc0 w3 (.cells #[] 36)) (own_ge (own_empty w3 36 4))
      obtain ⟨ps, cs, rfl⟩ := Gou.ownsRow_form G5.own
      have hr : RowG (fun _ => True) w4 4 (.slice ps (0 + a.length) cs) (0 + a.length) ([] ++ rts a) := RowG.own_of G5.own (fun _ _ _ => trivial)
      rw [Nat.zero_add, List.nil_append] at hr
      rw [Nat.zero_add]
      have HLs4 := Lib.hid hr
      clear G5 hr
      have Hm4 := Lib.hid (Hm3.out.trans' hs)
      have HLa4 := Lib.hid (HLa3.out.under hs)
      have HLb4 := Lib.hid (HLb3.out.under hs)
      clear Hm3 HLa3 HLb3 hs
      go_wp2_with (first | ((with_reducible show wpList _ _ _ (⟨_, Op.call ⟨.builtin .append, _, _⟩, _, _, _, _⟩ :: _) _ _); refine halt ?_) | fail)
      refine wpList_append_row T_reg rfl _ _ rfl (w4.heap.size) (.slice (some ⟨w4.heap.size, 0, none⟩) 0 0) (0) ([]) (fun _ => True) (.slice pb b.length cb) (b.length) (rts b) rfl rfl (by rw [World.size_alloc]; omega) (own_empty w4 36 4) (HLb4.out.under (Gou.Mod.alloc0 _ _)) (rts_one b) (by have := Hcb.out; unfold maxLen; omega) (by have := Hcb.out; omega) ?_
      intro v5 w5 G5
      have hs := G5.mod0 (Gou.Mod.alloc0 w4 (.cells #[] 36)) (own_ge (own_empty w4 36 4))
      obtain ⟨pt, ct, rfl⟩ := Gou.ownsRow_form G5.own
      have hr : RowG (fun _ => True) w5 4 (.slice pt (0 + b.length) ct) (0 + b.length) ([] ++ rts b) := RowG.own_of G5.own (fun _ _ _ => trivial)
      rw [Nat.zero_add, List.nil_append] at hr
      rw [Nat.zero_add]
      have HLt5 := Lib.hid hr
      clear G5 hr
      have Hm5 := Lib.hid (Hm4.out.trans' hs)
      have HLa5 := Lib.hid (HLa4.out.under hs)
      have HLb5 := Lib.hid (HLb4.out.under hs)
      have HLs5 := Lib.hid (HLs4.out.under hs)
      clear Hm4 HLa4 HLb4 HLs4 hs
      go_wp2_with fail
      have HM5 := Lib.hid Hm5.out
      have HSa := Lib.hid HLa5.out
      have HSb := Lib.hid HLb5.out
      have HSs := Lib.hid HLs5.out
      have HSt := Lib.hid HLt5.out
      refine (regJoin_any _ pa pb ca cb a b HLa5.out HLb5.out Hxa.out.1 Hxb.out.1 (by have h1 := Hca.out; have h2 := Hcb.out; omega)).mono ?_
      rintro e w6 hc
      obtain ⟨pj, cj, nj, xj, rfl, ho, hs⟩ := hc.own
      have Hzj := Lib.hid hs.size
      have Hs6 := Lib.hid hs
      have Hoj6 := Lib.hid ho
      clear ho hc
      have Hm6 := Lib.hid (Hm5.out.trans' hs)
      have HLa6 := Lib.hid (HLa5.out.under hs)
      have HLb6 := Lib.hid (HLb5.out.under hs)
      have HLs6 := Lib.hid (HLs5.out.under hs)
      have HLt6 := Lib.hid (HLt5.out.under hs)
      clear Hm5 HLa5 HLb5 HLs5 HLt5 hs
      have Hlj := Lib.hid (own_lt Hoj6.out)
      go_wp2_with fail
      refine (regCut_any _ pa none ca 0 a [] HLa6.out (RowG.nil _ _ _) Hxa.out.1 (fun r hr => by cases hr) (by have h1 := Hca.out; simp; omega)).mono ?_
      rintro e w7 hc
      obtain ⟨pc, cc, nc, xc, rfl, ho, hs⟩ := hc.own
      have Hzc := Lib.hid hs.size
      have Hs7 := Lib.hid hs
      have Hoc7 := Lib.hid ho
      clear ho hc
      have Hm7 := Lib.hid (Hm6.out.trans' hs)
      have HLa7 := Lib.hid (HLa6.out.under hs)
      have HLb7 := Lib.hid (HLb6.out.under hs)
      have HLs7 := Lib.hid (HLs6.out.under hs)
      have HLt7 := Lib.hid (HLt6.out.under hs)
      clear Hm6 HLa6 HLb6 HLs6 HLt6 hs
      have Hoj7 := Lib.hid (own_up Hoj6.out Hs7.out)
      clear Hoj6
      have Hlc := Lib.hid (own_lt Hoc7.out)
      go_wp2_with fail
      refine (regMove_any _ pa ca a 0 0 HLa7.out HRa.out.1.2 (by unfold Near far; omega) (by unfold Near far; omega) Hca.out).mono ?_
      rintro e w8 hc
      obtain ⟨pm, cm, nm, xm, rfl, ho, hs⟩ := hc.own
      have Hzm := Lib.hid hs.size
      have Hs8 := Lib.hid hs
      have Hom8 := Lib.hid ho
      clear ho hc
      have Hm8 := Lib.hid (Hm7.out.trans' hs)
      have HLa8 := Lib.hid (HLa7.out.under hs)
      have HLb8 := Lib.hid (HLb7.out.under hs)
      have HLs8 := Lib.hid (HLs7.out.under hs)
      have HLt8 := Lib.hid (HLt7.out.under hs)
      clear Hm7 HLa7 HLb7 HLs7 HLt7 hs
      have Hoj8 := Lib.hid (own_up Hoj7.out Hs8.out)
      clear Hoj7
      have Hoc8 := Lib.hid (own_up Hoc7.out Hs8.out)
      clear Hoc7
      go_wp2_with fail
      have hB0 : w5.heap.size ≤ w6.heap.size ∧ w6.heap.size ≤ w7.heap.size ∧ w7.heap.size ≤ w8.heap.size := ⟨Hzj.out, Hzc.out, Hzm.out⟩
      have HB0 := Lib.hid hB0
      clear hB0
      go_loopw [10] (fun vi wr => ∃ i : Nat, vi = .int .i64 i ∧ i ≤ nj ∧ (∃ xs, wr.ownsRow (w5.heap.size) 36 4 (.slice pj nj cj) nj xs) ∧ (∃ xs, wr.ownsRow (w6.heap.size) 36 4 (.slice pc nc cc) nc xs) ∧ (∃ xs, wr.ownsRow (w7.heap.size) 36 4 (.slice pm nm cm) nm xs) ∧ Gou.Mod (fun k => w5.heap.size ≤ k) w8 wr) (fun vi _ => nj - (intOf vi).toNat)
      case atStart => exact ⟨0, rfl, Nat.zero_le _, ⟨_, Hoj8.out⟩, ⟨_, Hoc8.out⟩, ⟨_, Hom8.out⟩, Gou.Mod.refl _ _⟩
      case round =>
        obtain ⟨i, rfl, hi, ⟨xj, hj⟩, ⟨xc, hc⟩, ⟨xm, hm⟩, hmod⟩ := hrel
        have Hj1 := Lib.hid hj
        have Hc1 := Lib.hid hc
        have Hm1m := Lib.hid hm
        have Hw1 := Lib.hid hmod
        clear hj hc hm hmod
        by_cases hil : i < nj
        · skip
          have e1 : decide ((i : Int) < (nj : Int)) = true := decide_eq_true (by omega)
          have Hil := Lib.hid (And.intro hil (own_lenle Hj1.out))
          obtain ⟨gb, rfl, hgb, hgl⟩ := own_some Hj1.out (by omega)
          have Hth := Lib.hid (own_there Hj1.out hil)
          have Hgb := Lib.hid (And.intro hgb (Hlj.out gb rfl))
          clear hgb hgl hi
          have hwi : wrap64 ((i : Int) + 1) = ((i + 1 : Nat) : Int) := by have := Hil.out; unfold maxLen at this; unfold wrap64; omega
          go_wp2_with (first | ((with_reducible refine wpList_store_mid ?g1_6 36 ?x1_6 ?y1_6 ?o1_6 gb (i * 4) #[.int .i64 0, .int .i64 0, .int .i64 0, .int .i64 0] ?h1_6 ?j1_6 ?t1_6 ?i1_6 ?s1_6 ?r1_6); (case g1_6 => exact rfl); (case o1_6 => exact rfl); (case h1_6 => first | exact rfl | (go_simp; rfl)); (case j1_6 => exact rfl); (case t1_6 => exact Hth.out); (case i1_6 => exact size_rect); (case s1_6 => exact one4 _ _ _ _)) | fail)
          obtain ⟨ys, hys⟩ := own_row_set (i := i) Hj1.out (Hil.out.1) (.int .i64 0) (.int .i64 0) (.int .i64 0) (.int .i64 0)
          go_roundw
          case rel => exact ⟨i + 1, by rw [← hwi], by have := Hil.out; omega, ⟨ys, hys⟩, ⟨_, ownsRow_mod Hc1.out (Blk.setMod _ _ _ _) (fun k hk e => by have := own_ge Hc1.out k hk; have := HB0.out; have := Hgb.out; omega)⟩, ⟨_, ownsRow_mod Hm1m.out (Blk.setMod _ _ _ _) (fun k hk e => by have := own_ge Hm1m.out k hk; have := HB0.out; have := Hgb.out; omega)⟩, Hw1.out.trans' ((Blk.setMod _ _ _ _).imp (fun k _ hk => by have := Hgb.out; have := HB0.out; omega))⟩
          case measure => rw [hwi]; have := Hil.out; simp only [intOf]; omega
        · have e1 : decide ((i : Int) < (nj : Int)) = false := decide_eq_false (by omega)
          go_wp2_with fail
          clear hi hil
          go_loopw [11] (fun vi wr => ∃ i : Nat, vi = .int .i64 i ∧ i ≤ nc ∧ (∃ xs, wr.ownsRow (w5.heap.size) 36 4 (.slice pj nj cj) nj xs) ∧ (∃ xs, wr.ownsRow (w6.heap.size) 36 4 (.slice pc nc cc) nc xs) ∧ (∃ xs, wr.ownsRow (w7.heap.size) 36 4 (.slice pm nm cm) nm xs) ∧ Gou.Mod (fun k => w5.heap.size ≤ k) w8 wr) (fun vi _ => nc - (intOf vi).toNat)
          case atStart => exact ⟨0, rfl, Nat.zero_le _, ⟨_, Hj1.out⟩, ⟨_, Hc1.out⟩, ⟨_, Hm1m.out⟩, Hw1.out⟩
          case round =>
            obtain ⟨i, rfl, hi, ⟨xj, hj⟩, ⟨xc, hc⟩, ⟨xm, hm⟩, hmod⟩ := hrel
            have Hj2 := Lib.hid hj
            have Hc2 := Lib.hid hc
            have Hm2m := Lib.hid hm
            have Hw2 := Lib.hid hmod
            clear hj hc hm hmod
            by_cases hil : i < nc
            · skip
              have e1 : decide ((i : Int) < (nc : Int)) = true := decide_eq_true (by omega)
              have Hil := Lib.hid (And.intro hil (own_lenle Hc2.out))
              obtain ⟨gb, rfl, hgb, hgl⟩ := own_some Hc2.out (by omega)
              have Hth := Lib.hid (own_there Hc2.out hil)
              have Hgb := Lib.hid (And.intro hgb (Hlc.out gb rfl))
              clear hgb hgl hi
              have hwi : wrap64 ((i : Int) + 1) = ((i + 1 : Nat) : Int) := by have := Hil.out; unfold maxLen at this; unfold wrap64; omega
              go_wp2_with (first | ((with_reducible refine wpList_store_mid ?g1_7 36 ?x1_7 ?y1_7 ?o1_7 gb (i * 4) #[.int .i64 0, .int .i64 0, .int .i64 0, .int .i64 0] ?h1_7 ?j1_7 ?t1_7 ?i1_7 ?s1_7 ?r1_7); (case g1_7 => exact rfl); (case o1_7 => exact rfl); (case h1_7 => first | exact rfl | (go_simp; rfl)); (case j1_7 => exact rfl); (case t1_7 => exact Hth.out); (case i1_7 => exact size_rect); (case s1_7 => exact one4 _ _ _ _)) | fail)
              obtain ⟨ys, hys⟩ := own_row_set (i := i) Hc2.out (Hil.out.1) (.int .i64 0) (.int .i64 0) (.int .i64 0) (.int .i64 0)
              go_roundw
              case rel => exact ⟨i + 1, by rw [← hwi], by have := Hil.out; omega, ⟨_, ownsRow_mod Hj2.out (Blk.setMod _ _ _ _) (fun k hk e => by have := Hlj.out k hk; have := HB0.out; have := Hgb.out; omega)⟩, ⟨ys, hys⟩, ⟨_, ownsRow_mod Hm2m.out (Blk.setMod _ _ _ _) (fun k hk e => by have := own_ge Hm2m.out k hk; have := HB0.out; have := Hgb.out; omega)⟩, Hw2.out.trans' ((Blk.setMod _ _ _ _).imp (fun k _ hk => by have := Hgb.out; have := HB0.out; omega))⟩
              case measure => rw [hwi]; have := Hil.out; simp only [intOf]; omega
            · have e1 : decide ((i : Int) < (nc : Int)) = false := decide_eq_false (by omega)
              go_wp2_with fail
              clear hi hil
              go_loopw [12] (fun vi wr => ∃ i : Nat, vi = .int .i64 i ∧ i ≤ nm ∧ (∃ xs, wr.ownsRow (w5.heap.size) 36 4 (.slice pj nj cj) nj xs) ∧ (∃ xs, wr.ownsRow (w6.heap.size) 36 4 (.slice pc nc cc) nc xs) ∧ (∃ xs, wr.ownsRow (w7.heap.size) 36 4 (.slice pm nm cm) nm xs) ∧ Gou.Mod (fun k => w5.heap.size ≤ k) w8 wr) (fun vi _ => nm - (intOf vi).toNat)
              case atStart => exact ⟨0, rfl, Nat.zero_le _, ⟨_, Hj2.out⟩, ⟨_, Hc2.out⟩, ⟨_, Hm2m.out⟩, Hw2.out⟩
              case round =>
                obtain ⟨i, rfl, hi, ⟨xj, hj⟩, ⟨xc, hc⟩, ⟨xm, hm⟩, hmod⟩ := hrel
                have Hj3 := Lib.hid hj
                have Hc3 := Lib.hid hc
                have Hm3m := Lib.hid hm
                have Hw3 := Lib.hid hmod
                clear hj hc hm hmod
                by_cases hil : i < nm
                · skip
                  have e1 : decide ((i : Int) < (nm : Int)) = true := decide_eq_true (by omega)
                  have Hil := Lib.hid (And.intro hil (own_lenle Hm3m.out))
                  obtain ⟨gb, rfl, hgb, hgl⟩ := own_some Hm3m.out (by omega)
                  have Hth := Lib.hid (own_there Hm3m.out hil)
                  have Hgb := Lib.hid hgb
                  clear hgb hgl hi
                  have hwi : wrap64 ((i : Int) + 1) = ((i + 1 : Nat) : Int) := by have := Hil.out; unfold maxLen at this; unfold wrap64; omega
                  go_wp2_with (first | ((with_reducible refine wpList_store_mid ?g1_8 36 ?x1_8 ?y1_8 ?o1_8 gb (i * 4) #[.int .i64 0, .int .i64 0, .int .i64 0, .int .i64 0] ?h1_8 ?j1_8 ?t1_8 ?i1_8 ?s1_8 ?r1_8); (case g1_8 => exact rfl); (case o1_8 => exact rfl); (case h1_8 => first | exact rfl | (go_simp; rfl)); (case j1_8 => exact rfl); (case t1_8 => exact Hth.out); (case i1_8 => exact size_rect); (case s1_8 => exact one4 _ _ _ _)) | fail)
                  obtain ⟨ys, hys⟩ := own_row_set (i := i) Hm3m.out (Hil.out.1) (.int .i64 0) (.int .i64 0) (.int .i64 0) (.int .i64 0)
                  go_roundw
                  case rel => exact ⟨i + 1, by rw [← hwi], by have := Hil.out; omega, ⟨_, ownsRow_mod Hj3.out (Blk.setMod _ _ _ _) (fun k hk e => by have := Hlj.out k hk; have := HB0.out; have := Hgb.out; omega)⟩, ⟨_, ownsRow_mod Hc3.out (Blk.setMod _ _ _ _) (fun k hk e => by have := Hlc.out k hk; have := HB0.out; have := Hgb.out; omega)⟩, ⟨ys, hys⟩, Hw3.out.trans' ((Blk.setMod _ _ _ _).imp (fun k _ hk => by have := Hgb.out; have := HB0.out; omega))⟩
                  case measure => rw [hwi]; have := Hil.out; simp only [intOf]; omega
                · have e1 : decide ((i : Int) < (nm : Int)) = false := decide_eq_false (by omega)
                  go_wp2_with fail
                  clear hi hil
                  have HMM := Lib.hid ((((Hs6.out.trans' (Hs7.out.trans' Hs8.out)).imp (S' := fun k => w5.heap.size ≤ k) (fun _ _ h => h.elim)).trans' Hw3.out))
                  have HZa := Lib.hid (RowG.mod HSa.out HMM.out (fun k hk _ h => by omega))
                  have HZb := Lib.hid (RowG.mod HSb.out HMM.out (fun k hk _ h => by omega))
                  have HZs := Lib.hid (RowG.mod HSs.out HMM.out (fun k hk _ h => by omega))
                  have HZt := Lib.hid (RowG.mod HSt.out HMM.out (fun k hk _ h => by omega))
                  have Hend := Lib.hid ((HM5.out).trans HMM.out (S := fun _ => False) (fun k hk h => by have := HM5.out.size; omega))
                  refine (refSame_any _ (fun _ => True) (fun _ => True) pa ps ca cs a a HZa.out HZs.out (by have h1 := Hca.out; omega) (by have h1 := Hca.out; omega)).mono ?_
                  rintro e w9 ⟨rfl, hs9⟩
                  rw [decide_eq_true (rfl : a = a)]
                  have H9 := Lib.hid hs9
                  clear hs9
                  go_wp2_with fail
                  refine (refSame_any _ (fun _ => True) (fun _ => True) pb pt cb ct b b (HZb.out.under H9.out) (HZt.out.under H9.out) (by have h1 := Hcb.out; omega) (by have h1 := Hcb.out; omega)).mono ?_
                  rintro e w10 ⟨rfl, hs10⟩
                  rw [decide_eq_true (rfl : b = b)]
                  have H10 := Lib.hid hs10
                  clear hs10
                  go_wp2_with fail
                  go_ret
                  exact ⟨rfl, Hend.out.trans' (H9.out.trans' H10.out)⟩

end Go.Proofs.Ytapeafokcailkaa
