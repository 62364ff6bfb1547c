/- Texts of the scenes' proofs, laid together: TzK, TzH. -/
import Derived.Test.YtgolafbneiffpaaGreatDoorZar
import Derived.Test.YtgolafbneiffpaaGreatDoorRows
import Derived.Lib.LaidU8
import Derived.LaidHandle
import Derived.LaidSub
import Derived.Shelf.Vars
set_option maxHeartbeats 64000000
set_option linter.unusedSimpArgs false
set_option linter.unusedVariables false
set_option linter.unusedSectionVars false
set_option linter.constructorNameAsVariable false
namespace Go.Txt
open Go Go.Gou Go.RowKit
structure TB (TA : TypeId) (w1 : World) (i : Nat) (vw : Value) (xs : List Ac) (cs : List Value) (wr : World) : Prop where
 mod : Gou.Mod (fun k => w1.heap.size ≤ k) w1 wr
 want : wr.ownsRow w1.heap.size TA 42 vw xs.length cs
 acts : WantIn (fun b => b < w1.heap.size) wr cs xs
 fit : ∀ a ∈ xs, Fit a
 nx : xs.length ≤ i
 nb : (xs.flatMap urb).length ≤ i * 2700000
theorem TB.skip {TA : TypeId} {w1 : World} {i : Nat} {vw : Value} {xs : List Ac} {cs : List Value} {wr w2 : World} (h : TB TA w1 i vw xs cs wr) (hm : Gou.Mod (fun _ => False) wr w2) (k : Nat) (hk : i ≤ k) : TB TA w1 k vw xs cs w2 :=
 ⟨h.mod.trans hm fun _ _ h => h.elim, uac h.want hm fun _ _ h => h, h.acts.mod hm fun _ _ _ h => h, h.fit, Nat.le_trans h.nx hk, Nat.le_trans h.nb (Nat.mul_le_mul_right _ hk)⟩
theorem TB.step {TA : TypeId} {w1 : World} {i : Nat} {vw : Value} {xs : List Ac} {cs : List Value} {wr w4 w5 : World} (h : TB TA w1 i vw xs cs wr) (hm : Gou.Mod (fun _ => False) wr w4) {a : Ac} (hf : Fit a) (hfw : FewOk a)
  {vp vf vb : Value} (hl : LookR (fun b => b < w1.heap.size) wr a.op.look vp vf vb) {o : Obj} {g cap : Nat} (h5 : w5.ownsRow w1.heap.size TA 42 (.slice (some ⟨g, 0, none⟩) (xs.length + 1) cap) (xs.length + 1) (cs ++ (actC a vp vf vb).toList)) (m5 : Gou.Mod (fun k => vw.ownBlock = some k) (w4.alloc o) w5) :
  TB TA w1 (i + 1) (.slice (some ⟨g, 0, none⟩) (xs.length + 1) cap) (xs ++ [a]) (cs ++ (actC a vp vf vb).toList) w5 := by
 have ew := fun k hk => h.want.lt k hk
 have m4a : Gou.Mod (fun k => w1.heap.size ≤ k) w1 (w4.alloc o) := (h.mod.trans hm fun _ _ h => h.elim).trans (Mod.alloc (fun _ => False) _ _) fun _ _ h => h.elim
 have mr5 : Gou.Mod (fun k => vw.ownBlock = some k) wr w5 := ((hm.imp (S' := fun k => vw.ownBlock = some k) fun _ _ h => h.elim).trans' (Mod.alloc _ _ _)).trans' m5
 refine ⟨m4a.trans m5 fun k _ hk => (ew k hk).1, by rw [List.length_append]; exact h5, ?_, fun x hx => ?_, ?_, ?_⟩
 ·refine WantIn.snoc (h.acts.mod mr5 fun k _ hG e => ?_) (hl.mod mr5 fun k _ hG e => ?_)
  ·have := (ew k e).1; omega
  ·have := (ew k e).1; omega
 ·rcases List.mem_append.1 hx with hx | hx
  ·exact h.fit x hx
  ·rw [List.mem_singleton.1 hx]; exact hf
 ·rw [List.length_append]; have := h.nx; simp; omega
 ·have h1 := h.nb
  have h2 := few_line hfw hf
  simp only [List.flatMap_append, List.flatMap_cons, List.flatMap_nil, List.append_nil, List.length_append]
  rw [Nat.add_mul]
  omega
theorem back_get {xs : List Ac} (h : ∀ a ∈ xs, Fit a) : getT (xs.flatMap urb) = (xs, none) := back_law xs 0 h
theorem flat_snoc (xs : List Ac) (x : Ac) : (xs ++ [x]).flatMap urb = xs.flatMap urb ++ urb x := by simp
theorem flat_take {xs : List Ac} {i : Nat} (h : i < xs.length) : (xs.take (i + 1)).flatMap urb = (xs.take i).flatMap urb ++ urb xs[i] := by
 rw [ltS h, flat_snoc]
theorem flat_le (xs : List Ac) (i : Nat) : ((xs.take i).flatMap urb).length ≤ (xs.flatMap urb).length := by
 conv => rhs; rw [← List.take_append_drop i xs]
 rw [List.flatMap_append, List.length_append]
 omega
end Go.Txt
namespace Go.Proofs.YtgolafbneiffpaaGreatDoor
open Go.RowKit Go.Gou Go.Txt
set_option maxRecDepth 100000
theorem textBack_law (w : World) (v1 : Value) (ls : List Ac) (h1 : ActsR w v1 ls) (hw : (∀ a ∈ ls, ActWf a) ∧ ls.length ≤ maxLen) (s : List UInt8) (ht : LT w) :
  Calls Tryz.prog 4 #[v1, .string ⟨s.toArray⟩] w fun e w' => e = .returned (.bool true) ∧ Gou.Mod (fun _ => False) w w' := by
 obtain ⟨pl, cl, rfl, _⟩ := h1.form
 have H1 := hd' h1
 have Hw := hd' hw.1
 have Ht := hd' ht
 have hlm := hw.2
 have hsz : (⟨s.toArray⟩ : ByteArray).size = s.length := by simp [ByteArray.size]
 clear h1 hw ht
 go_enter Tryz.func4, Tryz.ntmps4
 go_wp2_with fail
 refine (uqw w Ht.o).mono ?_
 rintro e w1 ⟨rfl, hm1⟩
 have Hm1 := hd' hm1
 have HT1 := hd' (Ht.o.up0 hm1)
 clear hm1
 by_cases hl1 : ls.length ≤ 30
 case neg =>
  have e1 : decide ((30 : Int) < (ls.length : Int)) = true := dqt (by omega)
  clear hl1
  go_wp2_with fail
  refine (uqw w1 HT1.o).mono ?_
  rintro e w2 ⟨rfl, hm2⟩
  go_wp2_with fail
  go_ret
  exact ⟨rfl, Hm1.o.trans' hm2⟩
 have e1 : decide ((30 : Int) < (ls.length : Int)) = false := dqf (by omega)
 by_cases hl2 : s.length ≤ 3000
 case neg =>
  have e2 : decide ((3000 : Int) < (s.length : Int)) = true := dqt (by omega)
  clear hl2
  go_wp2_with fail
  refine (uqw w1 HT1.o).mono ?_
  rintro e w2 ⟨rfl, hm2⟩
  go_wp2_with fail
  go_ret
  exact ⟨rfl, Hm1.o.trans' hm2⟩
 have e2 : decide ((3000 : Int) < (s.length : Int)) = false := dqf (by omega)
 have HX := hd' (H1.o.mod Hm1.o (fun _ _ h => h))
 have Hsl : Hid (s.length ≤ 3000) := hd' hl2
 have Hsz := hd' hsz
 clear H1 hl2
 go_wp2_with fail
 clear hsz e1 e2
 go_loopw [5, 6, 7] (fun va vw c wr => ∃ (i : Nat) (xs : List Ac) (cs : List Value), va = .string ⟨(xs.flatMap urb).toArray⟩ ∧ c = iV i ∧ i ≤ ls.length ∧ TB 41 w1 i vw xs cs wr) (fun _ _ c _ => ls.length - (intOf c).toNat)
 case atStart => exact ⟨0, [], [], rfl, rfl, by omega, Gou.Mod.refl _ _, World.ownsRow_nil _ _ _ _, WantIn.nil _ _, (fun _ h => by cases h), by simp, by simp⟩
 case round =>
  obtain ⟨i, xs, cs, rfl, rfl, hi, hg⟩ := hrel
  obtain ⟨pw, cw, rfl⟩ := Gou.ownsRow_form hg.want
  have Hg := hd' hg
  have HTr := hd' (HT1.o.up hg.mod (fun k hk h => by have := HT1.o.sz; omega))
  have Hfl : Hid ((xs.flatMap urb).length ≤ 81000000) := hd' (by
   have h1 := hg.nb
   have h3 : i * 2700000 ≤ 30 * 2700000 := Nat.mul_le_mul_right _ (by omega)
   omega)
  clear hg
  by_cases hil : i < ls.length
  ·have e3 : decide ((i : Int) < (ls.length : Int)) = true := dqt (by omega)
   obtain ⟨-, b, o, rfl, hb, hc⟩ := HX.o.act (by omega)
   obtain ⟨p1, k1, p2, k2, p3, k3, hr, hlk⟩ := hc i hil
   have Hwf := hd' (Hw.o _ (lgM hil))
   clear hc
   generalize ls[i] = x at *
   have Hrg : Hid (∀ w' : World, Gou.Mod (fun k => w1.heap.size ≤ k) w1 w' → w'.rangeAt b (o + i * 42) (actC x (.slice p1 x.op.look.content.pix.length k1) (.slice p2 x.op.look.filt.nodes.length k2) (.slice p3 x.op.look.back.nodes.length k3)).toList) := hd' (fun w' hm j v hv => (hm.cell (p := ⟨b, o + i * 42 + j, none⟩) hb (by simp; omega)).trans (hr j v hv))
   have Hlk := hd' ((hlk.imp (G' := fun q => q < w1.heap.size) fun q hq _ => hq).mod Hg.o.mod (fun k _ hG h => by omega))
   have Hrr := hd' (Hrg.o _ Hg.o.mod)
   have hiI : (i : Int) < (ls.length : Int) := by omega
   have hi0I : (0 : Int) ≤ (i : Int) := by omega
   clear hr hlk
   go_wp2_with (first | ((with_reducible refine wpList_load_mid ?g1_3 41 ?x1_3 ?o1_3 b (o + i * 42) ?h1_3 (actC x (.slice p1 x.op.look.content.pix.length k1) (.slice p2 x.op.look.filt.nodes.length k2) (.slice p3 x.op.look.back.nodes.length k3)).toList ?d1_3 ?c1_3 ?u1_3 ?s1_3 ?i1_3 ?r1_3); (case g1_3 => exact rfl); (case o1_3 => exact rfl); (case h1_3 => exact rfl); (case c1_3 => exact Hrr.o); (case u1_3 => exact Tryz.underlying41); (case s1_3 => exact rfl); (case i1_3 => exact size_act.trans (by simp [actC]))) | fail)
   refine (few_any wr _ p1 p2 p3 k1 k2 k3 x Hlk.o).mono ?_
   rintro e w2 ⟨⟨q, rfl, hq⟩, m2⟩
   have M2 := hd' m2
   have Hq := hd' hq
   clear hq m2
   cases q with
   | false =>
    go_wp2_with fail
    go_ret
    exact ⟨rfl, Hm1.o.trans (Hg.o.mod.trans M2.o (fun _ _ h => h.elim)) (fun k hk h => by have := Hm1.o.size; omega)⟩
   | true =>
    have Hfew : Hid (FewOk x) := hd' (Hq.o rfl)
    have Hrr2 := hd' (Hrg.o _ (Hg.o.mod.trans M2.o (fun _ _ h => h.elim)))
    clear Hq
    go_wp2_with (first | ((with_reducible refine wpList_load_mid ?g1_4 41 ?x1_4 ?o1_4 b (o + i * 42) ?h1_4 (actC x (.slice p1 x.op.look.content.pix.length k1) (.slice p2 x.op.look.filt.nodes.length k2) (.slice p3 x.op.look.back.nodes.length k3)).toList ?d1_4 ?c1_4 ?u1_4 ?s1_4 ?i1_4 ?r1_4); (case g1_4 => exact rfl); (case o1_4 => exact rfl); (case h1_4 => exact rfl); (case c1_4 => exact Hrr2.o); (case u1_4 => exact Tryz.underlying41); (case s1_4 => exact rfl); (case i1_4 => exact size_act.trans (by simp [actC]))) | fail)
    refine (tput_any w2 p1 p2 p3 k1 k2 k3 x (HTr.o.up0 M2.o) ((Hlk.o.mod M2.o (fun _ _ _ h => h)).imp fun _ _ _ => trivial) Hfew.o.borne Hwf.o.small).mono ?_
    rintro e w3 ⟨m3, hp⟩
    have M3 := hd' (M2.o.trans' m3)
    clear m3
    rcases hpo : putT x with _ | es
    ·rw [hpo] at hp
     subst hp
     have Hnext := hd' (Hg.o.skip M3.o (i + 1) (by omega))
     clear hpo
     obtain ⟨SA, hSA⟩ : ∃ SA, SA = (⟨(xs.flatMap urb).toArray⟩ : ByteArray) := ⟨_, rfl⟩
     rw [← hSA]
     have HSA := hd' hSA
     clear hSA
     go_wp2_with fail
     go_roundw
     case rel => exact ⟨i + 1, xs, cs, by rw [HSA.o], by go_num, by omega, Hnext.o⟩
     case measure => simp [intOf]; omega
    rw [hpo] at hp
    obtain ⟨hfit, rfl⟩ := putT_some Hwf.o.small hpo
    subst hp
    have Hfit := hd' hfit
    have Hrr3 := hd' (Hrg.o _ (Hg.o.mod.trans M3.o (fun _ _ h => h.elim)))
    have Hwant : Hid (w3.ownsRow w1.heap.size 41 42 (.slice pw xs.length cw) xs.length cs) := hd' (uac Hg.o.want M3.o (fun _ _ h => h))
    have Hnx : Hid (xs.length ≤ 100000000) := hd' (by have := Hg.o.nx; omega)
    have Hbas2 : Hid (w1.heap.size ≤ (w3.alloc (.cells (actC x (.slice p1 x.op.look.content.pix.length k1) (.slice p2 x.op.look.filt.nodes.length k2) (.slice p3 x.op.look.back.nodes.length k3)) 41)).heap.size) := hd' (by rw [World.size_alloc]; have := Hg.o.mod.size; have := M3.o.size; omega)
    have hX : (⟨(xs.flatMap urb).toArray⟩ : ByteArray) ++ ⟨(urb x).toArray⟩ = ⟨((xs ++ [x]).flatMap urb).toArray⟩ := by rw [flat_snoc]; exact urr _ _
    have HX2 : Hid ((⟨((xs ++ [x]).flatMap urb).toArray⟩ : ByteArray) = ⟨((xs ++ [x]).flatMap urb).toArray⟩) := hd' rfl
    have hzA : (⟨(xs.flatMap urb).toArray⟩ : ByteArray).size = (xs.flatMap urb).length := by simp [ByteArray.size]
    have hzL : (⟨(urb x).toArray⟩ : ByteArray).size = (urb x).length := by simp [ByteArray.size]
    have hn : ¬ 9223372036854775807 < (xs.flatMap urb).length + (urb x).length := by have := Hfl.o; have := few_line Hfew.o hfit; omega
    clear hpo hfit
    generalize (urb x).length = nL at *
    generalize (xs.flatMap urb).length = nA at *
    generalize (⟨(xs.flatMap urb).toArray⟩ : ByteArray) = SA at *
    generalize (⟨(urb x).toArray⟩ : ByteArray) = SL at *
    obtain ⟨SB, hSB⟩ : ∃ SB, SB = (⟨((xs ++ [x]).flatMap urb).toArray⟩ : ByteArray) := ⟨_, rfl⟩
    rw [← hSB] at hX
    have HSB := hd' hSB
    clear hSB HX2
    go_wp2_with (first | ((with_reducible refine wpList_load_mid ?g1_5 41 ?x1_5 ?o1_5 b (o + i * 42) ?h1_5 (actC x (.slice p1 x.op.look.content.pix.length k1) (.slice p2 x.op.look.filt.nodes.length k2) (.slice p3 x.op.look.back.nodes.length k3)).toList ?d1_5 ?c1_5 ?u1_5 ?s1_5 ?i1_5 ?r1_5); (case g1_5 => exact rfl); (case o1_5 => exact rfl); (case h1_5 => exact rfl); (case c1_5 => exact Hrr3.o); (case u1_5 => exact Tryz.underlying41); (case s1_5 => exact rfl); (case i1_5 => exact size_act.trans (by simp [actC]))) | ((with_reducible refine upi ?g1_1 ?x1_1 ?o1_1 x p1 p2 p3 x.op.look.content.pix.length x.op.look.filt.nodes.length x.op.look.back.nodes.length k1 k2 k3 ?h1_1 ?r1_1); (case g1_1 => exact rfl); (case o1_1 => exact rfl); (case h1_1 => exact rfl)) | ((with_reducible refine uo3 ?g1_2 ?s1_2 ?x1_2 ?o1_2 w1.heap.size (.slice pw xs.length cw) xs.length cs w3.heap.size x p1 p2 p3 x.op.look.content.pix.length x.op.look.filt.nodes.length x.op.look.back.nodes.length k1 k2 k3 ?a1_2 ?b1_2 ?d1_2 ?e1_2 ?f1_2 ?q1_2 ?r1_2); (case g1_2 => exact rfl); (case o1_2 => exact rfl); (case a1_2 => exact rfl); (case b1_2 => exact rfl); (case d1_2 => exact Hwant.o.alloc _); (case e1_2 => exact heap_alloc_new w3 _); (case f1_2 => exact Hnx.o); (case q1_2 => exact Hbas2.o); (intro gg cap w5 hown5 m5 f5)) | fail)
    have Hnext := hd' (Hg.o.step M3.o Hfit.o Hfew.o Hlk.o hown5 m5)
    clear hown5 m5 f5
    go_wp2_with fail
    go_roundw
    case rel => exact ⟨i + 1, xs ++ [x], _, by rw [HSB.o], by go_num, by omega, Hnext.o⟩
    case measure => simp [intOf]; omega
  ·obtain rfl : i = ls.length := by omega
   have e3 : decide ((ls.length : Int) < (ls.length : Int)) = false := dqf (by omega)
   have hget := upm wr (xs.flatMap urb) (by have := Hfl.o; omega) HTr.o
   rw [back_get Hg.o.fit] at hget
   have Hget : Hid (Calls Tryz.prog 11 #[.string ⟨(xs.flatMap urb).toArray⟩] wr (TGetP wr (xs, none))) := hd' hget
   clear hget
   generalize (⟨(xs.flatMap urb).toArray⟩ : ByteArray) = SA at *
   go_wp2_with fail
   refine Hget.o.mono ?_
   rintro e w2 ⟨hm2, py, cy, rfl, hA⟩
   have HY : Hid (ActsR w2 (.slice py xs.length cy) xs) := hd' hA
   have HW2 := hd' ((Hg.o.acts.toR Hg.o.want).mod hm2 (fun _ _ h => h))
   have M2 : Hid (Gou.Mod (fun k => w1.heap.size ≤ k) w1 w2) := hd' (Hg.o.mod.trans hm2 (fun _ _ h => h.elim))
   have Hbor : Hid (∀ a ∈ xs, LookBorne a.op.look) := hd' (fun a ha => (Hg.o.fit a ha).born)
   have Hyl : Hid (xs.length ≤ 1000000000) := hd' (by have := Hg.o.nx; omega)
   have HT2 := hd' (HTr.o.up0 hm2)
   clear hA hm2 Hget
   go_wp2_with fail
   refine (upy w2 py pw cy cw xs xs HY.o HW2.o Hbor.o Hbor.o Hyl.o Hyl.o).mono ?_
   rintro e w3 ⟨rfl, hm3⟩
   rw [show decide (xs = xs) = true from dqt rfl]
   have M3 : Hid (Gou.Mod (fun k => w1.heap.size ≤ k) w1 w3) := hd' (M2.o.trans hm3 (fun _ _ h => h.elim))
   have HT3 := hd' (HT2.o.up0 hm3)
   clear hm3
   go_wp2_with fail
   have hgs : Calls Tryz.prog 11 #[.string ⟨s.toArray⟩] w3 (fun e w'' => Gou.Mod (fun _ => False) w3 w'' ∧ ∃ p c n1 n2, e = .returned (.tuple #[.slice p (getT s).1.length c, iV n1, iV n2]) ∧ ActsR w'' (.slice p (getT s).1.length c) (getT s).1) :=
    (upm w3 s (by have := Hsl.o; omega) HT3.o).mono fun e w'' ⟨h1, p, c, h2, h3⟩ => ⟨h1, p, c, _, _, h2, h3⟩
   refine hgs.mono ?_
   clear hgs
   rintro e w4 ⟨hm4, pm, cm, n1, n2, rfl, hA⟩
   have M4 : Hid (Gou.Mod (fun k => w1.heap.size ≤ k) w1 w4) := hd' (M3.o.trans hm4 (fun _ _ h => h.elim))
   have HT4 := hd' (HT3.o.up0 hm4)
   have Hfit : Hid (∀ a ∈ (getT s).1, Fit a) := hd' (uuj 0 (uko s))
   have Hbl := hd' (back_len s)
   have Hml := hd' (get_few (s := s) (by have := Hsl.o; omega)).1
   have HA := hd' hA
   clear hA hm4
   generalize getT s = R at *
   obtain ⟨ms, o⟩ := R
   have HMs : Hid (ActsR w4 (.slice pm ms.length cm) ms) := HA
   have Hfit : Hid (∀ a ∈ ms, Fit a) := Hfit
   have Hbl : Hid ((ms.flatMap urb).length ≤ 900000) := hd' (by
    have h1 : (ms.flatMap urb).length ≤ 274 * s.length + 261 := Hbl.o
    have := Hsl.o
    omega)
   have Hml : Hid (ms.length ≤ 1000000000) := Hml
   clear HA
   generalize (⟨s.toArray⟩ : ByteArray) = S at *
   go_wp2_with fail
   go_loopw [16, 17] (fun vk c wq => ∃ (i : Nat), c = iV i ∧ i ≤ ms.length ∧ vk = .string ⟨((ms.take i).flatMap urb).toArray⟩ ∧ Gou.Mod (fun _ => False) w4 wq) (fun _ c _ => ms.length - (intOf c).toNat)
   case atStart => exact ⟨0, rfl, by omega, rfl, Gou.Mod.refl _ _⟩
   case round =>
    obtain ⟨i, rfl, hi2, rfl, hmq⟩ := hrel
    have Hmq := hd' hmq
    have HMs2 := hd' (HMs.o.mod hmq (fun k hk h => h))
    have HTq := hd' (HT4.o.up0 hmq)
    have Hfl := hd' (flat_le ms i)
    clear hmq
    by_cases hil : i < ms.length
    ·have f3 : decide ((i : Int) < (ms.length : Int)) = true := dqt (by omega)
     obtain ⟨-, b, o, rfl, hb, hc⟩ := HMs2.o.act (by omega)
     obtain ⟨p1, k1, p2, k2, p3, k3, hrg, hlk⟩ := hc i hil
     have Hx := hd' (Hfit.o _ (lgM hil))
     have HX := hd' (flat_take hil)
     have HF2 := hd' (flat_le ms (i + 1))
     clear hc
     generalize ms[i] = x at *
     have Hrg := hd' hrg
     have Hlk := hd' hlk
     have hiI : (i : Int) < (ms.length : Int) := by omega
     have hi0I : (0 : Int) ≤ (i : Int) := by omega
     have hX : (⟨((ms.take i).flatMap urb).toArray⟩ : ByteArray) ++ ⟨(urb x).toArray⟩ = ⟨((ms.take (i + 1)).flatMap urb).toArray⟩ := by rw [HX.o]; exact urr _ _
     have hzA : (⟨((ms.take i).flatMap urb).toArray⟩ : ByteArray).size = ((ms.take i).flatMap urb).length := by simp [ByteArray.size]
     have hzL : (⟨(urb x).toArray⟩ : ByteArray).size = (urb x).length := by simp [ByteArray.size]
     have hn : ¬ 9223372036854775807 < ((ms.take i).flatMap urb).length + (urb x).length := by
      have h1 := HF2.o
      rw [HX.o, List.length_append] at h1
      have := Hbl.o
      omega
     have hput := tput_any wr p1 p2 p3 k1 k2 k3 x HTq.o (Hlk.o.imp fun _ _ _ => trivial) Hx.o.born Hx.o.small
     rw [putT_fit Hx.o] at hput
     have Hput : Hid (Calls Tryz.prog 9 #[.agg (actC x (.slice p1 x.op.look.content.pix.length k1) (.slice p2 x.op.look.filt.nodes.length k2) (.slice p3 x.op.look.back.nodes.length k3))] wr (fun e w' => Gou.Mod (fun _ => False) wr w' ∧ e = .returned (.tuple #[.string ⟨(urb x).toArray⟩, iV 0]))) := hd' hput
     clear hrg hlk hput HF2 HX
     generalize (urb x).length = nL at *
     generalize ((ms.take i).flatMap urb).length = nA at *
     generalize (⟨(urb x).toArray⟩ : ByteArray) = SL at *
     obtain ⟨SB, hSB⟩ : ∃ SB, SB = (⟨((ms.take (i + 1)).flatMap urb).toArray⟩ : ByteArray) := ⟨_, rfl⟩
     rw [← hSB] at hX
     have HSB := hd' hSB
     clear hSB
     generalize (⟨((ms.take i).flatMap urb).toArray⟩ : ByteArray) = SK at *
     go_wp2_with (first | ((with_reducible refine wpList_load_mid ?g1_6 41 ?x1_6 ?o1_6 b (o + i * 42) ?h1_6 (actC x (.slice p1 x.op.look.content.pix.length k1) (.slice p2 x.op.look.filt.nodes.length k2) (.slice p3 x.op.look.back.nodes.length k3)).toList ?d1_6 ?c1_6 ?u1_6 ?s1_6 ?i1_6 ?r1_6); (case g1_6 => exact rfl); (case o1_6 => exact rfl); (case h1_6 => exact rfl); (case c1_6 => exact Hrg.o); (case u1_6 => exact Tryz.underlying41); (case s1_6 => exact rfl); (case i1_6 => exact size_act.trans (by simp [actC]))) | fail)
     have hml := Hml.o
     refine Hput.o.mono ?_
     rintro e w5 ⟨m5, rfl⟩
     have M5 := hd' (Hmq.o.trans' m5)
     clear m5
     go_wp2_with fail
     go_roundw
     case rel => exact ⟨i + 1, by go_num, by omega, by rw [HSB.o], M5.o⟩
     case measure => simp [intOf]; omega
    ·obtain rfl : i = ms.length := by omega
     have f3 : decide ((ms.length : Int) < (ms.length : Int)) = false := dqf (by omega)
     have hget := upm wr (ms.flatMap urb) (by have := Hbl.o; omega) HTq.o
     rw [back_get Hfit.o] at hget
     have Hget : Hid (Calls Tryz.prog 11 #[.string ⟨(ms.flatMap urb).toArray⟩] wr (TGetP wr (ms, none))) := hd' hget
     have Hend : Hid (Gou.Mod (fun _ => False) w wr) := hd' (Hm1.o.trans (M4.o.trans Hmq.o (fun k hk h => h.elim)) (fun k hk h => by have := Hm1.o.size; omega))
     have Hbo2 : Hid (∀ a ∈ ms, LookBorne a.op.look) := hd' (fun a ha => (Hfit.o a ha).born)
     clear hget
     rw [List.take_length]
     generalize (⟨(ms.flatMap urb).toArray⟩ : ByteArray) = SK at *
     go_wp2_with fail
     refine Hget.o.mono ?_
     rintro e w6 ⟨hm6, pz, cz, rfl, hA⟩
     have HZ : Hid (ActsR w6 (.slice pz ms.length cz) ms) := hd' hA
     have HM6 := hd' (HMs2.o.mod hm6 (fun k hk h => h))
     have Hend6 := hd' (Hend.o.trans' hm6)
     clear hA hm6 Hget
     go_wp2_with fail
     refine (upy w6 pz pm cz cm ms ms HZ.o HM6.o Hbo2.o Hbo2.o Hml.o Hml.o).mono ?_
     rintro e w7 ⟨rfl, hm7⟩
     rw [show decide (ms = ms) = true from dqt rfl]
     have Hend7 := hd' (Hend6.o.trans' hm7)
     clear hm7
     go_wp2_with fail
     go_ret
     exact ⟨rfl, Hend7.o⟩
end Go.Proofs.YtgolafbneiffpaaGreatDoor
namespace Go.Gou
open Go.RowKit Go.ChangeShapes
theorem usx {α β : Type} {f : α → Option β} : ∀ {l : List α} {r : List β}, l.mapM f = some r → r.length = l.length
 | [], r, h => by simp at h; subst h; rfl
 | a :: l, r, h => by
  simp only [List.mapM_cons, Option.bind_eq_bind, Option.pure_def, Option.bind_eq_some_iff, Option.some.injEq] at h
  obtain ⟨b, _, rs, hr, rfl⟩ := h
  simp [usx hr]
theorem uu8 {α β : Type} {f : α → Option β} : ∀ {l : List α} {r : List β}, l.mapM f = some r → ∀ (i : Nat) a, l[i]? = some a → ∃ b, r[i]? = some b ∧ f a = some b
 | [], r, h, i, a, ha => by simp at ha
 | x :: l, r, h, i, a, ha => by
  simp only [List.mapM_cons, Option.bind_eq_bind, Option.pure_def, Option.bind_eq_some_iff, Option.some.injEq] at h
  obtain ⟨b, hb, rs, hr, rfl⟩ := h
  cases i with
  | zero => simp at ha; subst ha; exact ⟨b, rfl, hb⟩
  | succ i => exact uu8 hr i a (by simpa using ha)
theorem ut1 {H : Type} {enc : TypeId × Value → H} {P : Program} {w : World} {base : Nat} {sp : Nat → Bool} {held : Bool} {fuel : Nat} {t e : TypeId} {n : Nat} {cs : List Value} {zs : List (List UInt8)} {p : List MemPlace}
  (ht : P.underlying t = some (.array n e)) (he : P.underlying e = some .string) (hce : P.cellsOf e = 1) (hct : P.cellsOf t = n)
  (h : DataW.trod enc P w base sp held fuel t cs = some (.agg (zs.map fun z => .lit (.string z)), p)) : cs = zs.map fun z => Value.string ⟨z.toArray⟩ := by
 cases fuel with
 | zero => simp [DataW.trod] at h
 | succ fuel =>
  simp only [DataW.trod, ht, hce, hct, Nat.mul_one] at h
  split at h
  ·rename_i hl
   obtain ⟨xs, hm, hx⟩ := Option.map_eq_some_iff.1 h
   have hxs : xs.map (·.1) = zs.map fun z => (DataW.lit (.string z) : DataW H) := by
    have := congrArg Prod.fst hx
    simpa using this
   have hxl : xs.length = n := by simpa using usx hm
   have hzl : zs.length = n := by
    have := congrArg List.length hxs
    simp at this
    omega
   apply List.ext_getElem?
   intro i
   by_cases hi : i < n
   ·obtain ⟨b, hb, hf⟩ := uu8 hm i i (by simp [hi])
    obtain ⟨z, hc, rfl, _⟩ := DataW.trod_string he hf
    have h1 : cs[i]? = some (.string z) := by
     have := congrArg (·[0]?) hc
     simpa [List.getElem?_take, List.getElem?_drop] using this
    have h2 : (xs.map (·.1))[i]? = some (DataW.lit (.string z.data.toList) : DataW H) := by simp [hb]
    rw [hxs] at h2
    simp only [List.getElem?_map, Option.map_eq_some_iff, DataW.lit.injEq, Lit.string.injEq] at h2
    obtain ⟨z', hz', hzz⟩ := h2
    rw [h1, List.getElem?_map, hz', Option.map_some, hzz]
   ·rw [List.getElem?_eq_none (by omega), List.getElem?_eq_none (by simp; omega)]
  ·cases h
theorem uvd {H : Type} {enc : TypeId × Value → H} {P : Program} {w : World} {base : Nat} {sp : Nat → Bool} {held : Bool} {fuel : Nat} {t : TypeId} {d : TypeDesc} {cs : List Value} {nm : String} {x : DataW H} {p : List MemPlace}
  (ht : P.underlying t = some d) (hd : (match d with | .interface _ => true | _ => false) = true) (h : DataW.trod enc P w base sp held fuel t cs = some (.iface nm x, p)) : ∃ tp v, cs = [.iface tp v] := by
 cases fuel with
 | zero => simp [DataW.trod] at h
 | succ fuel =>
  cases d <;> simp at hd
  simp only [DataW.trod, ht] at h
  split at h <;> first | exact ⟨_, _, rfl⟩ | (simp at h; done) | simp_all
  all_goals (repeat' split at h) <;> simp_all
end Go.Gou
namespace Go.Proofs.YtgolafbneiffpaaGreatDoor
open Go.RowKit Go.Gou Go.Txt
set_option maxRecDepth 100000
theorem gK : Tryz.prog.globalNamed "gouache/text.kinds" = some 1 := by kernel_rfl
theorem tK : (Tryz.prog.globals[1]?).map (·.type) = some 159 := by kernel_rfl
theorem tS : (Tryz.prog.globals[6]?).map (·.type) = some 102 := by kernel_rfl
theorem tR : (Tryz.prog.globals[7]?).map (·.type) = some 102 := by kernel_rfl
theorem tP : (Tryz.prog.globals[5]?).map (·.type) = some 208 := by kernel_rfl
theorem lt_of {W : World} (h : laidMetH Tryz.prog Rows.textBlankRow.laid W) (hs : W.ShapedOpen Tryz.prog) : LT W := by
 have hk : laidMet Tryz.prog [("gouache/text.kinds", Rows.laid_gouache_text_kinds)] W := laidMetH.filter (fun x => x.1 == "gouache/text.kinds") h
 have hS : laidMet Tryz.prog [("strconv.ErrSyntax", Rows.laid_strconv_ErrSyntax)] W := laidMetH.filter (fun x => x.1 == "strconv.ErrSyntax") h
 have hR : laidMet Tryz.prog [("strconv.ErrRange", Rows.laid_strconv_ErrRange)] W := laidMetH.filter (fun x => x.1 == "strconv.ErrRange") h
 have hP : laidMet Tryz.prog [("internal/strconv.uint64pow10", Rows.laid_internal_strconv_uint64pow10)] W := laidMetH.filter (fun x => x.1 == "internal/strconv.uint64pow10") h
 have hpow : Lib.TabIs Tryz.prog W "internal/strconv.uint64pow10" .u64 Lib.pow10Tab := Lib.tabIs_of_head g5 tP Tryz.underlying208 Tryz.underlying194 (by kernel_rfl) (by kernel_rfl) hP
 obtain ⟨gk, tk', ck, fk, pk, e1, e2, e3, e4⟩ := Lib.laidMet.reads hk (List.mem_singleton.2 rfl)
 obtain rfl := Option.some.inj (gK.symm.trans e1)
 obtain rfl := Option.some.inj (tK.symm.trans e2)
 have hcs := ut1 (zs := kindsL) Tryz.underlying159 Tryz.underlying9 (by kernel_rfl) (by kernel_rfl) e4
 obtain ⟨gs, ts, cS, fs, pS, s1, s2, s3, s4⟩ := Lib.laidMet.reads hS (List.mem_singleton.2 rfl)
 obtain rfl := Option.some.inj (g6.symm.trans s1)
 obtain rfl := Option.some.inj (tS.symm.trans s2)
 obtain ⟨tpS, vS, hcS⟩ := uvd Tryz.underlying102 rfl s4
 obtain ⟨gr, tr, cR, fr, pR, r1, r2, r3, r4⟩ := Lib.laidMet.reads hR (List.mem_singleton.2 rfl)
 obtain rfl := Option.some.inj (g7.symm.trans r1)
 obtain rfl := Option.some.inj (tR.symm.trans r2)
 obtain ⟨tpR, vR, hcR⟩ := uvd Tryz.underlying102 rfl r4
 have hmx : ∃ m, W.cell? ⟨2, 0, none⟩ = some (iV m) := Go.Proofs.cell_of_shapedOpen_int hs (t := 3) (zero := #[iV 0]) (of_decide_eq_true (by kernel_rfl)) (by kernel_rfl) (by kernel_rfl) (by kernel_rfl) (by kernel_rfl) Tryz.underlying3
 refine ⟨?_, hpow, ⟨tpS, vS, ?_⟩, ⟨tpR, vR, ?_⟩, fun i hi => ?_, hmx⟩
 ·obtain ⟨cs, hh, hsz, _⟩ := hs.1 9 (((Go.begin Tryz.prog (fun _ _ => 0) default).world.heap[9]?).bind Obj.row? |>.getD (#[], 0)).1 (((Go.begin Tryz.prog (fun _ _ => 0) default).world.heap[9]?).bind Obj.row? |>.getD (#[], 0)).2 (of_decide_eq_true (by kernel_rfl)) (by kernel_rfl)
  rcases Nat.lt_or_ge 9 W.heap.size with h9 | h9
  ·exact h9
  ·rw [Array.getElem?_eq_none h9] at hh
   cases hh
 ·rw [s3]
  exact congrArg some (by cases cS; simpa using hcS)
 ·rw [r3]
  exact congrArg some (by cases cR; simpa using hcR)
 ·have := World.var?_cell gK e3 i
  have hl : i < kindsL.length := hi
  rw [this, ← agT, hcs, List.getElem?_map, lgE hl]
  simp [List.getD, hl]
end Go.Proofs.YtgolafbneiffpaaGreatDoor
