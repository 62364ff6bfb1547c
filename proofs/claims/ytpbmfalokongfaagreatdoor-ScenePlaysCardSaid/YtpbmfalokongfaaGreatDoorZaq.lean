/- Texts of the scenes' proofs, laid together: SeV, SeW, Ply23. -/
import Derived.Test.YtpbmfalokongfaaGreatDoorZan
import Derived.Test.YtpbmfalokongfaaGreatDoorZap
import Derived.Test.YtpbmfalokongfaaGreatDoorZaj
import Derived.Test.YtpbmfalokongfaaGreatDoorZab
import Derived.Deep.Cut
import Derived.Deep.CutBlock
import Derived.Deep.CutRange
set_option maxHeartbeats 64000000
set_option linter.unusedSimpArgs false
set_option linter.unusedVariables false
set_option linter.unusedSectionVars false
set_option linter.constructorNameAsVariable false
namespace Go.Gou
open Go.RowKit
theorem OpsR.one {w : World} {N : Nat} {T : TypeId} {q : Opr} {vp vf vb : Value} (hb : Blk w N T (oprC q vp vf vb)) (hl : LookR (fun _ => True) w q.look vp vf vb) : OpsR w (.slice (some ⟨N, 0, none⟩) 1 1) [q] :=
 ⟨some ⟨N, 0, none⟩, 1, rfl, Nat.le_refl _, .inr ⟨N, 0, rfl, hb.lt, fun i hi => by
  obtain rfl : i = 0 := by simpa using hi
  exact ⟨vp, vf, vb, fun j u hu => by simpa using hb.cell j hu, hl⟩⟩⟩
end Go.Gou
namespace Go.Proofs.YtpbmfalokongfaaGreatDoor
open Go.RowKit Go.Gou
set_option maxRecDepth 100000
theorem SnR.one {G : Nat → Prop} {w : World} {c : Array Value} {T : Sn} (h : SnR G w (.agg c) T) : c.all (·.oneCell') = true ∧ c.size = 33 := by
 obtain ⟨vg, vl, vp, vf, vb, vk, e, h1, h2⟩ := h
 obtain rfl := Value.agg.inj e
 obtain ⟨⟨_, _, rfl⟩, ⟨_, _, rfl⟩⟩ := h1.reads.forms
 exact ⟨ubf rfl rfl (LyR.one h2), rfl⟩
theorem SnR.agg {G : Nat → Prop} {w : World} {v : Value} {T : Sn} (h : SnR G w v T) : ∃ c : Array Value, v = .agg c := by
 obtain ⟨vg, vl, vp, vf, vb, vk, e, _⟩ := h
 exact ⟨_, e⟩
theorem size_c {c : Array Value} (h : c.size = 33) : (Tryz.prog.info? 47).map (·.size) = some c.toList.length := by rw [Array.length_toList, h]; exact uah
theorem size_d {c : Array Value} (h : c.size = 33) : (Tryz.prog.info? 47).map (·.size) = some c.size := by rw [h]; exact uah
theorem al_sc {op : Oper} {a : Act} {w : World} {K : Act → World → Prop} {Q : Exit → Act → World → Prop} (ho : op.op = .alloc 47) (h : ∀ W', Blk W' w.heap.size 47 scZ → Gou.Mod (fun _ => False) w W' → K (a.put op.dst (.pointer (some ⟨w.heap.size, 0, none⟩))) W') : op.wp Tryz.prog a w K Q := by
 unfold Oper.wp execOp
 simp only [ho]
 go_simp
 exact h _ (Blk.new w 47 scZ) (Gou.Mod.alloc0 _ _)
theorem al_id {op : Oper} {a : Act} {w : World} {K : Act → World → Prop} {Q : Exit → Act → World → Prop} (ho : op.op = .alloc 30) (h : ∀ W', Blk W' w.heap.size 30 iiZ → Gou.Mod (fun _ => False) w W' → K (a.put op.dst (.pointer (some ⟨w.heap.size, 0, none⟩))) W') : op.wp Tryz.prog a w K Q := by
 unfold Oper.wp execOp
 simp only [ho]
 go_simp
 exact h _ (Blk.new w 30 iiZ) (Gou.Mod.alloc0 _ _)
theorem scenePlays_law (w : World) (v : Value) (xs : List Opr) (h : OpsR w v xs) (hwf : (∀ a ∈ xs, LkWf a.look) ∧ xs.length ≤ maxLen) (ht : Tabs w) :
 Calls Tryz.prog 3 #[v] w fun e w' => e = .returned (.bool true) ∧ Gou.Mod (fun _ => False) w w' := by
 obtain ⟨p, cap, rfl, _, _⟩ := id h
 have Hwf := hd' hwf.1
 have Hl := hd' hwf.2
 have Ht := hd' ht
 have HM := hd' (Gou.Mod.refl (fun _ => False) w)
 have Hh := hd' h
 have H0 := hd' h
 clear h hwf ht
 go_enter Tryz.func3, Tryz.ntmps3
 go_wp2_with fail
 refine (ue9 _).mono ?_
 rintro e w1 ⟨rfl, hm⟩
 replace HM := hd' (HM.o.trans' hm)
 replace Hh := hd' (Hh.o.up hm)
 clear hm
 go_wp2_with fail
 refine (ug9 _ _ xs Hh.o Hwf.o Hl.o).mono ?_
 rintro e w2 ⟨rfl, hm⟩
 replace HM := hd' (HM.o.trans' hm)
 replace Hh := hd' (Hh.o.up hm)
 clear hm
 cases hfew : fewO xs
 ·clear hfew
  go_wp2_with fail
  refine (ue9 _).mono ?_
  rintro e w3 ⟨rfl, hm⟩
  replace HM := hd' (HM.o.trans' hm)
  clear hm
  go_wp2_with fail
  go_ret
  exact ⟨rfl, HM.o⟩
 have Hfit := hd' (ue2 hfew)
 clear hfew
 go_upto_region 3 with fail
 go_wp2_with fail
 refine (new_any _).mono ?_
 rintro e w3 ⟨v3, rfl, hs3, hm⟩
 replace HM := hd' (HM.o.trans' hm)
 clear hm
 obtain ⟨vg, vl, vp, vf, vb, vk, F, rfl, ha, hly⟩ := hs3
 have Hone := hd' (ueg ha hly)
 have HQ : Hid (SnR (fun _ => True) w3 (.agg (scA vg vl Sn.new.root.id Sn.new.root.look vp vf vb vk)) Sn.new) := hd' (SnR.imp (SnO.reads ⟨_, _, _, _, _, _, F, rfl, ha, hly⟩) (fun _ _ _ => trivial))
 clear ha hly
 go_upto_region 4 with (first | ((with_reducible refine sT 47 ?_); refine stA (scA vg vl Sn.new.root.id Sn.new.root.look vp vf vb vk) ((Blk.new w3 47 scZ).there 0 33 (by simp [scA, lyA, uai])) uah Hone.o (h := ?_)) | fail)
 have HQ4 : Hid (SnR (fun k => k < w3.heap.size) w3 (.agg (scA vg vl Sn.new.root.id Sn.new.root.look vp vf vb vk)) Sn.new) := hd' (HQ.o.imp (fun k hk _ => hk))
 refine newB rfl (fun W4 hb hm => ?_)
 have HA := hd' hb
 replace HQ := hd' (HQ4.o.mod hm (fun _ _ _ h => h))
 have HM3 := hd' HM.o
 replace HM := hd' (HM.o.trans' hm)
 have HA0 : Hid (w.heap.size ≤ w3.heap.size) := hd' (Nat.le_trans HM3.o.size (Nat.le_refl _))
 clear hb hm Hone HQ4 HM3
 generalize w3.heap.size = A at *
 obtain ⟨cA, hcA⟩ : ∃ c, c = scA vg vl Sn.new.root.id Sn.new.root.look vp vf vb vk := ⟨_, rfl⟩
 rw [← hcA] at HA HQ
 clear hcA
 have HAlt : Hid (A < W4.heap.size) := hd' HA.o.lt
 go_wp2_with fail
 refine (ujj _).mono ?_
 rintro e w5 ⟨v5, rfl, hs5, hm⟩
 replace HM := hd' (HM.o.trans' hm)
 replace HA := hd' (HA.o.up hm)
 replace HQ := hd' (HQ.o.mod hm (fun _ _ _ h => h))
 replace hs5 : SnR (fun b => W4.heap.size ≤ b) w5 v5 Sn.new := hs5
 obtain ⟨c5, rfl⟩ := SnR.agg hs5
 have HP : Hid (SnR (fun k => W4.heap.size ≤ k ∧ k < w5.heap.size) w5 (.agg c5) Sn.new) := hd' (hs5.imp (fun k hk hg => ⟨hg, hk⟩))
 have HA4 : Hid (A < W4.heap.size) := hd' HAlt.o
 clear hs5 hm HAlt
 go_upto_region 5 with (first | ((with_reducible refine sT 47 ?_); refine stA c5 ((Blk.new w5 47 scZ).there 0 33 (by simp [scA])) uah (SnR.one HP.o).1 (hn := (SnR.one HP.o).2) (h := ?_)) | fail)
 refine newB (SnR.one HP.o).2.symm (fun W6 hb hm => ?_)
 have HB := hd' hb
 have HAB : Hid (A < w5.heap.size) := hd' HA.o.lt
 have HQ6 : Hid (SnR (fun k => k ≠ A ∧ k ≠ w5.heap.size) W6 (.agg cA) Sn.new) := hd' ((HQ.o.mod hm (fun _ _ _ h => h)).imp (fun k hk hg => by have := HAB.o; omega))
 have HP6 : Hid (SnR (fun k => k ≠ A ∧ k ≠ w5.heap.size) W6 (.agg c5) Sn.new) := hd' ((HP.o.mod hm (fun _ _ _ h => h)).imp (fun k hk hg => by have := HA4.o; omega))
 replace HA := hd' (HA.o.up hm)
 replace HM := hd' (HM.o.trans' hm)
 clear hb hm HQ HP HA4
 generalize w5.heap.size = B at *
 go_wp2_with fail
 go_loopw [5] (fun vi wr => ∃ j : Nat, vi = iV j ∧ j ≤ xs.length ∧ (∃ cA, Blk wr A 47 cA ∧ SnR (fun k => k ≠ A ∧ k ≠ B) wr (.agg cA) (udz checkS (xs.take j))) ∧ (∃ cB, Blk wr B 47 cB ∧ SnR (fun k => k ≠ A ∧ k ≠ B) wr (.agg cB) (udz checkS (xs.take j))) ∧ Gou.Mod (fun _ => False) w wr) (fun vi _ => xs.length - (intOf vi).toNat)
 case atStart => exact ⟨0, rfl, Nat.zero_le _, ⟨_, HA.o, HQ6.o⟩, ⟨_, HB.o, HP6.o⟩, HM.o⟩
 case round =>
  obtain ⟨j, rfl, hj, ⟨cA, hA, hQ⟩, ⟨cB, hB, hP⟩, hm⟩ := hrel
  have HM := hd' hm
  have HA := hd' hA
  have HAq := hd' hQ
  have HB := hd' hB
  have HBq := hd' hP
  clear hm hA hQ hB hP HQ6 HP6
  by_cases hil : j < xs.length
  ·have e0 : decide ((j : Int) < (xs.length : Int)) = true := dqt (by omega)
   obtain ⟨q, hq⟩ : ∃ q, xs[j]? = some q := ⟨_, lgE hil⟩
   have Hqm := hd' (lmG hq)
   have Hsnoc := hd' (ufj checkS hq)
   obtain ⟨b, o, vp0, vf0, vb0, rfl, hbw, hrg, hlk⟩ := H0.o.at_ hq
   have HOr := hd' (rup hrg HM.o (fun h => h))
   have Hlk := hd' ((LookR.imp (G' := fun k => k < w.heap.size) hlk (fun k hk _ => hk)).mod HM.o (fun _ _ _ h => h))
   have Hpl := hd' (uf3 checkS (fun o ho => (Hfit.o.2 o ho).1) j hj)
   have Hjn : Hid (j ≤ 100) := hd' (by have := Hfit.o.1; omega)
   obtain ⟨S, hS⟩ : ∃ S, S = udz checkS (xs.take j) := ⟨_, rfl⟩
   rw [← hS] at Hsnoc Hpl HAq HBq
   obtain ⟨r, hr⟩ : ∃ r, r = doP checkS S q := ⟨_, rfl⟩
   have Hr := hd' hr
   have HBlt := hd' HB.o.lt
   have Hil := hd' hil
   have HTb : Hid (Tabs wr) := hd' (Ht.o.below (HM.o.below (Nat.le_refl _) (fun _ _ h => h)))
   clear hrg hlk hS hq hbw hr hil
   obtain ⟨T, y, cc⟩ := r
   generalize wr = WR at *
   go_upto_region 8 with fail
   go_cut [6, 7, 8] from 22 to 37 (fun a6 a7 a8 wx => ∃ (N6 N7 : Nat) (c5 : Array Value), a6 = .pointer (some ⟨N6, 0, none⟩) ∧ a7 = .pointer (some ⟨N7, 0, none⟩) ∧ a8 = iV cc ∧ Blk wx N6 47 c5 ∧ SnR (fun k => k ≠ A ∧ k ≠ B ∧ k ≠ N6) wx (.agg c5) T ∧ Blk wx N7 30 #[iV y.1, iV y.2] ∧ WR.heap.size ≤ N6 ∧ WR.heap.size ≤ N7 ∧ N6 ≠ N7 ∧ Gou.Mod (fun _ => False) WR wx)
   case first =>
    refine wp_region_held_drew (S := fun w' => Gou.Mod (fun _ => False) WR w') (by kernel_rfl) (Gou.Mod.drew _ _) (fun hH => ?_)
    refine wpAnyH_take (i := 0) (oi := ({ dst := some 29, op := Op.load 47 (Operand.tmp 3), type := 47, pos := "law.go:33", after := #[], guard := none } : Oper)) (v := .agg cA) rfl (by kernel_rfl) (by kernel_rfl) (by kernel_rfl) (fun _ _ _ h => h) (yieldsIf_load_mid (by rfl) 47 _ rfl A (0) rfl (cA.toList) _ (fun w' hSw => uax HA.o.whole hSw (fun h => h)) Tryz.underlying47 rfl (size_c (SnR.one HAq.o).2)) hH ?_
    try simp only [Act.put, uSa, uSb, uSc]
    refine tk 1 (.slice (some ⟨b, o, none⟩) xs.length cap) hH (h := ?_)
    refine tk 2 (iV (j : Int)) hH (h := ?_)
    refine tk 3 (.pointer (some ⟨b, o + j * 34, none⟩)) hH (h := ?_)
    refine tkR 4 (.agg (oprC q vp0 vf0 vb0)) HOr.o (fun h => h) Tryz.underlying53 ued hH (h := ?_)
    refine wpAnyH_ready (rs := [5, 10, 11]) (by kernel_rfl) (by simp) (AllReadyH.cons (o := ({ dst := some 34, op := Op.call { callee := Callee.value (Operand.func 12), args := #[Operand.tmp 29, Operand.tmp 33], argTypes := #[47, 53] }, type := 50, pos := "law.go:33", after := #[{ on := 0, ground := Ground.data }, { on := 4, ground := Ground.data }], guard := none } : Oper)) rfl (fun K11 hK => ?_) (AllReadyH.cons (o := ({ dst := some 6, op := Op.alloc 47, type := 0, pos := "law.go:33", after := #[], guard := none } : Oper)) rfl (fun K11 hK => ?_) (AllReadyH.cons (o := ({ dst := some 7, op := Op.alloc 30, type := 0, pos := "law.go:33", after := #[], guard := none } : Oper)) rfl (fun K11 hK => ?_) AllReadyH.nil)))
    ·skip
     go_simp
     refine (ue3 _ _ S q _ _ _ (SnR.imp (HAq.o.mod hH (fun _ _ _ h => h)) (fun _ _ _ => trivial)) (Hpl.o.2.fit Hjn.o Hpl.o.1) ((Hlk.o.mod hH (fun _ _ _ h => h)).imp (fun _ _ _ => trivial)) j Hpl.o.2 Hjn.o (Hfit.o.2 q Hqm.o).1 (Hwf.o q Hqm.o).filt (Hwf.o q Hqm.o).back).mono ?_
     rintro e v8_1 ⟨v5, rfl, hs5, hm5⟩
     replace hs5 := SnO.reads hs5
     rw [← Hr.o] at hs5 ⊢
     dsimp only at hs5 ⊢
     obtain ⟨c5, rfl⟩ := SnR.agg hs5
     have hz := hH.size
     obtain ⟨Z, hZ⟩ : ∃ Z, Z = v8_1.heap.size := ⟨_, rfl⟩
     have HR5 : Hid (SnR (fun k => k < Z ∧ k ≠ A ∧ k ≠ B) v8_1 (.agg c5) T) := hd' (hs5.imp (fun k hk hg => by have := HBlt.o; have := HAB.o; have hg := hg; have hdr : WR.drew.heap.size = WR.heap.size := rfl; (try simp only at hg); omega))
     have HZ : Hid (Z ≤ v8_1.heap.size) := hd' (by omega)
     clear hz hZ hs5
     have M := hd' (hH.trans' hm5)
     clear hH hm5
     refine hK _ _ M.o (fun hH => ?_)
     clear hK K11 M
     try simp only [Act.put, uSa, uSb, uSc]
     refine tk 6 (.tuple #[.agg c5, .agg #[iV y.1, iV y.2], iV cc]) hH (h := ?_)
     refine tk 7 (.agg c5) hH (h := ?_)
     refine tk 8 (.agg #[iV y.1, iV y.2]) hH (h := ?_)
     refine tk 9 (iV cc) hH (h := ?_)
     refine rd2 10 11 (h := fun K12 hK => ?_) (g := fun K12 hK => ?_)
     ·skip
      skip
      refine al_sc rfl (fun V8_2 hb hq => ?_)
      obtain ⟨N6, hN⟩ : ∃ n, n = v8_1.heap.size := ⟨_, rfl⟩
      rw [← hN] at hb ⊢
      have HN6 := hd' hb
      have HN6ge : Hid (WR.heap.size ≤ N6) := hd' (by rw [hN]; exact hH.size)
      have HN6z : Hid (Z ≤ N6) := hd' (by rw [hN]; exact HZ.o)
      replace HR5 := hd' (HR5.o.mod hq (fun _ _ _ h => h))
      replace HZ := hd' (Nat.le_trans HZ.o hq.size)
      have M := hd' (hH.trans' hq)
      clear hH hq hb hN
      refine hK _ _ M.o (fun hH => ?_)
      clear hK K12 M
      try simp only [Act.put, uSa, uSb, uSc]
      refine rd 11 (h := fun K hK => ?_)
      refine al_id rfl (fun V8_3 hb hq => ?_)
      obtain ⟨N7, hN⟩ : ∃ n, n = V8_2.heap.size := ⟨_, rfl⟩
      rw [← hN] at hb ⊢
      have HN7 := hd' hb
      have HN7ge : Hid (WR.heap.size ≤ N7) := hd' (by rw [hN]; exact hH.size)
      have HN7z : Hid (Z ≤ N7) := hd' (by rw [hN]; exact HZ.o)
      replace HR5 := hd' (HR5.o.mod hq (fun _ _ _ h => h))
      replace HZ := hd' (Nat.le_trans HZ.o hq.size)
      have HNE : Hid (N6 ≠ N7) := hd' (by have := HN6.o.lt; omega)
      replace HN6 := hd' (HN6.o.up hq)
      have M := hd' (hH.trans' hq)
      clear hH hq hb hN
      refine hK _ _ M.o (fun hH => ?_)
      clear hK K M
      try simp only [Act.put, uSa, uSb, uSc]
      refine rd 12 (h := fun K hK => ?_)
      refine wp_store_mid 47 _ _ rfl N6 0 c5 rfl rfl (HN6.o.there 0 _ (by rw [(SnR.one HR5.o).2]; exact Nat.le_refl _)) (size_d (SnR.one HR5.o).2) (SnR.one HR5.o).1 ?_
      have hS := Blk.setMod V8_3 N6 0 c5.toList
      replace HN6 := hd' (HN6.o.setAll c5 (by rw [(SnR.one HR5.o).2]; rfl))
      replace HR5 := hd' (HR5.o.mod hS (fun k hk hg e => by have := HN6z.o; (try simp only at hg); omega))
      replace HZ := hd' (Nat.le_trans HZ.o hS.size)
      replace HN7 := hd' (HN7.o.mod hS (fun e => HNE.o e.symm))
      have M := hd' (hH.trans hS (fun k hk e => by have := HN6ge.o; omega))
      clear hH hS
      generalize V8_3.setCells N6 0 c5.toList = V8_4 at *
      refine hK _ _ M.o (fun hH => ?_)
      clear hK K M
      try simp only [Act.put, uSa, uSb, uSc]
      refine rd 13 (h := fun K hK => ?_)
      refine wp_store_mid 30 _ _ rfl N7 0 #[iV y.1, iV y.2] rfl rfl (HN7.o.there 0 2 (by simp)) uaf (by simp [Value.oneCell']) ?_
      have hS := Blk.setMod V8_4 N7 0 (#[iV y.1, iV y.2] : Array Value).toList
      replace HN7 := hd' (HN7.o.setAll #[iV y.1, iV y.2] rfl)
      replace HR5 := hd' (HR5.o.mod hS (fun k hk hg e => by have := HN7z.o; (try simp only at hg); omega))
      replace HN6 := hd' (HN6.o.mod hS HNE.o)
      have M := hd' (hH.trans hS (fun k hk e => by have := HN7ge.o; omega))
      clear hH hS
      generalize V8_4.setCells N7 0 (#[iV y.1, iV y.2] : Array Value).toList = V8_5 at *
      refine hK _ _ M.o (fun hH => ?_)
      clear hK K M
      try simp only [Act.put, uSa, uSb, uSc]
      refine tk 14 (iV cc) hH (h := ?_)
      have MS := hd' hH
      refine wpAnyH_done (by kernel_rfl) ?_ _
      clear hH
      go_wp2_with fail
      go_meet
      case rel => exact ⟨N6, N7, c5, rfl, rfl, rfl, HN6.o, HR5.o.imp (fun k hk hg => by have := HN6z.o; (try simp only at hg); omega), HN7.o, HN6ge.o, HN7ge.o, HNE.o, MS.o⟩
     ·skip
      skip
      refine al_id rfl (fun V8_2 hb hq => ?_)
      obtain ⟨N7, hN⟩ : ∃ n, n = v8_1.heap.size := ⟨_, rfl⟩
      rw [← hN] at hb ⊢
      have HN7 := hd' hb
      have HN7ge : Hid (WR.heap.size ≤ N7) := hd' (by rw [hN]; exact hH.size)
      have HN7z : Hid (Z ≤ N7) := hd' (by rw [hN]; exact HZ.o)
      replace HR5 := hd' (HR5.o.mod hq (fun _ _ _ h => h))
      replace HZ := hd' (Nat.le_trans HZ.o hq.size)
      have M := hd' (hH.trans' hq)
      clear hH hq hb hN
      refine hK _ _ M.o (fun hH => ?_)
      clear hK K12 M
      try simp only [Act.put, uSa, uSb, uSc]
      refine rd 10 (h := fun K hK => ?_)
      refine al_sc rfl (fun V8_3 hb hq => ?_)
      obtain ⟨N6, hN⟩ : ∃ n, n = V8_2.heap.size := ⟨_, rfl⟩
      rw [← hN] at hb ⊢
      have HN6 := hd' hb
      have HN6ge : Hid (WR.heap.size ≤ N6) := hd' (by rw [hN]; exact hH.size)
      have HN6z : Hid (Z ≤ N6) := hd' (by rw [hN]; exact HZ.o)
      replace HR5 := hd' (HR5.o.mod hq (fun _ _ _ h => h))
      replace HZ := hd' (Nat.le_trans HZ.o hq.size)
      have HNE : Hid (N6 ≠ N7) := hd' (by have := HN7.o.lt; omega)
      replace HN7 := hd' (HN7.o.up hq)
      have M := hd' (hH.trans' hq)
      clear hH hq hb hN
      refine hK _ _ M.o (fun hH => ?_)
      clear hK K M
      try simp only [Act.put, uSa, uSb, uSc]
      refine rd 12 (h := fun K hK => ?_)
      refine wp_store_mid 47 _ _ rfl N6 0 c5 rfl rfl (HN6.o.there 0 _ (by rw [(SnR.one HR5.o).2]; exact Nat.le_refl _)) (size_d (SnR.one HR5.o).2) (SnR.one HR5.o).1 ?_
      have hS := Blk.setMod V8_3 N6 0 c5.toList
      replace HN6 := hd' (HN6.o.setAll c5 (by rw [(SnR.one HR5.o).2]; rfl))
      replace HR5 := hd' (HR5.o.mod hS (fun k hk hg e => by have := HN6z.o; (try simp only at hg); omega))
      replace HZ := hd' (Nat.le_trans HZ.o hS.size)
      replace HN7 := hd' (HN7.o.mod hS (fun e => HNE.o e.symm))
      have M := hd' (hH.trans hS (fun k hk e => by have := HN6ge.o; omega))
      clear hH hS
      generalize V8_3.setCells N6 0 c5.toList = V8_4 at *
      refine hK _ _ M.o (fun hH => ?_)
      clear hK K M
      try simp only [Act.put, uSa, uSb, uSc]
      refine rd 13 (h := fun K hK => ?_)
      refine wp_store_mid 30 _ _ rfl N7 0 #[iV y.1, iV y.2] rfl rfl (HN7.o.there 0 2 (by simp)) uaf (by simp [Value.oneCell']) ?_
      have hS := Blk.setMod V8_4 N7 0 (#[iV y.1, iV y.2] : Array Value).toList
      replace HN7 := hd' (HN7.o.setAll #[iV y.1, iV y.2] rfl)
      replace HR5 := hd' (HR5.o.mod hS (fun k hk hg e => by have := HN7z.o; (try simp only at hg); omega))
      replace HN6 := hd' (HN6.o.mod hS HNE.o)
      have M := hd' (hH.trans hS (fun k hk e => by have := HN7ge.o; omega))
      clear hH hS
      generalize V8_4.setCells N7 0 (#[iV y.1, iV y.2] : Array Value).toList = V8_5 at *
      refine hK _ _ M.o (fun hH => ?_)
      clear hK K M
      try simp only [Act.put, uSa, uSb, uSc]
      refine tk 14 (iV cc) hH (h := ?_)
      have MS := hd' hH
      refine wpAnyH_done (by kernel_rfl) ?_ _
      clear hH
      go_wp2_with fail
      go_meet
      case rel => exact ⟨N6, N7, c5, rfl, rfl, rfl, HN6.o, HR5.o.imp (fun k hk hg => by have := HN6z.o; (try simp only at hg); omega), HN7.o, HN6ge.o, HN7ge.o, HNE.o, MS.o⟩
    ·skip
     rw [if_pos (by rfl)]
     refine al_sc rfl (fun V8_1 hb hq => ?_)
     obtain ⟨N6, hN⟩ : ∃ n, n = WR.drew.heap.size := ⟨_, rfl⟩
     rw [← hN] at hb ⊢
     have HN6 := hd' hb
     have HN6ge : Hid (WR.heap.size ≤ N6) := hd' (by rw [hN]; exact hH.size)
     have M := hd' (hH.trans' hq)
     clear hH hq hb hN
     refine hK _ _ M.o (fun hH => ?_)
     clear hK K11 M
     try simp only [Act.put, uSa, uSb, uSc]
     refine rd2 5 11 (h := fun K13 hK => ?_) (g := fun K13 hK => ?_)
     ·skip
      go_simp
      refine (ue3 _ _ S q _ _ _ (SnR.imp (HAq.o.mod hH (fun _ _ _ h => h)) (fun _ _ _ => trivial)) (Hpl.o.2.fit Hjn.o Hpl.o.1) ((Hlk.o.mod hH (fun _ _ _ h => h)).imp (fun _ _ _ => trivial)) j Hpl.o.2 Hjn.o (Hfit.o.2 q Hqm.o).1 (Hwf.o q Hqm.o).filt (Hwf.o q Hqm.o).back).mono ?_
      rintro e v8_2 ⟨v5, rfl, hs5, hm5⟩
      replace hs5 := SnO.reads hs5
      rw [← Hr.o] at hs5 ⊢
      dsimp only at hs5 ⊢
      obtain ⟨c5, rfl⟩ := SnR.agg hs5
      have hz := hH.size
      obtain ⟨Z, hZ⟩ : ∃ Z, Z = v8_2.heap.size := ⟨_, rfl⟩
      have HR5 : Hid (SnR (fun k => k < Z ∧ k ≠ A ∧ k ≠ B ∧ k ≠ N6) v8_2 (.agg c5) T) := hd' (hs5.imp (fun k hk hg => by have := HBlt.o; have := HAB.o; have hg := hg; have hdr : WR.drew.heap.size = WR.heap.size := rfl; (try simp only at hg); have := HN6.o.lt; have := HN6ge.o; omega))
      have HZ : Hid (Z ≤ v8_2.heap.size) := hd' (by omega)
      clear hz hZ hs5
      replace HN6 := hd' (HN6.o.up hm5)
      have M := hd' (hH.trans' hm5)
      clear hH hm5
      refine hK _ _ M.o (fun hH => ?_)
      clear hK K13 M
      try simp only [Act.put, uSa, uSb, uSc]
      refine tk 6 (.tuple #[.agg c5, .agg #[iV y.1, iV y.2], iV cc]) hH (h := ?_)
      refine tk 7 (.agg c5) hH (h := ?_)
      refine tk 8 (.agg #[iV y.1, iV y.2]) hH (h := ?_)
      refine tk 9 (iV cc) hH (h := ?_)
      refine rd 11 (h := fun K hK => ?_)
      refine al_id rfl (fun V8_3 hb hq => ?_)
      obtain ⟨N7, hN⟩ : ∃ n, n = v8_2.heap.size := ⟨_, rfl⟩
      rw [← hN] at hb ⊢
      have HN7 := hd' hb
      have HN7ge : Hid (WR.heap.size ≤ N7) := hd' (by rw [hN]; exact hH.size)
      have HN7z : Hid (Z ≤ N7) := hd' (by rw [hN]; exact HZ.o)
      replace HR5 := hd' (HR5.o.mod hq (fun _ _ _ h => h))
      replace HZ := hd' (Nat.le_trans HZ.o hq.size)
      have HNE : Hid (N6 ≠ N7) := hd' (by have := HN6.o.lt; omega)
      replace HN6 := hd' (HN6.o.up hq)
      have M := hd' (hH.trans' hq)
      clear hH hq hb hN
      refine hK _ _ M.o (fun hH => ?_)
      clear hK K M
      try simp only [Act.put, uSa, uSb, uSc]
      refine rd 12 (h := fun K hK => ?_)
      refine wp_store_mid 47 _ _ rfl N6 0 c5 rfl rfl (HN6.o.there 0 _ (by rw [(SnR.one HR5.o).2]; exact Nat.le_refl _)) (size_d (SnR.one HR5.o).2) (SnR.one HR5.o).1 ?_
      have hS := Blk.setMod V8_3 N6 0 c5.toList
      replace HN6 := hd' (HN6.o.setAll c5 (by rw [(SnR.one HR5.o).2]; rfl))
      replace HR5 := hd' (HR5.o.mod hS (fun k hk hg e => by (try simp only at hg); omega))
      replace HZ := hd' (Nat.le_trans HZ.o hS.size)
      replace HN7 := hd' (HN7.o.mod hS (fun e => HNE.o e.symm))
      have M := hd' (hH.trans hS (fun k hk e => by have := HN6ge.o; omega))
      clear hH hS
      generalize V8_3.setCells N6 0 c5.toList = V8_4 at *
      refine hK _ _ M.o (fun hH => ?_)
      clear hK K M
      try simp only [Act.put, uSa, uSb, uSc]
      refine rd 13 (h := fun K hK => ?_)
      refine wp_store_mid 30 _ _ rfl N7 0 #[iV y.1, iV y.2] rfl rfl (HN7.o.there 0 2 (by simp)) uaf (by simp [Value.oneCell']) ?_
      have hS := Blk.setMod V8_4 N7 0 (#[iV y.1, iV y.2] : Array Value).toList
      replace HN7 := hd' (HN7.o.setAll #[iV y.1, iV y.2] rfl)
      replace HR5 := hd' (HR5.o.mod hS (fun k hk hg e => by have := HN7z.o; (try simp only at hg); omega))
      replace HN6 := hd' (HN6.o.mod hS HNE.o)
      have M := hd' (hH.trans hS (fun k hk e => by have := HN7ge.o; omega))
      clear hH hS
      generalize V8_4.setCells N7 0 (#[iV y.1, iV y.2] : Array Value).toList = V8_5 at *
      refine hK _ _ M.o (fun hH => ?_)
      clear hK K M
      try simp only [Act.put, uSa, uSb, uSc]
      refine tk 14 (iV cc) hH (h := ?_)
      have MS := hd' hH
      refine wpAnyH_done (by kernel_rfl) ?_ _
      clear hH
      go_wp2_with fail
      go_meet
      case rel => exact ⟨N6, N7, c5, rfl, rfl, rfl, HN6.o, HR5.o.imp (fun k hk hg => by (try simp only at hg); omega), HN7.o, HN6ge.o, HN7ge.o, HNE.o, MS.o⟩
     ·skip
      skip
      refine al_id rfl (fun V8_2 hb hq => ?_)
      obtain ⟨N7, hN⟩ : ∃ n, n = V8_1.heap.size := ⟨_, rfl⟩
      rw [← hN] at hb ⊢
      have HN7 := hd' hb
      have HN7ge : Hid (WR.heap.size ≤ N7) := hd' (by rw [hN]; exact hH.size)
      have HNE : Hid (N6 ≠ N7) := hd' (by have := HN6.o.lt; omega)
      replace HN6 := hd' (HN6.o.up hq)
      have M := hd' (hH.trans' hq)
      clear hH hq hb hN
      refine hK _ _ M.o (fun hH => ?_)
      clear hK K13 M
      try simp only [Act.put, uSa, uSb, uSc]
      refine rd 5 (h := fun K hK => ?_)
      go_simp
      refine (ue3 _ _ S q _ _ _ (SnR.imp (HAq.o.mod hH (fun _ _ _ h => h)) (fun _ _ _ => trivial)) (Hpl.o.2.fit Hjn.o Hpl.o.1) ((Hlk.o.mod hH (fun _ _ _ h => h)).imp (fun _ _ _ => trivial)) j Hpl.o.2 Hjn.o (Hfit.o.2 q Hqm.o).1 (Hwf.o q Hqm.o).filt (Hwf.o q Hqm.o).back).mono ?_
      rintro e v8_3 ⟨v5, rfl, hs5, hm5⟩
      replace hs5 := SnO.reads hs5
      rw [← Hr.o] at hs5 ⊢
      dsimp only at hs5 ⊢
      obtain ⟨c5, rfl⟩ := SnR.agg hs5
      have hz := hH.size
      obtain ⟨Z, hZ⟩ : ∃ Z, Z = v8_3.heap.size := ⟨_, rfl⟩
      have HR5 : Hid (SnR (fun k => k < Z ∧ k ≠ A ∧ k ≠ B ∧ k ≠ N6 ∧ k ≠ N7) v8_3 (.agg c5) T) := hd' (hs5.imp (fun k hk hg => by have := HBlt.o; have := HAB.o; have hg := hg; have hdr : WR.drew.heap.size = WR.heap.size := rfl; (try simp only at hg); have := HN6.o.lt; have := HN6ge.o; have := HN7.o.lt; have := HN7ge.o; omega))
      have HZ : Hid (Z ≤ v8_3.heap.size) := hd' (by omega)
      clear hz hZ hs5
      replace HN6 := hd' (HN6.o.up hm5)
      replace HN7 := hd' (HN7.o.up hm5)
      have M := hd' (hH.trans' hm5)
      clear hH hm5
      refine hK _ _ M.o (fun hH => ?_)
      clear hK K M
      try simp only [Act.put, uSa, uSb, uSc]
      refine tk 6 (.tuple #[.agg c5, .agg #[iV y.1, iV y.2], iV cc]) hH (h := ?_)
      refine tk 7 (.agg c5) hH (h := ?_)
      refine tk 8 (.agg #[iV y.1, iV y.2]) hH (h := ?_)
      refine tk 9 (iV cc) hH (h := ?_)
      refine rd 12 (h := fun K hK => ?_)
      refine wp_store_mid 47 _ _ rfl N6 0 c5 rfl rfl (HN6.o.there 0 _ (by rw [(SnR.one HR5.o).2]; exact Nat.le_refl _)) (size_d (SnR.one HR5.o).2) (SnR.one HR5.o).1 ?_
      have hS := Blk.setMod v8_3 N6 0 c5.toList
      replace HN6 := hd' (HN6.o.setAll c5 (by rw [(SnR.one HR5.o).2]; rfl))
      replace HR5 := hd' (HR5.o.mod hS (fun k hk hg e => by (try simp only at hg); omega))
      replace HZ := hd' (Nat.le_trans HZ.o hS.size)
      replace HN7 := hd' (HN7.o.mod hS (fun e => HNE.o e.symm))
      have M := hd' (hH.trans hS (fun k hk e => by have := HN6ge.o; omega))
      clear hH hS
      generalize v8_3.setCells N6 0 c5.toList = V8_4 at *
      refine hK _ _ M.o (fun hH => ?_)
      clear hK K M
      try simp only [Act.put, uSa, uSb, uSc]
      refine rd 13 (h := fun K hK => ?_)
      refine wp_store_mid 30 _ _ rfl N7 0 #[iV y.1, iV y.2] rfl rfl (HN7.o.there 0 2 (by simp)) uaf (by simp [Value.oneCell']) ?_
      have hS := Blk.setMod V8_4 N7 0 (#[iV y.1, iV y.2] : Array Value).toList
      replace HN7 := hd' (HN7.o.setAll #[iV y.1, iV y.2] rfl)
      replace HR5 := hd' (HR5.o.mod hS (fun k hk hg e => by (try simp only at hg); omega))
      replace HN6 := hd' (HN6.o.mod hS HNE.o)
      have M := hd' (hH.trans hS (fun k hk e => by have := HN7ge.o; omega))
      clear hH hS
      generalize V8_4.setCells N7 0 (#[iV y.1, iV y.2] : Array Value).toList = V8_5 at *
      refine hK _ _ M.o (fun hH => ?_)
      clear hK K M
      try simp only [Act.put, uSa, uSb, uSc]
      refine tk 14 (iV cc) hH (h := ?_)
      have MS := hd' hH
      refine wpAnyH_done (by kernel_rfl) ?_ _
      clear hH
      go_wp2_with fail
      go_meet
      case rel => exact ⟨N6, N7, c5, rfl, rfl, rfl, HN6.o, HR5.o.imp (fun k hk hg => by (try simp only at hg); omega), HN7.o, HN6ge.o, HN7ge.o, HNE.o, MS.o⟩
    ·skip
     rw [if_pos (by rfl)]
     refine al_id rfl (fun V8_1 hb hq => ?_)
     obtain ⟨N7, hN⟩ : ∃ n, n = WR.drew.heap.size := ⟨_, rfl⟩
     rw [← hN] at hb ⊢
     have HN7 := hd' hb
     have HN7ge : Hid (WR.heap.size ≤ N7) := hd' (by rw [hN]; exact hH.size)
     have M := hd' (hH.trans' hq)
     clear hH hq hb hN
     refine hK _ _ M.o (fun hH => ?_)
     clear hK K11 M
     try simp only [Act.put, uSa, uSb, uSc]
     refine rd2 5 10 (h := fun K14 hK => ?_) (g := fun K14 hK => ?_)
     ·skip
      go_simp
      refine (ue3 _ _ S q _ _ _ (SnR.imp (HAq.o.mod hH (fun _ _ _ h => h)) (fun _ _ _ => trivial)) (Hpl.o.2.fit Hjn.o Hpl.o.1) ((Hlk.o.mod hH (fun _ _ _ h => h)).imp (fun _ _ _ => trivial)) j Hpl.o.2 Hjn.o (Hfit.o.2 q Hqm.o).1 (Hwf.o q Hqm.o).filt (Hwf.o q Hqm.o).back).mono ?_
      rintro e v8_2 ⟨v5, rfl, hs5, hm5⟩
      replace hs5 := SnO.reads hs5
      rw [← Hr.o] at hs5 ⊢
      dsimp only at hs5 ⊢
      obtain ⟨c5, rfl⟩ := SnR.agg hs5
      have hz := hH.size
      obtain ⟨Z, hZ⟩ : ∃ Z, Z = v8_2.heap.size := ⟨_, rfl⟩
      have HR5 : Hid (SnR (fun k => k < Z ∧ k ≠ A ∧ k ≠ B ∧ k ≠ N7) v8_2 (.agg c5) T) := hd' (hs5.imp (fun k hk hg => by have := HBlt.o; have := HAB.o; have hg := hg; have hdr : WR.drew.heap.size = WR.heap.size := rfl; (try simp only at hg); have := HN7.o.lt; have := HN7ge.o; omega))
      have HZ : Hid (Z ≤ v8_2.heap.size) := hd' (by omega)
      clear hz hZ hs5
      replace HN7 := hd' (HN7.o.up hm5)
      have M := hd' (hH.trans' hm5)
      clear hH hm5
      refine hK _ _ M.o (fun hH => ?_)
      clear hK K14 M
      try simp only [Act.put, uSa, uSb, uSc]
      refine tk 6 (.tuple #[.agg c5, .agg #[iV y.1, iV y.2], iV cc]) hH (h := ?_)
      refine tk 7 (.agg c5) hH (h := ?_)
      refine tk 8 (.agg #[iV y.1, iV y.2]) hH (h := ?_)
      refine tk 9 (iV cc) hH (h := ?_)
      refine rd 10 (h := fun K hK => ?_)
      refine al_sc rfl (fun V8_3 hb hq => ?_)
      obtain ⟨N6, hN⟩ : ∃ n, n = v8_2.heap.size := ⟨_, rfl⟩
      rw [← hN] at hb ⊢
      have HN6 := hd' hb
      have HN6ge : Hid (WR.heap.size ≤ N6) := hd' (by rw [hN]; exact hH.size)
      have HN6z : Hid (Z ≤ N6) := hd' (by rw [hN]; exact HZ.o)
      replace HR5 := hd' (HR5.o.mod hq (fun _ _ _ h => h))
      replace HZ := hd' (Nat.le_trans HZ.o hq.size)
      have HNE : Hid (N6 ≠ N7) := hd' (by have := HN7.o.lt; omega)
      replace HN7 := hd' (HN7.o.up hq)
      have M := hd' (hH.trans' hq)
      clear hH hq hb hN
      refine hK _ _ M.o (fun hH => ?_)
      clear hK K M
      try simp only [Act.put, uSa, uSb, uSc]
      refine rd 12 (h := fun K hK => ?_)
      refine wp_store_mid 47 _ _ rfl N6 0 c5 rfl rfl (HN6.o.there 0 _ (by rw [(SnR.one HR5.o).2]; exact Nat.le_refl _)) (size_d (SnR.one HR5.o).2) (SnR.one HR5.o).1 ?_
      have hS := Blk.setMod V8_3 N6 0 c5.toList
      replace HN6 := hd' (HN6.o.setAll c5 (by rw [(SnR.one HR5.o).2]; rfl))
      replace HR5 := hd' (HR5.o.mod hS (fun k hk hg e => by have := HN6z.o; (try simp only at hg); omega))
      replace HZ := hd' (Nat.le_trans HZ.o hS.size)
      replace HN7 := hd' (HN7.o.mod hS (fun e => HNE.o e.symm))
      have M := hd' (hH.trans hS (fun k hk e => by have := HN6ge.o; omega))
      clear hH hS
      generalize V8_3.setCells N6 0 c5.toList = V8_4 at *
      refine hK _ _ M.o (fun hH => ?_)
      clear hK K M
      try simp only [Act.put, uSa, uSb, uSc]
      refine rd 13 (h := fun K hK => ?_)
      refine wp_store_mid 30 _ _ rfl N7 0 #[iV y.1, iV y.2] rfl rfl (HN7.o.there 0 2 (by simp)) uaf (by simp [Value.oneCell']) ?_
      have hS := Blk.setMod V8_4 N7 0 (#[iV y.1, iV y.2] : Array Value).toList
      replace HN7 := hd' (HN7.o.setAll #[iV y.1, iV y.2] rfl)
      replace HR5 := hd' (HR5.o.mod hS (fun k hk hg e => by (try simp only at hg); omega))
      replace HN6 := hd' (HN6.o.mod hS HNE.o)
      have M := hd' (hH.trans hS (fun k hk e => by have := HN7ge.o; omega))
      clear hH hS
      generalize V8_4.setCells N7 0 (#[iV y.1, iV y.2] : Array Value).toList = V8_5 at *
      refine hK _ _ M.o (fun hH => ?_)
      clear hK K M
      try simp only [Act.put, uSa, uSb, uSc]
      refine tk 14 (iV cc) hH (h := ?_)
      have MS := hd' hH
      refine wpAnyH_done (by kernel_rfl) ?_ _
      clear hH
      go_wp2_with fail
      go_meet
      case rel => exact ⟨N6, N7, c5, rfl, rfl, rfl, HN6.o, HR5.o.imp (fun k hk hg => by have := HN6z.o; (try simp only at hg); omega), HN7.o, HN6ge.o, HN7ge.o, HNE.o, MS.o⟩
     ·skip
      skip
      refine al_sc rfl (fun V8_2 hb hq => ?_)
      obtain ⟨N6, hN⟩ : ∃ n, n = V8_1.heap.size := ⟨_, rfl⟩
      rw [← hN] at hb ⊢
      have HN6 := hd' hb
      have HN6ge : Hid (WR.heap.size ≤ N6) := hd' (by rw [hN]; exact hH.size)
      have HNE : Hid (N6 ≠ N7) := hd' (by have := HN7.o.lt; omega)
      replace HN7 := hd' (HN7.o.up hq)
      have M := hd' (hH.trans' hq)
      clear hH hq hb hN
      refine hK _ _ M.o (fun hH => ?_)
      clear hK K14 M
      try simp only [Act.put, uSa, uSb, uSc]
      refine rd 5 (h := fun K hK => ?_)
      go_simp
      refine (ue3 _ _ S q _ _ _ (SnR.imp (HAq.o.mod hH (fun _ _ _ h => h)) (fun _ _ _ => trivial)) (Hpl.o.2.fit Hjn.o Hpl.o.1) ((Hlk.o.mod hH (fun _ _ _ h => h)).imp (fun _ _ _ => trivial)) j Hpl.o.2 Hjn.o (Hfit.o.2 q Hqm.o).1 (Hwf.o q Hqm.o).filt (Hwf.o q Hqm.o).back).mono ?_
      rintro e v8_3 ⟨v5, rfl, hs5, hm5⟩
      replace hs5 := SnO.reads hs5
      rw [← Hr.o] at hs5 ⊢
      dsimp only at hs5 ⊢
      obtain ⟨c5, rfl⟩ := SnR.agg hs5
      have hz := hH.size
      obtain ⟨Z, hZ⟩ : ∃ Z, Z = v8_3.heap.size := ⟨_, rfl⟩
      have HR5 : Hid (SnR (fun k => k < Z ∧ k ≠ A ∧ k ≠ B ∧ k ≠ N6 ∧ k ≠ N7) v8_3 (.agg c5) T) := hd' (hs5.imp (fun k hk hg => by have := HBlt.o; have := HAB.o; have hg := hg; have hdr : WR.drew.heap.size = WR.heap.size := rfl; (try simp only at hg); have := HN6.o.lt; have := HN6ge.o; have := HN7.o.lt; have := HN7ge.o; omega))
      have HZ : Hid (Z ≤ v8_3.heap.size) := hd' (by omega)
      clear hz hZ hs5
      replace HN6 := hd' (HN6.o.up hm5)
      replace HN7 := hd' (HN7.o.up hm5)
      have M := hd' (hH.trans' hm5)
      clear hH hm5
      refine hK _ _ M.o (fun hH => ?_)
      clear hK K M
      try simp only [Act.put, uSa, uSb, uSc]
      refine tk 6 (.tuple #[.agg c5, .agg #[iV y.1, iV y.2], iV cc]) hH (h := ?_)
      refine tk 7 (.agg c5) hH (h := ?_)
      refine tk 8 (.agg #[iV y.1, iV y.2]) hH (h := ?_)
      refine tk 9 (iV cc) hH (h := ?_)
      refine rd 12 (h := fun K hK => ?_)
      refine wp_store_mid 47 _ _ rfl N6 0 c5 rfl rfl (HN6.o.there 0 _ (by rw [(SnR.one HR5.o).2]; exact Nat.le_refl _)) (size_d (SnR.one HR5.o).2) (SnR.one HR5.o).1 ?_
      have hS := Blk.setMod v8_3 N6 0 c5.toList
      replace HN6 := hd' (HN6.o.setAll c5 (by rw [(SnR.one HR5.o).2]; rfl))
      replace HR5 := hd' (HR5.o.mod hS (fun k hk hg e => by (try simp only at hg); omega))
      replace HZ := hd' (Nat.le_trans HZ.o hS.size)
      replace HN7 := hd' (HN7.o.mod hS (fun e => HNE.o e.symm))
      have M := hd' (hH.trans hS (fun k hk e => by have := HN6ge.o; omega))
      clear hH hS
      generalize v8_3.setCells N6 0 c5.toList = V8_4 at *
      refine hK _ _ M.o (fun hH => ?_)
      clear hK K M
      try simp only [Act.put, uSa, uSb, uSc]
      refine rd 13 (h := fun K hK => ?_)
      refine wp_store_mid 30 _ _ rfl N7 0 #[iV y.1, iV y.2] rfl rfl (HN7.o.there 0 2 (by simp)) uaf (by simp [Value.oneCell']) ?_
      have hS := Blk.setMod V8_4 N7 0 (#[iV y.1, iV y.2] : Array Value).toList
      replace HN7 := hd' (HN7.o.setAll #[iV y.1, iV y.2] rfl)
      replace HR5 := hd' (HR5.o.mod hS (fun k hk hg e => by (try simp only at hg); omega))
      replace HN6 := hd' (HN6.o.mod hS HNE.o)
      have M := hd' (hH.trans hS (fun k hk e => by have := HN7ge.o; omega))
      clear hH hS
      generalize V8_4.setCells N7 0 (#[iV y.1, iV y.2] : Array Value).toList = V8_5 at *
      refine hK _ _ M.o (fun hH => ?_)
      clear hK K M
      try simp only [Act.put, uSa, uSb, uSc]
      refine tk 14 (iV cc) hH (h := ?_)
      have MS := hd' hH
      refine wpAnyH_done (by kernel_rfl) ?_ _
      clear hH
      go_wp2_with fail
      go_meet
      case rel => exact ⟨N6, N7, c5, rfl, rfl, rfl, HN6.o, HR5.o.imp (fun k hk hg => by (try simp only at hg); omega), HN7.o, HN6ge.o, HN7ge.o, HNE.o, MS.o⟩
   case rest =>
    obtain ⟨N6, N7, c5, rfl, rfl, rfl, h6, hr6, h7, g6, g7, ne, hm⟩ := hcut
    have HN6 := hd' h6
    have HR6 := hd' hr6
    have HN7 := hd' h7
    have HG6 : Hid (A < N6 ∧ B < N6 ∧ A < N7 ∧ B < N7) := hd' (by have := HBlt.o; have := HAB.o; omega)
    replace HA := hd' (HA.o.up hm)
    replace HB := hd' (HB.o.up hm)
    replace HAq := hd' (HAq.o.mod hm (fun _ _ _ h => h))
    replace HBq := hd' (HBq.o.mod hm (fun _ _ _ h => h))
    replace HOr := hd' (rup HOr.o hm (fun h => h))
    replace Hlk := hd' (Hlk.o.mod hm (fun _ _ _ h => h))
    replace HTb := hd' (HTb.o.below (hm.below (Nat.le_refl _) (fun _ _ h => h)))
    replace HM := hd' (HM.o.trans' hm)
    replace HBlt := hd' (Nat.lt_of_lt_of_le HBlt.o hm.size)
    clear h6 hr6 h7 g6 g7 ne hm
    go_upto_region 9 with fail
    go_cut [9, 10, 11] from 22 to 47 (fun a9 a10 a11 wx => ∃ (N9 N10 : Nat) (c9 : Array Value), a9 = .pointer (some ⟨N9, 0, none⟩) ∧ a10 = .pointer (some ⟨N10, 0, none⟩) ∧ a11 = iV cc ∧ Blk wx N9 47 c9 ∧ SnR (fun k => k ≠ A ∧ k ≠ B ∧ k ≠ N9) wx (.agg c9) T ∧ Blk wx N10 30 #[iV y.1, iV y.2] ∧ wc.heap.size ≤ N9 ∧ wc.heap.size ≤ N10 ∧ N9 ≠ N10 ∧ Gou.Mod (fun _ => False) wc wx)
    case first =>
     refine wp_region_held_drew (S := fun w' => Gou.Mod (fun _ => False) wc w') (by kernel_rfl) (Gou.Mod.drew _ _) (fun hH => ?_)
     refine wpAnyH_take (i := 0) (oi := ({ dst := some 39, op := Op.load 47 (Operand.tmp 4), type := 47, pos := "law.go:34", after := #[], guard := none } : Oper)) (v := .agg cB) rfl (by kernel_rfl) (by kernel_rfl) (by kernel_rfl) (fun _ _ _ h => h) (yieldsIf_load_mid (by rfl) 47 _ rfl B (0) rfl (cB.toList) _ (fun w' hSw => uax HB.o.whole hSw (fun h => h)) Tryz.underlying47 rfl (size_c (SnR.one HBq.o).2)) hH ?_
     try simp only [Act.put, uSa, uSb, uSc]
     refine tk 1 (.slice (some ⟨b, o, none⟩) xs.length cap) hH (h := ?_)
     refine tk 2 (iV (j : Int)) hH (h := ?_)
     refine tk 3 (.pointer (some ⟨b, o + j * 34, none⟩)) hH (h := ?_)
     refine tkR 4 (.agg (oprC q vp0 vf0 vb0)) HOr.o (fun h => h) Tryz.underlying53 ued hH (h := ?_)
     refine wpAnyH_ready (rs := [5, 10, 11]) (by kernel_rfl) (by simp) (AllReadyH.cons (o := ({ dst := some 44, op := Op.call { callee := Callee.value (Operand.func 13), args := #[Operand.tmp 39, Operand.tmp 43], argTypes := #[47, 53] }, type := 54, pos := "law.go:34", after := #[{ on := 0, ground := Ground.data }, { on := 4, ground := Ground.data }], guard := none } : Oper)) rfl (fun K15 hK => ?_) (AllReadyH.cons (o := ({ dst := some 9, op := Op.alloc 47, type := 0, pos := "law.go:34", after := #[], guard := none } : Oper)) rfl (fun K15 hK => ?_) (AllReadyH.cons (o := ({ dst := some 10, op := Op.alloc 30, type := 0, pos := "law.go:34", after := #[], guard := none } : Oper)) rfl (fun K15 hK => ?_) AllReadyH.nil)))
     ·skip
      go_simp
      refine (refDo_any (fun k => k < wc.heap.size ∧ k ≠ A ∧ k ≠ B) _ _ S q _ _ _ (fun k h => Nat.lt_of_lt_of_le h.1 hH.size) ((HBq.o.imp (fun k hk hg => ⟨hk, hg⟩)).mod hH (fun _ _ _ h => h)) ((Hlk.o.imp (fun k hk hg => by have := HA0.o; have := HAB.o; have := HBlt.o; refine ⟨hk, ?_, ?_⟩ <;> omega)).mod hH (fun _ _ _ h => h)) j Hpl.o.2 Hjn.o Hpl.o.1 (Hfit.o.2 q Hqm.o).1 (Hwf.o q Hqm.o).filt (Hwf.o q Hqm.o).back (Hfit.o.2 q Hqm.o).2.1 (Hfit.o.2 q Hqm.o).2.2 (HTb.o.below (hH.below (Nat.le_refl _) (fun _ _ h => h)))).mono ?_
      rintro e v9_1 ⟨v5, rfl, hs5, hm5⟩
      replace hs5 : SnR (fun k => (k < wc.heap.size ∧ k ≠ A ∧ k ≠ B) ∨ _ ≤ k) _ v5 _ := hs5
      rw [← Hr.o] at hs5 ⊢
      dsimp only at hs5 ⊢
      obtain ⟨c9, rfl⟩ := SnR.agg hs5
      have hz := hH.size
      obtain ⟨Z, hZ⟩ : ∃ Z, Z = v9_1.heap.size := ⟨_, rfl⟩
      have HR9 : Hid (SnR (fun k => k < Z ∧ k ≠ A ∧ k ≠ B) v9_1 (.agg c9) T) := hd' (hs5.imp (fun k hk hg => by have := HBlt.o; have := HAB.o; have hg := hg; have hdr : wc.drew.heap.size = wc.heap.size := rfl; (try simp only at hg); omega))
      have HZ : Hid (Z ≤ v9_1.heap.size) := hd' (by omega)
      clear hz hZ hs5
      have M := hd' (hH.trans' hm5)
      clear hH hm5
      refine hK _ _ M.o (fun hH => ?_)
      clear hK K15 M
      try simp only [Act.put, uSa, uSb, uSc]
      refine tk 6 (.tuple #[.agg c9, .agg #[iV y.1, iV y.2], iV cc]) hH (h := ?_)
      refine tk 7 (.agg c9) hH (h := ?_)
      refine tk 8 (.agg #[iV y.1, iV y.2]) hH (h := ?_)
      refine tk 9 (iV cc) hH (h := ?_)
      refine rd2 10 11 (h := fun K16 hK => ?_) (g := fun K16 hK => ?_)
      ·skip
       skip
       refine al_sc rfl (fun V9_2 hb hq => ?_)
       obtain ⟨N9, hN⟩ : ∃ n, n = v9_1.heap.size := ⟨_, rfl⟩
       rw [← hN] at hb ⊢
       have HN9 := hd' hb
       have HN9ge : Hid (wc.heap.size ≤ N9) := hd' (by rw [hN]; exact hH.size)
       have HN9z : Hid (Z ≤ N9) := hd' (by rw [hN]; exact HZ.o)
       replace HR9 := hd' (HR9.o.mod hq (fun _ _ _ h => h))
       replace HZ := hd' (Nat.le_trans HZ.o hq.size)
       have M := hd' (hH.trans' hq)
       clear hH hq hb hN
       refine hK _ _ M.o (fun hH => ?_)
       clear hK K16 M
       try simp only [Act.put, uSa, uSb, uSc]
       refine rd 11 (h := fun K hK => ?_)
       refine al_id rfl (fun V9_3 hb hq => ?_)
       obtain ⟨N10, hN⟩ : ∃ n, n = V9_2.heap.size := ⟨_, rfl⟩
       rw [← hN] at hb ⊢
       have HN10 := hd' hb
       have HN10ge : Hid (wc.heap.size ≤ N10) := hd' (by rw [hN]; exact hH.size)
       have HN10z : Hid (Z ≤ N10) := hd' (by rw [hN]; exact HZ.o)
       replace HR9 := hd' (HR9.o.mod hq (fun _ _ _ h => h))
       replace HZ := hd' (Nat.le_trans HZ.o hq.size)
       have HNF : Hid (N9 ≠ N10) := hd' (by have := HN9.o.lt; omega)
       replace HN9 := hd' (HN9.o.up hq)
       have M := hd' (hH.trans' hq)
       clear hH hq hb hN
       refine hK _ _ M.o (fun hH => ?_)
       clear hK K M
       try simp only [Act.put, uSa, uSb, uSc]
       refine rd 12 (h := fun K hK => ?_)
       refine wp_store_mid 47 _ _ rfl N9 0 c9 rfl rfl (HN9.o.there 0 _ (by rw [(SnR.one HR9.o).2]; exact Nat.le_refl _)) (size_d (SnR.one HR9.o).2) (SnR.one HR9.o).1 ?_
       have hS := Blk.setMod V9_3 N9 0 c9.toList
       replace HN9 := hd' (HN9.o.setAll c9 (by rw [(SnR.one HR9.o).2]; rfl))
       replace HR9 := hd' (HR9.o.mod hS (fun k hk hg e => by have := HN9z.o; (try simp only at hg); omega))
       replace HZ := hd' (Nat.le_trans HZ.o hS.size)
       replace HN10 := hd' (HN10.o.mod hS (fun e => HNF.o e.symm))
       have M := hd' (hH.trans hS (fun k hk e => by have := HN9ge.o; omega))
       clear hH hS
       generalize V9_3.setCells N9 0 c9.toList = V9_4 at *
       refine hK _ _ M.o (fun hH => ?_)
       clear hK K M
       try simp only [Act.put, uSa, uSb, uSc]
       refine rd 13 (h := fun K hK => ?_)
       refine wp_store_mid 30 _ _ rfl N10 0 #[iV y.1, iV y.2] rfl rfl (HN10.o.there 0 2 (by simp)) uaf (by simp [Value.oneCell']) ?_
       have hS := Blk.setMod V9_4 N10 0 (#[iV y.1, iV y.2] : Array Value).toList
       replace HN10 := hd' (HN10.o.setAll #[iV y.1, iV y.2] rfl)
       replace HR9 := hd' (HR9.o.mod hS (fun k hk hg e => by have := HN10z.o; (try simp only at hg); omega))
       replace HN9 := hd' (HN9.o.mod hS HNF.o)
       have M := hd' (hH.trans hS (fun k hk e => by have := HN10ge.o; omega))
       clear hH hS
       generalize V9_4.setCells N10 0 (#[iV y.1, iV y.2] : Array Value).toList = V9_5 at *
       refine hK _ _ M.o (fun hH => ?_)
       clear hK K M
       try simp only [Act.put, uSa, uSb, uSc]
       refine tk 14 (iV cc) hH (h := ?_)
       have MS := hd' hH
       refine wpAnyH_done (by kernel_rfl) ?_ _
       clear hH
       go_wp2_with fail
       go_meet
       case rel => exact ⟨N9, N10, c9, rfl, rfl, rfl, HN9.o, HR9.o.imp (fun k hk hg => by have := HN9z.o; (try simp only at hg); omega), HN10.o, HN9ge.o, HN10ge.o, HNF.o, MS.o⟩
      ·skip
       skip
       refine al_id rfl (fun V9_2 hb hq => ?_)
       obtain ⟨N10, hN⟩ : ∃ n, n = v9_1.heap.size := ⟨_, rfl⟩
       rw [← hN] at hb ⊢
       have HN10 := hd' hb
       have HN10ge : Hid (wc.heap.size ≤ N10) := hd' (by rw [hN]; exact hH.size)
       have HN10z : Hid (Z ≤ N10) := hd' (by rw [hN]; exact HZ.o)
       replace HR9 := hd' (HR9.o.mod hq (fun _ _ _ h => h))
       replace HZ := hd' (Nat.le_trans HZ.o hq.size)
       have M := hd' (hH.trans' hq)
       clear hH hq hb hN
       refine hK _ _ M.o (fun hH => ?_)
       clear hK K16 M
       try simp only [Act.put, uSa, uSb, uSc]
       refine rd 10 (h := fun K hK => ?_)
       refine al_sc rfl (fun V9_3 hb hq => ?_)
       obtain ⟨N9, hN⟩ : ∃ n, n = V9_2.heap.size := ⟨_, rfl⟩
       rw [← hN] at hb ⊢
       have HN9 := hd' hb
       have HN9ge : Hid (wc.heap.size ≤ N9) := hd' (by rw [hN]; exact hH.size)
       have HN9z : Hid (Z ≤ N9) := hd' (by rw [hN]; exact HZ.o)
       replace HR9 := hd' (HR9.o.mod hq (fun _ _ _ h => h))
       replace HZ := hd' (Nat.le_trans HZ.o hq.size)
       have HNF : Hid (N9 ≠ N10) := hd' (by have := HN10.o.lt; omega)
       replace HN10 := hd' (HN10.o.up hq)
       have M := hd' (hH.trans' hq)
       clear hH hq hb hN
       refine hK _ _ M.o (fun hH => ?_)
       clear hK K M
       try simp only [Act.put, uSa, uSb, uSc]
       refine rd 12 (h := fun K hK => ?_)
       refine wp_store_mid 47 _ _ rfl N9 0 c9 rfl rfl (HN9.o.there 0 _ (by rw [(SnR.one HR9.o).2]; exact Nat.le_refl _)) (size_d (SnR.one HR9.o).2) (SnR.one HR9.o).1 ?_
       have hS := Blk.setMod V9_3 N9 0 c9.toList
       replace HN9 := hd' (HN9.o.setAll c9 (by rw [(SnR.one HR9.o).2]; rfl))
       replace HR9 := hd' (HR9.o.mod hS (fun k hk hg e => by have := HN9z.o; (try simp only at hg); omega))
       replace HZ := hd' (Nat.le_trans HZ.o hS.size)
       replace HN10 := hd' (HN10.o.mod hS (fun e => HNF.o e.symm))
       have M := hd' (hH.trans hS (fun k hk e => by have := HN9ge.o; omega))
       clear hH hS
       generalize V9_3.setCells N9 0 c9.toList = V9_4 at *
       refine hK _ _ M.o (fun hH => ?_)
       clear hK K M
       try simp only [Act.put, uSa, uSb, uSc]
       refine rd 13 (h := fun K hK => ?_)
       refine wp_store_mid 30 _ _ rfl N10 0 #[iV y.1, iV y.2] rfl rfl (HN10.o.there 0 2 (by simp)) uaf (by simp [Value.oneCell']) ?_
       have hS := Blk.setMod V9_4 N10 0 (#[iV y.1, iV y.2] : Array Value).toList
       replace HN10 := hd' (HN10.o.setAll #[iV y.1, iV y.2] rfl)
       replace HR9 := hd' (HR9.o.mod hS (fun k hk hg e => by have := HN10z.o; (try simp only at hg); omega))
       replace HN9 := hd' (HN9.o.mod hS HNF.o)
       have M := hd' (hH.trans hS (fun k hk e => by have := HN10ge.o; omega))
       clear hH hS
       generalize V9_4.setCells N10 0 (#[iV y.1, iV y.2] : Array Value).toList = V9_5 at *
       refine hK _ _ M.o (fun hH => ?_)
       clear hK K M
       try simp only [Act.put, uSa, uSb, uSc]
       refine tk 14 (iV cc) hH (h := ?_)
       have MS := hd' hH
       refine wpAnyH_done (by kernel_rfl) ?_ _
       clear hH
       go_wp2_with fail
       go_meet
       case rel => exact ⟨N9, N10, c9, rfl, rfl, rfl, HN9.o, HR9.o.imp (fun k hk hg => by have := HN9z.o; (try simp only at hg); omega), HN10.o, HN9ge.o, HN10ge.o, HNF.o, MS.o⟩
     ·skip
      rw [if_pos (by rfl)]
      refine al_sc rfl (fun V9_1 hb hq => ?_)
      obtain ⟨N9, hN⟩ : ∃ n, n = wc.drew.heap.size := ⟨_, rfl⟩
      rw [← hN] at hb ⊢
      have HN9 := hd' hb
      have HN9ge : Hid (wc.heap.size ≤ N9) := hd' (by rw [hN]; exact hH.size)
      have M := hd' (hH.trans' hq)
      clear hH hq hb hN
      refine hK _ _ M.o (fun hH => ?_)
      clear hK K15 M
      try simp only [Act.put, uSa, uSb, uSc]
      refine rd2 5 11 (h := fun K17 hK => ?_) (g := fun K17 hK => ?_)
      ·skip
       go_simp
       refine (refDo_any (fun k => k < wc.heap.size ∧ k ≠ A ∧ k ≠ B) _ _ S q _ _ _ (fun k h => Nat.lt_of_lt_of_le h.1 hH.size) ((HBq.o.imp (fun k hk hg => ⟨hk, hg⟩)).mod hH (fun _ _ _ h => h)) ((Hlk.o.imp (fun k hk hg => by have := HA0.o; have := HAB.o; have := HBlt.o; refine ⟨hk, ?_, ?_⟩ <;> omega)).mod hH (fun _ _ _ h => h)) j Hpl.o.2 Hjn.o Hpl.o.1 (Hfit.o.2 q Hqm.o).1 (Hwf.o q Hqm.o).filt (Hwf.o q Hqm.o).back (Hfit.o.2 q Hqm.o).2.1 (Hfit.o.2 q Hqm.o).2.2 (HTb.o.below (hH.below (Nat.le_refl _) (fun _ _ h => h)))).mono ?_
       rintro e v9_2 ⟨v5, rfl, hs5, hm5⟩
       replace hs5 : SnR (fun k => (k < wc.heap.size ∧ k ≠ A ∧ k ≠ B) ∨ _ ≤ k) _ v5 _ := hs5
       rw [← Hr.o] at hs5 ⊢
       dsimp only at hs5 ⊢
       obtain ⟨c9, rfl⟩ := SnR.agg hs5
       have hz := hH.size
       obtain ⟨Z, hZ⟩ : ∃ Z, Z = v9_2.heap.size := ⟨_, rfl⟩
       have HR9 : Hid (SnR (fun k => k < Z ∧ k ≠ A ∧ k ≠ B ∧ k ≠ N9) v9_2 (.agg c9) T) := hd' (hs5.imp (fun k hk hg => by have := HBlt.o; have := HAB.o; have hg := hg; have hdr : wc.drew.heap.size = wc.heap.size := rfl; (try simp only at hg); have := HN9.o.lt; have := HN9ge.o; omega))
       have HZ : Hid (Z ≤ v9_2.heap.size) := hd' (by omega)
       clear hz hZ hs5
       replace HN9 := hd' (HN9.o.up hm5)
       have M := hd' (hH.trans' hm5)
       clear hH hm5
       refine hK _ _ M.o (fun hH => ?_)
       clear hK K17 M
       try simp only [Act.put, uSa, uSb, uSc]
       refine tk 6 (.tuple #[.agg c9, .agg #[iV y.1, iV y.2], iV cc]) hH (h := ?_)
       refine tk 7 (.agg c9) hH (h := ?_)
       refine tk 8 (.agg #[iV y.1, iV y.2]) hH (h := ?_)
       refine tk 9 (iV cc) hH (h := ?_)
       refine rd 11 (h := fun K hK => ?_)
       refine al_id rfl (fun V9_3 hb hq => ?_)
       obtain ⟨N10, hN⟩ : ∃ n, n = v9_2.heap.size := ⟨_, rfl⟩
       rw [← hN] at hb ⊢
       have HN10 := hd' hb
       have HN10ge : Hid (wc.heap.size ≤ N10) := hd' (by rw [hN]; exact hH.size)
       have HN10z : Hid (Z ≤ N10) := hd' (by rw [hN]; exact HZ.o)
       replace HR9 := hd' (HR9.o.mod hq (fun _ _ _ h => h))
       replace HZ := hd' (Nat.le_trans HZ.o hq.size)
       have HNF : Hid (N9 ≠ N10) := hd' (by have := HN9.o.lt; omega)
       replace HN9 := hd' (HN9.o.up hq)
       have M := hd' (hH.trans' hq)
       clear hH hq hb hN
       refine hK _ _ M.o (fun hH => ?_)
       clear hK K M
       try simp only [Act.put, uSa, uSb, uSc]
       refine rd 12 (h := fun K hK => ?_)
       refine wp_store_mid 47 _ _ rfl N9 0 c9 rfl rfl (HN9.o.there 0 _ (by rw [(SnR.one HR9.o).2]; exact Nat.le_refl _)) (size_d (SnR.one HR9.o).2) (SnR.one HR9.o).1 ?_
       have hS := Blk.setMod V9_3 N9 0 c9.toList
       replace HN9 := hd' (HN9.o.setAll c9 (by rw [(SnR.one HR9.o).2]; rfl))
       replace HR9 := hd' (HR9.o.mod hS (fun k hk hg e => by (try simp only at hg); omega))
       replace HZ := hd' (Nat.le_trans HZ.o hS.size)
       replace HN10 := hd' (HN10.o.mod hS (fun e => HNF.o e.symm))
       have M := hd' (hH.trans hS (fun k hk e => by have := HN9ge.o; omega))
       clear hH hS
       generalize V9_3.setCells N9 0 c9.toList = V9_4 at *
       refine hK _ _ M.o (fun hH => ?_)
       clear hK K M
       try simp only [Act.put, uSa, uSb, uSc]
       refine rd 13 (h := fun K hK => ?_)
       refine wp_store_mid 30 _ _ rfl N10 0 #[iV y.1, iV y.2] rfl rfl (HN10.o.there 0 2 (by simp)) uaf (by simp [Value.oneCell']) ?_
       have hS := Blk.setMod V9_4 N10 0 (#[iV y.1, iV y.2] : Array Value).toList
       replace HN10 := hd' (HN10.o.setAll #[iV y.1, iV y.2] rfl)
       replace HR9 := hd' (HR9.o.mod hS (fun k hk hg e => by have := HN10z.o; (try simp only at hg); omega))
       replace HN9 := hd' (HN9.o.mod hS HNF.o)
       have M := hd' (hH.trans hS (fun k hk e => by have := HN10ge.o; omega))
       clear hH hS
       generalize V9_4.setCells N10 0 (#[iV y.1, iV y.2] : Array Value).toList = V9_5 at *
       refine hK _ _ M.o (fun hH => ?_)
       clear hK K M
       try simp only [Act.put, uSa, uSb, uSc]
       refine tk 14 (iV cc) hH (h := ?_)
       have MS := hd' hH
       refine wpAnyH_done (by kernel_rfl) ?_ _
       clear hH
       go_wp2_with fail
       go_meet
       case rel => exact ⟨N9, N10, c9, rfl, rfl, rfl, HN9.o, HR9.o.imp (fun k hk hg => by (try simp only at hg); omega), HN10.o, HN9ge.o, HN10ge.o, HNF.o, MS.o⟩
      ·skip
       skip
       refine al_id rfl (fun V9_2 hb hq => ?_)
       obtain ⟨N10, hN⟩ : ∃ n, n = V9_1.heap.size := ⟨_, rfl⟩
       rw [← hN] at hb ⊢
       have HN10 := hd' hb
       have HN10ge : Hid (wc.heap.size ≤ N10) := hd' (by rw [hN]; exact hH.size)
       have HNF : Hid (N9 ≠ N10) := hd' (by have := HN9.o.lt; omega)
       replace HN9 := hd' (HN9.o.up hq)
       have M := hd' (hH.trans' hq)
       clear hH hq hb hN
       refine hK _ _ M.o (fun hH => ?_)
       clear hK K17 M
       try simp only [Act.put, uSa, uSb, uSc]
       refine rd 5 (h := fun K hK => ?_)
       go_simp
       refine (refDo_any (fun k => k < wc.heap.size ∧ k ≠ A ∧ k ≠ B) _ _ S q _ _ _ (fun k h => Nat.lt_of_lt_of_le h.1 hH.size) ((HBq.o.imp (fun k hk hg => ⟨hk, hg⟩)).mod hH (fun _ _ _ h => h)) ((Hlk.o.imp (fun k hk hg => by have := HA0.o; have := HAB.o; have := HBlt.o; refine ⟨hk, ?_, ?_⟩ <;> omega)).mod hH (fun _ _ _ h => h)) j Hpl.o.2 Hjn.o Hpl.o.1 (Hfit.o.2 q Hqm.o).1 (Hwf.o q Hqm.o).filt (Hwf.o q Hqm.o).back (Hfit.o.2 q Hqm.o).2.1 (Hfit.o.2 q Hqm.o).2.2 (HTb.o.below (hH.below (Nat.le_refl _) (fun _ _ h => h)))).mono ?_
       rintro e v9_3 ⟨v5, rfl, hs5, hm5⟩
       replace hs5 : SnR (fun k => (k < wc.heap.size ∧ k ≠ A ∧ k ≠ B) ∨ _ ≤ k) _ v5 _ := hs5
       rw [← Hr.o] at hs5 ⊢
       dsimp only at hs5 ⊢
       obtain ⟨c9, rfl⟩ := SnR.agg hs5
       have hz := hH.size
       obtain ⟨Z, hZ⟩ : ∃ Z, Z = v9_3.heap.size := ⟨_, rfl⟩
       have HR9 : Hid (SnR (fun k => k < Z ∧ k ≠ A ∧ k ≠ B ∧ k ≠ N9 ∧ k ≠ N10) v9_3 (.agg c9) T) := hd' (hs5.imp (fun k hk hg => by have := HBlt.o; have := HAB.o; have hg := hg; have hdr : wc.drew.heap.size = wc.heap.size := rfl; (try simp only at hg); have := HN9.o.lt; have := HN9ge.o; have := HN10.o.lt; have := HN10ge.o; omega))
       have HZ : Hid (Z ≤ v9_3.heap.size) := hd' (by omega)
       clear hz hZ hs5
       replace HN9 := hd' (HN9.o.up hm5)
       replace HN10 := hd' (HN10.o.up hm5)
       have M := hd' (hH.trans' hm5)
       clear hH hm5
       refine hK _ _ M.o (fun hH => ?_)
       clear hK K M
       try simp only [Act.put, uSa, uSb, uSc]
       refine tk 6 (.tuple #[.agg c9, .agg #[iV y.1, iV y.2], iV cc]) hH (h := ?_)
       refine tk 7 (.agg c9) hH (h := ?_)
       refine tk 8 (.agg #[iV y.1, iV y.2]) hH (h := ?_)
       refine tk 9 (iV cc) hH (h := ?_)
       refine rd 12 (h := fun K hK => ?_)
       refine wp_store_mid 47 _ _ rfl N9 0 c9 rfl rfl (HN9.o.there 0 _ (by rw [(SnR.one HR9.o).2]; exact Nat.le_refl _)) (size_d (SnR.one HR9.o).2) (SnR.one HR9.o).1 ?_
       have hS := Blk.setMod v9_3 N9 0 c9.toList
       replace HN9 := hd' (HN9.o.setAll c9 (by rw [(SnR.one HR9.o).2]; rfl))
       replace HR9 := hd' (HR9.o.mod hS (fun k hk hg e => by (try simp only at hg); omega))
       replace HZ := hd' (Nat.le_trans HZ.o hS.size)
       replace HN10 := hd' (HN10.o.mod hS (fun e => HNF.o e.symm))
       have M := hd' (hH.trans hS (fun k hk e => by have := HN9ge.o; omega))
       clear hH hS
       generalize v9_3.setCells N9 0 c9.toList = V9_4 at *
       refine hK _ _ M.o (fun hH => ?_)
       clear hK K M
       try simp only [Act.put, uSa, uSb, uSc]
       refine rd 13 (h := fun K hK => ?_)
       refine wp_store_mid 30 _ _ rfl N10 0 #[iV y.1, iV y.2] rfl rfl (HN10.o.there 0 2 (by simp)) uaf (by simp [Value.oneCell']) ?_
       have hS := Blk.setMod V9_4 N10 0 (#[iV y.1, iV y.2] : Array Value).toList
       replace HN10 := hd' (HN10.o.setAll #[iV y.1, iV y.2] rfl)
       replace HR9 := hd' (HR9.o.mod hS (fun k hk hg e => by (try simp only at hg); omega))
       replace HN9 := hd' (HN9.o.mod hS HNF.o)
       have M := hd' (hH.trans hS (fun k hk e => by have := HN10ge.o; omega))
       clear hH hS
       generalize V9_4.setCells N10 0 (#[iV y.1, iV y.2] : Array Value).toList = V9_5 at *
       refine hK _ _ M.o (fun hH => ?_)
       clear hK K M
       try simp only [Act.put, uSa, uSb, uSc]
       refine tk 14 (iV cc) hH (h := ?_)
       have MS := hd' hH
       refine wpAnyH_done (by kernel_rfl) ?_ _
       clear hH
       go_wp2_with fail
       go_meet
       case rel => exact ⟨N9, N10, c9, rfl, rfl, rfl, HN9.o, HR9.o.imp (fun k hk hg => by (try simp only at hg); omega), HN10.o, HN9ge.o, HN10ge.o, HNF.o, MS.o⟩
     ·skip
      rw [if_pos (by rfl)]
      refine al_id rfl (fun V9_1 hb hq => ?_)
      obtain ⟨N10, hN⟩ : ∃ n, n = wc.drew.heap.size := ⟨_, rfl⟩
      rw [← hN] at hb ⊢
      have HN10 := hd' hb
      have HN10ge : Hid (wc.heap.size ≤ N10) := hd' (by rw [hN]; exact hH.size)
      have M := hd' (hH.trans' hq)
      clear hH hq hb hN
      refine hK _ _ M.o (fun hH => ?_)
      clear hK K15 M
      try simp only [Act.put, uSa, uSb, uSc]
      refine rd2 5 10 (h := fun K18 hK => ?_) (g := fun K18 hK => ?_)
      ·skip
       go_simp
       refine (refDo_any (fun k => k < wc.heap.size ∧ k ≠ A ∧ k ≠ B) _ _ S q _ _ _ (fun k h => Nat.lt_of_lt_of_le h.1 hH.size) ((HBq.o.imp (fun k hk hg => ⟨hk, hg⟩)).mod hH (fun _ _ _ h => h)) ((Hlk.o.imp (fun k hk hg => by have := HA0.o; have := HAB.o; have := HBlt.o; refine ⟨hk, ?_, ?_⟩ <;> omega)).mod hH (fun _ _ _ h => h)) j Hpl.o.2 Hjn.o Hpl.o.1 (Hfit.o.2 q Hqm.o).1 (Hwf.o q Hqm.o).filt (Hwf.o q Hqm.o).back (Hfit.o.2 q Hqm.o).2.1 (Hfit.o.2 q Hqm.o).2.2 (HTb.o.below (hH.below (Nat.le_refl _) (fun _ _ h => h)))).mono ?_
       rintro e v9_2 ⟨v5, rfl, hs5, hm5⟩
       replace hs5 : SnR (fun k => (k < wc.heap.size ∧ k ≠ A ∧ k ≠ B) ∨ _ ≤ k) _ v5 _ := hs5
       rw [← Hr.o] at hs5 ⊢
       dsimp only at hs5 ⊢
       obtain ⟨c9, rfl⟩ := SnR.agg hs5
       have hz := hH.size
       obtain ⟨Z, hZ⟩ : ∃ Z, Z = v9_2.heap.size := ⟨_, rfl⟩
       have HR9 : Hid (SnR (fun k => k < Z ∧ k ≠ A ∧ k ≠ B ∧ k ≠ N10) v9_2 (.agg c9) T) := hd' (hs5.imp (fun k hk hg => by have := HBlt.o; have := HAB.o; have hg := hg; have hdr : wc.drew.heap.size = wc.heap.size := rfl; (try simp only at hg); have := HN10.o.lt; have := HN10ge.o; omega))
       have HZ : Hid (Z ≤ v9_2.heap.size) := hd' (by omega)
       clear hz hZ hs5
       replace HN10 := hd' (HN10.o.up hm5)
       have M := hd' (hH.trans' hm5)
       clear hH hm5
       refine hK _ _ M.o (fun hH => ?_)
       clear hK K18 M
       try simp only [Act.put, uSa, uSb, uSc]
       refine tk 6 (.tuple #[.agg c9, .agg #[iV y.1, iV y.2], iV cc]) hH (h := ?_)
       refine tk 7 (.agg c9) hH (h := ?_)
       refine tk 8 (.agg #[iV y.1, iV y.2]) hH (h := ?_)
       refine tk 9 (iV cc) hH (h := ?_)
       refine rd 10 (h := fun K hK => ?_)
       refine al_sc rfl (fun V9_3 hb hq => ?_)
       obtain ⟨N9, hN⟩ : ∃ n, n = v9_2.heap.size := ⟨_, rfl⟩
       rw [← hN] at hb ⊢
       have HN9 := hd' hb
       have HN9ge : Hid (wc.heap.size ≤ N9) := hd' (by rw [hN]; exact hH.size)
       have HN9z : Hid (Z ≤ N9) := hd' (by rw [hN]; exact HZ.o)
       replace HR9 := hd' (HR9.o.mod hq (fun _ _ _ h => h))
       replace HZ := hd' (Nat.le_trans HZ.o hq.size)
       have HNF : Hid (N9 ≠ N10) := hd' (by have := HN10.o.lt; omega)
       replace HN10 := hd' (HN10.o.up hq)
       have M := hd' (hH.trans' hq)
       clear hH hq hb hN
       refine hK _ _ M.o (fun hH => ?_)
       clear hK K M
       try simp only [Act.put, uSa, uSb, uSc]
       refine rd 12 (h := fun K hK => ?_)
       refine wp_store_mid 47 _ _ rfl N9 0 c9 rfl rfl (HN9.o.there 0 _ (by rw [(SnR.one HR9.o).2]; exact Nat.le_refl _)) (size_d (SnR.one HR9.o).2) (SnR.one HR9.o).1 ?_
       have hS := Blk.setMod V9_3 N9 0 c9.toList
       replace HN9 := hd' (HN9.o.setAll c9 (by rw [(SnR.one HR9.o).2]; rfl))
       replace HR9 := hd' (HR9.o.mod hS (fun k hk hg e => by have := HN9z.o; (try simp only at hg); omega))
       replace HZ := hd' (Nat.le_trans HZ.o hS.size)
       replace HN10 := hd' (HN10.o.mod hS (fun e => HNF.o e.symm))
       have M := hd' (hH.trans hS (fun k hk e => by have := HN9ge.o; omega))
       clear hH hS
       generalize V9_3.setCells N9 0 c9.toList = V9_4 at *
       refine hK _ _ M.o (fun hH => ?_)
       clear hK K M
       try simp only [Act.put, uSa, uSb, uSc]
       refine rd 13 (h := fun K hK => ?_)
       refine wp_store_mid 30 _ _ rfl N10 0 #[iV y.1, iV y.2] rfl rfl (HN10.o.there 0 2 (by simp)) uaf (by simp [Value.oneCell']) ?_
       have hS := Blk.setMod V9_4 N10 0 (#[iV y.1, iV y.2] : Array Value).toList
       replace HN10 := hd' (HN10.o.setAll #[iV y.1, iV y.2] rfl)
       replace HR9 := hd' (HR9.o.mod hS (fun k hk hg e => by (try simp only at hg); omega))
       replace HN9 := hd' (HN9.o.mod hS HNF.o)
       have M := hd' (hH.trans hS (fun k hk e => by have := HN10ge.o; omega))
       clear hH hS
       generalize V9_4.setCells N10 0 (#[iV y.1, iV y.2] : Array Value).toList = V9_5 at *
       refine hK _ _ M.o (fun hH => ?_)
       clear hK K M
       try simp only [Act.put, uSa, uSb, uSc]
       refine tk 14 (iV cc) hH (h := ?_)
       have MS := hd' hH
       refine wpAnyH_done (by kernel_rfl) ?_ _
       clear hH
       go_wp2_with fail
       go_meet
       case rel => exact ⟨N9, N10, c9, rfl, rfl, rfl, HN9.o, HR9.o.imp (fun k hk hg => by have := HN9z.o; (try simp only at hg); omega), HN10.o, HN9ge.o, HN10ge.o, HNF.o, MS.o⟩
      ·skip
       skip
       refine al_sc rfl (fun V9_2 hb hq => ?_)
       obtain ⟨N9, hN⟩ : ∃ n, n = V9_1.heap.size := ⟨_, rfl⟩
       rw [← hN] at hb ⊢
       have HN9 := hd' hb
       have HN9ge : Hid (wc.heap.size ≤ N9) := hd' (by rw [hN]; exact hH.size)
       have HNF : Hid (N9 ≠ N10) := hd' (by have := HN10.o.lt; omega)
       replace HN10 := hd' (HN10.o.up hq)
       have M := hd' (hH.trans' hq)
       clear hH hq hb hN
       refine hK _ _ M.o (fun hH => ?_)
       clear hK K18 M
       try simp only [Act.put, uSa, uSb, uSc]
       refine rd 5 (h := fun K hK => ?_)
       go_simp
       refine (refDo_any (fun k => k < wc.heap.size ∧ k ≠ A ∧ k ≠ B) _ _ S q _ _ _ (fun k h => Nat.lt_of_lt_of_le h.1 hH.size) ((HBq.o.imp (fun k hk hg => ⟨hk, hg⟩)).mod hH (fun _ _ _ h => h)) ((Hlk.o.imp (fun k hk hg => by have := HA0.o; have := HAB.o; have := HBlt.o; refine ⟨hk, ?_, ?_⟩ <;> omega)).mod hH (fun _ _ _ h => h)) j Hpl.o.2 Hjn.o Hpl.o.1 (Hfit.o.2 q Hqm.o).1 (Hwf.o q Hqm.o).filt (Hwf.o q Hqm.o).back (Hfit.o.2 q Hqm.o).2.1 (Hfit.o.2 q Hqm.o).2.2 (HTb.o.below (hH.below (Nat.le_refl _) (fun _ _ h => h)))).mono ?_
       rintro e v9_3 ⟨v5, rfl, hs5, hm5⟩
       replace hs5 : SnR (fun k => (k < wc.heap.size ∧ k ≠ A ∧ k ≠ B) ∨ _ ≤ k) _ v5 _ := hs5
       rw [← Hr.o] at hs5 ⊢
       dsimp only at hs5 ⊢
       obtain ⟨c9, rfl⟩ := SnR.agg hs5
       have hz := hH.size
       obtain ⟨Z, hZ⟩ : ∃ Z, Z = v9_3.heap.size := ⟨_, rfl⟩
       have HR9 : Hid (SnR (fun k => k < Z ∧ k ≠ A ∧ k ≠ B ∧ k ≠ N9 ∧ k ≠ N10) v9_3 (.agg c9) T) := hd' (hs5.imp (fun k hk hg => by have := HBlt.o; have := HAB.o; have hg := hg; have hdr : wc.drew.heap.size = wc.heap.size := rfl; (try simp only at hg); have := HN9.o.lt; have := HN9ge.o; have := HN10.o.lt; have := HN10ge.o; omega))
       have HZ : Hid (Z ≤ v9_3.heap.size) := hd' (by omega)
       clear hz hZ hs5
       replace HN9 := hd' (HN9.o.up hm5)
       replace HN10 := hd' (HN10.o.up hm5)
       have M := hd' (hH.trans' hm5)
       clear hH hm5
       refine hK _ _ M.o (fun hH => ?_)
       clear hK K M
       try simp only [Act.put, uSa, uSb, uSc]
       refine tk 6 (.tuple #[.agg c9, .agg #[iV y.1, iV y.2], iV cc]) hH (h := ?_)
       refine tk 7 (.agg c9) hH (h := ?_)
       refine tk 8 (.agg #[iV y.1, iV y.2]) hH (h := ?_)
       refine tk 9 (iV cc) hH (h := ?_)
       refine rd 12 (h := fun K hK => ?_)
       refine wp_store_mid 47 _ _ rfl N9 0 c9 rfl rfl (HN9.o.there 0 _ (by rw [(SnR.one HR9.o).2]; exact Nat.le_refl _)) (size_d (SnR.one HR9.o).2) (SnR.one HR9.o).1 ?_
       have hS := Blk.setMod v9_3 N9 0 c9.toList
       replace HN9 := hd' (HN9.o.setAll c9 (by rw [(SnR.one HR9.o).2]; rfl))
       replace HR9 := hd' (HR9.o.mod hS (fun k hk hg e => by (try simp only at hg); omega))
       replace HZ := hd' (Nat.le_trans HZ.o hS.size)
       replace HN10 := hd' (HN10.o.mod hS (fun e => HNF.o e.symm))
       have M := hd' (hH.trans hS (fun k hk e => by have := HN9ge.o; omega))
       clear hH hS
       generalize v9_3.setCells N9 0 c9.toList = V9_4 at *
       refine hK _ _ M.o (fun hH => ?_)
       clear hK K M
       try simp only [Act.put, uSa, uSb, uSc]
       refine rd 13 (h := fun K hK => ?_)
       refine wp_store_mid 30 _ _ rfl N10 0 #[iV y.1, iV y.2] rfl rfl (HN10.o.there 0 2 (by simp)) uaf (by simp [Value.oneCell']) ?_
       have hS := Blk.setMod V9_4 N10 0 (#[iV y.1, iV y.2] : Array Value).toList
       replace HN10 := hd' (HN10.o.setAll #[iV y.1, iV y.2] rfl)
       replace HR9 := hd' (HR9.o.mod hS (fun k hk hg e => by (try simp only at hg); omega))
       replace HN9 := hd' (HN9.o.mod hS HNF.o)
       have M := hd' (hH.trans hS (fun k hk e => by have := HN10ge.o; omega))
       clear hH hS
       generalize V9_4.setCells N10 0 (#[iV y.1, iV y.2] : Array Value).toList = V9_5 at *
       refine hK _ _ M.o (fun hH => ?_)
       clear hK K M
       try simp only [Act.put, uSa, uSb, uSc]
       refine tk 14 (iV cc) hH (h := ?_)
       have MS := hd' hH
       refine wpAnyH_done (by kernel_rfl) ?_ _
       clear hH
       go_wp2_with fail
       go_meet
       case rel => exact ⟨N9, N10, c9, rfl, rfl, rfl, HN9.o, HR9.o.imp (fun k hk hg => by (try simp only at hg); omega), HN10.o, HN9ge.o, HN10ge.o, HNF.o, MS.o⟩
    case rest =>
     obtain ⟨N9, N10, c9, rfl, rfl, rfl, h9, hr9, h10, g9, g10, ne, hm⟩ := hcut
     have HN9 := hd' h9
     have HR9 := hd' hr9
     have HN10 := hd' h10
     have HG9 : Hid (A < N9 ∧ B < N9) := hd' (by have := HBlt.o; have := HAB.o; omega)
     replace HA := hd' (HA.o.up hm)
     replace HB := hd' (HB.o.up hm)
     replace HAq := hd' (HAq.o.mod hm (fun _ _ _ h => h))
     replace HBq := hd' (HBq.o.mod hm (fun _ _ _ h => h))
     replace HN6 := hd' (HN6.o.up hm)
     replace HN7 := hd' (HN7.o.up hm)
     replace HR6 := hd' (HR6.o.mod hm (fun _ _ _ h => h))
     replace HM := hd' (HM.o.trans' hm)
     have HTe : Hid (T = (doP checkS S q).1) := hd' (congrArg (·.1) Hr.o)
     have HFT : Hid (ugk T) := hd' (by rw [HTe.o]; exact (Hpl.o.2.do_ checkS q).fit (by have := Hfit.o.1; omega) (doP_lks Hpl.o.2 checkS q Hpl.o.1 (Hfit.o.2 q Hqm.o).1))
     clear h9 hr9 h10 g9 g10 ne hm HOr Hlk HTb
     generalize wc = W9 at *
     go_upto_region 10 with fail
     go_wp2_with (first | ((with_reducible refine lT 47 ?_); refine ldA HN6.o.whole Tryz.underlying47 uah (hn := by rw [Array.length_toList]; exact (SnR.one HR6.o).2) (h := ?_)) | ((with_reducible refine lT 47 ?_); refine ldA HN9.o.whole Tryz.underlying47 uah (hn := by rw [Array.length_toList]; exact (SnR.one HR9.o).2) (h := ?_)) | fail)
     refine (uhx _ _ _ _ _ T T HR6.o HR9.o HFT.o.root HFT.o.root HFT.o.g HFT.o.l).mono ?_
     rintro e W10 ⟨rfl, hm⟩
     rw [(Sn.sameB_iff T T).2 rfl]
     replace HM := hd' (HM.o.trans' hm)
     replace HA := hd' (HA.o.up hm)
     replace HB := hd' (HB.o.up hm)
     replace HAq := hd' (HAq.o.mod hm (fun _ _ _ h => h))
     replace HBq := hd' (HBq.o.mod hm (fun _ _ _ h => h))
     replace HN6 := hd' (HN6.o.up hm)
     replace HR6 := hd' (HR6.o.mod hm (fun _ _ _ h => h))
     replace HN9 := hd' (HN9.o.up hm)
     replace HR9 := hd' (HR9.o.mod hm (fun _ _ _ h => h))
     replace HN7 := hd' (HN7.o.up hm)
     replace HN10 := hd' (HN10.o.up hm)
     clear hm
     have n0 : W10.cell? ⟨N7, 0, none⟩ = some (iV y.1) := HN7.o.cell 0 rfl
     have n1 : W10.cell? ⟨N7, 1, none⟩ = some (iV y.2) := HN7.o.cell 1 rfl
     have m0 : W10.cell? ⟨N10, 0, none⟩ = some (iV y.1) := HN10.o.cell 0 rfl
     have m1 : W10.cell? ⟨N10, 1, none⟩ = some (iV y.2) := HN10.o.cell 1 rfl
     have e1 := fun (w' : World) => id_ne y y w'
     simp only [decide_true, Bool.not_true] at e1
     go_upto_region 12 with fail
     clear n0 n1 m0 m1 e1 HN7 HN10
     go_upto_region 13 with (first | ((with_reducible refine lT 47 ?_); refine ldA HN6.o.whole Tryz.underlying47 uah (hn := by rw [Array.length_toList]; exact (SnR.one HR6.o).2) (h := ?_)) | ((with_reducible refine sT 47 ?_); refine stA c5 (HA.o.there 0 33 (by rw [(SnR.one HAq.o).2]; exact Nat.le_refl _)) uah (SnR.one HR6.o).1 (hn := (SnR.one HR6.o).2) (h := ?_)) | fail)
     refine putB (fun W12 hS hX => ?_)
     replace HA : Hid (Blk W12 A 47 c5) := hd' (by have h := hX _ _ HA.o; rw [uef _ _ (by rw [Array.length_toList, (SnR.one HAq.o).2, (SnR.one HR6.o).2]), Array.toArray_toList] at h; exact h)
     replace HB := hd' (HB.o.mod hS (by have := HAB.o; omega))
     replace HBq := hd' (HBq.o.mod hS (fun k _ hg e => hg.1 e))
     replace HR6 := hd' (HR6.o.mod hS (fun k _ hg e => hg.1 e))
     replace HR9 := hd' (HR9.o.mod hS (fun k _ hg e => hg.1 e))
     replace HN9 := hd' (HN9.o.mod hS (by have := HG9.o; omega))
     replace HM := hd' (HM.o.trans hS (fun k hk e => by have := HA0.o; omega))
     clear hS hX HAq HN6
     go_upto_region 7 with (first | ((with_reducible refine lT 47 ?_); refine ldA HN9.o.whole Tryz.underlying47 uah (hn := by rw [Array.length_toList]; exact (SnR.one HR9.o).2) (h := ?_)) | ((with_reducible refine sT 47 ?_); refine stA c9 (HB.o.there 0 33 (by rw [(SnR.one HBq.o).2]; exact Nat.le_refl _)) uah (SnR.one HR9.o).1 (hn := (SnR.one HR9.o).2) (h := ?_)) | fail)
     refine putB (fun W13 hS hX => ?_)
     replace HB : Hid (Blk W13 B 47 c9) := hd' (by have h := hX _ _ HB.o; rw [uef _ _ (by rw [Array.length_toList, (SnR.one HBq.o).2, (SnR.one HR9.o).2]), Array.toArray_toList] at h; exact h)
     replace HA := hd' (HA.o.mod hS (by have := HAB.o; omega))
     replace HR6 := hd' (HR6.o.mod hS (fun k _ hg e => hg.2.1 e))
     replace HR9 := hd' (HR9.o.mod hS (fun k _ hg e => hg.2.1 e))
     replace HM := hd' (HM.o.trans hS (fun k hk e => by have := HA0.o; have := HAB.o; omega))
     clear hS hX HBq HN9
     have hwi : wrap64 ((j : Int) + 1) = ((j + 1 : Nat) : Int) := by have := Hil.o; have := Hfit.o.1; unfold wrap64; omega
     go_wp2_with fail
     go_roundw
     case rel => exact ⟨j + 1, by rw [← hwi], by have := Hil.o; omega, ⟨c5, HA.o, by rw [Hsnoc.o, ← HTe.o]; exact HR6.o.imp (fun k _ hg => ⟨hg.1, hg.2.1⟩)⟩, ⟨c9, HB.o, by rw [Hsnoc.o, ← HTe.o]; exact HR9.o.imp (fun k _ hg => ⟨hg.1, hg.2.1⟩)⟩, HM.o⟩
     case measure => rw [hwi]; have := Hil.o; simp only [intOf]; omega
  ·have e0 : decide ((j : Int) < (xs.length : Int)) = false := dqf (by omega)
   have Hpl := hd' (uf3 checkS (fun o ho => (Hfit.o.2 o ho).1) j hj)
   obtain ⟨S, hS⟩ : ∃ S, S = udz checkS (xs.take j) := ⟨_, rfl⟩
   rw [← hS] at Hpl HAq HBq
   have HF : Hid (ugk S) := hd' (Hpl.o.2.fit (by have := Hfit.o.1; omega) Hpl.o.1)
   clear hS hj
   go_wp2_with (first | ((with_reducible refine lT 47 ?_); refine ldA HA.o.whole Tryz.underlying47 uah (hn := by rw [Array.length_toList]; exact (SnR.one HAq.o).2) (h := ?_)) | ((with_reducible refine lT 47 ?_); refine ldA HB.o.whole Tryz.underlying47 uah (hn := by rw [Array.length_toList]; exact (SnR.one HBq.o).2) (h := ?_)) | fail)
   refine (uhx _ _ _ _ _ S S HAq.o HBq.o HF.o.root HF.o.root HF.o.g HF.o.l).mono ?_
   rintro e W9 ⟨rfl, hm⟩
   rw [(Sn.sameB_iff S S).2 rfl]
   replace HM := hd' (HM.o.trans' hm)
   clear hm
   go_wp2_with fail
   go_ret
   exact ⟨rfl, HM.o⟩
end Go.Proofs.YtpbmfalokongfaaGreatDoor
