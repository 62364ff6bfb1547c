/- Texts of the scenes' proofs, laid together: SeT, SeU. -/
import Derived.Test.YtpbmfalokongfaaGreatDoorZan
import Derived.Test.YtpbmfalokongfaaGreatDoorZab
import Derived.Test.YtpbmfalokongfaaGreatDoorZam
import Derived.Test.YtpbmfalokongfaaGreatDoorZao
import Derived.Test.YtpbmfalokongfaaGreatDoorZak
import Derived.Test.YtpbmfalokongfaaGreatDoorZaj
set_option maxHeartbeats 64000000
set_option linter.unusedSimpArgs false
set_option linter.unusedVariables false
set_option linter.unusedSectionVars false
set_option linter.constructorNameAsVariable false
namespace Go.Proofs.YtpbmfalokongfaaGreatDoor
open Go.RowKit Go.Gou
set_option maxRecDepth 100000
theorem ucc {a : Ar} {o : Opr} {b c : Bool} (hi : a.has o.id = b) (ht : a.has o.to = c) : ubo a o = if o.kind = 1 then !c else if o.kind = 3 then !b || !c else !b := by
 unfold ubo; rw [hi, ht]
theorem refDo_any (G : Nat → Prop) (w : World) (v : Value) (s : Sn) (o : Opr) (wp wf wb : Value) (hG : ∀ b, G b → b < w.heap.size) (hs : SnR G w v s) (hv : LookR G w o.look wp wf wb) (n : Nat) (hI : Inv n s) (hn : n ≤ 100) (hall : uij s) (hfit : LkFit o.look)
 (hwf : GrWf o.look.filt) (hwb : GrWf o.look.back) (hff : fewB o.look.filt 300 = true) (hfb : fewB o.look.back 300 = true) (ht : Tabs w) :
 Calls Tryz.prog 13 #[v, .agg (oprC o wp wf wb)] w (DoRP G w (doP checkS s o)) := by
 obtain ⟨vg, vl, vp, vf, vb, vk, rfl, ha, hr⟩ := hs
 obtain ⟨⟨pg, cg, rfl⟩, ⟨pl, cl, rfl⟩⟩ := ha.reads.forms
 have Hsf := hd' (hI.fit hn hall)
 have HI := hd' hI
 have Hn := hd' hn
 have Hall := hd' hall
 have Hfit := hd' hfit
 have Hg := hd' (And.intro (And.intro hwf hwb) (And.intro hff hfb))
 have Ht := hd' ht
 have Hlen := hd' hI.ok.len
 obtain ⟨b0, b1, b2, b3, bm⟩ := ud7 w 47 53 47 30 (scA (.slice pg s.arena.gens.length cg) (.slice pl s.arena.live.length cl) s.root.id s.root.look vp vf vb vk) (oprC o wp wf wb) scZ iiZ
 have hN := (Blk.new ((((w.alloc (.cells (scA (.slice pg s.arena.gens.length cg) (.slice pl s.arena.live.length cl) s.root.id s.root.look vp vf vb vk) 47)).alloc (.cells (oprC o wp wf wb) 53)).alloc (.cells scZ 47)).alloc (.cells iiZ 30)) 30 iiZ).setAll iiZ rfl
 have hm : Gou.Mod (fun _ => False) ((((w.alloc (.cells (scA (.slice pg s.arena.gens.length cg) (.slice pl s.arena.live.length cl) s.root.id s.root.look vp vf vb vk) 47)).alloc (.cells (oprC o wp wf wb) 53)).alloc (.cells scZ 47)).alloc (.cells iiZ 30)) ((((((w.alloc (.cells (scA (.slice pg s.arena.gens.length cg) (.slice pl s.arena.live.length cl) s.root.id s.root.look vp vf vb vk) 47)).alloc (.cells (oprC o wp wf wb) 53)).alloc (.cells scZ 47)).alloc (.cells iiZ 30)).alloc (.cells iiZ 30)).setCells ((((w.alloc (.cells (scA (.slice pg s.arena.gens.length cg) (.slice pl s.arena.live.length cl) s.root.id s.root.look vp vf vb vk) 47)).alloc (.cells (oprC o wp wf wb) 53)).alloc (.cells scZ 47)).alloc (.cells iiZ 30)).heap.size 0 (iiZ : Array Value).toList) := Gou.Mod.allocSet _ _ _
 have HB : Hid (DoB G w ((((((w.alloc (.cells (scA (.slice pg s.arena.gens.length cg) (.slice pl s.arena.live.length cl) s.root.id s.root.look vp vf vb vk) 47)).alloc (.cells (oprC o wp wf wb) 53)).alloc (.cells scZ 47)).alloc (.cells iiZ 30)).alloc (.cells iiZ 30)).setCells ((((w.alloc (.cells (scA (.slice pg s.arena.gens.length cg) (.slice pl s.arena.live.length cl) s.root.id s.root.look vp vf vb vk) 47)).alloc (.cells (oprC o wp wf wb) 53)).alloc (.cells scZ 47)).alloc (.cells iiZ 30)).heap.size 0 (iiZ : Array Value).toList) ((((w.alloc (.cells (scA (.slice pg s.arena.gens.length cg) (.slice pl s.arena.live.length cl) s.root.id s.root.look vp vf vb vk) 47)).alloc (.cells (oprC o wp wf wb) 53)).alloc (.cells scZ 47)).alloc (.cells iiZ 30)).heap.size s o (.slice pg s.arena.gens.length cg) (.slice pl s.arena.live.length cl) vp vf vb vk wp wf wb) :=
  hd' ⟨b0.up hm, b1.up hm, b2.up hm, b3.up hm, hN, Blk.lt b3, bm.trans' hm, hG, (ha.mod (bm.trans' hm) (fun _ _ _ h => h)), hr.up (bm.trans' hm), hv.mod (bm.trans' hm) (fun _ _ _ h => h)⟩
 go_enter Tryz.func13, Tryz.ntmps13
 go_upto_region 1 with fail
 show Code.wp _ _ _ _ (((((w.alloc (.cells (scA (.slice pg s.arena.gens.length cg) (.slice pl s.arena.live.length cl) s.root.id s.root.look vp vf vb vk) 47)).alloc (.cells (oprC o wp wf wb) 53)).alloc (.cells scZ 47)).alloc (.cells iiZ 30)))
 generalize ((((w.alloc (.cells (scA (.slice pg s.arena.gens.length cg) (.slice pl s.arena.live.length cl) s.root.id s.root.look vp vf vb vk) 47)).alloc (.cells (oprC o wp wf wb) 53)).alloc (.cells scZ 47)).alloc (.cells iiZ 30)) = W1 at *
 go_upto_region 2 with (first | ((with_reducible refine sT 30 ?_); refine stA (iiZ) ((Blk.new W1 30 iiZ).there 0 2 (by simp)) uaf (by simp [Value.oneCell']) (h := ?_)) | fail)
 generalize (W1.alloc (.cells iiZ 30)).setCells W1.heap.size 0 (iiZ : Array Value).toList = W2 at *
 generalize W1.heap.size = N at *
 have c0 := HB.o.c0
 by_cases k1 : o.kind < 1
 ·have e1 : decide (o.kind < 1) = true := dqt k1
  have Hd := hd' (ue5 checkS s o (.inl k1))
  go_upto_region 3 with fail
  refine HB.o.tl (h := fun W9 h1 h2 hm9 => ?_)
  simp only [Act.put, uSa, uSb, uSc]
  go_wp2_with fail
  refine ubh rfl rfl rfl rfl h1 h2 rfl rfl ?_
  rw [Hd.o]
  exact HB.o.fin (r := (s, (0, 0), 1)) HB.o.sn hm9 rfl rfl
 by_cases k11 : 11 < o.kind
 ·have e1 : decide (o.kind < 1) = false := dqf k1
  have e2 : decide (11 < o.kind) = true := dqt k11
  have Hd := hd' (ue5 checkS s o (.inr k11))
  go_upto_region 3 with fail
  refine HB.o.tl (h := fun W9 h1 h2 hm9 => ?_)
  simp only [Act.put, uSa, uSb, uSc]
  go_wp2_with fail
  refine ubh rfl rfl rfl rfl h1 h2 rfl rfl ?_
  rw [Hd.o]
  exact HB.o.fin (r := (s, (0, 0), 1)) HB.o.sn hm9 rfl rfl
 have e1 : decide (o.kind < 1) = false := dqf k1
 have e2 : decide (11 < o.kind) = false := dqf k11
 have HK : Hid (1 ≤ o.kind ∧ o.kind ≤ 11) := hd' (by omega)
 have s0 := HB.o.s0
 have s1 := HB.o.s1
 have i0 := HB.o.i0
 have i1 := HB.o.i1
 go_upto_region 4 with fail
 go_wp2_with fail
 refine (udh _ _ _ s.arena o.id HB.o.ar.reads Hlen.o Hsf.o.g).mono ?_
 rintro e W3 ⟨rfl, hm3⟩
 replace HB := hd' (HB.o.up hm3)
 have s0 := HB.o.s0
 have s1 := HB.o.s1
 have t0 := HB.o.t0
 have t1 := HB.o.t1
 go_wp2_with fail
 refine (udh _ _ _ s.arena o.to HB.o.ar.reads Hlen.o Hsf.o.g).mono ?_
 rintro e W4 ⟨rfl, hm4⟩
 replace HB := hd' (HB.o.up hm4)
 have c0 := HB.o.c0
 by_cases k1 : o.kind = 1
 ·rw [k1] at c0
  cases hto : s.arena.has o.to
  ·have Hd := hd' (ub3 checkS s o HK.o.1 HK.o.2 (by rw [ucc rfl hto, if_pos k1]; rfl))
   go_upto_region 7 with fail
   refine HB.o.tl (h := fun W9 h1 h2 hm9 => ?_)
   simp only [Act.put, uSa, uSb, uSc]
   go_wp2_with fail
   refine ubh rfl rfl rfl rfl h1 h2 rfl rfl ?_
   rw [Hd.o]
   exact HB.o.fin (r := (s, (0, 0), 4)) HB.o.sn hm9 rfl rfl
  ·have Hst : Hid (ubo s.arena o = false) := hd' (by rw [ucc rfl hto, if_pos k1]; rfl)
   have Hk := hd' k1
   clear hto k1
   go_upto_region 8 with fail
   have s0 := HB.o.s0
   have s1 := HB.o.s1
   have HNB := hd' (Blk.lt HB.o.n)
   go_wp2_with (first | ((with_reducible refine lT 45 ?_); refine ldA HB.o.root Tryz.underlying45 uaa (h := ?_)) | ((with_reducible show wpList _ _ _ (⟨some 82, Op.build _ _, _, _, _, _⟩ :: _) _ _); refine halt ?_) | fail)
   show wpList _ _ _ _ _ _
   refine uav rfl (.agg (scA (.slice pg s.arena.gens.length cg) (.slice pl s.arena.live.length cl) s.root.id s.root.look vp vf vb vk)) (by kernel_rfl) ?_
   simp only [Act.put, uSa, uSb, uSc]
   go_upto_region 9 with (first | ((with_reducible refine sT 47 ?_); refine stA (scA (.slice pg s.arena.gens.length cg) (.slice pl s.arena.live.length cl) s.root.id s.root.look vp vf vb vk) ((Blk.new W4 47 scZ).there 0 33 (by simp [scA, lyA, uai])) uah (ubf rfl rfl (LyR.one HB.o.ly)) (h := ?_)) | fail)
   clear s0 s1
   refine newB rfl (fun W5 hb hm => ?_)
   have HX := hd' hb
   replace HB := hd' (HB.o.up hm)
   clear hb hm
   generalize W4.heap.size = B at *
   clear c0
   have c0 := HB.o.c0
   rw [Hk.o] at c0
   obtain ⟨x, d, hf, hd⟩ := doR_ins HI.o checkS o Hk.o Hst.o
   have Hf := hd' hf
   have Hd0 := hd' hd
   clear hf hd
   go_upto_region 17 with fail
   clear c0
   have t0 := HB.o.t0
   have t1 := HB.o.t1
   go_wp2_with (first | ((with_reducible refine lT 45 ?_); refine ldA HB.o.root Tryz.underlying45 uaa (h := ?_)) | fail)
   refine (ubl o.to s.root G _ _ _ _ _ HB.o.gw HB.o.ly Hsf.o.root (by have := HI.o.deep; omega)).mono ?_
   rintro e W6 ⟨hm, -, hy⟩
   obtain ⟨yp, yf, yb, yk, rfl, hyr⟩ := hy _ _ Hf.o
   have Hyy := hd' hyr
   replace HB := hd' (HB.o.up hm)
   replace HX := hd' (HX.o.up hm)
   clear hm hy hyr
   go_upto_region 18 with (first | ((with_reducible refine sT 45 ?_); refine stA (lyA x.id x.look yp yf yb yk) ((Blk.new W6 45 lyZ).there 0 31 (by simp [scA, lyA, uai])) uaa (uat (LyR.one Hyy.o)) (h := ?_)) | fail)
   refine newB rfl (fun W7 hb hm => ?_)
   have HY := hd' hb
   replace HB := hd' (HB.o.up hm)
   replace HX := hd' (HX.o.up hm)
   replace Hyy := hd' (Hyy.o.up hm)
   clear hb hm
   generalize W6.heap.size = BX at *
   clear t0 t1
   obtain ⟨-, css, hrow, -, -⟩ := Hyy.o.parts
   obtain ⟨pk, ck, rfl⟩ := RowG.slice hrow
   clear hrow css Hyy
   have k30 : W7.cell? ⟨BX, 30, none⟩ = some (.slice pk x.kids.length ck) := HY.o.cell 30 rfl
   have a0 := HB.o.a0
   by_cases b1 : o.at_ < 0
   ·have e1 : decide (o.at_ < 0) = true := dqt b1
    have Hd : Hid (doP checkS s o = (s, (0, 0), 3)) := hd' (by rw [Hd0.o, if_pos (.inl b1)])
    clear Hd0
    clear b1
    go_upto_region 19 with fail
    refine HB.o.tl (h := fun W9 h1 h2 hm9 => ?_)
    simp only [Act.put, uSa, uSb, uSc]
    go_wp2_with fail
    refine ubh rfl rfl rfl rfl h1 h2 rfl rfl ?_
    rw [Hd.o]
    exact HB.o.fin (r := (s, (0, 0), 3)) HB.o.sn hm9 rfl rfl
   have e1 : decide (o.at_ < 0) = false := dqf b1
   by_cases b2 : (x.kids.length : Int) < o.at_
   ·have e2 : decide ((x.kids.length : Int) < o.at_) = true := dqt b2
    have Hd : Hid (doP checkS s o = (s, (0, 0), 3)) := hd' (by rw [Hd0.o, if_pos (.inr (.inl b2))])
    clear Hd0
    clear b1 b2
    go_upto_region 19 with fail
    refine HB.o.tl (h := fun W9 h1 h2 hm9 => ?_)
    simp only [Act.put, uSa, uSb, uSc]
    go_wp2_with fail
    refine ubh rfl rfl rfl rfl h1 h2 rfl rfl ?_
    rw [Hd.o]
    exact HB.o.fin (r := (s, (0, 0), 3)) HB.o.sn hm9 rfl rfl
   have e2 : decide ((x.kids.length : Int) < o.at_) = false := dqf b2
   by_cases b3 : 64 ≤ d
   ·have e3 : decide ((64 : Int) ≤ (d : Nat)) = true := dqt (by omega)
    have Hd : Hid (doP checkS s o = (s, (0, 0), 3)) := hd' (by rw [Hd0.o, if_pos (.inr (.inr b3))])
    clear Hd0
    clear b1 b2 b3
    go_upto_region 19 with fail
    refine HB.o.tl (h := fun W9 h1 h2 hm9 => ?_)
    simp only [Act.put, uSa, uSb, uSc]
    go_wp2_with fail
    refine ubh rfl rfl rfl rfl h1 h2 rfl rfl ?_
    rw [Hd.o]
    exact HB.o.fin (r := (s, (0, 0), 3)) HB.o.sn hm9 rfl rfl
   have e3 : decide ((64 : Int) ≤ (d : Nat)) = false := dqf (by omega)
   replace Hd0 := hd' (Hd0.o.trans (if_neg (by omega)))
   clear b1 b2 b3
   go_upto_region 20 with fail
   clear e1 e2 e3 a0 k30 HY
   have HAN : Hid (ArN s.arena 10000) := hd' ⟨HI.o.ok.len, by have := HI.o.small; have := HI.o.ok.len; have := Hn.o; omega, fun g hg => ⟨(HI.o.ok.gen g hg).1, by have h1 := (HI.o.ok.gen g hg).2; have h2 : n * n ≤ 100 * 100 := Nat.mul_le_mul Hn.o Hn.o; exact Int.le_trans h1 (by exact_mod_cast h2)⟩⟩
   have s0 := HB.o.s0
   have s1 := HB.o.s1
   have HBl : Hid (B < W7.heap.size) := hd' (Blk.lt HX.o)
   go_wp2_with fail
   refine (takeA_any G _ _ _ s.arena HB.o.gw HB.o.ar (HAN.o.fit (by omega))).mono ?_
   rintro e W8 ⟨v, rfl, vg2, vl2, rfl, ha2, hm⟩
   obtain ⟨⟨p2, c2, rfl⟩, ⟨q2, d2, rfl⟩⟩ := ha2.reads.forms
   have Ha2 := hd' ha2
   replace HB := hd' (HB.o.up hm)
   replace HX := hd' (HX.o.up hm)
   have HW8 := hd' (Nat.lt_of_lt_of_le HBl.o hm.size)
   clear hm ha2 s0 s1 HAN
   go_upto_region 21 with (first | ((with_reducible refine sT 28 ?_); refine stA (#[Value.slice p2 s.arena.takeO.1.gens.length c2, Value.slice q2 s.arena.takeO.1.live.length d2]) ((uaw W8 28 30 (#[Value.slice none 0 0, Value.slice none 0 0]) iiZ).1.there 0 2 (by simp [scA, lyA])) uae (by simp [Value.oneCell']) (h := ?_)) | ((with_reducible refine sT 30 ?_); refine stA (#[iV s.arena.takeO.2.1.1, iV s.arena.takeO.2.1.2]) (((uaw W8 28 30 (#[Value.slice none 0 0, Value.slice none 0 0]) iiZ).2.1.mod (Blk.setMod ((W8.alloc (.cells (#[Value.slice none 0 0, Value.slice none 0 0]) 28)).alloc (.cells iiZ 30)) W8.heap.size 0 (#[Value.slice p2 s.arena.takeO.1.gens.length c2, Value.slice q2 s.arena.takeO.1.live.length d2]).toList) (by omega)).there 0 2 (by simp)) uaf (by simp [Value.oneCell']) (h := ?_)) | fail)
   obtain ⟨a0, a1, am⟩ := uaw W8 28 30 (#[Value.slice none 0 0, Value.slice none 0 0]) iiZ
   have hM1 := Blk.setMod ((W8.alloc (.cells (#[Value.slice none 0 0, Value.slice none 0 0]) 28)).alloc (.cells iiZ 30)) W8.heap.size 0 (#[Value.slice p2 s.arena.takeO.1.gens.length c2, Value.slice q2 s.arena.takeO.1.live.length d2]).toList
   have hM2 := Blk.setMod (((W8.alloc (.cells (#[Value.slice none 0 0, Value.slice none 0 0]) 28)).alloc (.cells iiZ 30)).setCells W8.heap.size 0 (#[Value.slice p2 s.arena.takeO.1.gens.length c2, Value.slice q2 s.arena.takeO.1.live.length d2]).toList) (W8.heap.size + 1) 0 (#[iV s.arena.takeO.2.1.1, iV s.arena.takeO.2.1.2] : Array Value).toList
   have HBA := hd' (((a0.setAll #[Value.slice p2 s.arena.takeO.1.gens.length c2, Value.slice q2 s.arena.takeO.1.live.length d2] rfl).mod hM2 (by omega)))
   have HBI := hd' ((a1.mod hM1 (by omega)).setAll #[iV s.arena.takeO.2.1.1, iV s.arena.takeO.2.1.2] rfl)
   have hm := (am.trans hM1 (fun k hk e => by omega)).trans hM2 (fun k hk e => by omega)
   replace Ha2 := hd' (Ha2.o.mod hm (fun _ _ _ h => h))
   replace HB := hd' (HB.o.up hm)
   replace HX := hd' (HX.o.up hm)
   clear hm hM1 hM2 a0 a1 am
   generalize (((W8.alloc (.cells (#[Value.slice none 0 0, Value.slice none 0 0]) 28)).alloc (.cells iiZ 30)).setCells W8.heap.size 0 (#[Value.slice p2 s.arena.takeO.1.gens.length c2, Value.slice q2 s.arena.takeO.1.live.length d2]).toList).setCells (W8.heap.size + 1) 0 (#[iV s.arena.takeO.2.1.1, iV s.arena.takeO.2.1.2] : Array Value).toList = W9 at *
   generalize W8.heap.size = BA at *
   cases htk : s.arena.takeO.2.2
   ·have Hd : Hid (doP checkS s o = (s, (0, 0), 9)) := hd' (by rw [Hd0.o, if_neg (by rw [htk]; simp)])
    clear Hd0 htk
    go_upto_region 22 with fail
    refine HB.o.tl (h := fun W9 h1 h2 hm9 => ?_)
    simp only [Act.put, uSa, uSb, uSc]
    go_wp2_with fail
    refine ubh rfl rfl rfl rfl h1 h2 rfl rfl ?_
    rw [Hd.o]
    exact HB.o.fin (r := (s, (0, 0), 9)) HB.o.sn hm9 rfl rfl
   ·have Hd : Hid (doP checkS s o = (⟨s.arena.takeO.1, s.root.with_ o.to o.at_ (.mk s.arena.takeO.2.1 Lk.plain [])⟩, s.arena.takeO.2.1, 0)) := hd' (by rw [Hd0.o, if_pos htk])
    clear Hd0 htk
    go_upto_region 23 with fail
    go_upto_region 24 with (first | ((with_reducible refine lT 28 ?_); refine ldA HBA.o.whole Tryz.underlying28 uae (h := ?_)) | ((with_reducible refine sT 28 ?_); refine stA (#[Value.slice p2 s.arena.takeO.1.gens.length c2, Value.slice q2 s.arena.takeO.1.live.length d2]) (HX.o.there 0 2 (by simp [scA])) uae (by simp [Value.oneCell']) (h := ?_)) | fail)
    refine putB (fun W10 hS hX => ?_)
    replace HX := hd' (hX _ _ HX.o)
    rw [uee] at HX
    replace HB := hd' (HB.o.mod hS (fun k e => by have := HNB.o; omega))
    replace HBI := hd' (HBI.o.mod hS (by have := HW8.o; omega))
    replace Ha2 := hd' (Ha2.o.mod hS (fun k _ hg e => by have := HNB.o; have := HBl.o; have := HB.o.lt; rcases hg with hg | hg; (have := HB.o.g _ hg; omega); omega))
    clear hS hX HBA
    have j0 : W10.cell? ⟨BA + 1, 0, none⟩ = some (iV s.arena.takeO.2.1.1) := HBI.o.cell 0 rfl
    have j1 : W10.cell? ⟨BA + 1, 1, none⟩ = some (iV s.arena.takeO.2.1.2) := HBI.o.cell 1 rfl
    have t0 := HB.o.t0
    have t1 := HB.o.t1
    have a0 := HB.o.a0
    go_wp2_with (first | ((with_reducible refine lT 45 ?_); refine ldA HB.o.root Tryz.underlying45 uaa (h := ?_)) | ((with_reducible show wpList _ _ _ (⟨some 163, Op.build _ _, _, _, _, _⟩ :: _) _ _); refine halt ?_) | fail)
    show wpList _ _ _ _ _ _
    refine uav rfl (.agg (uai Lk.plain nlS nlS nlS)) (by kernel_rfl) ?_
    simp only [Act.put, uSa, uSb, uSc]
    refine uav rfl (.agg (lyA s.arena.takeO.2.1 Lk.plain nlS nlS nlS nlS)) (by kernel_rfl) ?_
    simp only [Act.put, uSa, uSb, uSc]
    go_wp2_with fail
    refine (ufx o.to o.at_ (.mk s.arena.takeO.2.1 Lk.plain []) s.root G _ _ _ _ _ nlS nlS nlS nlS HB.o.gw HB.o.ly Hsf.o.root (.mk _ _ [] _ _ _ _ [] ⟨PixR.nil _ _, NodesR.nil _ _, NodesR.nil _ _⟩ (RowG.nil _ _ _) rfl (fun j c k h => by simp at h))).mono ?_
    rintro e W11 ⟨zp, zf, zb, zk, rfl, hz, hm⟩
    have Hz := hd' hz
    have HBm : Hid (B < W10.heap.size) := hd' (Blk.lt HX.o)
    replace Ha2 := hd' (Ha2.o.mod hm (fun _ _ _ h => h))
    replace HB := hd' (HB.o.up hm)
    replace HX := hd' (HX.o.up hm)
    replace HBI := hd' (HBI.o.up hm)
    clear hm hz t0 t1 a0 j0 j1
    go_upto_region 25 with (first | ((with_reducible refine sT 45 ?_); refine stA (lyA (s.root.with_ o.to o.at_ (.mk s.arena.takeO.2.1 Lk.plain [])).id (s.root.with_ o.to o.at_ (.mk s.arena.takeO.2.1 Lk.plain [])).look zp zf zb zk) (HX.o.there 2 31 (by simp [scA])) uaa (uat (LyR.one Hz.o)) (h := ?_)) | fail)
    refine putB (fun W12 hS hX => ?_)
    replace HX := hd' (hX _ _ HX.o)
    rw [uby] at HX
    replace HB := hd' (HB.o.mod hS (fun k e => by have := HNB.o; omega))
    replace Hz := hd' (Hz.o.mod hS (fun k _ hg e => by have := HNB.o; have := HBm.o; have := HB.o.lt; rcases hg with hg | hg; (have := HB.o.g _ hg; omega); omega))
    replace Ha2 := hd' (Ha2.o.mod hS (fun k _ hg e => by have := HNB.o; have := HBl.o; have := HB.o.lt; rcases hg with hg | hg; (have := HB.o.g _ hg; omega); omega))
    replace HBI := hd' (HBI.o.mod hS (by have := HW8.o; omega))
    clear hS hX
    go_upto_region 25 with fail
    refine ujd (TS := 47) (TI := 30) (cs := scA (.slice p2 s.arena.takeO.1.gens.length c2) (.slice q2 s.arena.takeO.1.live.length d2) (s.root.with_ o.to o.at_ (.mk s.arena.takeO.2.1 Lk.plain [])).id (s.root.with_ o.to o.at_ (.mk s.arena.takeO.2.1 Lk.plain [])).look zp zf zb zk) HX.o.whole HBI.o.whole HB.o.r1 HB.o.r2 (by have := HNB.o; have := HB.o.lt; omega) (by have := HNB.o; have := HB.o.lt; have := HW8.o; omega) (by omega) Tryz.underlying47 Tryz.underlying30 rfl rfl uah uaf rfl rfl (ubf rfl rfl (LyR.one Hz.o)) (by simp [Value.oneCell']) (h := fun W9 h1 h2 hm9 => ?_)
    simp only [Act.put, uSa, uSb, uSc]
    go_wp2_with fail
    refine ubh rfl rfl rfl rfl h1 h2 rfl rfl ?_
    rw [Hd.o]
    exact HB.o.fin (r := (⟨s.arena.takeO.1, s.root.with_ o.to o.at_ (.mk s.arena.takeO.2.1 Lk.plain [])⟩, s.arena.takeO.2.1, 0)) ⟨_, _, _, _, _, _, rfl, Ha2.o.imp (fun k hg => by rcases hg with hg | hg; (exact .inl hg); (exact .inr (by have := HNB.o; have := HBl.o; have := HB.o.lt; omega))), Hz.o.imp (fun k _ hg => by rcases hg with hg | hg; (exact .inl hg); (exact .inr (by have := HNB.o; have := HBm.o; have := HB.o.lt; omega)))⟩ hm9 rfl rfl
 by_cases k3 : o.kind = 3
 ·rw [k3] at c0
  cases hid : s.arena.has o.id
  ·have Hd := hd' (ub3 checkS s o HK.o.1 HK.o.2 (by rw [ucc hid rfl, if_neg (by omega), if_pos k3]; rfl))
   clear hid k1 k3
   go_upto_region 7 with fail
   refine HB.o.tl (h := fun W9 h1 h2 hm9 => ?_)
   simp only [Act.put, uSa, uSb, uSc]
   go_wp2_with fail
   refine ubh rfl rfl rfl rfl h1 h2 rfl rfl ?_
   rw [Hd.o]
   exact HB.o.fin (r := (s, (0, 0), 4)) HB.o.sn hm9 rfl rfl
  ·cases hto : s.arena.has o.to
   ·have Hd := hd' (ub3 checkS s o HK.o.1 HK.o.2 (by rw [ucc hid hto, if_neg (by omega), if_pos k3]; rfl))
    clear hid hto k1 k3
    go_upto_region 7 with fail
    refine HB.o.tl (h := fun W9 h1 h2 hm9 => ?_)
    simp only [Act.put, uSa, uSb, uSc]
    go_wp2_with fail
    refine ubh rfl rfl rfl rfl h1 h2 rfl rfl ?_
    rw [Hd.o]
    exact HB.o.fin (r := (s, (0, 0), 4)) HB.o.sn hm9 rfl rfl
   ·have Hst : Hid (ubo s.arena o = false) := hd' (by rw [ucc hid hto, if_neg (by omega), if_pos k3]; rfl)
    have Hk := hd' k3
    clear hid hto k1 k3
    go_upto_region 8 with fail
    have s0 := HB.o.s0
    have s1 := HB.o.s1
    have HNB := hd' (Blk.lt HB.o.n)
    go_wp2_with (first | ((with_reducible refine lT 45 ?_); refine ldA HB.o.root Tryz.underlying45 uaa (h := ?_)) | ((with_reducible show wpList _ _ _ (⟨some 82, Op.build _ _, _, _, _, _⟩ :: _) _ _); refine halt ?_) | fail)
    show wpList _ _ _ _ _ _
    refine uav rfl (.agg (scA (.slice pg s.arena.gens.length cg) (.slice pl s.arena.live.length cl) s.root.id s.root.look vp vf vb vk)) (by kernel_rfl) ?_
    simp only [Act.put, uSa, uSb, uSc]
    go_upto_region 9 with (first | ((with_reducible refine sT 47 ?_); refine stA (scA (.slice pg s.arena.gens.length cg) (.slice pl s.arena.live.length cl) s.root.id s.root.look vp vf vb vk) ((Blk.new W4 47 scZ).there 0 33 (by simp [scA, lyA, uai])) uah (ubf rfl rfl (LyR.one HB.o.ly)) (h := ?_)) | fail)
    clear s0 s1
    refine newB rfl (fun W5 hb hm => ?_)
    have HX := hd' hb
    replace HB := hd' (HB.o.up hm)
    clear hb hm
    generalize W4.heap.size = B at *
    clear c0
    have c0 := HB.o.c0
    rw [Hk.o] at c0
    go_upto_region 26 with fail
    clear c0
    have i0 := HB.o.i0
    have i1 := HB.o.i1
    have n0 := HB.o.n0
    have n1 := HB.o.n1
    have Hid0 := fun (w' : World) => udm o.id (0, 0) w'
    by_cases hid : o.id = (0, 0)
    ·have ez : decide (o.id = ((0 : Int), (0 : Int))) = true := dqt hid
     rw [ez] at Hid0
     have Hd := hd' (ude checkS s o (by have := Hk.o; omega) (by have := Hk.o; omega) Hst.o hid)
     clear hid ez
     go_upto_region 27 with fail
     refine HB.o.tl (h := fun W9 h1 h2 hm9 => ?_)
     simp only [Act.put, uSa, uSb, uSc]
     go_wp2_with fail
     refine ubh rfl rfl rfl rfl h1 h2 rfl rfl ?_
     rw [Hd.o]
     exact HB.o.fin (r := (s, (0, 0), 1)) HB.o.sn hm9 rfl rfl
    have ez : decide (o.id = ((0 : Int), (0 : Int))) = false := dqf hid
    rw [ez] at Hid0
    obtain ⟨π, i, q, kk, T2, hO⟩ := outAt HI.o o (by have := (by have := Hk.o; omega); omega) Hst.o hid
    have HO := hd' hO
    have Hidn := hd' hid
    clear hid hO
    go_upto_region 28 with fail
    clear Hid0 ez n0 n1
    go_wp2_with (first | ((with_reducible refine lT 45 ?_); refine ldA HB.o.root Tryz.underlying45 uaa (h := ?_)) | fail)
    refine (ubl o.id s.root G _ _ _ _ _ HB.o.gw HB.o.ly Hsf.o.root (by have := HI.o.deep; omega)).mono ?_
    rintro e W6 ⟨hm, -, hy⟩
    obtain ⟨yp, yf, yb, yk, rfl, hyr⟩ := hy _ _ HO.o.found
    have Hyy := hd' hyr
    replace HB := hd' (HB.o.up hm)
    replace HX := hd' (HX.o.up hm)
    clear hm hy hyr
    go_upto_region 29 with (first | ((with_reducible refine sT 45 ?_); refine stA (lyA kk.id kk.look yp yf yb yk) ((Blk.new W6 45 lyZ).there 0 31 (by simp [scA, lyA, uai])) uaa (uat (LyR.one Hyy.o)) (h := ?_)) | fail)
    refine newB rfl (fun W7 hb hm => ?_)
    have HY := hd' hb
    replace HB := hd' (HB.o.up hm)
    replace HX := hd' (HX.o.up hm)
    replace Hyy := hd' (Hyy.o.up hm)
    clear hb hm
    generalize W6.heap.size = BS at *
    clear i0 i1
    have i0 := HB.o.i0
    have i1 := HB.o.i1
    have HBM : Hid (B < W7.heap.size) := hd' (Blk.lt HX.o)
    have HSM : Hid (BS < W7.heap.size) := hd' (Blk.lt HY.o)
    go_wp2_with (first | ((with_reducible refine lT 45 ?_); refine ldA HB.o.root Tryz.underlying45 uaa (h := ?_)) | fail)
    refine (uea o.id s.root G _ _ _ _ _ HB.o.gw HB.o.ly Hsf.o.root).mono ?_
    rintro e W8 ⟨rp, rf, rb, rk, rfl, hr, hm⟩
    have Hr := hd' (LyR.imp (G' := fun b => G b ∨ W7.heap.size ≤ b ∧ b < W8.heap.size) hr (fun k hk hg => hg.imp_right (fun h => ⟨h, hk⟩)))
    have HMR : Hid (W7.heap.size ≤ W8.heap.size) := hd' hm.size
    replace HB := hd' (HB.o.up hm)
    replace HX := hd' (HX.o.up hm)
    replace HY := hd' (HY.o.up hm)
    replace Hyy := hd' (Hyy.o.up hm)
    clear hm hr i0 i1
    go_upto_region 30 with (first | ((with_reducible refine sT 45 ?_); refine stA (lyA (s.root.without o.id).id (s.root.without o.id).look rp rf rb rk) ((Blk.new W8 45 lyZ).there 0 31 (by simp [scA, lyA, uai])) uaa (uat (LyR.one Hr.o)) (h := ?_)) | fail)
    generalize W7.heap.size = M at *
    refine newB rfl (fun W9 hb hm => ?_)
    have HRb := hd' hb
    replace HB := hd' (HB.o.up hm)
    replace HX := hd' (HX.o.up hm)
    replace HY := hd' (HY.o.up hm)
    replace Hyy := hd' (Hyy.o.up hm)
    replace Hr := hd' (Hr.o.up hm)
    clear hb hm
    generalize W8.heap.size = BR at *
    have c0 := HB.o.c0
    rw [Hk.o] at c0
    go_upto_region 34 with fail
    clear c0
    have t0 := HB.o.t0
    have t1 := HB.o.t1
    go_upto_region 35 with (first | ((with_reducible refine sT 30 ?_); refine stA (#[iV o.to.1, iV o.to.2]) ((Blk.new W9 30 iiZ).there 0 2 (by simp)) uaf (by simp [Value.oneCell']) (h := ?_)) | fail)
    clear t0 t1
    have HRT : Hid (BR < W9.heap.size) := hd' (Blk.lt HRb.o)
    refine newB rfl (fun W10 hb hm => ?_)
    have HT := hd' hb
    replace HB := hd' (HB.o.up hm)
    replace HX := hd' (HX.o.up hm)
    replace HY := hd' (HY.o.up hm)
    replace Hyy := hd' (Hyy.o.up hm)
    replace HRb := hd' (HRb.o.up hm)
    replace Hr := hd' (Hr.o.up hm)
    clear hb hm
    generalize W9.heap.size = BT at *
    have c0 := HB.o.c0
    rw [Hk.o] at c0
    go_upto_region 38 with fail
    clear c0
    have t0 := HB.o.t0
    have t1 := HB.o.t1
    cases hto : kk.find o.to with
    | some yd =>
     obtain ⟨y, d⟩ := yd
     have Hd := hd' (doR_cyc checkS o HO.o Hk.o Hst.o Hidn.o hto)
     have Hto := hd' hto
     clear hto
     go_wp2_with (first | ((with_reducible refine lT 45 ?_); refine ldA HY.o.whole Tryz.underlying45 uaa (h := ?_)) | fail)
     refine (ubl o.to kk G _ _ _ _ _ HB.o.gw Hyy.o (Hsf.o.root.get HO.o.geti) (by have := HO.o.kdeep; omega)).mono ?_
     rintro e W11 ⟨hm, -, hy⟩
     obtain ⟨up, uf, ub, uk, rfl, hyr⟩ := hy _ _ Hto.o
     have Hyu := hd' hyr
     replace HB := hd' (HB.o.up hm)
     replace HX := hd' (HX.o.up hm)
     replace HY := hd' (HY.o.up hm)
     replace Hyy := hd' (Hyy.o.up hm)
     replace HRb := hd' (HRb.o.up hm)
     replace Hr := hd' (Hr.o.up hm)
     replace HT := hd' (HT.o.up hm)
     clear hm hy hyr
     go_upto_region 39 with (first | ((with_reducible refine sT 45 ?_); refine stA (lyA y.id y.look up uf ub uk) ((Blk.new W11 45 lyZ).there 0 31 (by simp [scA, lyA, uai])) uaa (uat (LyR.one Hyu.o)) (h := ?_)) | fail)
     refine newB rfl (fun W12 hb hm => ?_)
     have HU := hd' hb
     replace HB := hd' (HB.o.up hm)
     replace HX := hd' (HX.o.up hm)
     replace HY := hd' (HY.o.up hm)
     replace Hyy := hd' (Hyy.o.up hm)
     replace HRb := hd' (HRb.o.up hm)
     replace Hr := hd' (Hr.o.up hm)
     replace HT := hd' (HT.o.up hm)
     replace Hyu := hd' (Hyu.o.up hm)
     clear hb hm
     generalize W11.heap.size = BU at *
     have e1 : decide ((0 : Int) ≤ (d : Nat)) = true := dqt (by omega)
     go_upto_region 40 with fail
     refine HB.o.tl (h := fun W9 h1 h2 hm9 => ?_)
     simp only [Act.put, uSa, uSb, uSc]
     go_wp2_with fail
     refine ubh rfl rfl rfl rfl h1 h2 rfl rfl ?_
     rw [Hd.o]
     exact HB.o.fin (r := (s, (0, 0), 5)) HB.o.sn hm9 rfl rfl
    | none =>
     obtain ⟨x, d, hf, hd64, hd⟩ := doR_rep HI.o checkS o HO.o Hk.o Hst.o Hidn.o hto
     have Hf := hd' hf
     have Hd0 := hd' hd
     have Hd64 := hd' hd64
     have Hto := hd' hto
     clear hf hd hd64 hto
     go_wp2_with (first | ((with_reducible refine lT 45 ?_); refine ldA HY.o.whole Tryz.underlying45 uaa (h := ?_)) | fail)
     refine (ubl o.to kk G _ _ _ _ _ HB.o.gw Hyy.o (Hsf.o.root.get HO.o.geti) (by have := HO.o.kdeep; omega)).mono ?_
     rintro e W11 ⟨hm, hn, -⟩
     obtain rfl := hn Hto.o
     replace HB := hd' (HB.o.up hm)
     replace HX := hd' (HX.o.up hm)
     replace HY := hd' (HY.o.up hm)
     replace Hyy := hd' (Hyy.o.up hm)
     replace HRb := hd' (HRb.o.up hm)
     replace Hr := hd' (Hr.o.up hm)
     replace HT := hd' (HT.o.up hm)
     clear hm hn
     go_upto_region 39 with (first | ((with_reducible refine sT 45 ?_); refine stA lyZ ((Blk.new W11 45 lyZ).there 0 31 (by simp [scA, lyA, uai])) uaa (by simp [lyZ, nlS, lyA, Lk.zero, Ct.zero, Rc.zero, Pxl.zero, Gr.zero, Value.oneCell']) (h := ?_)) | fail)
     refine newB rfl (fun W12 hb hm => ?_)
     have HU := hd' hb
     replace HB := hd' (HB.o.up hm)
     replace HX := hd' (HX.o.up hm)
     replace HY := hd' (HY.o.up hm)
     replace Hyy := hd' (Hyy.o.up hm)
     replace HRb := hd' (HRb.o.up hm)
     replace Hr := hd' (Hr.o.up hm)
     replace HT := hd' (HT.o.up hm)
     clear hb hm
     generalize W11.heap.size = BU at *
     clear HU t0 t1
     go_upto_region 41 with fail
     have y0 : W12.cell? ⟨BT, 0, none⟩ = some (iV o.to.1) := HT.o.cell 0 rfl
     have y1 : W12.cell? ⟨BT, 1, none⟩ = some (iV o.to.2) := HT.o.cell 1 rfl
     go_wp2_with (first | ((with_reducible refine lT 45 ?_); refine ldA HRb.o.whole Tryz.underlying45 uaa (h := ?_)) | fail)
     refine (ubl o.to (s.root.without o.id) (fun b => G b ∨ M ≤ b ∧ b < BR) _ _ _ _ _ (fun b hb => by rcases hb with hb | hb; (exact HB.o.gw _ hb); (have := Blk.lt HRb.o; omega)) Hr.o (HO.o.fit Hall.o (by have := HI.o.few; have := Hn.o; omega)).1 (HO.o.fit Hall.o (by have := HI.o.few; have := Hn.o; omega)).2).mono ?_
     rintro e W14 ⟨hm, -, hy⟩
     obtain ⟨zp, zf, zb, zk, rfl, hyr⟩ := hy _ _ Hf.o
     have Hyz := hd' hyr
     replace HB := hd' (HB.o.up hm)
     replace HX := hd' (HX.o.up hm)
     replace HY := hd' (HY.o.up hm)
     replace Hyy := hd' (Hyy.o.up hm)
     replace HRb := hd' (HRb.o.up hm)
     replace Hr := hd' (Hr.o.up hm)
     replace HT := hd' (HT.o.up hm)
     clear hm hy hyr
     go_upto_region 42 with (first | ((with_reducible refine sT 45 ?_); refine stA (lyA x.id x.look zp zf zb zk) ((Blk.new W14 45 lyZ).there 0 31 (by simp [scA, lyA, uai])) uaa (uat (LyR.one Hyz.o)) (h := ?_)) | fail)
     refine newB rfl (fun W15 hb hm => ?_)
     have HQ := hd' hb
     replace HB := hd' (HB.o.up hm)
     replace HX := hd' (HX.o.up hm)
     replace HY := hd' (HY.o.up hm)
     replace Hyy := hd' (Hyy.o.up hm)
     replace HRb := hd' (HRb.o.up hm)
     replace Hr := hd' (Hr.o.up hm)
     replace HT := hd' (HT.o.up hm)
     replace Hyz := hd' (Hyz.o.up hm)
     clear hb hm
     generalize W14.heap.size = BQ at *
     clear y0 y1
     obtain ⟨-, css, hrow, -, -⟩ := Hyz.o.parts
     obtain ⟨pk, ck, rfl⟩ := RowG.slice hrow
     clear hrow css Hyz
     have k30 : W15.cell? ⟨BQ, 30, none⟩ = some (.slice pk x.kids.length ck) := HQ.o.cell 30 rfl
     have a0 := HB.o.a0
     by_cases b1 : o.at_ < 0
     ·have e1 : decide (o.at_ < 0) = true := dqt b1
      have Hd : Hid (doP checkS s o = (s, (0, 0), 3)) := hd' (by rw [Hd0.o, if_pos (.inl b1)])
      clear Hd0
      clear b1
      go_upto_region 43 with fail
      refine HB.o.tl (h := fun W9 h1 h2 hm9 => ?_)
      simp only [Act.put, uSa, uSb, uSc]
      go_wp2_with fail
      refine ubh rfl rfl rfl rfl h1 h2 rfl rfl ?_
      rw [Hd.o]
      exact HB.o.fin (r := (s, (0, 0), 3)) HB.o.sn hm9 rfl rfl
     have e1 : decide (o.at_ < 0) = false := dqf b1
     by_cases b2 : (x.kids.length : Int) < o.at_
     ·have e2 : decide ((x.kids.length : Int) < o.at_) = true := dqt b2
      have Hd : Hid (doP checkS s o = (s, (0, 0), 3)) := hd' (by rw [Hd0.o, if_pos (.inr (.inl b2))])
      clear Hd0
      clear b1 b2
      go_upto_region 43 with fail
      refine HB.o.tl (h := fun W9 h1 h2 hm9 => ?_)
      simp only [Act.put, uSa, uSb, uSc]
      go_wp2_with fail
      refine ubh rfl rfl rfl rfl h1 h2 rfl rfl ?_
      rw [Hd.o]
      exact HB.o.fin (r := (s, (0, 0), 3)) HB.o.sn hm9 rfl rfl
     have e2 : decide ((x.kids.length : Int) < o.at_) = false := dqf b2
     have hh1 : kk.height ≤ 64 := by have := HO.o.kdeep; omega
     have hd64 := Hd64.o
     have hw1 : IntKind.i64.wrap ((d : Int) + 1) = (d : Int) + 1 := by rw [IntKind.wrap_i64]; omega
     have hw2 : IntKind.i64.wrap ((d : Int) + 1 + (kk.height : Int)) = (d : Int) + 1 + (kk.height : Int) := by rw [IntKind.wrap_i64]; omega
     go_wp2_with (first | ((with_reducible refine lT 45 ?_); refine ldG HY.o.whole Tryz.underlying45 uaa (h := ?_)) | fail)
     refine (uc3 kk _ _ _ _ _ (Hyy.o.imp (fun _ _ _ => trivial)) (by omega) (Hsf.o.root.get HO.o.geti)).mono ?_
     rintro e W16 ⟨rfl, hm⟩
     replace HB := hd' (HB.o.up hm)
     replace HX := hd' (HX.o.up hm)
     replace HY := hd' (HY.o.up hm)
     replace Hyy := hd' (Hyy.o.up hm)
     replace HRb := hd' (HRb.o.up hm)
     replace Hr := hd' (Hr.o.up hm)
     replace HT := hd' (HT.o.up hm)
     clear hm a0 k30 HQ
     by_cases b3 : 64 < d + 1 + kk.height
     ·have e3 : decide ((64 : Int) < (d : Nat) + 1 + (kk.height : Nat)) = true := dqt (by omega)
      have Hd : Hid (doP checkS s o = (s, (0, 0), 3)) := hd' (by rw [Hd0.o, if_pos (.inr (.inr b3))])
      clear Hd0
      clear b1 b2 b3
      go_upto_region 43 with fail
      refine HB.o.tl (h := fun W9 h1 h2 hm9 => ?_)
      simp only [Act.put, uSa, uSb, uSc]
      go_wp2_with fail
      refine ubh rfl rfl rfl rfl h1 h2 rfl rfl ?_
      rw [Hd.o]
      exact HB.o.fin (r := (s, (0, 0), 3)) HB.o.sn hm9 rfl rfl
     have e3 : decide ((64 : Int) < (d : Nat) + 1 + (kk.height : Nat)) = false := dqf (by omega)
     have Hd := hd' (Hd0.o.trans (if_neg (by omega)))
     clear b1 b2 b3 hh1 hd64 Hd0
     go_upto_region 44 with fail
     clear e1 e2 e3 hw1 hw2
     have y0 : W16.cell? ⟨BT, 0, none⟩ = some (iV o.to.1) := HT.o.cell 0 rfl
     have y1 : W16.cell? ⟨BT, 1, none⟩ = some (iV o.to.2) := HT.o.cell 1 rfl
     have a0 := HB.o.a0
     go_wp2_with (first | ((with_reducible refine lT 45 ?_); refine ldA HRb.o.whole Tryz.underlying45 uaa (h := ?_)) | ((with_reducible refine lT 45 ?_); refine ldA HY.o.whole Tryz.underlying45 uaa (h := ?_)) | fail)
     refine (ufx o.to o.at_ kk (s.root.without o.id) (fun b => G b ∨ M ≤ b ∧ b < BR) _ _ _ _ _ _ _ _ _ (fun b hb => by rcases hb with hb | hb; (exact HB.o.gw _ hb); (have := Blk.lt HRb.o; omega)) Hr.o (HO.o.fit Hall.o (by have := HI.o.few; have := Hn.o; omega)).1 (Hyy.o.imp (fun _ _ h => .inl h))).mono ?_
     rintro e W17 ⟨zp, zf, zb, zk, rfl, hz, hm⟩
     have Hz := hd' hz
     have HBm : Hid (B < W16.heap.size) := hd' (Blk.lt HX.o)
     replace HB := hd' (HB.o.up hm)
     replace HX := hd' (HX.o.up hm)
     clear hm hz y0 y1 a0 HY Hyy HRb Hr HT
     go_upto_region 45 with (first | ((with_reducible refine sT 45 ?_); refine stA (lyA ((s.root.without o.id).with_ o.to o.at_ kk).id ((s.root.without o.id).with_ o.to o.at_ kk).look zp zf zb zk) (HX.o.there 2 31 (by simp [scA])) uaa (uat (LyR.one Hz.o)) (h := ?_)) | fail)
     refine putB (fun W18 hS hX => ?_)
     replace HX := hd' (hX _ _ HX.o)
     rw [uby] at HX
     replace HB := hd' (HB.o.mod hS (fun k e => by have := HNB.o; omega))
     replace Hz := hd' (Hz.o.mod hS (fun k _ hg e => by have := HNB.o; have := HBM.o; have := HBm.o; have := HB.o.lt; rcases hg with (hg | hg) | hg; (have := HB.o.g _ hg; omega); omega; omega))
     clear hS hX
     go_upto_region 45 with fail
     refine ujd (TS := 47) (TI := 30) (cs := scA (.slice pg s.arena.gens.length cg) (.slice pl s.arena.live.length cl) ((s.root.without o.id).with_ o.to o.at_ kk).id ((s.root.without o.id).with_ o.to o.at_ kk).look zp zf zb zk) HX.o.whole HB.o.n.whole HB.o.r1 HB.o.r2 (by have := HNB.o; have := HB.o.lt; omega) (by have := HB.o.lt; omega) (by omega) Tryz.underlying47 Tryz.underlying30 rfl rfl uah uaf rfl rfl (ubf rfl rfl (LyR.one Hz.o)) (by simp [Value.oneCell']) (h := fun W9 h1 h2 hm9 => ?_)
     simp only [Act.put, uSa, uSb, uSc]
     go_wp2_with fail
     refine ubh rfl rfl rfl rfl h1 h2 rfl rfl ?_
     rw [Hd.o]
     exact HB.o.fin (r := (⟨s.arena, (s.root.without o.id).with_ o.to o.at_ kk⟩, (0, 0), 0)) ⟨_, _, _, _, _, _, rfl, HB.o.ar.imp (fun _ h => .inl h), Hz.o.imp (fun k _ hg => by rcases hg with (hg | hg) | hg; (exact .inl hg); (exact .inr (by have := HNB.o; have := HBM.o; have := HB.o.lt; omega)); (exact .inr (by have := HNB.o; have := HBm.o; have := HB.o.lt; omega)))⟩ hm9 rfl rfl
 have e1 : (o.kind == 1) = false := bqf.2 k1
 have e2 : (o.kind != 1) = true := bne_iff_ne.2 k1
 have e3 : (o.kind == 3) = false := bqf.2 k3
 cases hid : s.arena.has o.id
 ·have Hd := hd' (ub3 checkS s o HK.o.1 HK.o.2 (by rw [ucc hid rfl, if_neg k1, if_neg k3]; rfl))
  clear hid k1 k3
  go_upto_region 7 with fail
  refine HB.o.tl (h := fun W9 h1 h2 hm9 => ?_)
  simp only [Act.put, uSa, uSb, uSc]
  go_wp2_with fail
  refine ubh rfl rfl rfl rfl h1 h2 rfl rfl ?_
  rw [Hd.o]
  exact HB.o.fin (r := (s, (0, 0), 4)) HB.o.sn hm9 rfl rfl
 ·have Hst : Hid (ubo s.arena o = false) := hd' (by rw [ucc hid rfl, if_neg k1, if_neg k3]; rfl)
  have HKK : Hid (o.kind = 2 ∨ o.kind = 4 ∨ 5 ≤ o.kind) := hd' (by have := HK.o; omega)
  clear hid k1 k3
  go_upto_region 8 with fail
  have s0 := HB.o.s0
  have s1 := HB.o.s1
  have HNB := hd' (Blk.lt HB.o.n)
  go_wp2_with (first | ((with_reducible refine lT 45 ?_); refine ldA HB.o.root Tryz.underlying45 uaa (h := ?_)) | ((with_reducible show wpList _ _ _ (⟨some 82, Op.build _ _, _, _, _, _⟩ :: _) _ _); refine halt ?_) | fail)
  show wpList _ _ _ _ _ _
  refine uav rfl (.agg (scA (.slice pg s.arena.gens.length cg) (.slice pl s.arena.live.length cl) s.root.id s.root.look vp vf vb vk)) (by kernel_rfl) ?_
  simp only [Act.put, uSa, uSb, uSc]
  go_upto_region 9 with (first | ((with_reducible refine sT 47 ?_); refine stA (scA (.slice pg s.arena.gens.length cg) (.slice pl s.arena.live.length cl) s.root.id s.root.look vp vf vb vk) ((Blk.new W4 47 scZ).there 0 33 (by simp [scA, lyA, uai])) uah (ubf rfl rfl (LyR.one HB.o.ly)) (h := ?_)) | fail)
  clear s0 s1
  refine newB rfl (fun W5 hb hm => ?_)
  have HX := hd' hb
  replace HB := hd' (HB.o.up hm)
  clear hb hm
  generalize W4.heap.size = B at *
  clear e2 e3 c0
  have c0 := HB.o.c0
  by_cases k5 : 5 ≤ o.kind
  ·have e5 : decide (5 ≤ o.kind) = true := dqt k5
   clear e1
   obtain ⟨x, d, hf, hd⟩ := doR_set HI.o checkS o k5 HK.o.2 Hst.o
   have Hf := hd' hf
   have Hd0 := hd' hd
   clear hf hd k5
   go_upto_region 10 with fail
   clear c0 e5
   have i0 := HB.o.i0
   have i1 := HB.o.i1
   go_wp2_with (first | ((with_reducible refine lT 45 ?_); refine ldA HB.o.root Tryz.underlying45 uaa (h := ?_)) | fail)
   refine (ubl o.id s.root G _ _ _ _ _ HB.o.gw HB.o.ly Hsf.o.root (by have := HI.o.deep; omega)).mono ?_
   rintro e W6 ⟨hm, -, hy⟩
   obtain ⟨yp, yf, yb, yk, rfl, hyr⟩ := hy _ _ Hf.o
   have Hyy := hd' hyr
   replace HB := hd' (HB.o.up hm)
   replace HX := hd' (HX.o.up hm)
   clear hm hy hyr
   go_upto_region 11 with (first | ((with_reducible refine sT 45 ?_); refine stA (lyA x.id x.look yp yf yb yk) ((Blk.new W6 45 lyZ).there 0 31 (by simp [scA, lyA, uai])) uaa (uat (LyR.one Hyy.o)) (h := ?_)) | fail)
   refine newB rfl (fun W7 hb hm => ?_)
   have HY := hd' hb
   replace HB := hd' (HB.o.up hm)
   replace HX := hd' (HX.o.up hm)
   replace Hyy := hd' (Hyy.o.up hm)
   clear hb hm
   generalize W6.heap.size = BX at *
   clear i0 i1
   have HYl := hd' (Blk.range (k := 2) (mid := (uai x.look yp yf yb).toList) (pre := [iV x.id.1, iV x.id.2]) (post := [yk]) HY.o (by rw [uf6]; rfl) rfl)
   go_wp2_with (first | ((with_reducible refine lT 42 ?_); refine ldA HYl.o Tryz.underlying42 uad (h := ?_)) | ((with_reducible refine lT 53 ?_); refine ldA HB.o.oc.whole Tryz.underlying53 ued (h := ?_)) | fail)
   refine (uhz G _ x.look o _ _ _ _ _ _ HB.o.gw Hyy.o.parts.1 HB.o.lk Hfit.o.pix Hg.o.1.1 Hg.o.1.2 Hg.o.2.1 Hg.o.2.2 (Ht.o.below (HB.o.m.below (Nat.le_refl _) (fun _ _ h => h)))).mono ?_
   rintro e W8 ⟨l', up, uf, ub, rfl, hl0, hlr, hm⟩
   obtain ⟨⟨qp, dp, rfl⟩, ⟨qf, df, rfl⟩, ⟨qb, db, rfl⟩⟩ := hlr.forms
   have Hl0 := hd' hl0
   have Hlr := hd' hlr
   replace HB := hd' (HB.o.up hm)
   replace HX := hd' (HX.o.up hm)
   clear hm hl0 hlr HYl Hyy HY
   go_upto_region 12 with (first | ((with_reducible refine sT 42 ?_); refine stA (lkS l' qp dp qf df qb db) ((Blk.new W8 42 lkZz).there 0 28 (by simp [scA, lyA, uai])) uad uay (h := ?_)) | fail)
   refine newB rfl (fun W9 hb hm => ?_)
   have HLb := hd' hb
   replace HB := hd' (HB.o.up hm)
   replace HX := hd' (HX.o.up hm)
   replace Hlr := hd' (Hlr.o.mod hm (fun _ _ _ h => h))
   clear hb hm
   generalize W8.heap.size = BL at *
   by_cases hr : (uas checkS x.look o).2 = 0
   ·have e1 : ((uas checkS x.look o).2 != 0) = false := by rw [bnf]; exact hr
    have Hd : Hid (doP checkS s o = (⟨s.arena, s.root.looks o.id (uas checkS x.look o).1⟩, (0, 0), 0)) := hd' (by rw [Hd0.o, if_neg (by rw [hr]; simp)])
    obtain rfl := Hl0.o hr
    clear hr
    go_upto_region 14 with fail
    clear e1
    have i0 := HB.o.i0
    have i1 := HB.o.i1
    go_wp2_with (first | ((with_reducible refine lT 45 ?_); refine ldA HB.o.root Tryz.underlying45 uaa (h := ?_)) | ((with_reducible refine lT 42 ?_); refine ldA HLb.o.whole Tryz.underlying42 uad (h := ?_)) | fail)
    refine (looks_any o.id (uas checkS x.look o).1 s.root G _ _ _ _ _ _ _ _ HB.o.gw HB.o.ly Hsf.o.root Hlr.o).mono ?_
    rintro e W10 ⟨zp, zf, zb, zk, rfl, hz, hm⟩
    have HBl : Hid (B < W9.heap.size) := hd' (Blk.lt HX.o)
    have Hz := hd' hz
    replace HB := hd' (HB.o.up hm)
    replace HX := hd' (HX.o.up hm)
    clear hm hz i0 i1 HLb Hlr Hl0
    go_upto_region 15 with (first | ((with_reducible refine sT 45 ?_); refine stA (lyA (s.root.looks o.id (uas checkS x.look o).1).id (s.root.looks o.id (uas checkS x.look o).1).look zp zf zb zk) (HX.o.there 2 31 (by simp [scA])) uaa (uat (LyR.one Hz.o)) (h := ?_)) | fail)
    refine putB (fun W11 hS hX => ?_)
    replace HX := hd' (hX _ _ HX.o)
    rw [uby] at HX
    replace HB := hd' (HB.o.mod hS (fun k e => by have := HNB.o; omega))
    replace Hz := hd' (Hz.o.mod hS (fun k _ hg e => by have := HNB.o; have := HBl.o; have := HB.o.lt; rcases hg with hg | hg; (have := HB.o.g _ hg; omega); omega))
    clear hS hX
    go_upto_region 15 with fail
    refine ujd (TS := 47) (TI := 30) (cs := scA (.slice pg s.arena.gens.length cg) (.slice pl s.arena.live.length cl) (s.root.looks o.id (uas checkS x.look o).1).id (s.root.looks o.id (uas checkS x.look o).1).look zp zf zb zk) HX.o.whole HB.o.n.whole HB.o.r1 HB.o.r2 (by have := HNB.o; have := HB.o.lt; omega) (by have := HB.o.lt; omega) (by omega) Tryz.underlying47 Tryz.underlying30 rfl rfl uah uaf rfl rfl (ubf rfl rfl (LyR.one Hz.o)) (by simp [Value.oneCell']) (h := fun W9 h1 h2 hm9 => ?_)
    simp only [Act.put, uSa, uSb, uSc]
    go_wp2_with fail
    refine ubh rfl rfl rfl rfl h1 h2 rfl rfl ?_
    rw [Hd.o]
    exact HB.o.fin (r := (⟨s.arena, s.root.looks o.id (uas checkS x.look o).1⟩, (0, 0), 0)) ⟨_, _, _, _, _, _, rfl, HB.o.ar.imp (fun _ h => .inl h), Hz.o.imp (fun k _ hg => by rcases hg with hg | hg; (exact .inl hg); (exact .inr (by have := HNB.o; have := HBl.o; have := HB.o.lt; omega)))⟩ hm9 rfl rfl
   ·have e1 : ((uas checkS x.look o).2 != 0) = true := bne_iff_ne.2 hr
    have Hd : Hid (doP checkS s o = (s, (0, 0), (uas checkS x.look o).2)) := hd' (by rw [Hd0.o, if_pos hr])
    clear hr
    go_upto_region 13 with fail
    refine tail6 (TS := 47) (TI := 30) (cs := scA (.slice pg s.arena.gens.length cg) (.slice pl s.arena.live.length cl) s.root.id s.root.look vp vf vb vk) HB.o.sc.whole HB.o.n.whole HB.o.r1 HB.o.r2 (by omega) (by have := HB.o.lt; omega) (by omega) Tryz.underlying47 Tryz.underlying30 rfl rfl uah uaf rfl rfl (ubf rfl rfl (LyR.one HB.o.ly)) (by simp [Value.oneCell']) (h := fun W9 h1 h2 hm9 => ?_)
    simp only [Act.put, uSa, uSb, uSc]
    go_wp2_with fail
    refine ubh rfl rfl rfl rfl h1 h2 rfl rfl ?_
    rw [Hd.o]
    exact HB.o.fin (r := (s, (0, 0), (uas checkS x.look o).2)) HB.o.sn hm9 rfl rfl
  have e5 : decide (5 ≤ o.kind) = false := dqf k5
  go_upto_region 26 with fail
  clear c0
  have i0 := HB.o.i0
  have i1 := HB.o.i1
  have n0 := HB.o.n0
  have n1 := HB.o.n1
  have Hid0 := fun (w' : World) => udm o.id (0, 0) w'
  by_cases hid : o.id = (0, 0)
  ·have ez : decide (o.id = ((0 : Int), (0 : Int))) = true := dqt hid
   rw [ez] at Hid0
   have Hd := hd' (ude checkS s o (by have := HKK.o; omega) (by omega) Hst.o hid)
   clear hid ez
   go_upto_region 27 with fail
   refine HB.o.tl (h := fun W9 h1 h2 hm9 => ?_)
   simp only [Act.put, uSa, uSb, uSc]
   go_wp2_with fail
   refine ubh rfl rfl rfl rfl h1 h2 rfl rfl ?_
   rw [Hd.o]
   exact HB.o.fin (r := (s, (0, 0), 1)) HB.o.sn hm9 rfl rfl
  have ez : decide (o.id = ((0 : Int), (0 : Int))) = false := dqf hid
  rw [ez] at Hid0
  obtain ⟨π, i, q, kk, T2, hO⟩ := outAt HI.o o (by have := (by have := HKK.o; omega); omega) Hst.o hid
  have HO := hd' hO
  have Hidn := hd' hid
  clear hid hO
  go_upto_region 28 with fail
  clear Hid0 ez n0 n1
  go_wp2_with (first | ((with_reducible refine lT 45 ?_); refine ldA HB.o.root Tryz.underlying45 uaa (h := ?_)) | fail)
  refine (ubl o.id s.root G _ _ _ _ _ HB.o.gw HB.o.ly Hsf.o.root (by have := HI.o.deep; omega)).mono ?_
  rintro e W6 ⟨hm, -, hy⟩
  obtain ⟨yp, yf, yb, yk, rfl, hyr⟩ := hy _ _ HO.o.found
  have Hyy := hd' hyr
  replace HB := hd' (HB.o.up hm)
  replace HX := hd' (HX.o.up hm)
  clear hm hy hyr
  go_upto_region 29 with (first | ((with_reducible refine sT 45 ?_); refine stA (lyA kk.id kk.look yp yf yb yk) ((Blk.new W6 45 lyZ).there 0 31 (by simp [scA, lyA, uai])) uaa (uat (LyR.one Hyy.o)) (h := ?_)) | fail)
  refine newB rfl (fun W7 hb hm => ?_)
  have HY := hd' hb
  replace HB := hd' (HB.o.up hm)
  replace HX := hd' (HX.o.up hm)
  replace Hyy := hd' (Hyy.o.up hm)
  clear hb hm
  generalize W6.heap.size = BS at *
  clear i0 i1
  have i0 := HB.o.i0
  have i1 := HB.o.i1
  have HBM : Hid (B < W7.heap.size) := hd' (Blk.lt HX.o)
  have HSM : Hid (BS < W7.heap.size) := hd' (Blk.lt HY.o)
  go_wp2_with (first | ((with_reducible refine lT 45 ?_); refine ldA HB.o.root Tryz.underlying45 uaa (h := ?_)) | fail)
  refine (uea o.id s.root G _ _ _ _ _ HB.o.gw HB.o.ly Hsf.o.root).mono ?_
  rintro e W8 ⟨rp, rf, rb, rk, rfl, hr, hm⟩
  have Hr := hd' (LyR.imp (G' := fun b => G b ∨ W7.heap.size ≤ b ∧ b < W8.heap.size) hr (fun k hk hg => hg.imp_right (fun h => ⟨h, hk⟩)))
  have HMR : Hid (W7.heap.size ≤ W8.heap.size) := hd' hm.size
  replace HB := hd' (HB.o.up hm)
  replace HX := hd' (HX.o.up hm)
  replace HY := hd' (HY.o.up hm)
  replace Hyy := hd' (Hyy.o.up hm)
  clear hm hr i0 i1
  go_upto_region 30 with (first | ((with_reducible refine sT 45 ?_); refine stA (lyA (s.root.without o.id).id (s.root.without o.id).look rp rf rb rk) ((Blk.new W8 45 lyZ).there 0 31 (by simp [scA, lyA, uai])) uaa (uat (LyR.one Hr.o)) (h := ?_)) | fail)
  generalize W7.heap.size = M at *
  refine newB rfl (fun W9 hb hm => ?_)
  have HRb := hd' hb
  replace HB := hd' (HB.o.up hm)
  replace HX := hd' (HX.o.up hm)
  replace HY := hd' (HY.o.up hm)
  replace Hyy := hd' (Hyy.o.up hm)
  replace Hr := hd' (Hr.o.up hm)
  clear hb hm
  generalize W8.heap.size = BR at *
  have c0 := HB.o.c0
  by_cases k2 : o.kind = 2
  ·rw [k2] at c0
   have Hk := hd' k2
   clear k2 k5 e5 e1
   have Hd := hd' (doR_rem checkS o HO.o Hk.o Hst.o Hidn.o)
   go_upto_region 31 with fail
   clear c0
   have HAN : Hid (ArN s.arena 10000) := hd' ⟨HI.o.ok.len, by have := HI.o.small; have := HI.o.ok.len; have := Hn.o; omega, fun g hg => ⟨(HI.o.ok.gen g hg).1, by have h1 := (HI.o.ok.gen g hg).2; have h2 : n * n ≤ 100 * 100 := Nat.mul_le_mul Hn.o Hn.o; exact Int.le_trans h1 (by exact_mod_cast h2)⟩⟩
   have s0 := HB.o.s0
   have s1 := HB.o.s1
   go_wp2_with (first | ((with_reducible refine lT 45 ?_); refine ldA HY.o.whole Tryz.underlying45 uaa (h := ?_)) | fail)
   refine (freeT_any kk G _ _ _ _ _ _ _ s.arena 10000 HB.o.gw Hyy.o (Hsf.o.root.get HO.o.geti) HB.o.ar HAN.o (by have h1 := HO.o.perm.length_eq; rw [List.length_append] at h1; have := HI.o.few; have := Hn.o; omega)).mono ?_
   rintro e W10 ⟨v, rfl, vg2, vl2, rfl, ha2, hm⟩
   obtain ⟨⟨p2, c2, rfl⟩, ⟨q2, d2, rfl⟩⟩ := ha2.reads.forms
   have Ha2 := hd' ha2
   have HBm : Hid (B < W9.heap.size) := hd' (Blk.lt HX.o)
   replace HB := hd' (HB.o.up hm)
   replace HX := hd' (HX.o.up hm)
   replace HRb := hd' (HRb.o.up hm)
   replace Hr := hd' (Hr.o.up hm)
   clear hm ha2 s0 s1 HAN HY Hyy
   go_upto_region 32 with (first | ((with_reducible refine sT 28 ?_); refine stA (#[Value.slice p2 (kk.ids.foldl Ar.free s.arena).gens.length c2, Value.slice q2 (kk.ids.foldl Ar.free s.arena).live.length d2]) (HX.o.there 0 2 (by simp [scA])) uae (by simp [Value.oneCell']) (h := ?_)) | fail)
   refine putB (fun W11 hS hX => ?_)
   replace HX := hd' (hX _ _ HX.o)
   rw [uee] at HX
   replace HB := hd' (HB.o.mod hS (fun k e => by have := HNB.o; omega))
   replace Ha2 := hd' (Ha2.o.mod hS (fun k _ hg e => by have := HNB.o; have := HBm.o; have := HB.o.lt; rcases hg with hg | hg; (have := HB.o.g _ hg; omega); omega))
   replace HRb := hd' (HRb.o.mod hS (by have := HBM.o; have := HMR.o; omega))
   replace Hr := hd' (Hr.o.mod hS (fun k _ hg e => by have := HNB.o; have := HBM.o; have := HB.o.lt; rcases hg with hg | hg; (have := HB.o.g _ hg; omega); omega))
   clear hS hX
   go_upto_region 33 with (first | ((with_reducible refine lT 45 ?_); refine ldA HRb.o.whole Tryz.underlying45 uaa (h := ?_)) | ((with_reducible refine sT 45 ?_); refine stA (lyA (s.root.without o.id).id (s.root.without o.id).look rp rf rb rk) (HX.o.there 2 31 (by simp [scA])) uaa (uat (LyR.one Hr.o)) (h := ?_)) | fail)
   refine putB (fun W12 hS hX => ?_)
   replace HX := hd' (hX _ _ HX.o)
   rw [uby] at HX
   replace HB := hd' (HB.o.mod hS (fun k e => by have := HNB.o; omega))
   replace Hr := hd' (Hr.o.mod hS (fun k _ hg e => by have := HNB.o; have := HBM.o; have := HB.o.lt; rcases hg with hg | hg; (have := HB.o.g _ hg; omega); omega))
   replace Ha2 := hd' (Ha2.o.mod hS (fun k _ hg e => by have := HNB.o; have := HBm.o; have := HB.o.lt; rcases hg with hg | hg; (have := HB.o.g _ hg; omega); omega))
   clear hS hX
   go_upto_region 33 with fail
   refine ujd (TS := 47) (TI := 30) (cs := scA (.slice p2 (kk.ids.foldl Ar.free s.arena).gens.length c2) (.slice q2 (kk.ids.foldl Ar.free s.arena).live.length d2) (s.root.without o.id).id (s.root.without o.id).look rp rf rb rk) HX.o.whole HB.o.n.whole HB.o.r1 HB.o.r2 (by have := HNB.o; have := HB.o.lt; omega) (by have := HB.o.lt; omega) (by omega) Tryz.underlying47 Tryz.underlying30 rfl rfl uah uaf rfl rfl (ubf rfl rfl (LyR.one Hr.o)) (by simp [Value.oneCell']) (h := fun W9 h1 h2 hm9 => ?_)
   simp only [Act.put, uSa, uSb, uSc]
   go_wp2_with fail
   refine ubh rfl rfl rfl rfl h1 h2 rfl rfl ?_
   rw [Hd.o]
   exact HB.o.fin (r := (⟨kk.ids.foldl Ar.free s.arena, (s.root.without o.id)⟩, (0, 0), 0)) ⟨_, _, _, _, _, _, rfl, Ha2.o.imp (fun k hg => by rcases hg with hg | hg; (exact .inl hg); (exact .inr (by have := HNB.o; have := HBm.o; have := HB.o.lt; omega))), Hr.o.imp (fun k _ hg => by rcases hg with hg | hg; (exact .inl hg); (exact .inr (by have := HNB.o; have := HBM.o; have := HB.o.lt; omega)))⟩ hm9 rfl rfl
  obtain k4 : o.kind = 4 := by have := HKK.o; omega
  rw [k4] at c0
  have Hk := hd' k4
  clear k2 k4 k5 e5 e1
  obtain ⟨x, d, hpar, hf, hd64, hd⟩ := doR_reo HI.o checkS o HO.o Hk.o Hst.o Hidn.o
  have Hpar := hd' hpar
  have Hf := hd' hf
  have Hd0 := hd' hd
  have Hd64 := hd' hd64
  clear hpar hf hd hd64
  go_upto_region 34 with fail
  clear c0
  have t0 := HB.o.t0
  have t1 := HB.o.t1
  go_upto_region 35 with (first | ((with_reducible refine sT 30 ?_); refine stA (#[iV o.to.1, iV o.to.2]) ((Blk.new W9 30 iiZ).there 0 2 (by simp)) uaf (by simp [Value.oneCell']) (h := ?_)) | fail)
  clear t0 t1
  have HRT : Hid (BR < W9.heap.size) := hd' (Blk.lt HRb.o)
  refine newB rfl (fun W10 hb hm => ?_)
  have HT := hd' hb
  replace HB := hd' (HB.o.up hm)
  replace HX := hd' (HX.o.up hm)
  replace HY := hd' (HY.o.up hm)
  replace Hyy := hd' (Hyy.o.up hm)
  replace HRb := hd' (HRb.o.up hm)
  replace Hr := hd' (Hr.o.up hm)
  clear hb hm
  generalize W9.heap.size = BT at *
  have c0 := HB.o.c0
  rw [Hk.o] at c0
  go_upto_region 36 with fail
  clear c0
  have i0 := HB.o.i0
  have i1 := HB.o.i1
  go_wp2_with (first | ((with_reducible refine lT 45 ?_); refine ldA HB.o.root Tryz.underlying45 uaa (h := ?_)) | fail)
  refine (ufz o.id s.root G _ _ _ _ _ HB.o.gw HB.o.ly Hsf.o.root).mono ?_
  rintro e W11 ⟨hm, -, hy⟩
  obtain ⟨qp, qf, qb, qk, rfl, hyr⟩ := hy _ Hpar.o
  have Hyq := hd' hyr
  replace HB := hd' (HB.o.up hm)
  replace HX := hd' (HX.o.up hm)
  replace HY := hd' (HY.o.up hm)
  replace Hyy := hd' (Hyy.o.up hm)
  replace HRb := hd' (HRb.o.up hm)
  replace Hr := hd' (Hr.o.up hm)
  replace HT := hd' (HT.o.up hm)
  clear hm hy hyr i0 i1
  go_upto_region 37 with (first | ((with_reducible refine sT 45 ?_); refine stA (lyA q.id q.look qp qf qb qk) ((Blk.new W11 45 lyZ).there 0 31 (by simp [scA, lyA, uai])) uaa (uat (LyR.one Hyq.o)) (h := ?_)) | fail)
  refine newB rfl (fun W12 hb hm => ?_)
  have HP := hd' hb
  replace HB := hd' (HB.o.up hm)
  replace HX := hd' (HX.o.up hm)
  replace HY := hd' (HY.o.up hm)
  replace Hyy := hd' (Hyy.o.up hm)
  replace HRb := hd' (HRb.o.up hm)
  replace Hr := hd' (Hr.o.up hm)
  replace HT := hd' (HT.o.up hm)
  clear hb hm
  generalize W11.heap.size = BP at *
  have p0 : W12.cell? ⟨BP, 0, none⟩ = some (iV q.id.1) := HP.o.cell 0 rfl
  have p1 : W12.cell? ⟨BP, 1, none⟩ = some (iV q.id.2) := HP.o.cell 1 rfl
  go_upto_region 41 with (first | ((with_reducible refine sT 30 ?_); refine stA (#[iV q.id.1, iV q.id.2]) (HT.o.there 0 2 (by simp)) uaf (by simp [Value.oneCell']) (h := ?_)) | fail)
  refine putB (fun W13 hS hX => ?_)
  replace HT : Hid (Blk W13 BT 30 #[iV q.id.1, iV q.id.2]) := hd' (hX _ _ HT.o)
  replace HB := hd' (HB.o.mod hS (fun k e => by have := HNB.o; have := HBM.o; have := HMR.o; have := HRT.o; omega))
  replace HX := hd' (HX.o.mod hS (by have := HBM.o; have := HMR.o; have := HRT.o; omega))
  replace HY := hd' (HY.o.mod hS (by have := HSM.o; have := HMR.o; have := HRT.o; omega))
  replace Hyy := hd' (Hyy.o.mod hS (fun k _ hg e => by have := HB.o.g _ hg; have := HB.o.lt; have := HNB.o; have := HBM.o; have := HMR.o; have := HRT.o; omega))
  replace HRb := hd' (HRb.o.mod hS (by have := HRT.o; omega))
  replace Hr := hd' (Hr.o.mod hS (fun k _ hg e => by have := HB.o.lt; have := HNB.o; have := HBM.o; have := HMR.o; have := HRT.o; rcases hg with hg | hg; (have := HB.o.g _ hg; omega); omega))
  clear hS hX p0 p1 HP Hyq
  have y0 : W13.cell? ⟨BT, 0, none⟩ = some (iV q.id.1) := HT.o.cell 0 rfl
  have y1 : W13.cell? ⟨BT, 1, none⟩ = some (iV q.id.2) := HT.o.cell 1 rfl
  go_wp2_with (first | ((with_reducible refine lT 45 ?_); refine ldA HRb.o.whole Tryz.underlying45 uaa (h := ?_)) | fail)
  refine (ubl q.id (s.root.without o.id) (fun b => G b ∨ M ≤ b ∧ b < BR) _ _ _ _ _ (fun b hb => by rcases hb with hb | hb; (exact HB.o.gw _ hb); (have := Blk.lt HRb.o; omega)) Hr.o (HO.o.fit Hall.o (by have := HI.o.few; have := Hn.o; omega)).1 (HO.o.fit Hall.o (by have := HI.o.few; have := Hn.o; omega)).2).mono ?_
  rintro e W14 ⟨hm, -, hy⟩
  obtain ⟨zp, zf, zb, zk, rfl, hyr⟩ := hy _ _ Hf.o
  have Hyz := hd' hyr
  replace HB := hd' (HB.o.up hm)
  replace HX := hd' (HX.o.up hm)
  replace HY := hd' (HY.o.up hm)
  replace Hyy := hd' (Hyy.o.up hm)
  replace HRb := hd' (HRb.o.up hm)
  replace Hr := hd' (Hr.o.up hm)
  replace HT := hd' (HT.o.up hm)
  clear hm hy hyr
  go_upto_region 42 with (first | ((with_reducible refine sT 45 ?_); refine stA (lyA x.id x.look zp zf zb zk) ((Blk.new W14 45 lyZ).there 0 31 (by simp [scA, lyA, uai])) uaa (uat (LyR.one Hyz.o)) (h := ?_)) | fail)
  refine newB rfl (fun W15 hb hm => ?_)
  have HQ := hd' hb
  replace HB := hd' (HB.o.up hm)
  replace HX := hd' (HX.o.up hm)
  replace HY := hd' (HY.o.up hm)
  replace Hyy := hd' (Hyy.o.up hm)
  replace HRb := hd' (HRb.o.up hm)
  replace Hr := hd' (Hr.o.up hm)
  replace HT := hd' (HT.o.up hm)
  replace Hyz := hd' (Hyz.o.up hm)
  clear hb hm
  generalize W14.heap.size = BQ at *
  clear y0 y1
  obtain ⟨-, css, hrow, -, -⟩ := Hyz.o.parts
  obtain ⟨pk, ck, rfl⟩ := RowG.slice hrow
  clear hrow css Hyz
  have k30 : W15.cell? ⟨BQ, 30, none⟩ = some (.slice pk x.kids.length ck) := HQ.o.cell 30 rfl
  have a0 := HB.o.a0
  by_cases b1 : o.at_ < 0
  ·have e1 : decide (o.at_ < 0) = true := dqt b1
   have Hd : Hid (doP checkS s o = (s, (0, 0), 3)) := hd' (by rw [Hd0.o, if_pos (.inl b1)])
   clear Hd0
   clear b1
   go_upto_region 43 with fail
   refine HB.o.tl (h := fun W9 h1 h2 hm9 => ?_)
   simp only [Act.put, uSa, uSb, uSc]
   go_wp2_with fail
   refine ubh rfl rfl rfl rfl h1 h2 rfl rfl ?_
   rw [Hd.o]
   exact HB.o.fin (r := (s, (0, 0), 3)) HB.o.sn hm9 rfl rfl
  have e1 : decide (o.at_ < 0) = false := dqf b1
  by_cases b2 : (x.kids.length : Int) < o.at_
  ·have e2 : decide ((x.kids.length : Int) < o.at_) = true := dqt b2
   have Hd : Hid (doP checkS s o = (s, (0, 0), 3)) := hd' (by rw [Hd0.o, if_pos (.inr (.inl b2))])
   clear Hd0
   clear b1 b2
   go_upto_region 43 with fail
   refine HB.o.tl (h := fun W9 h1 h2 hm9 => ?_)
   simp only [Act.put, uSa, uSb, uSc]
   go_wp2_with fail
   refine ubh rfl rfl rfl rfl h1 h2 rfl rfl ?_
   rw [Hd.o]
   exact HB.o.fin (r := (s, (0, 0), 3)) HB.o.sn hm9 rfl rfl
  have e2 : decide ((x.kids.length : Int) < o.at_) = false := dqf b2
  have hh1 : kk.height ≤ 64 := by have := HO.o.kdeep; omega
  have hd64 := Hd64.o
  have hw1 : IntKind.i64.wrap ((d : Int) + 1) = (d : Int) + 1 := by rw [IntKind.wrap_i64]; omega
  have hw2 : IntKind.i64.wrap ((d : Int) + 1 + (kk.height : Int)) = (d : Int) + 1 + (kk.height : Int) := by rw [IntKind.wrap_i64]; omega
  go_wp2_with (first | ((with_reducible refine lT 45 ?_); refine ldG HY.o.whole Tryz.underlying45 uaa (h := ?_)) | fail)
  refine (uc3 kk _ _ _ _ _ (Hyy.o.imp (fun _ _ _ => trivial)) (by omega) (Hsf.o.root.get HO.o.geti)).mono ?_
  rintro e W16 ⟨rfl, hm⟩
  replace HB := hd' (HB.o.up hm)
  replace HX := hd' (HX.o.up hm)
  replace HY := hd' (HY.o.up hm)
  replace Hyy := hd' (Hyy.o.up hm)
  replace HRb := hd' (HRb.o.up hm)
  replace Hr := hd' (Hr.o.up hm)
  replace HT := hd' (HT.o.up hm)
  clear hm a0 k30 HQ
  by_cases b3 : 64 < d + 1 + kk.height
  ·have e3 : decide ((64 : Int) < (d : Nat) + 1 + (kk.height : Nat)) = true := dqt (by omega)
   have Hd : Hid (doP checkS s o = (s, (0, 0), 3)) := hd' (by rw [Hd0.o, if_pos (.inr (.inr b3))])
   clear Hd0
   clear b1 b2 b3
   go_upto_region 43 with fail
   refine HB.o.tl (h := fun W9 h1 h2 hm9 => ?_)
   simp only [Act.put, uSa, uSb, uSc]
   go_wp2_with fail
   refine ubh rfl rfl rfl rfl h1 h2 rfl rfl ?_
   rw [Hd.o]
   exact HB.o.fin (r := (s, (0, 0), 3)) HB.o.sn hm9 rfl rfl
  have e3 : decide ((64 : Int) < (d : Nat) + 1 + (kk.height : Nat)) = false := dqf (by omega)
  have Hd := hd' (Hd0.o.trans (if_neg (by omega)))
  clear b1 b2 b3 hh1 hd64 Hd0
  go_upto_region 44 with fail
  clear e1 e2 e3 hw1 hw2
  have y0 : W16.cell? ⟨BT, 0, none⟩ = some (iV q.id.1) := HT.o.cell 0 rfl
  have y1 : W16.cell? ⟨BT, 1, none⟩ = some (iV q.id.2) := HT.o.cell 1 rfl
  have a0 := HB.o.a0
  go_wp2_with (first | ((with_reducible refine lT 45 ?_); refine ldA HRb.o.whole Tryz.underlying45 uaa (h := ?_)) | ((with_reducible refine lT 45 ?_); refine ldA HY.o.whole Tryz.underlying45 uaa (h := ?_)) | fail)
  refine (ufx q.id o.at_ kk (s.root.without o.id) (fun b => G b ∨ M ≤ b ∧ b < BR) _ _ _ _ _ _ _ _ _ (fun b hb => by rcases hb with hb | hb; (exact HB.o.gw _ hb); (have := Blk.lt HRb.o; omega)) Hr.o (HO.o.fit Hall.o (by have := HI.o.few; have := Hn.o; omega)).1 (Hyy.o.imp (fun _ _ h => .inl h))).mono ?_
  rintro e W17 ⟨zp, zf, zb, zk, rfl, hz, hm⟩
  have Hz := hd' hz
  have HBm : Hid (B < W16.heap.size) := hd' (Blk.lt HX.o)
  replace HB := hd' (HB.o.up hm)
  replace HX := hd' (HX.o.up hm)
  clear hm hz y0 y1 a0 HY Hyy HRb Hr HT
  go_upto_region 45 with (first | ((with_reducible refine sT 45 ?_); refine stA (lyA ((s.root.without o.id).with_ q.id o.at_ kk).id ((s.root.without o.id).with_ q.id o.at_ kk).look zp zf zb zk) (HX.o.there 2 31 (by simp [scA])) uaa (uat (LyR.one Hz.o)) (h := ?_)) | fail)
  refine putB (fun W18 hS hX => ?_)
  replace HX := hd' (hX _ _ HX.o)
  rw [uby] at HX
  replace HB := hd' (HB.o.mod hS (fun k e => by have := HNB.o; omega))
  replace Hz := hd' (Hz.o.mod hS (fun k _ hg e => by have := HNB.o; have := HBM.o; have := HBm.o; have := HB.o.lt; rcases hg with (hg | hg) | hg; (have := HB.o.g _ hg; omega); omega; omega))
  clear hS hX
  go_upto_region 45 with fail
  refine ujd (TS := 47) (TI := 30) (cs := scA (.slice pg s.arena.gens.length cg) (.slice pl s.arena.live.length cl) ((s.root.without o.id).with_ q.id o.at_ kk).id ((s.root.without o.id).with_ q.id o.at_ kk).look zp zf zb zk) HX.o.whole HB.o.n.whole HB.o.r1 HB.o.r2 (by have := HNB.o; have := HB.o.lt; omega) (by have := HB.o.lt; omega) (by omega) Tryz.underlying47 Tryz.underlying30 rfl rfl uah uaf rfl rfl (ubf rfl rfl (LyR.one Hz.o)) (by simp [Value.oneCell']) (h := fun W9 h1 h2 hm9 => ?_)
  simp only [Act.put, uSa, uSb, uSc]
  go_wp2_with fail
  refine ubh rfl rfl rfl rfl h1 h2 rfl rfl ?_
  rw [Hd.o]
  exact HB.o.fin (r := (⟨s.arena, (s.root.without o.id).with_ q.id o.at_ kk⟩, (0, 0), 0)) ⟨_, _, _, _, _, _, rfl, HB.o.ar.imp (fun _ h => .inl h), Hz.o.imp (fun k _ hg => by rcases hg with (hg | hg) | hg; (exact .inl hg); (exact .inr (by have := HNB.o; have := HBM.o; have := HB.o.lt; omega)); (exact .inr (by have := HNB.o; have := HBm.o; have := HB.o.lt; omega)))⟩ hm9 rfl rfl
theorem ue2 {l : List Opr} (h : fewO l = true) : l.length ≤ 60 ∧ ∀ o ∈ l, LkFit o.look ∧ fewB o.look.filt 300 = true ∧ fewB o.look.back 300 = true := by
 unfold fewO at h
 rw [Bool.and_eq_true, decide_eq_true_eq, List.all_eq_true] at h
 refine ⟨h.1, fun o ho => ?_⟩
 have h1 := h.2 o ho
 rw [ub2, Bool.and_eq_true, Bool.and_eq_true, decide_eq_true_eq] at h1
 have gf : ∀ g : Gr, fewB g 10 = true → (g.nodes.length ≤ 1000000 ∧ ∀ n ∈ g.nodes, n.ins.length ≤ 1000000 ∧ n.ps.length ≤ 1000000) ∧ fewB g 300 = true := fun g hg => by
  unfold fewB at hg ⊢
  rw [Bool.and_eq_true, decide_eq_true_eq, List.all_eq_true] at hg ⊢
  refine ⟨⟨by omega, fun n hn => ?_⟩, by omega, fun n hn => hg.2 n hn⟩
  have := hg.2 n hn
  unfold fewN at this
  rw [Bool.and_eq_true, decide_eq_true_eq, decide_eq_true_eq] at this
  omega
 exact ⟨⟨by omega, (gf _ h1.2.1).1, (gf _ h1.2.2).1⟩, (gf _ h1.2.1).2, (gf _ h1.2.2).2⟩
def SnX (A : Nat) (w : World) (b : Nat) (s : Sn) : Prop := ∃ vg vl vp vf vb vk, Blk w b 47 (scA vg vl s.root.id s.root.look vp vf vb vk) ∧ ArG (fun k => k ≠ A ∧ k ≠ b) w vg vl s.arena ∧ LyR (fun k => k ≠ A ∧ k ≠ b) w (lyA s.root.id s.root.look vp vf vb vk).toList s.root
theorem SnX.of {G : Nat → Prop} {A b : Nat} {w : World} {s : Sn} {vg vl vp vf vb vk : Value} (hb : Blk w b 47 (scA vg vl s.root.id s.root.look vp vf vb vk)) (ha : ArG G w vg vl s.arena) (hl : LyR G w (lyA s.root.id s.root.look vp vf vb vk).toList s.root) (h : ∀ k, k < w.heap.size → G k → k ≠ A ∧ k ≠ b) : SnX A w b s :=
 ⟨_, _, _, _, _, _, hb, ⟨RowG.imp ha.g h, RowG.imp ha.l h⟩, hl.imp h⟩
end Go.Proofs.YtpbmfalokongfaaGreatDoor
