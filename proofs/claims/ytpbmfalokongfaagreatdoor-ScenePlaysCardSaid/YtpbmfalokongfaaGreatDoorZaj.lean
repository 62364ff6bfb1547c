/- Texts of the scenes' proofs, laid together: SdQ, SdR, Open, ArgSA, ArgSC, Law12, SdS, SdV, SdX, SeC. -/
import Derived.Test.YtpbmfalokongfaaGreatDoorZai
import Derived.Test.YtpbmfalokongfaaGreatDoorZab
import Derived.Test.YtpbmfalokongfaaGreatDoorZaa
import Derived.Deep.Slices
import Derived.Deep.Fields
import Derived.Deep.OwnShut
import Derived.Lib.SmallJoins
import Derived.ChangeSame
import Derived.ProofKit
import Derived.OpenShut
import Derived.Test.YtpbmfalokongfaaGreatDoorZag
set_option maxHeartbeats 64000000
set_option linter.unusedSimpArgs false
set_option linter.unusedVariables false
set_option linter.unusedSectionVars false
set_option linter.constructorNameAsVariable false
namespace Go.Gou
open Go.RowKit
theorem ufy (w : World) (T U : TypeId) (A B a b : Array Value) (ha : A.size = a.size) (hb : B.size = b.size) :
 Blk ((((w.alloc (.cells A T)).alloc (.cells B U)).setCells w.heap.size 0 a.toList).setCells (w.heap.size + 1) 0 b.toList) w.heap.size T a ∧ Blk ((((w.alloc (.cells A T)).alloc (.cells B U)).setCells w.heap.size 0 a.toList).setCells (w.heap.size + 1) 0 b.toList) (w.heap.size + 1) U b ∧
 Mod (fun _ => False) w ((((w.alloc (.cells A T)).alloc (.cells B U)).setCells w.heap.size 0 a.toList).setCells (w.heap.size + 1) 0 b.toList) := by
 obtain ⟨b0, b1, bm⟩ := uaw w T U A B
 have m1 := Blk.setMod ((w.alloc (.cells A T)).alloc (.cells B U)) w.heap.size 0 a.toList
 have c0 := b0.setAll a (by simpa using ha)
 have c1 := b1.mod m1 (by omega)
 have m2 := Blk.setMod (((w.alloc (.cells A T)).alloc (.cells B U)).setCells w.heap.size 0 a.toList) (w.heap.size + 1) 0 b.toList
 exact ⟨c0.mod m2 (by omega), c1.setAll b (by simpa using hb), (bm.trans m1 (fun k hk e => by omega)).trans m2 (fun k hk e => by omega)⟩
def opZ (kind : Int) (i t : Idt) (n : Int) : Opr := ⟨kind, i, t, n, Lk.zero⟩
def awS1 : Sn := ⟨⟨[0, 0], [true, true]⟩, .mk (0, 0) Lk.plain [.mk (1, 0) Lk.plain []]⟩
def awS2 : Sn := ⟨⟨[0, 0, 0], [true, true, true]⟩, .mk (0, 0) Lk.plain [.mk (1, 0) Lk.plain [.mk (2, 0) Lk.plain []]]⟩
def awS4 : Sn := ⟨⟨[0, 1, 1], [true, false, false]⟩, .mk (0, 0) Lk.plain []⟩
theorem aw1 (check : Gr → Int) : doP check Sn.new (opZ 1 (0, 0) (0, 0) 0) = (awS1, (1, 0), 0) := by rfl
theorem aw2 (check : Gr → Int) : doP check awS1 (opZ 1 (0, 0) (1, 0) 0) = (awS2, (2, 0), 0) := by rfl
theorem aw3 (check : Gr → Int) : doP check awS2 (opZ 3 (1, 0) (2, 0) 0) = (awS2, (0, 0), 5) := by rfl
theorem aw4 (check : Gr → Int) : doP check awS2 (opZ 2 (1, 0) (0, 0) 0) = (awS4, (0, 0), 0) := by rfl
theorem awf2 : awS2.root.find (2, 0) = some (.mk (2, 0) Lk.plain [], 2) := by rfl
theorem awf4 : awS4.root.find (2, 0) = none := by rfl
theorem aw_inv (check : Gr → Int) : Inv 1 awS1 ∧ Inv 2 awS2 ∧ Inv 3 awS4 := by
 have h1 := Inv.do_ Inv.new check (opZ 1 (0, 0) (0, 0) 0)
 rw [aw1] at h1
 have h2 := Inv.do_ h1 check (opZ 1 (0, 0) (1, 0) 0)
 rw [aw2] at h2
 have h4 := Inv.do_ h2 check (opZ 2 (1, 0) (0, 0) 0)
 rw [aw4] at h4
 exact ⟨h1, h2, h4⟩
theorem ujr : LkFit Lk.zero := ⟨by simp [Lk.zero, Ct.zero], by simp [Lk.zero, Gr.zero], by simp [Lk.zero, Gr.zero]⟩
theorem uid : LkFit Lk.plain := ⟨by simp [Lk.plain, Lk.zero, Ct.zero], by simp [Lk.plain, Lk.zero, Gr.zero], by simp [Lk.plain, Lk.zero, Gr.zero]⟩
theorem aw_fit : ugk Sn.new ∧ ugk awS1 ∧ ugk awS2 ∧ ugk awS4 := by
 have p := uid
 have t0 : ∀ i, TFit (.mk i Lk.plain []) := fun i => .mk _ _ _ p (by simp) (by simp)
 have t1 : ∀ i j, TFit (.mk i Lk.plain [.mk j Lk.plain []]) := fun i j => .mk _ _ _ p (by simp) (by simp; exact t0 j)
 refine ⟨⟨t0 _, by simp [Sn.new, Ar.new], by simp [Sn.new, Ar.new]⟩, ⟨t1 _ _, by simp [awS1], by simp [awS1]⟩, ⟨.mk _ _ _ p (by simp) (by simp; exact t1 _ _), by simp [awS2], by simp [awS2]⟩, ⟨t0 _, by simp [awS4], by simp [awS4]⟩⟩
end Go.Gou
namespace Go.Proofs.YtpbmfalokongfaaGreatDoor
open Go.RowKit Go.Gou
set_option maxRecDepth 100000
theorem grWf_zero : GrWf Gr.zero := ⟨by simp [Gr.zero], by simp [Gr.zero], by simp [Gr.zero], rfl, by simp [Gr.zero], by simp [Gr.zero], by simp [Gr.zero]⟩
theorem uc7 (G : Nat → Prop) (w : World) : LookR G w Lk.zero nlS nlS nlS := ⟨PixR.nil _ _, NodesR.nil _ _, NodesR.nil _ _⟩
structure SnB (w : World) (b : Nat) (s : Sn) : Prop where
 box : ∃ vg vl vp vf vb vk F, Blk w b 47 (scA vg vl s.root.id s.root.look vp vf vb vk) ∧ ArL 0 w vg vl s.arena ∧ LyO 45 77 0 w (lyA s.root.id s.root.look vp vf vb vk).toList s.root F
theorem SnB.up {w w' : World} {b : Nat} {s : Sn} (h : SnB w b s) (hm : Gou.Mod (fun _ => False) w w') : SnB w' b s := by
 obtain ⟨vg, vl, vp, vf, vb, vk, F, h1, h2, h3⟩ := h
 exact ⟨vg, vl, vp, vf, vb, vk, F, h1.up hm, h2.up hm, h3.up hm⟩
theorem ueg {vg vl : Value} {s : Sn} {vp vf vb vk : Value} {F : List Nat} {base : Nat} {w : World} (h2 : ArL base w vg vl s.arena) (h3 : LyO 45 77 base w (lyA s.root.id s.root.look vp vf vb vk).toList s.root F) : (scA vg vl s.root.id s.root.look vp vf vb vk).all (·.oneCell') = true := by
 obtain ⟨⟨_, _, rfl⟩, _, _, rfl⟩ := h2.forms
 exact ubf rfl rfl (LyO.one h3)
theorem uey (n : Int) (w : World) : Calls Tryz.prog 20 #[iV n] w fun e w' => e = .returned (.agg #[iV n, iV 0]) ∧ Gou.Mod (fun _ => False) w w' := by
 have HR := hd' (Blk.new w 30 iiZ)
 have HM := hd' (Gou.Mod.alloc0 w (.cells iiZ 30))
 go_enter Tryz.func20, Tryz.ntmps20
 go_upto_region 1 with fail
 generalize w.alloc (.cells iiZ 30) = W1 at *
 have r0 : W1.cell? ⟨w.heap.size, 0, none⟩ = some (iV 0) := HR.o.cell 0 rfl
 have r1 : W1.cell? ⟨w.heap.size, 1, none⟩ = some (iV 0) := HR.o.cell 1 rfl
 have s0 := HR.o.frozen 0
 have s1 := HR.o.frozen 1
 go_wp2_with fail
 have hR := (HR.o.set 0 (iV n)).set 1 (iV 0)
 have hS := (Gou.Mod.set1 W1 w.heap.size 0 (iV n)).trans' (Gou.Mod.set1 _ w.heap.size 1 (iV 0))
 refine bpr (results_cell_row rfl _ _ (w.heap.size) 30 #[iV n, iV 0] (0, 0) _ rfl hR Tryz.underlying30 rfl uaf) rfl ?_
 exact ⟨rfl, HM.o.trans hS (fun k hk e => by omega)⟩
theorem DoSP.at_ {w : World} {s : Sn} {op : Opr} {r : Sn × Idt × Int} (h : doP checkS s op = r) : DoSP w s op = fun e w' => ∃ v', e = .returned (.tuple #[v', .agg #[iV r.2.1.1, iV r.2.1.2], iV r.2.2]) ∧ SnO w.heap.size w' v' r.1 ∧ Gou.Mod (fun _ => False) w w' := by
 subst h
 rfl
theorem ue9 (w : World) : Calls Tryz.prog 8 #[] w fun e w' => e = .returned (.bool true) ∧ Gou.Mod (fun _ => False) w w' := by
 have Hfit := hd' aw_fit
 have Hinv := hd' (aw_inv checkS)
 have Hlz := hd' ujr
 have Hgz := hd' grWf_zero
 go_enter Tryz.func8, Tryz.ntmps8
 go_upto_region 1 with fail
 go_wp2_with fail
 refine (new_any _).mono ?_
 rintro e x1 ⟨v, rfl, hs, hm⟩
 have HS := hd' hs
 have Hm1 := hd' hm
 clear hs hm
 go_wp2_with (first | ((with_reducible show wpList _ _ _ (⟨_, Op.build _ _, _, _, _, _⟩ :: _) _ _); refine halt ?_) | fail)
 show wpList _ _ _ _ _ _
 refine uav rfl (.agg (oprC (opZ 1 (0, 0) (0, 0) 0) nlS nlS nlS)) (by kernel_rfl) ?_
 simp only [Act.put, List.setIfInBounds_toArray, List.set_cons_zero, List.set_cons_succ]
 go_wp2_with fail
 refine (ue3 _ _ Sn.new (opZ 1 (0, 0) (0, 0) 0) _ _ _ ((HS.o).reads.imp (fun _ _ _ => trivial)) Hfit.o.1 (uc7 _ _) 0 Inv.new (by omega) Hlz.o Hgz.o Hgz.o).mono ?_
 rw [DoSP.at_ (aw1 checkS)]
 rintro e y1 ⟨v1, rfl, hs, hm⟩
 obtain ⟨vg, vl, vp, vf, vb, vk, F, rfl, ha, hl⟩ := hs
 have Hone := hd' (ueg ha hl)
 have Ha := hd' ha
 have Hl := hd' hl
 have Hm2 := hd' (Hm1.o.trans' hm)
 clear ha hl hm HS
 go_upto_region 2 with (first | ((with_reducible refine sT 47 ?_); refine stA (scA vg vl awS1.root.id awS1.root.look vp vf vb vk) ((uaw y1 47 30 scZ iiZ).1.there 0 33 (by simp [scA, lyA])) uah Hone.o (h := ?_)) | ((with_reducible refine sT 30 ?_); refine stA (#[iV 1, iV 0]) (((uaw y1 47 30 scZ iiZ).2.1.mod (Blk.setMod ((y1.alloc (.cells scZ 47)).alloc (.cells iiZ 30)) y1.heap.size 0 (scA vg vl awS1.root.id awS1.root.look vp vf vb vk).toList) (by omega)).there 0 2 (by simp)) uaf (by simp [Value.oneCell']) (h := ?_)) | fail)
 obtain ⟨hb1, hb2, hb3⟩ := ufy y1 47 30 scZ iiZ (scA vg vl awS1.root.id awS1.root.look vp vf vb vk) #[iV 1, iV 0] (by simp [scA]) (by simp)
 have hsx := SnO.up (⟨_, _, _, _, _, _, F, rfl, Ha.o, Hl.o⟩ : SnO _ y1 (.agg (scA vg vl awS1.root.id awS1.root.look vp vf vb vk)) awS1) hb3
 obtain ⟨vg', vl', vp', vf', vb', vk', F', e, ha, hl⟩ := hsx.low (Nat.zero_le _)
 cases Value.agg.inj e
 have HS1 : Hid (SnB _ y1.heap.size awS1) := hd' ⟨_, _, _, _, _, _, F', hb1, ha, hl⟩
 have HI1 := hd' hb2
 have HMs := hd' (Hm2.o.trans' hb3)
 show Code.wp _ _ _ _ ((((y1.alloc (.cells scZ 47)).alloc (.cells iiZ 30)).setCells y1.heap.size 0 (scA vg vl awS1.root.id awS1.root.look vp vf vb vk).toList).setCells (y1.heap.size + 1) 0 (#[iV 1, iV 0] : Array Value).toList)
 have HM := hd' HMs.o
 clear Hone Ha Hl Hm2 HMs hb1 hb2 hb3 hsx e ha hl Hm1
 generalize (((y1.alloc (.cells scZ 47)).alloc (.cells iiZ 30)).setCells y1.heap.size 0 (scA vg vl awS1.root.id awS1.root.look vp vf vb vk).toList).setCells (y1.heap.size + 1) 0 (#[iV 1, iV 0] : Array Value).toList = W1 at *
 generalize y1.heap.size + 1 = I1 at *
 generalize y1.heap.size = B1 at *
 obtain ⟨svg, svl, svp, svf, svb, svk, SF, sb1, sb2, sb3⟩ := HS1.o.box
 have Hrg := hd' (sb1.whole)
 have HS : Hid (SnR (fun _ => True) W1 (.agg (scA svg svl awS1.root.id awS1.root.look svp svf svb svk)) awS1) := hd' ⟨_, _, _, _, _, _, rfl, ⟨RowG.own_of sb2.g (fun _ _ _ => trivial), RowG.own_of sb2.l (fun _ _ _ => trivial)⟩, sb3.reads.imp (fun _ _ _ => trivial)⟩
 clear sb1 sb2 sb3
 have i1_0 : W1.cell? ⟨I1, 0, none⟩ = some (iV 1) := HI1.o.cell 0 rfl
 have i1_1 : W1.cell? ⟨I1, 1, none⟩ = some (iV 0) := HI1.o.cell 1 rfl
 go_wp2_with (first | ((with_reducible refine lT 47 ?_); refine ldA Hrg.o Tryz.underlying47 uah (h := ?_)) | ((with_reducible show wpList _ _ _ (⟨_, Op.build _ _, _, _, _, _⟩ :: _) _ _); refine halt ?_) | fail)
 show wpList _ _ _ _ _ _
 refine uav rfl (.agg (oprC (opZ 1 (0, 0) (1, 0) 0) nlS nlS nlS)) (by kernel_rfl) ?_
 simp only [Act.put, List.setIfInBounds_toArray, List.set_cons_zero, List.set_cons_succ]
 go_wp2_with fail
 refine (ue3 _ _ awS1 (opZ 1 (0, 0) (1, 0) 0) _ _ _ HS.o Hfit.o.2.1 (uc7 _ _) 1 Hinv.o.1 (by omega) Hlz.o Hgz.o Hgz.o).mono ?_
 rw [DoSP.at_ (aw2 checkS)]
 rintro e y2 ⟨v2, rfl, hs, hm⟩
 obtain ⟨vg, vl, vp, vf, vb, vk, F, rfl, ha, hl⟩ := hs
 have Hone := hd' (ueg ha hl)
 have Ha := hd' ha
 have Hl := hd' hl
 have Hm2 := hd' hm
 clear ha hl hm HS
 go_upto_region 3 with (first | ((with_reducible refine sT 47 ?_); refine stA (scA vg vl awS2.root.id awS2.root.look vp vf vb vk) ((uaw y2 47 30 scZ iiZ).1.there 0 33 (by simp [scA, lyA])) uah Hone.o (h := ?_)) | ((with_reducible refine sT 30 ?_); refine stA (#[iV 2, iV 0]) (((uaw y2 47 30 scZ iiZ).2.1.mod (Blk.setMod ((y2.alloc (.cells scZ 47)).alloc (.cells iiZ 30)) y2.heap.size 0 (scA vg vl awS2.root.id awS2.root.look vp vf vb vk).toList) (by omega)).there 0 2 (by simp)) uaf (by simp [Value.oneCell']) (h := ?_)) | fail)
 obtain ⟨hb1, hb2, hb3⟩ := ufy y2 47 30 scZ iiZ (scA vg vl awS2.root.id awS2.root.look vp vf vb vk) #[iV 2, iV 0] (by simp [scA]) (by simp)
 have hsx := SnO.up (⟨_, _, _, _, _, _, F, rfl, Ha.o, Hl.o⟩ : SnO _ y2 (.agg (scA vg vl awS2.root.id awS2.root.look vp vf vb vk)) awS2) hb3
 obtain ⟨vg', vl', vp', vf', vb', vk', F', e, ha, hl⟩ := hsx.low (Nat.zero_le _)
 cases Value.agg.inj e
 have HS2 : Hid (SnB _ y2.heap.size awS2) := hd' ⟨_, _, _, _, _, _, F', hb1, ha, hl⟩
 have HI2 := hd' hb2
 have HMs := hd' (Hm2.o.trans' hb3)
 show Code.wp _ _ _ _ ((((y2.alloc (.cells scZ 47)).alloc (.cells iiZ 30)).setCells y2.heap.size 0 (scA vg vl awS2.root.id awS2.root.look vp vf vb vk).toList).setCells (y2.heap.size + 1) 0 (#[iV 2, iV 0] : Array Value).toList)
 replace HS1 := hd' (HS1.o.up HMs.o)
 replace HI1 := hd' (HI1.o.up HMs.o)
 replace HM := hd' (HM.o.trans' HMs.o)
 clear Hone Ha Hl Hm2 HMs hb1 hb2 hb3 hsx e ha hl Hrg
 generalize (((y2.alloc (.cells scZ 47)).alloc (.cells iiZ 30)).setCells y2.heap.size 0 (scA vg vl awS2.root.id awS2.root.look vp vf vb vk).toList).setCells (y2.heap.size + 1) 0 (#[iV 2, iV 0] : Array Value).toList = W2 at *
 generalize y2.heap.size + 1 = I2 at *
 generalize y2.heap.size = B2 at *
 clear i1_0 i1_1
 have i1_0 : W2.cell? ⟨I1, 0, none⟩ = some (iV 1) := HI1.o.cell 0 rfl
 have i1_1 : W2.cell? ⟨I1, 1, none⟩ = some (iV 0) := HI1.o.cell 1 rfl
 have i2_0 : W2.cell? ⟨I2, 0, none⟩ = some (iV 2) := HI2.o.cell 0 rfl
 have i2_1 : W2.cell? ⟨I2, 1, none⟩ = some (iV 0) := HI2.o.cell 1 rfl
 obtain ⟨svg, svl, svp, svf, svb, svk, SF, sb1, sb2, sb3⟩ := HS2.o.box
 have Hrg := hd' (sb1.whole)
 have HS : Hid (SnR (fun _ => True) W2 (.agg (scA svg svl awS2.root.id awS2.root.look svp svf svb svk)) awS2) := hd' ⟨_, _, _, _, _, _, rfl, ⟨RowG.own_of sb2.g (fun _ _ _ => trivial), RowG.own_of sb2.l (fun _ _ _ => trivial)⟩, sb3.reads.imp (fun _ _ _ => trivial)⟩
 clear sb1 sb2 sb3
 go_wp2_with (first | ((with_reducible refine lT 47 ?_); refine ldA Hrg.o Tryz.underlying47 uah (h := ?_)) | ((with_reducible show wpList _ _ _ (⟨_, Op.build _ _, _, _, _, _⟩ :: _) _ _); refine halt ?_) | fail)
 show wpList _ _ _ _ _ _
 refine uav rfl (.agg (oprC (opZ 3 (1, 0) (2, 0) 0) nlS nlS nlS)) (by kernel_rfl) ?_
 simp only [Act.put, List.setIfInBounds_toArray, List.set_cons_zero, List.set_cons_succ]
 go_wp2_with fail
 refine (ue3 _ _ awS2 (opZ 3 (1, 0) (2, 0) 0) _ _ _ HS.o Hfit.o.2.2.1 (uc7 _ _) 2 Hinv.o.2.1 (by omega) Hlz.o Hgz.o Hgz.o).mono ?_
 rw [DoSP.at_ (aw3 checkS)]
 rintro e y3 ⟨v3, rfl, hs, hm⟩
 obtain ⟨vg, vl, vp, vf, vb, vk, F, rfl, ha, hl⟩ := hs
 have Hone := hd' (ueg ha hl)
 have Ha := hd' ha
 have Hl := hd' hl
 have Hm2 := hd' hm
 clear ha hl hm HS
 go_upto_region 4 with (first | ((with_reducible refine sT 47 ?_); refine stA (scA vg vl awS2.root.id awS2.root.look vp vf vb vk) ((uaw y3 47 30 scZ iiZ).1.there 0 33 (by simp [scA, lyA])) uah Hone.o (h := ?_)) | ((with_reducible refine sT 30 ?_); refine stA (iiZ) (((uaw y3 47 30 scZ iiZ).2.1.mod (Blk.setMod ((y3.alloc (.cells scZ 47)).alloc (.cells iiZ 30)) y3.heap.size 0 (scA vg vl awS2.root.id awS2.root.look vp vf vb vk).toList) (by omega)).there 0 2 (by simp)) uaf (by simp [Value.oneCell']) (h := ?_)) | fail)
 obtain ⟨hb1, hb2, hb3⟩ := ufy y3 47 30 scZ iiZ (scA vg vl awS2.root.id awS2.root.look vp vf vb vk) iiZ (by simp [scA]) (by simp)
 have hsx := SnO.up (⟨_, _, _, _, _, _, F, rfl, Ha.o, Hl.o⟩ : SnO _ y3 (.agg (scA vg vl awS2.root.id awS2.root.look vp vf vb vk)) awS2) hb3
 obtain ⟨vg', vl', vp', vf', vb', vk', F', e, ha, hl⟩ := hsx.low (Nat.zero_le _)
 cases Value.agg.inj e
 have HS3 : Hid (SnB _ y3.heap.size awS2) := hd' ⟨_, _, _, _, _, _, F', hb1, ha, hl⟩
 have HI3 := hd' hb2
 have HMs := hd' (Hm2.o.trans' hb3)
 show Code.wp _ _ _ _ ((((y3.alloc (.cells scZ 47)).alloc (.cells iiZ 30)).setCells y3.heap.size 0 (scA vg vl awS2.root.id awS2.root.look vp vf vb vk).toList).setCells (y3.heap.size + 1) 0 (iiZ : Array Value).toList)
 replace HS1 := hd' (HS1.o.up HMs.o)
 replace HS2 := hd' (HS2.o.up HMs.o)
 replace HI1 := hd' (HI1.o.up HMs.o)
 replace HI2 := hd' (HI2.o.up HMs.o)
 replace HM := hd' (HM.o.trans' HMs.o)
 clear Hone Ha Hl Hm2 HMs hb1 hb2 hb3 hsx e ha hl Hrg
 generalize (((y3.alloc (.cells scZ 47)).alloc (.cells iiZ 30)).setCells y3.heap.size 0 (scA vg vl awS2.root.id awS2.root.look vp vf vb vk).toList).setCells (y3.heap.size + 1) 0 (iiZ : Array Value).toList = W3 at *
 generalize y3.heap.size + 1 = I3 at *
 generalize y3.heap.size = B3 at *
 clear i1_0 i1_1 i2_0 i2_1
 have i1_0 : W3.cell? ⟨I1, 0, none⟩ = some (iV 1) := HI1.o.cell 0 rfl
 have i1_1 : W3.cell? ⟨I1, 1, none⟩ = some (iV 0) := HI1.o.cell 1 rfl
 obtain ⟨svg, svl, svp, svf, svb, svk, SF, sb1, sb2, sb3⟩ := HS2.o.box
 have Hrg := hd' (sb1.whole)
 have HS : Hid (SnR (fun _ => True) W3 (.agg (scA svg svl awS2.root.id awS2.root.look svp svf svb svk)) awS2) := hd' ⟨_, _, _, _, _, _, rfl, ⟨RowG.own_of sb2.g (fun _ _ _ => trivial), RowG.own_of sb2.l (fun _ _ _ => trivial)⟩, sb3.reads.imp (fun _ _ _ => trivial)⟩
 clear sb1 sb2 sb3
 go_wp2_with (first | ((with_reducible refine lT 47 ?_); refine ldA Hrg.o Tryz.underlying47 uah (h := ?_)) | ((with_reducible show wpList _ _ _ (⟨_, Op.build _ _, _, _, _, _⟩ :: _) _ _); refine halt ?_) | fail)
 show wpList _ _ _ _ _ _
 refine uav rfl (.agg (oprC (opZ 2 (1, 0) (0, 0) 0) nlS nlS nlS)) (by kernel_rfl) ?_
 simp only [Act.put, List.setIfInBounds_toArray, List.set_cons_zero, List.set_cons_succ]
 go_wp2_with fail
 refine (ue3 _ _ awS2 (opZ 2 (1, 0) (0, 0) 0) _ _ _ HS.o Hfit.o.2.2.1 (uc7 _ _) 2 Hinv.o.2.1 (by omega) Hlz.o Hgz.o Hgz.o).mono ?_
 rw [DoSP.at_ (aw4 checkS)]
 rintro e y4 ⟨v4, rfl, hs, hm⟩
 obtain ⟨vg, vl, vp, vf, vb, vk, F, rfl, ha, hl⟩ := hs
 have Hone := hd' (ueg ha hl)
 have Ha := hd' ha
 have Hl := hd' hl
 have Hm2 := hd' hm
 clear ha hl hm HS
 go_upto_region 5 with (first | ((with_reducible refine sT 47 ?_); refine stA (scA vg vl awS4.root.id awS4.root.look vp vf vb vk) ((uaw y4 47 30 scZ iiZ).1.there 0 33 (by simp [scA, lyA])) uah Hone.o (h := ?_)) | ((with_reducible refine sT 30 ?_); refine stA (iiZ) (((uaw y4 47 30 scZ iiZ).2.1.mod (Blk.setMod ((y4.alloc (.cells scZ 47)).alloc (.cells iiZ 30)) y4.heap.size 0 (scA vg vl awS4.root.id awS4.root.look vp vf vb vk).toList) (by omega)).there 0 2 (by simp)) uaf (by simp [Value.oneCell']) (h := ?_)) | fail)
 obtain ⟨hb1, hb2, hb3⟩ := ufy y4 47 30 scZ iiZ (scA vg vl awS4.root.id awS4.root.look vp vf vb vk) iiZ (by simp [scA]) (by simp)
 have hsx := SnO.up (⟨_, _, _, _, _, _, F, rfl, Ha.o, Hl.o⟩ : SnO _ y4 (.agg (scA vg vl awS4.root.id awS4.root.look vp vf vb vk)) awS4) hb3
 obtain ⟨vg', vl', vp', vf', vb', vk', F', e, ha, hl⟩ := hsx.low (Nat.zero_le _)
 cases Value.agg.inj e
 have HS4 : Hid (SnB _ y4.heap.size awS4) := hd' ⟨_, _, _, _, _, _, F', hb1, ha, hl⟩
 have HI4 := hd' hb2
 have HMs := hd' (Hm2.o.trans' hb3)
 show Code.wp _ _ _ _ ((((y4.alloc (.cells scZ 47)).alloc (.cells iiZ 30)).setCells y4.heap.size 0 (scA vg vl awS4.root.id awS4.root.look vp vf vb vk).toList).setCells (y4.heap.size + 1) 0 (iiZ : Array Value).toList)
 replace HS1 := hd' (HS1.o.up HMs.o)
 replace HS2 := hd' (HS2.o.up HMs.o)
 replace HS3 := hd' (HS3.o.up HMs.o)
 replace HI1 := hd' (HI1.o.up HMs.o)
 replace HI2 := hd' (HI2.o.up HMs.o)
 replace HI3 := hd' (HI3.o.up HMs.o)
 replace HM := hd' (HM.o.trans' HMs.o)
 clear Hone Ha Hl Hm2 HMs hb1 hb2 hb3 hsx e ha hl Hrg
 generalize (((y4.alloc (.cells scZ 47)).alloc (.cells iiZ 30)).setCells y4.heap.size 0 (scA vg vl awS4.root.id awS4.root.look vp vf vb vk).toList).setCells (y4.heap.size + 1) 0 (iiZ : Array Value).toList = W4 at *
 generalize y4.heap.size + 1 = I4 at *
 generalize y4.heap.size = B4 at *
 clear i1_0 i1_1
 obtain ⟨svg, svl, svp, svf, svb, svk, SF, sb1, sb2, sb3⟩ := HS2.o.box
 have Hrg := hd' (sb1.whole)
 have HS : Hid (SnR (fun _ => True) W4 (.agg (scA svg svl awS2.root.id awS2.root.look svp svf svb svk)) awS2) := hd' ⟨_, _, _, _, _, _, rfl, ⟨RowG.own_of sb2.g (fun _ _ _ => trivial), RowG.own_of sb2.l (fun _ _ _ => trivial)⟩, sb3.reads.imp (fun _ _ _ => trivial)⟩
 clear sb1 sb2 sb3
 have i2_0 : W4.cell? ⟨I2, 0, none⟩ = some (iV 2) := HI2.o.cell 0 rfl
 have i2_1 : W4.cell? ⟨I2, 1, none⟩ = some (iV 0) := HI2.o.cell 1 rfl
 go_wp2_with (first | ((with_reducible refine lT 47 ?_); refine ldA Hrg.o Tryz.underlying47 uah (h := ?_)) | fail)
 refine (ug7 _ _ awS2 (2, 0) HS.o Hfit.o.2.2.1 2 Hinv.o.2.1).mono ?_
 rintro e y5 ⟨ly, F, vp, vf, vb, vk, rfl, hly, hl, hm⟩
 rw [awf2]
 have Hone := hd' (uat (LyO.one hl))
 have Hm2 := hd' hm
 clear hly hl hm HS
 go_upto_region 6 with (first | ((with_reducible refine sT 45 ?_); refine stA (lyA ly.id ly.look vp vf vb vk) ((Blk.new y5 45 lyZ).there 0 31 (by simp [lyA])) uaa Hone.o (h := ?_)) | fail)
 have hb3 : Gou.Mod (fun _ => False) y5 ((y5.alloc (.cells lyZ 45)).setCells y5.heap.size 0 (lyA ly.id ly.look vp vf vb vk).toList) := Gou.Mod.allocSet _ _ _
 have HMs := hd' (Hm2.o.trans' hb3)
 show Code.wp _ _ _ _ ((y5.alloc (.cells lyZ 45)).setCells y5.heap.size 0 (lyA ly.id ly.look vp vf vb vk).toList)
 replace HS2 := hd' (HS2.o.up HMs.o)
 replace HS4 := hd' (HS4.o.up HMs.o)
 replace HI1 := hd' (HI1.o.up HMs.o)
 replace HI2 := hd' (HI2.o.up HMs.o)
 replace HM := hd' (HM.o.trans' HMs.o)
 clear Hone Hm2 HMs hb3 Hrg
 generalize (y5.alloc (.cells lyZ 45)).setCells y5.heap.size 0 (lyA ly.id ly.look vp vf vb vk).toList = W5 at *
 clear i2_0 i2_1
 obtain ⟨svg, svl, svp, svf, svb, svk, SF, sb1, sb2, sb3⟩ := HS4.o.box
 have Hrg := hd' (sb1.whole)
 have HS : Hid (SnR (fun _ => True) W5 (.agg (scA svg svl awS4.root.id awS4.root.look svp svf svb svk)) awS4) := hd' ⟨_, _, _, _, _, _, rfl, ⟨RowG.own_of sb2.g (fun _ _ _ => trivial), RowG.own_of sb2.l (fun _ _ _ => trivial)⟩, sb3.reads.imp (fun _ _ _ => trivial)⟩
 clear sb1 sb2 sb3
 have i2_0 : W5.cell? ⟨I2, 0, none⟩ = some (iV 2) := HI2.o.cell 0 rfl
 have i2_1 : W5.cell? ⟨I2, 1, none⟩ = some (iV 0) := HI2.o.cell 1 rfl
 go_wp2_with (first | ((with_reducible refine lT 47 ?_); refine ldA Hrg.o Tryz.underlying47 uah (h := ?_)) | fail)
 refine (ug7 _ _ awS4 (2, 0) HS.o Hfit.o.2.2.2 3 Hinv.o.2.2).mono ?_
 rintro e y6 ⟨ly, F, vp, vf, vb, vk, rfl, hly, hl, hm⟩
 rw [awf4]
 have Hone := hd' (uat (LyO.one hl))
 have Hm2 := hd' hm
 clear hly hl hm HS
 go_upto_region 7 with (first | ((with_reducible refine sT 45 ?_); refine stA (lyA ly.id ly.look vp vf vb vk) ((Blk.new y6 45 lyZ).there 0 31 (by simp [lyA])) uaa Hone.o (h := ?_)) | fail)
 have hb3 : Gou.Mod (fun _ => False) y6 ((y6.alloc (.cells lyZ 45)).setCells y6.heap.size 0 (lyA ly.id ly.look vp vf vb vk).toList) := Gou.Mod.allocSet _ _ _
 have HMs := hd' (Hm2.o.trans' hb3)
 show Code.wp _ _ _ _ ((y6.alloc (.cells lyZ 45)).setCells y6.heap.size 0 (lyA ly.id ly.look vp vf vb vk).toList)
 replace HS2 := hd' (HS2.o.up HMs.o)
 replace HS4 := hd' (HS4.o.up HMs.o)
 replace HI1 := hd' (HI1.o.up HMs.o)
 replace HI2 := hd' (HI2.o.up HMs.o)
 replace HM := hd' (HM.o.trans' HMs.o)
 clear Hone Hm2 HMs hb3 Hrg
 generalize (y6.alloc (.cells lyZ 45)).setCells y6.heap.size 0 (lyA ly.id ly.look vp vf vb vk).toList = W6 at *
 clear i2_0 i2_1
 have i1_0 : W6.cell? ⟨I1, 0, none⟩ = some (iV 1) := HI1.o.cell 0 rfl
 have i1_1 : W6.cell? ⟨I1, 1, none⟩ = some (iV 0) := HI1.o.cell 1 rfl
 have i2_0 : W6.cell? ⟨I2, 0, none⟩ = some (iV 2) := HI2.o.cell 0 rfl
 have i2_1 : W6.cell? ⟨I2, 1, none⟩ = some (iV 0) := HI2.o.cell 1 rfl
 have HJ1 : Hid (W6.rangeAt I1 0 [iV 1, iV 0]) := hd' (Blk.range (pre := []) (post := []) HI1.o (by simp) rfl)
 have HJ2 : Hid (W6.rangeAt I2 0 [iV 2, iV 0]) := hd' (Blk.range (pre := []) (post := []) HI2.o (by simp) rfl)
 have e9 := fun (w' : World) => udm (1, 0) (1, 0) w'
 have e14 := fun (w' : World) => udm (2, 0) (2, 0) w'
 simp only [decide_true] at e9 e14
 clear i1_0 i1_1 i2_0 i2_1
 refine wp_region_held_drew (S := fun w' => Gou.Mod (fun _ => False) W6 w') (by kernel_rfl) (Gou.Mod.drew _ _) (fun hH => ?_)
 refine tk 0 (iV 0) hH (h := ?_)
 refine tk 1 (.bool true) hH (h := ?_)
 refine tk 2 (.bool true) hH (h := ?_)
 refine tk 3 (iV 0) hH (h := ?_)
 refine tk 4 (.bool true) hH (h := ?_)
 refine tk 5 (.bool true) hH (h := ?_)
 refine tk 6 (.bool true) hH (h := ?_)
 refine tkR 7 (.agg #[iV 1, iV 0]) HJ1.o (fun h => h) Tryz.underlying30 uaf hH (h := ?_)
 refine rd 8 (h := fun K hK => ?_)
 go_simp
 refine (uey 1 _).mono ?_
 rintro e w8 ⟨rfl, hm8⟩
 have M := hd' (hH.trans' hm8)
 clear hH
 refine hK _ _ M.o (fun hH => ?_)
 clear hK K M
 try simp only [Act.put, uSa, uSb, uSc]
 refine tk 9 (.bool true) hH (h := ?_)
 refine tk 10 (.bool true) hH (h := ?_)
 refine tk 11 (.bool true) hH (h := ?_)
 refine tkR 12 (.agg #[iV 2, iV 0]) HJ2.o (fun h => h) Tryz.underlying30 uaf hH (h := ?_)
 refine rd 13 (h := fun K hK => ?_)
 go_simp
 refine (uey 2 _).mono ?_
 rintro e w9 ⟨rfl, hm9⟩
 have M := hd' (hH.trans' hm9)
 clear hH
 refine hK _ _ M.o (fun hH => ?_)
 clear hK K M
 try simp only [Act.put, uSa, uSb, uSc]
 refine tk 14 (.bool true) hH (h := ?_)
 refine tk 15 (.bool true) hH (h := ?_)
 refine tk 16 (.bool true) hH (h := ?_)
 refine tk 17 (iV 5) hH (h := ?_)
 refine tk 18 (.bool true) hH (h := ?_)
 refine tk 19 (.bool true) hH (h := ?_)
 refine tk 20 (.bool true) hH (h := ?_)
 refine tk 21 (iV 0) hH (h := ?_)
 refine tk 22 (.bool true) hH (h := ?_)
 refine tk 23 (.bool true) hH (h := ?_)
 refine tk 24 (.bool true) hH (h := ?_)
 refine tk 25 (.bool true) hH (h := ?_)
 refine tk 26 (.bool true) hH (h := ?_)
 refine tk 27 (.bool true) hH (h := ?_)
 refine tk 28 (.bool false) hH (h := ?_)
 refine tk 29 (.bool true) hH (h := ?_)
 refine tk 30 (.bool true) hH (h := ?_)
 refine tk 31 (.bool true) hH (h := ?_)
 have MS := hd' hH
 refine wpAnyH_done (by kernel_rfl) ?_ _
 clear hH
 try simp only [Act.put]
 go_wp2_with fail
 go_ret
 exact ⟨rfl, HM.o.trans' MS.o⟩
end Go.Proofs.YtpbmfalokongfaaGreatDoor
namespace Go.Gou
theorem Ly.idsL_take_len {ks : List Ly} {j : Nat} (h : j < ks.length) : (Ly.idsL (ks.take (j + 1))).length = (Ly.idsL (ks.take j)).length + ks[j].ids.length := by
 rw [ltS h, Ly.idsL_eq, Ly.idsL_eq, List.flatMap_append, List.length_append]
 simp
theorem Ly.idsL_take_le {ks : List Ly} (j : Nat) : (Ly.idsL (ks.take j)).length ≤ (Ly.idsL ks).length := by
 have h : Ly.idsL ks = Ly.idsL (ks.take j) ++ Ly.idsL (ks.drop j) := by
  rw [Ly.idsL_eq, Ly.idsL_eq, Ly.idsL_eq, ← List.flatMap_append, List.take_append_drop]
 rw [h, List.length_append]
 omega
end Go.Gou
namespace Go.Proofs.YtpbmfalokongfaaGreatDoor
open Go.RowKit Go.Gou
set_option maxRecDepth 100000
theorem uc3 : ∀ (T : Ly) (w : World) (vp vf vb vk : Value), LyR (fun _ => True) w (lyA T.id T.look vp vf vb vk).toList T → T.height ≤ 1000 → TFit T →
 Calls Tryz.prog 36 #[.agg (lyA T.id T.look vp vf vb vk)] w fun e w' => e = .returned (iV (T.height : Nat)) ∧ Gou.Mod (fun _ => False) w w' := by
 intro T
 induction T using Ly.ind with
 | h i lk ks ih =>
  intro w vp vf vb vk hr hh hft
  obtain ⟨hl, css, hrow, hcl, hk⟩ := hr.parts
  simp only [Ly.id_mk, Ly.look_mk, Ly.kids_mk] at hl hrow hcl hk ⊢
  obtain ⟨pk, ck, rfl⟩ := RowG.slice hrow
  have Hrow := hd' hrow
  have Hcl := hd' hcl
  have Hk := hd' hk
  have Hft := hd' hft
  have Hh := hd' hh
  have Ih := hd' ih
  have hlen := hft.len
  rw [Ly.kids_mk] at hlen
  have Hlen := hd' hlen
  clear hl hrow hcl hk hr hft ih hlen hh
  have HB := hd' (Blk.new w 45 (lyA i lk vp vf vb (.slice pk ks.length ck)))
  have HMa := hd' (Gou.Mod.alloc0 w (.cells (lyA i lk vp vf vb (.slice pk ks.length ck)) 45))
  go_enter Tryz.func36, Tryz.ntmps36
  go_upto_region 1 with fail
  show Code.wp _ _ _ _ (w.alloc (.cells (lyA i lk vp vf vb (.slice pk ks.length ck)) 45))
  generalize w.alloc (.cells (lyA i lk vp vf vb (.slice pk ks.length ck)) 45) = W1 at *
  go_wp2_with fail
  go_loopw [3, 4] (fun v3 vi wr => ∃ j : Nat, vi = iV j ∧ j ≤ ks.length ∧ v3 = iV (Ly.heightL (ks.take j) : Nat) ∧ Gou.Mod (fun _ => False) W1 wr) (fun _ vi _ => ks.length - (intOf vi).toNat)
  case atStart => exact ⟨0, rfl, Nat.zero_le _, by simp [Ly.heightL, Ly.idsL], Gou.Mod.refl _ _⟩
  case round =>
   obtain ⟨j, rfl, hj, rfl, hm⟩ := hrel
   have Hm := hd' hm
   have c30 : wr.cell? ⟨w.heap.size, 30, none⟩ = some (.slice pk ks.length ck) := (HB.o.up hm).cell 30 rfl
   clear hm
   by_cases hil : j < ks.length
   ·have e0 : decide ((j : Int) < (ks.length : Int)) = true := dqt (by omega)
    obtain ⟨b, o, kp, kf, kb, kk, rfl, hbl, _, hrg, hkr⟩ := LyR.kidR Hrow.o Hcl.o rfl Hk.o hil
    have Hrg := hd' (uax hrg (HMa.o.trans' Hm.o) (fun h => h))
    have Hst : Hid (Ly.heightL (ks.take (j + 1)) = max (Ly.heightL (ks.take j)) (1 + ks[j].height)) := hd' (Ly.heightL_take hil)
    have hkh : 1 + ks[j].height ≤ 1000 := by have := Hh.o; rw [Ly.height] at this; exact (Ly.heightL_le.1 this) _ (lgM hil)
    have Hkh := hd' hkh
    have Hik : Hid (∀ w', Gou.Mod (fun _ => False) wr w' → Calls Tryz.prog 36 #[.agg (lyA ks[j].id ks[j].look kp kf kb kk)] w' fun e w'' => e = .returned (iV (ks[j].height : Nat)) ∧ Gou.Mod (fun _ => False) w' w'') := hd' (fun w' hw' => Ih.o ks[j] (lgM hil) w' kp kf kb kk (hkr.up ((HMa.o.trans' Hm.o).trans' hw')) (by omega) (Hft.o.kids ks[j] (by rw [Ly.kids_mk]; exact lgM hil)))
    have Hil := hd' hil
    clear hrg hkr hbl
    generalize ks[j] = kd at *
    clear hkh
    generalize Ly.heightL (ks.take j) = h0 at *
    have e9 : IntKind.i64.wrap (1 + ((kd.height : Nat) : Int)) = ((1 + kd.height : Nat) : Int) := by rw [IntKind.wrap_i64]; have := Hkh.o; omega
    go_wp2_with (first | ((with_reducible refine lT 45 ?_); refine ldA Hrg.o Tryz.underlying45 uaa (h := ?_)) | fail)
    refine (Hik.o _ (Gou.Mod.refl _ _)).mono ?_
    rintro e w4 ⟨rfl, hm4⟩
    have HM4 := hd' (Hm.o.trans' hm4)
    clear hm4
    have hwi : wrap64 ((j : Int) + 1) = ((j + 1 : Nat) : Int) := by have := Hil.o; have := Hlen.o; unfold wrap64; omega
    obtain ⟨h1, hh1⟩ : ∃ h1, h1 = 1 + kd.height := ⟨_, rfl⟩
    rw [← hh1] at e9
    have Hh1 := hd' hh1
    clear hh1
    by_cases hgt : h0 < h1
    ·have e8 : decide ((h0 : Int) < (h1 : Int)) = true := dqt (by omega)
     have Hg := hd' hgt
     clear hgt
     go_wp2_with fail
     go_roundw
     case rel => exact ⟨j + 1, by rw [← hwi], by have := Hil.o; omega, by rw [Hst.o, ← Hh1.o, Nat.max_eq_right (Nat.le_of_lt Hg.o)], HM4.o⟩
     case measure => rw [hwi]; have := Hil.o; simp only [intOf]; omega
    ·have e8 : decide ((h0 : Int) < (h1 : Int)) = false := dqf (by omega)
     have Hg := hd' hgt
     clear hgt
     go_wp2_with fail
     go_roundw
     case rel => exact ⟨j + 1, by rw [← hwi], by have := Hil.o; omega, by rw [Hst.o, ← Hh1.o, Nat.max_eq_left (Nat.le_of_not_lt Hg.o)], HM4.o⟩
     case measure => rw [hwi]; have := Hil.o; simp only [intOf]; omega
   ·have e0 : decide ((j : Int) < (ks.length : Int)) = false := dqf (by omega)
    have hil' : j = ks.length := by omega
    subst hil'
    rw [List.take_length] at *
    go_wp2_with fail
    go_ret
    exact ⟨by rw [Ly.height]; rfl, HMa.o.trans' Hm.o⟩
theorem ucw {l : List Bool} {j : Nat} {b : Bool} (h : l[j]? = some b) : (bvs l)[j]? = some (.bool b) := by simp [bvs, h]
end Go.Proofs.YtpbmfalokongfaaGreatDoor
namespace Go.Gou
open Go.RowKit Go.ChangeShapes Go.WideShapes Go.Deep Go.Joins
section
variable {H : Type} {enc : TypeId × Value → H} {P : Program} {w : World} {base : Nat} {spare : Nat → Bool} {held : Bool}
theorem udk {t e : TypeId} {fs : Array Field} {fuel : Nat} {cs : List Value} {x : DataW H × List MemPlace} (ht : P.underlying t = some (.slice e)) (he : P.underlying e = some (.struct fs))
 (hone : oneCellFields P fs = true) (hC : P.cellsOf e = fs.size) (h : DataW.trod enc P w base spare held fuel t cs = some x) :
 (cs = [.slice none 0 0] ∧ x = (.nil, [])) ∨
 ∃ (a : Addr) (len cap m : Nat) (D : Nat → DataW H) (Pl : Nat → List MemPlace), cs = [.slice (some a) len cap] ∧ base ≤ a.block ∧ len ≤ cap ∧ cap ≤ maxLen ∧ m = (if spare a.block then cap else len) ∧
     x = (.slice ((List.range len).map D) ((List.range (m - len)).map fun j => D (len + j)), MemPlace.row a (m * fs.size) ++ (List.range m).flatMap Pl) ∧
     ∀ i, i < m → ∃ (ys : List (DataW H × List MemPlace)) (n : Nat), D i = .agg (ys.map (·.1)) ∧ Pl i = ys.flatMap (·.2) ∧ ys.length = fs.size ∧
         ∀ (j : Nat) (f : Field), fs[j]? = some f → ∃ (v : Value) (y : DataW H × List MemPlace), w.cell? (a.add (i * fs.size + j)) = some v ∧ ys[j]? = some y ∧ DataW.trod enc P w base spare held n f.type [v] = some y := by
 rcases open_slice ht h with h0 | ⟨a, len, cap, m, n, D, Pl, hcs, hb, hl, hm, hmm, hx, hi⟩
 ·exact .inl h0
 ·refine .inr ⟨a, len, cap, m, D, Pl, hcs, hb, hl, hm, hmm, by rw [hC] at hx; exact hx, fun i him => ?_⟩
  obtain ⟨cs', hc, ht'⟩ := hi i him
  rw [hC] at hc
  obtain ⟨ys, n', hn', hy, hlen, hyl, hf⟩ := DataW.trod_struct he ht'
  obtain ⟨_, hcl, hat⟩ := World.cells?_some hc
  simp only [Prod.mk.injEq] at hy
  refine ⟨ys, n', hy.1, hy.2, hyl, fun j f hj => ?_⟩
  obtain ⟨ho, hk⟩ := hone_of hone j f hj
  have hjl : j < fs.size := (Array.getElem?_eq_some_iff.1 hj).1
  have hcell := hat j hjl
  have hv : cs'[j]? = some (cs'[j]'(by omega)) := lgE (by omega)
  have h1 := hf j f hj
  rw [ho, hk] at h1
  have hone' : (cs'.drop j).take 1 = [cs'[j]'(by omega)] := by
   rw [List.drop_eq_getElem_cons (by omega)]
   rfl
  rw [hone'] at h1
  have hys : ys[j]? = some (ys[j]'(by omega)) := lgE (by omega)
  refine ⟨_, _, ?_, hys, h1.trans hys⟩
  rw [← Go.Deep.add_add, hcell, hv]
theorem uds {t e : TypeId} {fuel : Nat} {v : Value} {x : DataW H × List MemPlace} (ht : P.underlying t = some (.slice e)) (he : P.underlying e = some (.int .i64)) (hc : P.cellsOf e = 1)
 (h : DataW.trod enc P w base spare held fuel t [v] = some x) : ∃ xs, IntsAt w.heap.size w v xs ∧ (∀ y ∈ xs, (Lit.int .i64 y).wf = true) ∧ xs.length ≤ maxLen := by
 rcases open_slice1 ht hc h with ⟨hcs, _⟩ | ⟨a, len, cap, m, n, V, D, Pl, hcs, _, hl, hm, hmm, _, hi⟩
 ·obtain rfl : v = .slice none 0 0 := by simpa using hcs
  exact ⟨[], ⟨none, 0, rfl, Nat.le_refl _, .inl rfl⟩, by simp, by simp⟩
 ·obtain rfl : v = .slice (some a) len cap := by simpa using hcs
  have hlm : len ≤ m := by rw [hmm]; split <;> omega
  have hint : ∀ i, i < len → ∃ q : Int, V i = .int .i64 q ∧ (Lit.int .i64 q).wf = true := by
   intro i hil
   obtain ⟨_, ht'⟩ := hi i (by omega)
   obtain ⟨q, hq, _, hw⟩ := DataW.trod_int he ht'
   simp at hq
   exact ⟨q, hq, hw⟩
  obtain ⟨f, hf⟩ := choose_lt (p := fun i (q : Int) => V i = .int .i64 q ∧ (Lit.int .i64 q).wf = true) hint
  refine ⟨(List.range len).map f, ?_, ?_, by simp; omega⟩
  ·by_cases h0 : len = 0
   ·subst h0
    exact ⟨some a, cap, rfl, by simp, .inl rfl⟩
   ·obtain ⟨b, o, sp⟩ := a
    have hsp : sp = none := by
     have := World.cell?_spot (hi 0 (by omega)).1
     simpa [Addr.add] using this
    subst hsp
    refine ⟨_, cap, by simp, by simpa using hl, .inr ⟨b, o, rfl, ?_, ?_⟩⟩
    ·have := wbc w _ (hi 0 (by omega)).1
     simpa [Addr.add] using this
    ·intro i hil
     have hil' : i < len := by simpa using hil
     have h1 := (hi i (by omega)).1
     rw [add_plain] at h1
     rw [h1, (hf i hil').1]
     simp
  ·intro y hy
   simp at hy
   obtain ⟨i, hil, rfl⟩ := hy
   exact (hf i hil).2
structure NodeT (P : Program) (e : TypeId) (fs : Array Field) (ti tn : TypeId) : Prop where
 ty : P.underlying e = some (.struct fs)
 one : oneCellFields P fs = true
 cells : P.cellsOf e = fs.size
 size : fs.size = 3
 f0 : ∃ f, fs[0]? = some f ∧ P.underlying f.type = some (.int .i64)
 f1 : ∃ f, fs[1]? = some f ∧ P.underlying f.type = some (.slice tn)
 f2 : ∃ f, fs[2]? = some f ∧ P.underlying f.type = some (.slice tn)
 tint : P.underlying tn = some (.int .i64)
 tc : P.cellsOf tn = 1
structure NodeWf (n : ubb) : Prop where
 op : (Lit.int .i64 n.op).wf = true
 ins : ∀ x ∈ n.ins, (Lit.int .i64 x).wf = true
 ps : ∀ x ∈ n.ps, (Lit.int .i64 x).wf = true
 insl : n.ins.length ≤ maxLen
 psl : n.ps.length ≤ maxLen
instance : Inhabited ubb := ⟨⟨0, [], []⟩⟩
theorem uf4 {t e ti tn : TypeId} {fs : Array Field} {fuel : Nat} {v : Value} {x : DataW H × List MemPlace} (N : NodeT P e fs ti tn) (ht : P.underlying t = some (.slice e))
 (h : DataW.trod enc P w base spare held fuel t [v] = some x) : ∃ ns, NodesAt w.heap.size w v ns ∧ (∀ n ∈ ns, NodeWf n) ∧ ns.length ≤ maxLen := by
 rcases udk ht N.ty N.one N.cells h with ⟨hcs, _⟩ | ⟨a, len, cap, m, D, Pl, hcs, _, hl, hm, hmm, _, hi⟩
 ·obtain rfl : v = .slice none 0 0 := by simpa using hcs
  exact ⟨[], ⟨none, 0, rfl, Nat.le_refl _, .inl rfl⟩, by simp, by simp⟩
 ·obtain rfl : v = .slice (some a) len cap := by simpa using hcs
  have hlm : len ≤ m := by rw [hmm]; split <;> omega
  have hnode : ∀ i, i < len → ∃ n : ubb, NodeWf n ∧ ∃ vi vp, w.cell? (a.add (i * 3)) = some (.int .i64 n.op) ∧ w.cell? (a.add (i * 3 + 1)) = some vi ∧ w.cell? (a.add (i * 3 + 2)) = some vp ∧ IntsAt w.heap.size w vi n.ins ∧ IntsAt w.heap.size w vp n.ps := by
   intro i hil
   obtain ⟨ys, k, _, _, _, hf⟩ := hi i (by omega)
   rw [N.size] at hf
   obtain ⟨f0, h0, t0⟩ := N.f0
   obtain ⟨f1, h1, t1⟩ := N.f1
   obtain ⟨f2, h2, t2⟩ := N.f2
   obtain ⟨v0, y0, c0, _, r0⟩ := hf 0 f0 h0
   obtain ⟨v1, y1, c1, _, r1⟩ := hf 1 f1 h1
   obtain ⟨v2, y2, c2, _, r2⟩ := hf 2 f2 h2
   obtain ⟨q, hq, _, hw⟩ := DataW.trod_int t0 r0
   obtain rfl : v0 = .int .i64 q := by simpa using hq
   obtain ⟨ins, hi1, hw1, hl1⟩ := uds t1 N.tint N.tc r1
   obtain ⟨ps, hi2, hw2, hl2⟩ := uds t2 N.tint N.tc r2
   exact ⟨⟨q, ins, ps⟩, ⟨hw, hw1, hw2, hl1, hl2⟩, v1, v2, by simpa using c0, c1, c2, hi1, hi2⟩
  obtain ⟨f, hf⟩ := choose_lt (p := fun i (n : ubb) => NodeWf n ∧ ∃ vi vp, w.cell? (a.add (i * 3)) = some (.int .i64 n.op) ∧ w.cell? (a.add (i * 3 + 1)) = some vi ∧ w.cell? (a.add (i * 3 + 2)) = some vp ∧ IntsAt w.heap.size w vi n.ins ∧ IntsAt w.heap.size w vp n.ps) hnode
  refine ⟨(List.range len).map f, ?_, ?_, by simp; omega⟩
  ·by_cases h0 : len = 0
   ·subst h0
    exact ⟨some a, cap, rfl, by simp, .inl rfl⟩
   ·obtain ⟨b, o, sp⟩ := a
    obtain ⟨_, _, _, hc0, _⟩ := hf 0 (by omega)
    have hsp : sp = none := by
     have := World.cell?_spot hc0
     simpa [Addr.add] using this
    subst hsp
    refine ⟨_, cap, by simp, by simpa using hl, .inr ⟨b, o, rfl, ?_, ?_⟩⟩
    ·have := wbc w _ hc0
     simpa [Addr.add] using this
    ·intro i hil
     have hil' : i < len := by simpa using hil
     obtain ⟨_, vi, vp, k0, k1, k2, r1, r2⟩ := hf i hil'
     rw [add_plain] at k0 k1 k2
     refine ⟨vi, vp, ?_, by rw [Nat.add_assoc]; exact k1, by rw [Nat.add_assoc]; exact k2, by simpa using r1, by simpa using r2⟩
     rw [k0]
     simp
  ·intro n hn
   simp at hn
   obtain ⟨i, hil, rfl⟩ := hn
   exact (hf i hil).1
end
def Pxl.Small (p : Pxl) : Prop := p.p0 < 256 ∧ p.p1 < 256 ∧ p.p2 < 256 ∧ p.p3 < 256
theorem uh2 (ps : List Pxl) : (pxs ps).length = 4 * ps.length := by
 induction ps with
 | nil => rfl
 | cons p r ih => simp only [pxs, List.flatMap_cons, List.length_append, List.length_cons] at ih ⊢; rw [ih]; simp [Pxl.cells]; omega
section
variable {H : Type} {enc : TypeId × Value → H} {P : Program} {w : World} {base : Nat} {spare : Nat → Bool} {held : Bool}
def Parts (enc : TypeId × Value → H) (P : Program) (w : World) (base : Nat) (spare : Nat → Bool) (held : Bool) (n : Nat) : List Field → List Value → Prop
 | [], cs => cs = []
 | f :: r, cs => ∃ c1 c2 y, cs = c1 ++ c2 ∧ DataW.trod enc P w base spare held n f.type c1 = some y ∧ Parts enc P w base spare held n r c2
def uhe (P : Program) : List Field → Nat → Option Nat
 | [], o => some o
 | f :: r, o => if f.offset = o then uhe P r (o + P.cellsOf f.type) else none
theorem uiv {n : Nat} {cs : List Value} : ∀ (fs : List Field) (o : Nat), uhe P fs o = some cs.length → (∀ f ∈ fs, ∃ y, DataW.trod enc P w base spare held n f.type ((cs.drop f.offset).take (P.cellsOf f.type)) = some y) → Parts enc P w base spare held n fs (cs.drop o)
 | [], o, h, _ => by
  simp only [uhe, Option.some.injEq] at h
  subst h
  show cs.drop cs.length = []
  simp
 | f :: r, o, h, hf => by
  rw [uhe] at h
  split at h
  ·rename_i ho
   obtain ⟨y, hy⟩ := hf f (List.mem_cons_self ..)
   rw [ho] at hy
   have := uiv r _ h (fun g hg => hf g (List.mem_cons_of_mem _ hg))
   exact ⟨_, cs.drop (o + P.cellsOf f.type), y, by rw [← List.drop_drop]; exact (List.take_append_drop _ _).symm, hy, this⟩
  ·cases h
theorem ubw {t : TypeId} {fs : Array Field} {fuel : Nat} {cs : List Value} {x : DataW H × List MemPlace} (ht : P.underlying t = some (.struct fs)) (hc : uhe P fs.toList 0 = some (P.cellsOf t)) (h : DataW.trod enc P w base spare held fuel t cs = some x) :
 ∃ n, Parts enc P w base spare held n fs.toList cs := by
 obtain ⟨xs, n, _, _, hl, hxl, hf⟩ := DataW.trod_struct ht h
 refine ⟨n, ?_⟩
 have := uiv (enc := enc) (P := P) (w := w) (base := base) (spare := spare) (held := held) (n := n) (cs := cs) fs.toList 0 (by rw [hc, hl]) (fun f hf' => by
  obtain ⟨i, hi⟩ := List.getElem?_of_mem hf'
  have hi' : fs[i]? = some f := by rw [← hi]; simp
  have h1 := hf i f hi'
  have : i < xs.length := by rw [hxl]; exact (Array.getElem?_eq_some_iff.1 hi').1
  exact ⟨xs[i], h1.trans (lgE this)⟩)
 simpa using this
theorem ucn {t e : TypeId} {fuel : Nat} {cs : List Value} {x : DataW H × List MemPlace} (ht : P.underlying t = some (.slice e)) (h : DataW.trod enc P w base spare held fuel t cs = some x) : ∃ v, cs = [v] := by
 rcases open_slice ht h with ⟨hcs, _⟩ | ⟨a, len, cap, m, n, D, Pl, hcs, _⟩
 ·exact ⟨_, hcs⟩
 ·exact ⟨_, hcs⟩
theorem IntsR.of_at {v : Value} {xs : List Int} (h : IntsAt w.heap.size w v xs) : IntsR (fun _ => True) w v xs := by
 obtain ⟨p, cap, rfl, hcap, h⟩ := h
 refine ⟨by simp, p, cap, rfl, hcap, ?_⟩
 rcases h with rfl | ⟨b, o, rfl, hb, hc⟩
 ·exact .inl rfl
 ·refine .inr ⟨b, o, rfl, hb, trivial, fun j u hu => ?_⟩
  simp only [ivs, List.getElem?_map, Option.map_eq_some_iff] at hu
  obtain ⟨y, hy, rfl⟩ := hu
  obtain ⟨hj, rfl⟩ := lgS.1 hy
  exact hc j hj
theorem NodesR.of_at {v : Value} {ns : List ubb} (h : NodesAt w.heap.size w v ns) : NodesR (fun _ => True) w v ns := by
 obtain ⟨p, cap, rfl, hcap, h⟩ := h
 rcases h with rfl | ⟨b, o, rfl, hb, hc⟩
 ·exact ⟨[], ⟨rfl, p, cap, rfl, hcap, .inl rfl⟩, NodeC.nil _ _⟩
 ·have hcells : ∀ i, (h : i < ns.length) → ∃ q : Value × Value, w.cell? ⟨b, o + i * 3, none⟩ = some (iV ns[i].op) ∧ w.cell? ⟨b, o + i * 3 + 1, none⟩ = some q.1 ∧ w.cell? ⟨b, o + i * 3 + 2, none⟩ = some q.2 ∧ IntsAt w.heap.size w q.1 ns[i].ins ∧ IntsAt w.heap.size w q.2 ns[i].ps := fun i hi => by
   obtain ⟨vi, vp, h1⟩ := hc i hi
   exact ⟨(vi, vp), h1⟩
  obtain ⟨f, hf⟩ := choose_lt (p := fun i (q : Value × Value) => ∃ h : i < ns.length, w.cell? ⟨b, o + i * 3, none⟩ = some (iV ns[i].op) ∧ w.cell? ⟨b, o + i * 3 + 1, none⟩ = some q.1 ∧ w.cell? ⟨b, o + i * 3 + 2, none⟩ = some q.2 ∧ IntsAt w.heap.size w q.1 ns[i].ins ∧ IntsAt w.heap.size w q.2 ns[i].ps) (n := ns.length) (fun i hi => by
   obtain ⟨q, hq⟩ := hcells i hi
   exact ⟨q, hi, hq⟩)
  have hlen : ∀ l : List Nat, (l.flatMap fun i => [iV ns[i]!.op, (f i).1, (f i).2]).length = l.length * 3 := by
   intro l
   induction l with
   | nil => rfl
   | cons a r ih => rw [List.flatMap_cons, List.length_append, ih]; simp; omega
  have hget : ∀ (n : Nat) (j : Nat), j < n * 3 → ((List.range n).flatMap fun i => [iV ns[i]!.op, (f i).1, (f i).2])[j]? = [iV ns[j / 3]!.op, (f (j / 3)).1, (f (j / 3)).2][j % 3]? := by
   intro n
   induction n with
   | zero => intro j hj; omega
   | succ n ih =>
    intro j hj
    rw [List.range_succ, List.flatMap_append]
    by_cases hjn : j < n * 3
    ·rw [lgL (by rw [hlen]; simpa using hjn), ih j hjn]
    ·rw [lgR (by rw [hlen]; simp; omega), hlen]
     have e1 : j / 3 = n := by omega
     have e2 : j - (List.range n).length * 3 = j % 3 := by simp; omega
     rw [e1, e2]
     simp
  refine ⟨(List.range ns.length).flatMap fun i => [iV ns[i]!.op, (f i).1, (f i).2], ⟨by rw [hlen]; simp, some ⟨b, o, none⟩, cap, rfl, hcap, .inr ⟨b, o, rfl, hb, trivial, fun j u hu => ?_⟩⟩, ⟨by rw [hlen]; simp, fun i hi => ?_⟩⟩
  ·have hj : j < ns.length * 3 := by
    have := (lgS.1 hu).1
    rw [hlen] at this
    simpa using this
   rw [hget _ j hj] at hu
   obtain ⟨hi, h0, h1, h2, _⟩ := hf (j / 3) (by omega)
   have hbang : ns[j / 3]! = ns[j / 3] := getElem!_pos ns (j / 3) hi
   rw [hbang] at hu
   have hm : j % 3 = 0 ∨ j % 3 = 1 ∨ j % 3 = 2 := by omega
   rcases hm with hm | hm | hm
   ·rw [hm] at hu; simp at hu; subst hu
    have : o + j = o + j / 3 * 3 := by omega
    rw [this]; exact h0
   ·rw [hm] at hu; simp at hu; subst hu
    have : o + j = o + j / 3 * 3 + 1 := by omega
    rw [this]; exact h1
   ·rw [hm] at hu; simp at hu; subst hu
    have : o + j = o + j / 3 * 3 + 2 := by omega
    rw [this]; exact h2
  ·obtain ⟨hi', h0, h1, h2, h3, h4⟩ := hf i hi
   have hbang : ns[i]! = ns[i] := getElem!_pos ns i hi
   refine ⟨(f i).1, (f i).2, ?_, ?_, ?_, IntsR.of_at h3, IntsR.of_at h4⟩
   ·rw [hget _ _ (by omega)]
    have e1 : i * 3 / 3 = i := by omega
    have e2 : i * 3 % 3 = 0 := by omega
    rw [e1, e2, hbang]; rfl
   ·rw [hget _ _ (by omega)]
    have e1 : (i * 3 + 1) / 3 = i := by omega
    have e2 : (i * 3 + 1) % 3 = 1 := by omega
    rw [e1, e2]; rfl
   ·rw [hget _ _ (by omega)]
    have e1 : (i * 3 + 2) / 3 = i := by omega
    have e2 : (i * 3 + 2) % 3 = 2 := by omega
    rw [e1, e2]; rfl
theorem open_px {t e : TypeId} {fuel : Nat} {cs : List Value} {x : DataW H × List MemPlace} (ht : P.underlying t = some (.array 4 e)) (he : P.underlying e = some (.int .u8)) (hc : P.cellsOf e = 1) (hct : P.cellsOf t = 4)
 (h : DataW.trod enc P w base spare held fuel t cs = some x) : ∃ p : Pxl, cs = p.cells ∧ p.Small := by
 obtain ⟨xs, m, _, _, hl, hxl, hi⟩ := DataW.trod_array ht h
 rw [hct] at hl
 have one : ∀ i, i < 4 → ∃ q : Nat, cs[i]? = some (.int .u8 (q : Int)) ∧ q < 256 := by
  intro i hi4
  have h1 := hi i hi4
  rw [hc, Nat.mul_one] at h1
  have hx : xs[i]? = some (xs[i]'(by omega)) := lgE (by omega)
  rw [hx] at h1
  obtain ⟨q, hq, _, hw⟩ := DataW.trod_int he h1
  simp only [Lit.wf, Bool.and_eq_true, decide_eq_true_eq] at hw
  have h2 : (0 : Int) ≤ q := hw.1
  have h3 : q ≤ 255 := hw.2
  refine ⟨q.toNat, ?_, by omega⟩
  have h4 := congrArg (fun l => l[0]?) hq
  simp only [List.getElem?_take, List.getElem?_drop, Nat.zero_lt_one, if_true, Nat.add_zero, List.getElem?_cons_zero] at h4
  rw [h4]
  congr 2
  omega
 obtain ⟨q0, h0, s0⟩ := one 0 (by omega)
 obtain ⟨q1, h1, s1⟩ := one 1 (by omega)
 obtain ⟨q2, h2, s2⟩ := one 2 (by omega)
 obtain ⟨q3, h3, s3⟩ := one 3 (by omega)
 obtain ⟨a, b, c, d, rfl⟩ : ∃ a b c d, cs = [a, b, c, d] := by
  match cs, hl with
  | [a, b, c, d], _ => exact ⟨a, b, c, d, rfl⟩
 simp at h0 h1 h2 h3
 subst h0 h1 h2 h3
 exact ⟨⟨q0, q1, q2, q3⟩, rfl, s0, s1, s2, s3⟩
theorem uh8 {t e u : TypeId} {fuel : Nat} {v : Value} {x : DataW H × List MemPlace} (ht : P.underlying t = some (.slice e)) (he : P.underlying e = some (.array 4 u)) (hu : P.underlying u = some (.int .u8)) (hc : P.cellsOf u = 1) (hct : P.cellsOf e = 4)
 (h : DataW.trod enc P w base spare held fuel t [v] = some x) : ∃ ps, PixR (fun _ => True) w v ps ∧ (∀ p ∈ ps, Pxl.Small p) ∧ ps.length ≤ maxLen := by
 rcases open_slice ht h with ⟨hcs, _⟩ | ⟨a, len, cap, m, n, D, Pl, hcs, _, hl, hm, hmm, _, hi⟩
 ·obtain rfl : v = .slice none 0 0 := by simpa using hcs
  exact ⟨[], PixR.nil _ _, by simp, by simp⟩
 ·obtain rfl : v = .slice (some a) len cap := by simpa using hcs
  have hlm : len ≤ m := by rw [hmm]; split <;> omega
  have hone : ∀ i, i < len → ∃ p : Pxl, p.Small ∧ ∀ j u, p.cells[j]? = some u → w.cell? (a.add (i * 4 + j)) = some u := by
   intro i hil
   obtain ⟨cs', h1, h2⟩ := hi i (by omega)
   obtain ⟨p, rfl, hs⟩ := open_px he hu hc hct h2
   rw [hct] at h1
   obtain ⟨_, _, hat⟩ := World.cells?_some h1
   refine ⟨p, hs, fun j u hj => ?_⟩
   have hj4 : j < 4 := by
    have := (lgS.1 hj).1
    simpa [Pxl.cells] using this
   rw [← Go.Deep.add_add, hat j hj4]
   exact hj
  obtain ⟨f, hf⟩ := choose_lt (p := fun i (p : Pxl) => p.Small ∧ ∀ j u, p.cells[j]? = some u → w.cell? (a.add (i * 4 + j)) = some u) hone
  refine ⟨(List.range len).map f, ⟨by rw [uh2]; omega, some a, cap, by simp, by simpa using hl, ?_⟩, ?_, by simp; omega⟩
  ·by_cases h0 : len = 0
   ·subst h0; exact .inl (by simp)
   ·obtain ⟨b, o, sp⟩ := a
    obtain ⟨_, h1⟩ := hf 0 (by omega)
    have hc0 := h1 0 _ rfl
    have hsp : sp = none := by
     have := World.cell?_spot hc0
     simpa [Addr.add] using this
    subst hsp
    refine .inr ⟨b, o, rfl, ?_, trivial, ?_⟩
    ·have := wbc w _ hc0
     simpa [Addr.add] using this
    ·have key : ∀ (n : Nat) (j : Nat) (u : Value), n ≤ len → (pxs ((List.range n).map f))[j]? = some u → w.cell? ⟨b, o + j, none⟩ = some u := by
      intro n
      induction n with
      | zero => intro j u _ hu; simp at hu
      | succ n ih =>
       intro j u hn hu
       rw [List.range_succ, List.map_append, pxs, List.flatMap_append] at hu
       by_cases hj : j < (pxs ((List.range n).map f)).length
       ·rw [lgL hj] at hu
        exact ih j u (by omega) hu
       ·rw [lgR (by simp only [pxs] at hj; omega)] at hu
        rw [uh2] at hj
        simp at hj
        have hl2 : (((List.range n).map f).flatMap Pxl.cells).length = 4 * n := by
         have := uh2 ((List.range n).map f)
         simpa [pxs] using this
        rw [hl2] at hu
        have := (hf n (by omega)).2 (j - 4 * n) u (by simpa using hu)
        rw [add_plain] at this
        have e : o + (n * 4 + (j - 4 * n)) = o + j := by omega
        rw [e] at this
        exact this
     intro j u hu
     exact key len j u (Nat.le_refl _) hu
  ·intro p hp
   simp at hp
   obtain ⟨i, hil, rfl⟩ := hp
   exact (hf i hil).1
end
open Go.RowKit
instance instInhOpr : Inhabited Opr := ⟨Opr.zero⟩
def OpsR (w : World) (v : Value) (xs : List Opr) : Prop := ∃ (p : Option Addr) (cap : Nat), v = .slice p xs.length cap ∧ xs.length ≤ cap ∧ (xs.length = 0 ∨ ∃ b o, p = some ⟨b, o, none⟩ ∧ b < w.heap.size ∧
 ∀ i, (h : i < xs.length) → ∃ vp vf vb, (∀ j u, (oprC xs[i] vp vf vb)[j]? = some u → w.cell? ⟨b, o + i * 34 + j, none⟩ = some u) ∧ LookR (fun _ => True) w xs[i].look vp vf vb)
end Go.Gou
namespace Go.Proofs.YtpbmfalokongfaaGreatDoor
open Go.RowKit Go.Gou Go.ChangeShapes Go.WideShapes Go.Deep Go.Joins
structure LkWf (l : Lk) : Prop where
 pix : l.content.pix.length ≤ maxLen
 filt : GrWf l.filt
 back : GrWf l.back
theorem laidOut : laidOutB Tryz.prog = true := by kernel_rfl
theorem own : ownKnob Tryz.prog.godebug = none := by kernel_rfl
theorem cellsNode : Tryz.prog.cellsOf 95 = 3 := by kernel_rfl
theorem udg : Tryz.prog.cellsOf 3 = 1 := by kernel_rfl
theorem uhh : Tryz.prog.cellsOf 5 = 1 := by kernel_rfl
theorem cellsPx : Tryz.prog.cellsOf 34 = 4 := by kernel_rfl
theorem cellsOp : Tryz.prog.cellsOf 53 = 34 := by kernel_rfl
theorem nodeT : ∃ fs, NodeT Tryz.prog 95 fs 0 3 :=
 ⟨_, { ty := Tryz.underlying95, one := by kernel_rfl, cells := cellsNode, size := rfl, f0 := ⟨_, rfl, Tryz.underlying3⟩, f1 := ⟨_, rfl, Tryz.underlying25⟩, f2 := ⟨_, rfl, Tryz.underlying25⟩, tint := Tryz.underlying3, tc := udg }⟩
set_option maxRecDepth 100000
section
variable {H : Type} {enc : TypeId × Value → H} {w : World} {base : Nat} {spare : Nat → Bool} {held : Bool} {r : Reach} {b0 : Nat} {v : Value} {d : DataW H} {p : List MemPlace} {fuel : Nat} {cs : List Value} {x : DataW H × List MemPlace}
theorem ua3 (h : DataW.trod enc Tryz.prog w base spare held fuel 3 cs = some x) : ∃ q : Int, cs = [.int .i64 q] := by
 obtain ⟨q, hq, _, _⟩ := DataW.trod_int Tryz.underlying3 h
 exact ⟨q, hq⟩
theorem udl (h : DataW.trod enc Tryz.prog w base spare held fuel 4 cs = some x) : ∃ q : Bool, cs = [.bool q] := by
 obtain ⟨q, hq, _⟩ := DataW.trod_bool Tryz.underlying4 h
 exact ⟨q, hq⟩
theorem uh9 (h : DataW.trod enc Tryz.prog w base spare held fuel 30 cs = some x) : ∃ i : Int × Int, cs = [.int .i64 i.1, .int .i64 i.2] := by
 obtain ⟨n, h⟩ := ubw Tryz.underlying30 (by kernel_rfl) h
 obtain ⟨c0, _, y0, rfl, h0, c1, _, y1, rfl, h1, rfl⟩ := h
 obtain ⟨q0, rfl⟩ := ua3 h0
 obtain ⟨q1, rfl⟩ := ua3 h1
 exact ⟨(q0, q1), rfl⟩
theorem ugx (h : DataW.trod enc Tryz.prog w base spare held fuel 32 cs = some x) : ∃ i : Rc, cs = [.int .i64 i.x0, .int .i64 i.y0, .int .i64 i.x1, .int .i64 i.y1] := by
 obtain ⟨n, h⟩ := ubw Tryz.underlying32 (by kernel_rfl) h
 obtain ⟨c0, _, y0, rfl, h0, c1, _, y1, rfl, h1, c2, _, y2, rfl, h2, c3, _, y3, rfl, h3, rfl⟩ := h
 obtain ⟨q0, rfl⟩ := ua3 h0
 obtain ⟨q1, rfl⟩ := ua3 h1
 obtain ⟨q2, rfl⟩ := ua3 h2
 obtain ⟨q3, rfl⟩ := ua3 h3
 exact ⟨⟨q0, q1, q2, q3⟩, rfl⟩
theorem ugy (h : DataW.trod enc Tryz.prog w base spare held fuel 37 cs = some x) : ∃ (c : Ct) (vp : Value), cs = (uak c vp).toList ∧ PixR (fun _ => True) w vp c.pix ∧ c.pix.length ≤ maxLen := by
 obtain ⟨n, h⟩ := ubw Tryz.underlying37 (by kernel_rfl) h
 obtain ⟨c0, _, y0, rfl, h0, c1, _, y1, rfl, h1, c2, _, y2, rfl, h2, c3, _, y3, rfl, h3, c4, _, y4, rfl, h4, c5, _, y5, rfl, h5, c6, _, y6, rfl, h6, rfl⟩ := h
 obtain ⟨q0, rfl⟩ := ua3 h0
 obtain ⟨q1, rfl⟩ := ugx h1
 obtain ⟨q2, rfl, s2⟩ := open_px Tryz.underlying34 Tryz.underlying5 uhh cellsPx h2
 obtain ⟨q3, rfl⟩ := ua3 h3
 obtain ⟨q4, rfl⟩ := ua3 h4
 obtain ⟨q5, rfl⟩ := ua3 h5
 obtain ⟨vp, rfl⟩ := ucn Tryz.underlying35 h6
 obtain ⟨ps, k1, k2, k3⟩ := uh8 Tryz.underlying35 Tryz.underlying34 Tryz.underlying5 uhh cellsPx h6
 exact ⟨⟨q0, q1, q2, q3, q4, q5, ps⟩, vp, rfl, k1, k3⟩
theorem ufn (h : DataW.trod enc Tryz.prog w base spare held fuel 40 cs = some x) : ∃ (g : Gr) (vf : Value), cs = [vf, .int .i64 g.out] ∧ NodesR (fun _ => True) w vf g.nodes ∧ GrWf g := by
 obtain ⟨n, h⟩ := ubw Tryz.underlying40 (by kernel_rfl) h
 obtain ⟨c0, _, y0, rfl, h0, c1, _, y1, rfl, h1, rfl⟩ := h
 obtain ⟨vf, rfl⟩ := ucn Tryz.underlying38 h0
 obtain ⟨fs, hN⟩ := nodeT
 obtain ⟨ns, k1, hwf, hl⟩ := uf4 hN Tryz.underlying38 h0
 obtain ⟨q, rfl, _, hw⟩ := DataW.trod_int Tryz.underlying3 h1
 exact ⟨⟨ns, q⟩, vf, rfl, NodesR.of_at k1, ⟨fun n hn => (hwf n hn).op, fun n hn => (hwf n hn).ins, fun n hn => (hwf n hn).ps, hw, fun n hn => (hwf n hn).insl, fun n hn => (hwf n hn).psl, hl⟩⟩
theorem open_look (h : DataW.trod enc Tryz.prog w base spare held fuel 42 cs = some x) : ∃ (l : Lk) (vp vf vb : Value), cs = (uai l vp vf vb).toList ∧ LookR (fun _ => True) w l vp vf vb ∧ LkWf l := by
 obtain ⟨n, h⟩ := ubw Tryz.underlying42 (by kernel_rfl) h
 obtain ⟨c0, _, y0, rfl, h0, c1, _, y1, rfl, h1, c2, _, y2, rfl, h2, c3, _, y3, rfl, h3, c4, _, y4, rfl, h4, c5, _, y5, rfl, h5, c6, _, y6, rfl, h6, h⟩ := h
 obtain ⟨c7, _, y7, rfl, h7, c8, _, y8, rfl, h8, c9, _, y9, rfl, h9, c10, _, y10, rfl, h10, rfl⟩ := h
 obtain ⟨q0, rfl⟩ := ua3 h0
 obtain ⟨q1, rfl⟩ := ua3 h1
 obtain ⟨q2, rfl⟩ := udl h2
 obtain ⟨q3, rfl⟩ := ugx h3
 obtain ⟨q4, rfl⟩ := ua3 h4
 obtain ⟨q5, rfl⟩ := ua3 h5
 obtain ⟨q6, vp, rfl, a1, a3⟩ := ugy h6
 obtain ⟨q7, rfl⟩ := udl h7
 obtain ⟨q8, vf, rfl, b1, b2⟩ := ufn h8
 obtain ⟨q9, rfl⟩ := udl h9
 obtain ⟨q10, vb, rfl, d1, d2⟩ := ufn h10
 exact ⟨⟨q0, q1, q2, q3, q4, q5, q6, q7, q8, q9, q10⟩, vp, vf, vb, rfl, ⟨a1, b1, d1⟩, a3, b2, d2⟩
theorem uc5 (h : DataW.trod enc Tryz.prog w base spare held fuel 53 cs = some x) : ∃ (o : Opr) (vp vf vb : Value), cs = (oprC o vp vf vb).toList ∧ LookR (fun _ => True) w o.look vp vf vb ∧ LkWf o.look := by
 obtain ⟨n, h⟩ := ubw Tryz.underlying53 (by kernel_rfl) h
 obtain ⟨c0, _, y0, rfl, h0, c1, _, y1, rfl, h1, c2, _, y2, rfl, h2, c3, _, y3, rfl, h3, c4, _, y4, rfl, h4, rfl⟩ := h
 obtain ⟨q0, rfl⟩ := ua3 h0
 obtain ⟨q1, rfl⟩ := uh9 h1
 obtain ⟨q2, rfl⟩ := uh9 h2
 obtain ⟨q3, rfl⟩ := ua3 h3
 obtain ⟨q4, vp, vf, vb, rfl, k⟩ := open_look h4
 exact ⟨⟨q0, q1, q2, q3, q4⟩, vp, vf, vb, rfl, k⟩
theorem open_ops (hv : Value.okWide Tryz.prog w r b0 22 v) (h : DataW.Trod enc Tryz.prog w base spare held 22 v d p) : ∃ xs, OpsR w v xs ∧ ((∀ a ∈ xs, LkWf a.look) ∧ xs.length ≤ maxLen) := by
 obtain ⟨a, len, cap, rfl⟩ := okWide_slice Tryz.underlying22 hv
 obtain ⟨n, h⟩ := h
 have h : DataW.trod enc Tryz.prog w base spare held n 22 [.slice a len cap] = some (d, p) := h
 rcases open_slice Tryz.underlying22 h with ⟨hcs, _⟩ | ⟨a', len', cap', m, n', D, Pl, hcs, _, hl, hm, hmm, _, hi⟩
 ·simp only [List.cons.injEq, Value.slice.injEq, and_true] at hcs
  obtain ⟨rfl, rfl, rfl⟩ := hcs
  exact ⟨[], ⟨none, 0, rfl, Nat.le_refl _, .inl rfl⟩, by simp, by simp⟩
 ·simp only [List.cons.injEq, Value.slice.injEq, and_true] at hcs
  obtain ⟨rfl, rfl, rfl⟩ := hcs
  have hlm : len ≤ m := by rw [hmm]; split <;> omega
  have hone : ∀ i, i < len → ∃ x : Opr, LkWf x.look ∧ ∃ vp vf vb, (∀ j u, (oprC x vp vf vb)[j]? = some u → w.cell? (a'.add (i * 34 + j)) = some u) ∧ LookR (fun _ => True) w x.look vp vf vb := by
   intro i hil
   obtain ⟨cs', h1, h2⟩ := hi i (by omega)
   obtain ⟨x, vp, vf, vb, rfl, k1, k2⟩ := uc5 h2
   rw [cellsOp] at h1
   obtain ⟨_, _, hat⟩ := World.cells?_some h1
   refine ⟨x, k2, vp, vf, vb, fun j u hj => ?_, k1⟩
   have hj4 : j < 34 := by
    have := (Array.getElem?_eq_some_iff.1 hj).1
    simpa [oprC] using this
   rw [← Go.Deep.add_add, hat j hj4, agT]
   exact hj
  obtain ⟨f, hf⟩ := choose_lt (p := fun i (x : Opr) => LkWf x.look ∧ ∃ vp vf vb, (∀ j u, (oprC x vp vf vb)[j]? = some u → w.cell? (a'.add (i * 34 + j)) = some u) ∧ LookR (fun _ => True) w x.look vp vf vb) hone
  refine ⟨(List.range len).map f, ⟨some a', cap, by simp, by simpa using hl, ?_⟩, ?_, by simp; omega⟩
  ·by_cases h0 : len = 0
   ·subst h0; exact .inl (by simp)
   ·obtain ⟨b, o, sp⟩ := a'
    obtain ⟨_, vp, vf, vb, h1, _⟩ := hf 0 (by omega)
    have hc0 := h1 0 _ rfl
    have hsp : sp = none := by
     have := World.cell?_spot hc0
     simpa [Addr.add] using this
    subst hsp
    refine .inr ⟨b, o, rfl, ?_, fun i hil => ?_⟩
    ·have := wbc w _ hc0
     simpa [Addr.add] using this
    ·have hil' : i < len := by simpa using hil
     obtain ⟨_, vp, vf, vb, k1, k2⟩ := hf i hil'
     simp only [List.getElem_map, List.getElem_range]
     refine ⟨vp, vf, vb, fun j u hu => ?_, k2⟩
     have := k1 j u hu
     rw [add_plain] at this
     rw [Nat.add_assoc]
     exact this
  ·intro x hx
   simp at hx
   obtain ⟨i, hil, rfl⟩ := hx
   exact (hf i hil).1
end
end Go.Proofs.YtpbmfalokongfaaGreatDoor
set_option maxRecDepth 100000
namespace Go.Proofs.YtpbmfalokongfaaGreatDoor
open Go.RowKit Go.Gou
def fewN (n : ubb) : Bool := decide (n.ins.length ≤ 20) && decide (n.ps.length ≤ 40)
def fewB (g : Gr) (most : Int) : Bool := decide ((g.nodes.length : Int) ≤ most) && g.nodes.all fewN
theorem few_any (w : World) (v : Value) (g : Gr) (most : Int) (hg : GrV w v g) (hwf : GrWf g) :
 Calls Tryz.prog 24 #[v, iV most] w fun e w' => e = .returned (.bool (fewB g most)) ∧ Below w.heap.size w w' := by
 obtain ⟨vn, rfl, p, cap, rfl, _, hp⟩ := hg
 have hl := hwf.len
 have Hwf := hd' hwf
 clear hwf
 unfold maxLen at hl
 by_cases hm : most < g.nodes.length
 ·have hs : fewB g most = false := by simp [fewB]; omega
  have Hs := hd' hs
  clear hs
  go_enter Tryz.func24, Tryz.ntmps24
  go_wp2
  go_ret
  exact ⟨uaq Hs.o.symm, (Below.refl _ _).alloc (Nat.le_refl _) _⟩
 ·have hs : fewB g most = g.nodes.all fewN := by simp [fewB]; omega
  have Hs := hd' hs
  clear hs
  go_enter Tryz.func24, Tryz.ntmps24
  go_wp2
  go_loop [5] (fun i => ∃ k : Nat, k ≤ g.nodes.length ∧ i = iV k ∧ (g.nodes.take k).all fewN = true) (fun i => g.nodes.length - (intOf i).toNat)
  case atStart => exact ⟨0, Nat.zero_le _, rfl, rfl⟩
  case round =>
   obtain ⟨k, hk, rfl, hall⟩ := hrel
   have Hall := hd' hall
   clear hall
   by_cases hlt : k < g.nodes.length
   ·rcases hp with hp | ⟨b, o, rfl, hb, hc⟩
    ·rw [hp] at hlt; simp at hlt
    obtain ⟨vi, vp, h0, h1, h2, hi, hpp⟩ := hc k hlt
    obtain ⟨pi, ci, rfl⟩ := hi.len
    obtain ⟨pp, cp, rfl⟩ := hpp.len
    have hli := Hwf.o.insl _ (lgM hlt)
    have hlp := Hwf.o.psl _ (lgM hlt)
    unfold maxLen at hli hlp
    have hn : fewN g.nodes[k] = false → g.nodes.all fewN = false := by
     intro h
     rw [Bool.eq_false_iff]
     intro hm
     rw [List.all_eq_true] at hm
     have := hm _ (lgM hlt)
     rw [h] at this
     cases this
    have hy : fewN g.nodes[k] = true → (g.nodes.take (k + 1)).all fewN = true := fun h => by rw [List.all_take_succ _ _ _ hlt, Hall.o, h]; rfl
    have Hn := hd' hn
    have Hy := hd' hy
    clear hc hi hpp hn hy
    generalize g.nodes[k] = nk at *
    by_cases hf1 : nk.ins.length ≤ 20
    ·by_cases hf2 : nk.ps.length ≤ 40
     ·have hfn : fewN nk = true := by simp [fewN, hf1, hf2]
      have Hfn := hd' (Hy.o hfn)
      clear hfn
      go_wp2
      go_round
      case rel => exact ⟨k + 1, by omega, by go_num, Hfn.o⟩
      case measure => simp [intOf]; omega
     ·have hfn : fewN nk = false := by simp [fewN]; omega
      have Hfn := hd' (Hn.o hfn)
      clear hfn
      go_wp2
      go_ret
      exact ⟨uaq (by rw [Hs.o, Hfn.o]), (Below.refl _ _).alloc (Nat.le_refl _) _⟩
    ·have hfn : fewN nk = false := by simp [fewN]; omega
     have Hfn := hd' (Hn.o hfn)
     clear hfn
     go_wp2
     go_ret
     exact ⟨uaq (by rw [Hs.o, Hfn.o]), (Below.refl _ _).alloc (Nat.le_refl _) _⟩
   ·go_wp2
    go_ret
    exact ⟨uaq (by rw [Hs.o, ← Hall.o, List.take_of_length_le (by omega)]), (Below.refl _ _).alloc (Nat.le_refl _) _⟩
end Go.Proofs.YtpbmfalokongfaaGreatDoor
namespace Go.Gou
theorem OpsR.at_ {w : World} {p : Option Addr} {n cap : Nat} {xs : List Opr} (h : OpsR w (.slice p n cap) xs) {i : Nat} {q : Opr} (hi : xs[i]? = some q) : ∃ b o vp vf vb, p = some ⟨b, o, none⟩ ∧ b < w.heap.size ∧ w.rangeAt b (o + i * 34) (oprC q vp vf vb).toList ∧ LookR (fun _ => True) w q.look vp vf vb := by
 obtain ⟨p', cap', e, _, h⟩ := h
 simp only [Value.slice.injEq] at e
 obtain ⟨rfl, -, -⟩ := e
 obtain ⟨hl, rfl⟩ := lgS.1 hi
 rcases h with h | ⟨b, o, rfl, hb, hc⟩
 ·omega
 ·obtain ⟨vp, vf, vb, h1, h2⟩ := hc i hl
  exact ⟨b, o, vp, vf, vb, rfl, hb, fun j v hv => h1 j v (by rw [← agT]; exact hv), h2⟩
theorem OpsR.len {w : World} {p : Option Addr} {n cap : Nat} {xs : List Opr} (h : OpsR w (.slice p n cap) xs) : n = xs.length := by
 obtain ⟨p', cap', e, _, _⟩ := h
 simp only [Value.slice.injEq] at e
 exact e.2.1
theorem OpsR.up {w w' : World} {v : Value} {xs : List Opr} (h : OpsR w v xs) (hm : Mod (fun _ => False) w w') : OpsR w' v xs := by
 obtain ⟨p, cap, e, h1, h⟩ := h
 refine ⟨p, cap, e, h1, h.imp id ?_⟩
 rintro ⟨b, o, e1, hb, hc⟩
 refine ⟨b, o, e1, Nat.lt_of_lt_of_le hb hm.size, fun i hi => ?_⟩
 obtain ⟨vp, vf, vb, h1, h2⟩ := hc i hi
 exact ⟨vp, vf, vb, fun j u hu => (hm.cell (p := ⟨b, o + i * 34 + j, none⟩) hb (fun h => h)).trans (h1 j u hu), h2.mod hm (fun _ _ _ h => h)⟩
end Go.Gou
namespace Go.Proofs.YtpbmfalokongfaaGreatDoor
open Go.RowKit Go.Gou
def ug8 (o : Opr) : Bool := decide (o.look.content.pix.length ≤ 300) && (fewB o.look.filt 10 && fewB o.look.back 10)
def fewO (l : List Opr) : Bool := decide (l.length ≤ 60) && l.all ug8
theorem ub2 (o : Opr) : ug8 o = (decide (o.look.content.pix.length ≤ 300) && (fewB o.look.filt 10 && fewB o.look.back 10)) := rfl
theorem fewO_big {l : List Opr} (h : 60 < l.length) : fewO l = false := by
 unfold fewO
 rw [dqf (by omega)]
 rfl
theorem uge {l : List Opr} {o : Opr} (h : o ∈ l) (hf : ug8 o = false) : fewO l = false := by
 unfold fewO
 rw [Bool.and_eq_false_iff]
 refine .inr ?_
 rw [List.all_eq_false]
 exact ⟨o, h, by rw [hf]; simp⟩
theorem fewO_ok {l : List Opr} (h : l.length ≤ 60) (hf : l.all ug8 = true) : fewO l = true := by
 unfold fewO
 rw [dqt h, hf]
 rfl
theorem ug9 (w : World) (v : Value) (xs : List Opr) (h : OpsR w v xs) (hwf : ∀ a ∈ xs, LkWf a.look) (hl : xs.length ≤ maxLen) :
 Calls Tryz.prog 9 #[v] w fun e w' => e = .returned (.bool (fewO xs)) ∧ Gou.Mod (fun _ => False) w w' := by
 obtain ⟨p, cap, rfl, hcap, _⟩ := id h
 have Hh := hd' h
 have Hwf := hd' hwf
 have Hl := hd' hl
 clear h hwf hl hcap
 go_enter Tryz.func9, Tryz.ntmps9
 rcases Nat.lt_or_ge 60 xs.length with hbig | hsm
 ·have e1 : decide ((60 : Int) < (xs.length : Int)) = true := dqt (by omega)
  go_wp2_with fail
  go_ret
  exact ⟨by rw [fewO_big hbig]; rfl, Gou.Mod.refl _ _⟩
 ·have e1 : decide ((60 : Int) < (xs.length : Int)) = false := dqf (by omega)
  have Hsm := hd' hsm
  clear hsm
  go_wp2_with fail
  clear e1
  go_loopw [3] (fun vi wr => ∃ j : Nat, vi = iV j ∧ j ≤ xs.length ∧ (xs.take j).all ug8 = true ∧ Gou.Mod (fun _ => False) w wr) (fun vi _ => xs.length - (intOf vi).toNat)
  case atStart => exact ⟨0, rfl, Nat.zero_le _, by simp, Gou.Mod.refl _ _⟩
  case round =>
   obtain ⟨j, rfl, hj, hall, hm⟩ := hrel
   have Hm := hd' hm
   have Hall := hd' hall
   clear hm hall
   by_cases hil : j < xs.length
   ·have e0 : decide ((j : Int) < (xs.length : Int)) = true := dqt (by omega)
    obtain ⟨q, hq⟩ : ∃ q, xs[j]? = some q := ⟨_, lgE hil⟩
    have hqm : q ∈ xs := lmG hq
    obtain ⟨b, o, vp, vf, vb, rfl, hb, hrg, hlk⟩ := (Hh.o.up Hm.o).at_ hq
    obtain ⟨⟨pp, cp, rfl⟩, ⟨pf, cf, rfl⟩, ⟨pb, cb, rfl⟩⟩ := hlk.forms
    have Hrg : Hid (wr.rangeAt b (o + j * 34 + 6) (lkS q.look pp cp pf cf pb cb).toList) := hd' (fun i v hv => by
     have e : (opS q pp cp pf cf pb cb).toList = [iV q.kind, iV q.id.1, iV q.id.2, iV q.to.1, iV q.to.2, iV q.at_] ++ (lkS q.look pp cp pf cf pb cb).toList := rfl
     have := hrg (6 + i) v (by rw [e, lgR (by simp)]; simpa using hv)
     rw [Nat.add_assoc (o + j * 34) 6 i]
     exact this)
    have Hlk := hd' hlk
    have Hw := hd' (Hwf.o q hqm)
    have Hqm := hd' hqm
    have Hst : Hid (ug8 q = true → (xs.take (j + 1)).all ug8 = true) := hd' (fun hf => by
     obtain ⟨hl, rfl⟩ := lgS.1 hq
     rw [ltS hl, List.all_append, Hall.o]
     simpa using hf)
    have Hil := hd' hil
    clear hrg hlk hqm hq hb hil
    go_upto_region 7 with (first | ((with_reducible refine lT 42 ?_); refine ldA Hrg.o Tryz.underlying42 uad (h := ?_)) | ((with_reducible refine sT 42 ?_); refine stA (lkS q.look pp cp pf cf pb cb) ((Blk.new wr 42 lkZz).there 0 28 (by simp [uai])) uad uay (h := ?_)) | fail)
    have HB := hd' ((Blk.new wr 42 lkZz).setAll (lkS q.look pp cp pf cf pb cb) rfl)
    have hma : Gou.Mod (fun _ => False) wr ((wr.alloc (.cells lkZz 42)).setCells wr.heap.size 0 (lkS q.look pp cp pf cf pb cb).toList) := Gou.Mod.allocSet _ _ _
    show Code.wp _ _ _ _ ((wr.alloc (.cells lkZz 42)).setCells wr.heap.size 0 (lkS q.look pp cp pf cf pb cb).toList)
    have HM2 := hd' (Hm.o.trans' hma)
    have Hlk2 := hd' (Hlk.o.mod hma (fun _ _ _ h => h))
    clear hma Hm Hlk Hrg e0
    generalize (wr.alloc (.cells lkZz 42)).setCells wr.heap.size 0 (lkS q.look pp cp pf cf pb cb).toList = W2 at *
    generalize wr.heap.size = N at *
    have n21 : W2.cell? ⟨N, 21, none⟩ = some (.slice pp q.look.content.pix.length cp) := HB.o.cell 21 rfl
    have n23 : W2.cell? ⟨N, 23, none⟩ = some (.slice pf q.look.filt.nodes.length cf) := HB.o.cell 23 rfl
    have n24 : W2.cell? ⟨N, 24, none⟩ = some (iV q.look.filt.out) := HB.o.cell 24 rfl
    have hwi : wrap64 ((j : Int) + 1) = ((j + 1 : Nat) : Int) := by have := Hil.o; have := Hsm.o; unfold wrap64; omega
    rcases Nat.lt_or_ge 300 q.look.content.pix.length with hbig | hpx
    ·have e1 : decide ((300 : Int) < (q.look.content.pix.length : Int)) = true := dqt (by omega)
     have Hf : Hid (fewO xs = false) := hd' (uge Hqm.o (by rw [ub2, dqf (by omega)]; rfl))
     go_wp2_with fail
     go_ret
     exact ⟨by rw [Hf.o]; rfl, HM2.o⟩
    ·have e1 : decide ((300 : Int) < (q.look.content.pix.length : Int)) = false := dqf (by omega)
     have Hpx : Hid (decide (q.look.content.pix.length ≤ 300) = true) := hd' (dqt hpx)
     clear hpx
     go_wp2_with fail
     refine (few_any _ (.agg #[.slice pf q.look.filt.nodes.length cf, iV q.look.filt.out]) q.look.filt 10 ⟨_, rfl, NodesR.at_ Hlk2.o.filt⟩ Hw.o.filt).mono ?_
     rintro e w3 ⟨rfl, hb3⟩
     have hm3 := Gou.Mod.of_below hb3 (fun _ => False)
     have HM3 := hd' (HM2.o.trans' hm3)
     have HB3 := hd' (HB.o.up hm3)
     have Hlk3 := hd' (Hlk2.o.mod hm3 (fun _ _ _ h => h))
     clear n21 n23 n24 hb3 hm3 e1
     have n26 : w3.cell? ⟨N, 26, none⟩ = some (.slice pb q.look.back.nodes.length cb) := HB3.o.cell 26 rfl
     have n27 : w3.cell? ⟨N, 27, none⟩ = some (iV q.look.back.out) := HB3.o.cell 27 rfl
     cases hf1 : fewB q.look.filt 10
     ·have Hf : Hid (fewO xs = false) := hd' (uge Hqm.o (by rw [ub2, hf1]; simp))
      clear hf1
      go_wp2_with fail
      go_ret
      exact ⟨by rw [Hf.o]; rfl, HM3.o⟩
     ·have Hf1 := hd' hf1
      clear hf1
      go_wp2_with fail
      refine (few_any _ (.agg #[.slice pb q.look.back.nodes.length cb, iV q.look.back.out]) q.look.back 10 ⟨_, rfl, NodesR.at_ Hlk3.o.back⟩ Hw.o.back).mono ?_
      rintro e w4 ⟨rfl, hb4⟩
      have HM4 := hd' (HM3.o.trans' (Gou.Mod.of_below hb4 (fun _ => False)))
      clear n26 n27 hb4
      cases hf2 : fewB q.look.back 10
      ·have Hf : Hid (fewO xs = false) := hd' (uge Hqm.o (by rw [ub2, hf2]; simp))
       clear hf2
       go_wp2_with fail
       go_ret
       exact ⟨by rw [Hf.o]; rfl, HM4.o⟩
      ·have Hf : Hid (ug8 q = true) := hd' (by rw [ub2, Hpx.o, Hf1.o, hf2]; rfl)
       clear hf2
       go_wp2_with fail
       go_roundw
       case rel => exact ⟨j + 1, by rw [← hwi], by have := Hil.o; omega, Hst.o Hf.o, HM4.o⟩
       case measure => rw [hwi]; have := Hil.o; simp only [intOf]; omega
   ·have e0 : decide ((j : Int) < (xs.length : Int)) = false := dqf (by omega)
    have hil' : j = xs.length := by omega
    subst hil'
    rw [List.take_length] at Hall
    have Hf := hd' (fewO_ok Hsm.o Hall.o)
    go_wp2_with fail
    go_ret
    exact ⟨by rw [Hf.o]; rfl, Hm.o⟩
end Go.Proofs.YtpbmfalokongfaaGreatDoor
namespace Go.Gou
namespace Ly
mutual
def lks : Ly → List Lk
 | .mk _ l ks => l :: lksL ks
def lksL : List Ly → List Lk
 | [] => []
 | k :: ks => k.lks ++ lksL ks
end
theorem mem_lksL {ks : List Ly} {x : Lk} : x ∈ lksL ks ↔ ∃ k ∈ ks, x ∈ k.lks := by
 induction ks with
 | nil => simp [lksL]
 | cons k ks ih => rw [lksL, List.mem_append, ih]; simp
theorem lks_mk (i : Idt) (l : Lk) (ks : List Ly) : lks (.mk i l ks) = l :: lksL ks := by rw [lks]
theorem lks_get : ∀ {π : List Nat} {T s : Ly}, T.get? π = some s → ∀ x ∈ s.lks, x ∈ T.lks
 | [], T, s, h, x, hx => by cases T; cases h; exact hx
 | i :: π, T, s, h, x, hx => by
  rw [get?] at h
  cases hk : T.kids[i]? with
  | none => rw [hk] at h; cases h
  | some k =>
   rw [hk] at h
   have := lks_get h x hx
   cases T with
   | mk j l ks =>
    rw [lks_mk]
    exact List.mem_cons_of_mem _ (mem_lksL.2 ⟨k, lmG hk, this⟩)
theorem lks_put : ∀ {π : List Nat} {T s s2 : Ly}, T.get? π = some s → ∀ x ∈ (T.put π s2).lks, x ∈ T.lks ∨ x ∈ s2.lks
 | [], T, s, s2, _, x, hx => by rw [put] at hx; exact .inr hx
 | i :: π, T, s, s2, h, x, hx => by
  rw [get?] at h
  cases hk : T.kids[i]? with
  | none => rw [hk] at h; cases h
  | some k =>
   rw [hk] at h
   rw [put, hk] at hx
   cases T with
   | mk j l ks =>
    simp only [id_mk, look_mk, kids_mk, lks_mk, List.mem_cons] at hx hk ⊢
    rcases hx with rfl | hx
    ·exact .inl (.inl rfl)
    ·obtain ⟨k', h1, h2⟩ := mem_lksL.1 hx
     rcases List.mem_or_eq_of_mem_set h1 with h1 | rfl
     ·exact .inl (.inr (mem_lksL.2 ⟨k', h1, h2⟩))
     ·rcases lks_put h x h2 with h3 | h3
      ·exact .inl (.inr (mem_lksL.2 ⟨k, lmG hk, h3⟩))
      ·exact .inr h3
theorem lks_insAt {n : Int} {m : Ly} {ks : List Ly} {x : Lk} (h : x ∈ lksL (insAt n m ks)) : x ∈ m.lks ∨ x ∈ lksL ks := by
 unfold insAt at h
 split at h
 ·obtain ⟨k, h1, h2⟩ := mem_lksL.1 h
  rcases List.mem_append.1 h1 with h1 | h1
  ·exact .inr (mem_lksL.2 ⟨k, List.mem_of_mem_take h1, h2⟩)
  ·rcases List.mem_cons.1 h1 with rfl | h1
   ·exact .inl h2
   ·exact .inr (mem_lksL.2 ⟨k, List.mem_of_mem_drop h1, h2⟩)
 ·exact .inr h
theorem lks_erase {i : Nat} {ks : List Ly} {x : Lk} (h : x ∈ lksL (ks.eraseIdx i)) : x ∈ lksL ks := by
 obtain ⟨k, h1, h2⟩ := mem_lksL.1 h
 exact mem_lksL.2 ⟨k, List.mem_of_mem_eraseIdx h1, h2⟩
theorem fit_of : ∀ (T : Ly), (∀ x ∈ T.lks, LkFit x) → T.ids.length ≤ 1000000 → TFit T := by
 intro T
 induction T using ind with
 | h i l ks ih =>
  intro h hn
  rw [ids_mk, List.length_cons] at hn
  have hlen : ∀ ks : List Ly, ks.length ≤ (idsL ks).length := by
   intro ks
   induction ks with
   | nil => simp
   | cons k ks ihk => rw [idsL, List.length_append, List.length_cons]; cases k; rw [ids_mk, List.length_cons]; omega
  refine .mk _ _ _ (h l (by rw [lks_mk]; exact List.mem_cons_self ..)) (by have := hlen ks; omega) (fun k hk => ih k hk (fun x hx => h x (by rw [lks_mk]; exact List.mem_cons_of_mem _ (mem_lksL.2 ⟨k, hk, hx⟩))) ?_)
  have : k.ids.length ≤ (idsL ks).length := by
   obtain ⟨a, b, rfl⟩ := List.append_of_mem hk
   rw [idsL_eq, List.flatMap_append, List.flatMap_cons, List.length_append, List.length_append]
   omega
  omega
end Ly
def uij (s : Sn) : Prop := ∀ x ∈ s.root.lks, LkFit x
theorem Inv.few {n : Nat} {s : Sn} (h : Inv n s) : s.root.ids.length ≤ n + 1 := by
 have h1 := h.cnt
 have h2 := Ar.count_le (a := s.arena)
 have h3 := h.small
 have h4 := h.ok.len
 omega
theorem Inv.fit {n : Nat} {s : Sn} (h : Inv n s) (hn : n ≤ 100) (hl : uij s) : ugk s := by
 have h1 := h.few
 have h3 := h.small
 have h4 := h.ok.len
 exact ⟨Ly.fit_of _ hl (by omega), by omega, by omega⟩
theorem ujz (c : Ct) : c.own.pix.length ≤ c.pix.length := by
 unfold Ct.own
 split
 ·simp [Ct.zero]
 ·split
  ·simp
  ·simp [Ct.zero]
theorem lookP_fit {check : Gr → Int} {l : Lk} {o : Opr} (h : LkFit l) (ho : LkFit o.look) : LkFit (uas check l o).1 := by
 unfold uas
 simp only
 repeat' split
 all_goals first
     | exact h
     | exact ⟨h.pix, h.filt, h.back⟩
     | exact ⟨Nat.le_trans (ujz _) ho.pix, h.filt, h.back⟩
     | exact ⟨h.pix, ho.filt, h.back⟩
     | exact ⟨h.pix, h.filt, ho.back⟩
     | exact ⟨h.pix, ⟨by simp [Gr.zero], by simp [Gr.zero]⟩, h.back⟩
     | exact ⟨h.pix, h.filt, ⟨by simp [Gr.zero], by simp [Gr.zero]⟩⟩
theorem ugw : LkFit Lk.plain := ⟨by simp [Lk.plain, Lk.zero, Ct.zero], by simp [Lk.plain, Lk.zero, Gr.zero], by simp [Lk.plain, Lk.zero, Gr.zero]⟩
theorem Ly.kids_lks {T : Ly} {x : Lk} (h : x ∈ lksL T.kids) : x ∈ T.lks := by cases T; rw [lks_mk]; exact List.mem_cons_of_mem _ h
theorem doP_lks {n : Nat} {s : Sn} (hI : Inv n s) (check : Gr → Int) (o : Opr) (hs : uij s) (ho : LkFit o.look) : uij (doP check s o).1 := by
 by_cases h1 : o.kind < 1 ∨ 11 < o.kind
 ·rw [ue5 check s o h1]; exact hs
 cases hst : ubo s.arena o with
 | true => rw [ub3 check s o (by omega) (by omega) hst]; exact hs
 | false =>
  by_cases h5 : 5 ≤ o.kind
  ·obtain ⟨π, x, p1, p2, e⟩ := doP_set hI check o h5 (by omega) hst
   rw [e]
   split
   ·exact hs
   ·intro y hy
    rcases Ly.lks_put p2 y hy with hy | hy
    ·exact hs y hy
    ·rw [Ly.lks_mk, List.mem_cons] at hy
     rcases hy with rfl | hy
     ·refine lookP_fit (hs _ (Ly.lks_get p2 _ ?_)) ho
      cases x; rw [Ly.lks_mk]; exact List.mem_cons_self ..
     ·exact hs y (Ly.lks_get p2 y (Ly.kids_lks hy))
  ·by_cases k1 : o.kind = 1
   ·obtain ⟨π, x, p1, p2, e⟩ := ufr hI check o k1 hst
    rw [e]
    split
    ·exact hs
    ·split
     ·exact hs
     ·intro y hy
      rcases Ly.lks_put p2 y hy with hy | hy
      ·exact hs y hy
      ·rw [Ly.lks_mk, List.mem_cons] at hy
       rcases hy with rfl | hy
       ·refine hs _ (Ly.lks_get p2 _ ?_)
        cases x; rw [Ly.lks_mk]; exact List.mem_cons_self ..
       ·rcases Ly.lks_insAt hy with hy | hy
        ·rw [Ly.lks_mk] at hy
         simp only [Ly.lksL, List.mem_singleton] at hy
         rw [hy]
         exact ugw
        ·exact hs y (Ly.lks_get p2 y (Ly.kids_lks hy))
   ·by_cases hid : o.id = (0, 0)
    ·rw [ude check s o (by omega) (by omega) hst hid]; exact hs
    ·obtain ⟨π, i, q, k, T2, hO⟩ := outAt hI o k1 hst hid
     have hk : ∀ y ∈ k.lks, LkFit y := fun y hy => hs y (Ly.lks_get hO.geti y hy)
     have hq : ∀ y ∈ q.lks, LkFit y := fun y hy => hs y (Ly.lks_get hO.get y hy)
     have hT : ∀ y ∈ T2.lks, LkFit y := fun y hy => by
      rw [← hO.out] at hy
      rcases Ly.lks_put hO.get y hy with hy | hy
      ·exact hs y hy
      ·rw [Ly.lks_mk, List.mem_cons] at hy
       rcases hy with rfl | hy
       ·refine hq _ ?_
        cases q; rw [Ly.lks_mk]; exact List.mem_cons_self ..
       ·exact hq y (Ly.kids_lks (Ly.lks_erase hy))
     by_cases k2 : o.kind = 2
     ·rw [ucl check o hO k2 hst hid]; exact hT
     ·by_cases k3 : o.kind = 3
      ·by_cases hto : k.pathOf o.to = none
       ·obtain ⟨σ, x, p1, p2, _, e⟩ := udu hI check o hO k3 hst hid hto
        rw [e]
        split
        ·exact hs
        ·intro y hy
         rcases Ly.lks_put p2 y hy with hy | hy
         ·exact hT y hy
         ·rw [Ly.lks_mk, List.mem_cons] at hy
          rcases hy with rfl | hy
          ·refine hT _ (Ly.lks_get p2 _ ?_)
           cases x; rw [Ly.lks_mk]; exact List.mem_cons_self ..
          ·rcases Ly.lks_insAt hy with hy | hy
           ·exact hk y hy
           ·exact hT y (Ly.lks_get p2 y (Ly.kids_lks hy))
       ·rw [uhb check o hO k3 hst hid hto]; exact hs
      ·rw [ue4 hI check o hO (by omega) hst hid]
       split
       ·exact hs
       ·intro y hy
        have hg : T2.get? π = some (.mk q.id q.look (q.kids.eraseIdx i)) := by
         rw [← hO.out]
         exact Ly.get_put hO.get
        rcases Ly.lks_put hg y hy with hy | hy
        ·exact hT y hy
        ·rw [Ly.lks_mk, List.mem_cons] at hy
         rcases hy with rfl | hy
         ·refine hq _ ?_
          cases q; rw [Ly.lks_mk]; exact List.mem_cons_self ..
         ·rcases Ly.lks_insAt hy with hy | hy
          ·exact hk y hy
          ·exact hq y (Ly.kids_lks (Ly.lks_erase hy))
theorem ufj (check : Gr → Int) {l : List Opr} {j : Nat} {q : Opr} (h : l[j]? = some q) : udz check (l.take (j + 1)) = (doP check (udz check (l.take j)) q).1 := by
 obtain ⟨hl, rfl⟩ := lgS.1 h
 unfold udz
 rw [ltS hl, List.foldl_append]
 rfl
theorem uf3 (check : Gr → Int) {l : List Opr} (h : ∀ o ∈ l, LkFit o.look) : ∀ j, j ≤ l.length → uij (udz check (l.take j)) ∧ Inv j (udz check (l.take j))
 | 0, _ => by
  refine ⟨?_, ?_⟩
  ·intro x hx
   simp only [udz, List.take_zero, List.foldl_nil, Sn.new, Ly.lks_mk, Ly.lksL, List.mem_singleton] at hx
   rw [hx]
   exact ugw
  ·exact Inv.new
 | j + 1, hj => by
  obtain ⟨h1, h2⟩ := uf3 check h j (by omega)
  have hq : l[j]? = some l[j] := lgE (by omega)
  rw [ufj check hq]
  exact ⟨doP_lks h2 check _ h1 (h _ (lgM _)), Inv.do_ h2 check _⟩
open Go.RowKit
structure KidsR (TL : TypeId) (base : Nat) (G : Nat → Prop) (w : World) (vs : Value) (css : List (List Value)) (ks : List Ly) : Prop where
 own : w.ownsRow base TL 31 vs ks.length css.flatten
 lc : css.length = ks.length
 kids : ∀ (j : Nat) (c : List Value) (k : Ly), css[j]? = some c → ks[j]? = some k → LyR (fun b => (G b ∨ base ≤ b) ∧ vs.ownBlock ≠ some b) w c k
variable {TL : TypeId} {base : Nat} {G : Nat → Prop}
theorem KidsR.start (w : World) : KidsR TL base G w nlS [] [] := ⟨World.ownsRow_nil _ _ _ _, rfl, fun j c k h => by simp at h⟩
theorem KidsR.row {w : World} {vs : Value} {css : List (List Value)} {ks : List Ly} (h : KidsR TL base G w vs css ks) : ∀ g, vs.ownBlock = some g → base ≤ g ∧ g < w.heap.size := fun g hg => by
 obtain ⟨h1, h2, _⟩ := uar h.own hg
 exact ⟨h1, h2⟩
theorem KidsR.mod {S : Nat → Prop} {w w' : World} {vs : Value} {css : List (List Value)} {ks : List Ly} (h : KidsR TL base G w vs css ks) (hm : Mod S w w') (hS : ∀ b, (G b ∨ base ≤ b) → b < w.heap.size → ¬ S b) : KidsR TL base G w' vs css ks :=
 ⟨uac h.own hm (fun k hk => hS k (.inr (h.row k hk).1) (h.row k hk).2), h.lc, fun j c k h1 h2 => (h.kids j c k h1 h2).mod hm (fun b hb hg => hS b hg.1 hb)⟩
theorem KidsR.up {w w' : World} {vs : Value} {css : List (List Value)} {ks : List Ly} (h : KidsR TL base G w vs css ks) (hm : Mod (fun _ => False) w w') : KidsR TL base G w' vs css ks := h.mod hm (fun _ _ _ h => h)
theorem KidsR.grow {w w5 w7 : World} {vs v7 : Value} {z : Nat} {css : List (List Value)} {ks : List Ly} {c : List Value} {k : Ly} (h : KidsR TL base G w vs css ks) (hG : ∀ b, G b → b < base) (hm : Mod (fun _ => False) w w5)
 (hz : w.heap.size ≤ z) (hzb : base ≤ z) (hc : LyR (fun b => G b ∨ z ≤ b) w5 c k) (hg : Grown w5 base TL 31 vs (ks.length + 1) (css.flatten ++ c) v7 w7) : KidsR TL base G w7 v7 (css ++ [c]) (ks ++ [k]) := by
 have h5 := h.up hm
 have hlc := h.lc
 refine ⟨?_, by simp [h.lc], fun j c' k' hc' hk' => ?_⟩
 ·have := hg.own
  rw [List.flatten_append, List.flatten_cons, List.flatten_nil, List.append_nil, List.length_append, List.length_singleton]
  exact this
 ·by_cases hj : j < ks.length
  ·rw [lgL (by omega)] at hc' hk'
   refine ((h5.kids j c' k' hc' hk').mod hg.mod (fun b _ hb => hb.2)).imp (fun b hb hgb => hgb) |> fun hh => ?_
   have h6 := (h.kids j c' k' hc' hk').imp (G' := fun b => ((G b ∨ base ≤ b) ∧ vs.ownBlock ≠ some b) ∧ b < w.heap.size) (fun b hb hgb => ⟨hgb, hb⟩)
   refine ((h6.up hm).mod hg.mod (fun b _ hb => hb.1.2)).imp (fun b _ hb => ⟨hb.1.1, fun e => ?_⟩)
   rcases hg.blk b e with e' | e'
   ·exact hb.1.2 e'
   ·have := hb.2
    have := hm.size
    omega
  ·have hjn := (lgS.1 hk').1
   simp at hjn
   obtain rfl : j = ks.length := by omega
   rw [lgR (by omega)] at hc' hk'
   rw [h.lc, Nat.sub_self] at hc'
   rw [Nat.sub_self] at hk'
   simp at hc' hk'
   subst hc' hk'
   have hv : ∀ b, (G b ∨ z ≤ b) → vs.ownBlock ≠ some b := fun b hb e => by
    have := h.row b e
    rcases hb with hb | hb
    ·have := hG b hb; omega
    ·omega
   have h6 := hc.imp (G' := fun b => (G b ∨ z ≤ b) ∧ b < w5.heap.size) (fun b hb hgb => ⟨hgb, hb⟩)
   refine (h6.mod hg.mod (fun b _ hb => hv b hb.1)).imp (fun b _ hb => ⟨hb.1.imp id (fun h => by omega), fun e => ?_⟩)
   rcases hg.blk b e with e' | e'
   ·exact hv b hb.1 e'
   ·have := hb.2
    omega
theorem KidsR.whole {w : World} {vs : Value} {css : List (List Value)} {ks : List Ly} (h : KidsR TL base G w vs css ks) (i : Idt) (lk : Lk) {vp vf vb : Value} (hl : LookR (fun b => G b ∨ base ≤ b) w lk vp vf vb) : LyR (fun b => G b ∨ base ≤ b) w (lyA i lk vp vf vb vs).toList (.mk i lk ks) :=
 .mk i lk ks vp vf vb vs css hl ((RowG.of_own h.own).imp (fun _ _ h => .inr h)) h.lc (fun j c k h1 h2 => (h.kids j c k h1 h2).imp (fun _ _ h => h.1))
theorem set_look (i : Idt) (l l2 : Lk) (vp vf vb vk vp2 vf2 vb2 : Value) : uao (lyA i l vp vf vb vk) 2 (uai l2 vp2 vf2 vb2).toList = lyA i l2 vp2 vf2 vb2 vk := by
 simp only [uai, uao, lyA, List.setIfInBounds_toArray, List.set_cons_succ, List.set_cons_zero]
end Go.Gou
namespace Go.Proofs.YtpbmfalokongfaaGreatDoor
open Go.RowKit Go.Gou
def RefP (G : Nat → Prop) (w : World) (T' : Ly) (e : Ending) (w' : World) : Prop := ∃ vp vf vb vk, e = .returned (.agg (lyA T'.id T'.look vp vf vb vk)) ∧ LyR (fun b => G b ∨ w.heap.size ≤ b) w' (lyA T'.id T'.look vp vf vb vk).toList T' ∧ Gou.Mod (fun _ => False) w w'
end Go.Proofs.YtpbmfalokongfaaGreatDoor
namespace Go.Gou
theorem ucw {l : List Bool} {j : Nat} {b : Bool} (h : l[j]? = some b) : (bvs l)[j]? = some (.bool b) := by simp [bvs, h]
theorem uez {l : List Int} {j : Nat} {x : Int} (h : l[j]? = some x) : (ivs l)[j]? = some (iV x) := by simp [ivs, h]
theorem RowG.one_cell {G : Nat → Prop} {w : World} {p : Option Addr} {n c : Nat} {cs : List Value} (h : RowG G w 1 (.slice p n c) n cs) (h0 : 0 < n) : ∃ b o, p = some ⟨b, o, none⟩ ∧ b < w.heap.size ∧ G b ∧ ∀ (j : Nat) (u : Value), cs[j]? = some u → w.cell? ⟨b, o + j, none⟩ = some u := by
 obtain ⟨_, p', cap, e, _, h⟩ := h
 simp only [Value.slice.injEq] at e
 obtain ⟨rfl, -, -⟩ := e
 rcases h with h | ⟨b, o, rfl, hb, hG, hc⟩
 ·omega
 ·exact ⟨b, o, rfl, hb, hG, hc⟩
def Ar.hit (a : Ar) (x : Idt) (t : Nat) : Prop := x.1 = t ∧ a.live[t]? = some true ∧ a.gens[t]? = some x.2
end Go.Gou
namespace Go.Proofs.YtpbmfalokongfaaGreatDoor
open Go.RowKit Go.Gou
theorem udh (w : World) (vg vl : Value) (a : Ar) (x : Idt) (h : ArR w vg vl a) (hlen : a.gens.length = a.live.length) (hn : a.gens.length ≤ 1000000) :
 Calls Tryz.prog 29 #[.agg #[vg, vl], .agg #[iV x.1, iV x.2]] w fun e w' => e = .returned (.bool (a.has x)) ∧ Gou.Mod (fun _ => False) w w' := by
 obtain ⟨⟨pg, cg, rfl⟩, ⟨pl, cl, rfl⟩⟩ := h.forms
 have Hh := hd' h
 have Hlen := hd' hlen
 have Hn := hd' hn
 clear h hlen hn
 obtain ⟨b0, b1, bm⟩ := uaw w 28 30 #[Value.slice pg a.gens.length cg, Value.slice pl a.live.length cl] #[iV x.1, iV x.2]
 have HB := hd' b0
 have HX := hd' b1
 have HMa := hd' bm
 clear b0 b1 bm
 go_enter Tryz.func29, Tryz.ntmps29
 go_upto_region 1 with fail
 generalize (w.alloc (.cells #[Value.slice pg a.gens.length cg, Value.slice pl a.live.length cl] 28)).alloc (.cells #[iV x.1, iV x.2] 30) = W1 at *
 go_wp2_with fail
 go_loopw [5] (fun vi wr => ∃ j : Nat, vi = iV j ∧ j ≤ a.gens.length ∧ (∀ t, t < j → ¬ a.hit x t) ∧ Gou.Mod (fun _ => False) W1 wr) (fun vi _ => a.gens.length - (intOf vi).toNat)
 case atStart => exact ⟨0, rfl, Nat.zero_le _, fun t h => absurd h (Nat.not_lt_zero _), Gou.Mod.refl _ _⟩
 case round =>
  obtain ⟨j, rfl, hj, hno, hm⟩ := hrel
  have Hno := hd' hno
  have Hm := hd' hm
  have c0 : wr.cell? ⟨w.heap.size, 0, none⟩ = some (.slice pg a.gens.length cg) := (HB.o.up hm).cell 0 rfl
  have c1 : wr.cell? ⟨w.heap.size, 1, none⟩ = some (.slice pl a.live.length cl) := (HB.o.up hm).cell 1 rfl
  have x0 : wr.cell? ⟨w.heap.size + 1, 0, none⟩ = some (iV x.1) := (HX.o.up hm).cell 0 rfl
  have x1 : wr.cell? ⟨w.heap.size + 1, 1, none⟩ = some (iV x.2) := (HX.o.up hm).cell 1 rfl
  clear hm hno
  by_cases hil : j < a.gens.length
  ·have hil2 : j < a.live.length := by rw [← Hlen.o]; exact hil
   obtain ⟨bv, hbv⟩ : ∃ bv, a.live[j]? = some bv := ⟨_, lgE hil2⟩
   obtain ⟨gv, hgv⟩ : ∃ gv, a.gens[j]? = some gv := ⟨_, lgE hil⟩
   obtain ⟨bl, ol, rfl, _, _, hcl⟩ := RowG.one_cell (RowG.mod Hh.o.l (HMa.o.trans' Hm.o) (fun _ _ _ h => h)) (by omega)
   obtain ⟨bg, og, rfl, _, _, hcg⟩ := RowG.one_cell (RowG.mod Hh.o.g (HMa.o.trans' Hm.o) (fun _ _ _ h => h)) (by omega)
   have li := hcl j _ (ucw hbv)
   have gi := hcg j _ (uez hgv)
   have hwi : wrap64 ((j : Int) + 1) = ((j + 1 : Nat) : Int) := by have := Hn.o; unfold wrap64; omega
   have Hil := hd' hil
   have Hst : Hid (¬ a.hit x j → ∀ t, t < j + 1 → ¬ a.hit x t) := hd' (fun h t ht => by
    by_cases he : t = j
    ·exact he ▸ h
    ·exact Hno.o t (by omega))
   have Hb := hd' hbv
   have Hg := hd' hgv
   clear hcl hcg hbv hgv
   go_upto_region 4 with fail
   by_cases hx : x.1 = j
   ·have e1 : (((j : Nat) : Int) == x.1) = true := beq_iff_eq.2 hx.symm
    have Hx := hd' hx
    clear hx
    cases bv
    ·go_quiet (fail)
     have HQ := hd' (Hm.o.trans' (Gou.Mod.drewN (fun _ => False) wr nq))
     go_wp2_with fail
     go_roundw
     case rel => exact ⟨j + 1, by rw [← hwi], by have := Hil.o; omega, Hst.o (fun h => by have := h.2.1; rw [Hb.o] at this; cases this), HQ.o⟩
     case measure => rw [hwi]; have := Hil.o; simp only [intOf]; omega
    ·by_cases hg : gv = x.2
     ·have e2 : (gv == x.2) = true := beq_iff_eq.2 hg
      have Hhas : Hid (a.has x = true) := hd' (Ar.has_iff.2 ⟨j, Hx.o, Hb.o, by rw [Hg.o, hg]⟩)
      clear hg
      go_quiet (fail)
      go_wp2_with fail
      go_ret
      exact ⟨by rw [Hhas.o]; rfl, (HMa.o.trans' Hm.o).trans' (Gou.Mod.drewN _ wr nq)⟩
     ·have e2 : (gv == x.2) = false := bqf.2 hg
      have Hgn := hd' hg
      clear hg
      go_quiet (fail)
      have HQ := hd' (Hm.o.trans' (Gou.Mod.drewN (fun _ => False) wr nq))
      go_wp2_with fail
      go_roundw
      case rel => exact ⟨j + 1, by rw [← hwi], by have := Hil.o; omega, Hst.o (fun h => Hgn.o (by have := h.2.2; rw [Hg.o] at this; exact Option.some.inj this)), HQ.o⟩
      case measure => rw [hwi]; have := Hil.o; simp only [intOf]; omega
   ·have e1 : (((j : Nat) : Int) == x.1) = false := bqf.2 (fun e => hx e.symm)
    have Hx := hd' hx
    clear hx
    go_quiet (fail)
    have HQ := hd' (Hm.o.trans' (Gou.Mod.drewN (fun _ => False) wr nq))
    go_wp2_with fail
    go_roundw
    case rel => exact ⟨j + 1, by rw [← hwi], by have := Hil.o; omega, Hst.o (fun h => Hx.o h.1), HQ.o⟩
    case measure => rw [hwi]; have := Hil.o; simp only [intOf]; omega
  ·have hil' : j = a.gens.length := by omega
   have Hhas : Hid (a.has x = false) := hd' (Bool.eq_false_iff.2 (fun h => by
    obtain ⟨t, h1, h2, h3⟩ := Ar.has_iff.1 h
    have := (lgS.1 h3).1
    exact Hno.o t (by omega) ⟨h1, h2, h3⟩))
   clear hil'
   go_wp2_with fail
   go_ret
   exact ⟨by rw [Hhas.o]; rfl, HMa.o.trans' Hm.o⟩
end Go.Proofs.YtpbmfalokongfaaGreatDoor
