/- Texts of the scenes' proofs, laid together: TyV, TyW, TyX. -/
import Derived.Test.YtgolafbneiffpaaGreatDoorZan
set_option maxHeartbeats 64000000
set_option linter.unusedSimpArgs false
set_option linter.unusedVariables false
set_option linter.unusedSectionVars false
set_option linter.constructorNameAsVariable false
namespace Go.Proofs.YtgolafbneiffpaaGreatDoor
open Go.RowKit Go.Gou Go.Txt
set_option maxRecDepth 100000
theorem utz {w : World} {R : Nat} {vs : Value} {ws : List Wd} {n : Nat} (h : RdW w R vs ws n) :
  Calls Tryz.prog 77 #[.pointer (some ⟨R, 0, none⟩)] w (RP w R vs ws (VAct w.heap.size) (umu (ws.drop n))) := by
 generalize hP : umu (ws.drop n) = PP
 have HP := hd' hP
 have HA0 := hd' (AS.start h)
 clear hP h
 go_enter Tryz.func77, Tryz.ntmps77
 go_wp2_with fail
 refine (ul5 HA0.o.rd).mono ?_
 rintro e w1 ⟨hm1, h1⟩
 have HM1 := hd' (HA0.o.mod.trans' hm1)
 rcases hr1 : idP (ws.drop n) with _ | ⟨x1, q1⟩
 ·rw [hr1] at h1
  subst h1
  refine ⟨rfl, HM1.o, ?_⟩
  rw [← HP.o]
  simp [umu, opA, hr1]
 rw [hr1] at h1
 obtain ⟨_, n1, rfl, rfl, h1, rfl⟩ := h1
 have HA1 := hd' (HA0.o.step hm1 h1)
 have R1 := hd' hr1
 clear h1 hr1 hm1
 go_wp2_with (first | ((with_reducible show wpList _ _ _ (⟨_, Op.build _ _, _, _, _, _⟩ :: _) _ _); refine halt ?_) | fail)
 show wpList _ _ _ _ _ _
 refine uav rfl (.agg (oprC (⟨1, (0, 0), x1, 0, Lk.zero⟩ : Opr) nlS nlS nlS)) (by kernel_rfl) ?_
 simp only [Act.put, List.setIfInBounds_toArray, List.set_cons_zero, List.set_cons_succ]
 have HO1 := hd' (OS.make HA1.o (⟨1, (0, 0), x1, 0, Lk.zero⟩ : Opr) rfl)
 have hO1 : w1.heap.size = w1.heap.size := rfl
 go_wp2_with (first | ((with_reducible refine wpList_store_mid ?g1_1 37 ?x1_1 ?y1_1 ?o1_1 w1.heap.size 0 (oprC (⟨1, (0, 0), x1, 0, Lk.zero⟩ : Opr) nlS nlS nlS) ?h1_1 ?j1_1 ?t1_1 ?i1_1 ?s1_1 ?r1_1); (case g1_1 => exact rfl); (case o1_1 => exact rfl); (case h1_1 => exact rfl); (case j1_1 => exact rfl); (case t1_1 => exact OS.there); (case i1_1 => exact szO); (case s1_1 => exact uk4 _ _ _ _ _ _ _ _ _ _)) | fail)
 generalize (w1.alloc (.cells lz34 37)).setCells w1.heap.size 0 (oprC (⟨1, (0, 0), x1, 0, Lk.zero⟩ : Opr) nlS nlS nlS).toList = v1 at *
 clear hO1
 refine (uk3 HO1.o.ast.rd).mono ?_
 rintro e w2 ⟨hm2, h2⟩
 have HM2 := hd' (HO1.o.ast.mod.trans' hm2)
 rcases hr2 : numP (ws.drop n1) with _ | ⟨x2, q2⟩
 ·rw [hr2] at h2
  subst h2
  refine ⟨rfl, HM2.o, ?_⟩
  rw [← HP.o]
  simp [umu, opA, R1.o, hr2]
 rw [hr2] at h2
 obtain ⟨_, n2, rfl, rfl, h2, rfl⟩ := h2
 have HO2 := hd' (HO1.o.step hm2 h2)
 have R2 := hd' hr2
 clear h2 hr2 hm2
 have c2_5 := (HO2.o.op).cell 5 rfl
 have f2_5 := (HO2.o.op).frozen 5
 have HO2s : Hid (OS w R vs ws w1.heap.size (⟨1, (0, 0), x1, x2, Lk.zero⟩ : Opr) nlS nlS nlS (w2.setCell ⟨w1.heap.size, 5, none⟩ (iV x2)) n2) := hd' (HO2.o.set (⟨1, (0, 0), x1, x2, Lk.zero⟩ : Opr) nlS nlS nlS (Gou.Mod.setCell _ ⟨w1.heap.size, 5, none⟩ (iV x2)) (HO2.o.op.set 5 (iV x2)) ⟨HO2.o.look.pix, HO2.o.look.filt, HO2.o.look.back⟩)
 have Hres : Hid (PP = some (opA ⟨1, (0, 0), x1, x2, Lk.zero⟩, ws.drop n2)) := hd' (by rw [← HP.o]; simp [umu, opA, R1.o, R2.o])
 have Hrg := hd' HO2s.o.range
 go_wp2_with (first | ((with_reducible refine wpList_load_mid ?g1_2 37 ?x1_2 ?o1_2 w1.heap.size 0 ?h1_2 (oprC (⟨1, (0, 0), x1, x2, Lk.zero⟩ : Opr) nlS nlS nlS).toList ?d1_2 ?c1_2 ?u1_2 ?s1_2 ?i1_2 ?r1_2); (case g1_2 => exact rfl); (case o1_2 => exact rfl); (case h1_2 => exact rfl); (case c1_2 => exact Hrg.o); (case u1_2 => exact Tryz.underlying37); (case s1_2 => exact rfl); (case i1_2 => exact szOl)) | fail)
 clear c2_5 f2_5
 clear Hrg
 refine (ul4 _ (⟨1, (0, 0), x1, x2, Lk.zero⟩ : Opr)).mono ?_
 rintro e w9 ⟨rfl, hm9⟩
 have HO9 := hd' (HO2s.o.other hm9)
 clear hm9
 have Hth := hd' (HO9.o.ast.there ⟨((⟨1, (0, 0), x1, x2, Lk.zero⟩ : Opr) : Opr).kind, (⟨1, (0, 0), x1, x2, Lk.zero⟩ : Opr), 0, 0, Cf.zero⟩ nlS nlS nlS)
 have HE := hd' (HO9.o.ast.done ⟨((⟨1, (0, 0), x1, x2, Lk.zero⟩ : Opr) : Opr).kind, (⟨1, (0, 0), x1, x2, Lk.zero⟩ : Opr), 0, 0, Cf.zero⟩ nlS nlS nlS (HO9.o.look.imp fun k _ hk => hk.1))
 go_wp2_with (first | ((with_reducible refine wpList_store_mid ?g1_3 41 ?x1_3 ?y1_3 ?o1_3 w.heap.size 0 (actC ⟨((⟨1, (0, 0), x1, x2, Lk.zero⟩ : Opr) : Opr).kind, (⟨1, (0, 0), x1, x2, Lk.zero⟩ : Opr), 0, 0, Cf.zero⟩ nlS nlS nlS) ?h1_3 ?j1_3 ?t1_3 ?i1_3 ?s1_3 ?r1_3); (case g1_3 => exact rfl); (case o1_3 => exact rfl); (case h1_3 => exact rfl); (case j1_3 => exact rfl); (case t1_3 => exact Hth.o); (case i1_3 => exact szA); (case s1_3 => exact ukj _ _ _ _ _ _ _ _ _ _)) | fail)
 obtain ⟨hE1, hE2, hE3, hE4⟩ := HE.o
 refine bpr (results_cell_row rfl _ _ w.heap.size 41 (actC ⟨((⟨1, (0, 0), x1, x2, Lk.zero⟩ : Opr) : Opr).kind, (⟨1, (0, 0), x1, x2, Lk.zero⟩ : Opr), 0, 0, Cf.zero⟩ nlS nlS nlS) (0, 0) _ rfl hE3 Tryz.underlying41 rfl szA) rfl ?_
 refine ⟨hE2, ?_⟩
 rw [Hres.o]
 exact ⟨_, n2, rfl, ⟨_, _, _, _, _, _, _, _, _, rfl, hE4⟩, hE1, rfl⟩
theorem utw {w : World} {R : Nat} {vs : Value} {ws : List Wd} {n : Nat} (h : RdW w R vs ws n) :
  Calls Tryz.prog 78 #[.pointer (some ⟨R, 0, none⟩)] w (RP w R vs ws (VAct w.heap.size) (um9 (ws.drop n))) := by
 generalize hP : um9 (ws.drop n) = PP
 have HP := hd' hP
 have HA0 := hd' (AS.start h)
 clear hP h
 go_enter Tryz.func78, Tryz.ntmps78
 go_wp2_with fail
 refine (ul5 HA0.o.rd).mono ?_
 rintro e w1 ⟨hm1, h1⟩
 have HM1 := hd' (HA0.o.mod.trans' hm1)
 rcases hr1 : idP (ws.drop n) with _ | ⟨x1, q1⟩
 ·rw [hr1] at h1
  subst h1
  refine ⟨rfl, HM1.o, ?_⟩
  rw [← HP.o]
  simp [um9, opA, hr1]
 rw [hr1] at h1
 obtain ⟨_, n1, rfl, rfl, h1, rfl⟩ := h1
 have HA1 := hd' (HA0.o.step hm1 h1)
 have R1 := hd' hr1
 clear h1 hr1 hm1
 have Hres : Hid (PP = some (opA ⟨2, x1, (0, 0), 0, Lk.zero⟩, ws.drop n1)) := hd' (by rw [← HP.o]; simp [um9, opA, R1.o])
 go_wp2_with (first | ((with_reducible show wpList _ _ _ (⟨_, Op.build _ _, _, _, _, _⟩ :: _) _ _); refine halt ?_) | fail)
 show wpList _ _ _ _ _ _
 refine uav rfl (.agg (oprC (⟨2, x1, (0, 0), 0, Lk.zero⟩ : Opr) nlS nlS nlS)) (by kernel_rfl) ?_
 simp only [Act.put, List.setIfInBounds_toArray, List.set_cons_zero, List.set_cons_succ]
 go_wp2_with fail
 refine (ul4 _ (⟨2, x1, (0, 0), 0, Lk.zero⟩ : Opr)).mono ?_
 rintro e w9 ⟨rfl, hm9⟩
 have HA9 := hd' (HA1.o.other hm9 (fun _ h => h.elim))
 clear hm9
 have Hth := hd' (HA9.o.there ⟨((⟨2, x1, (0, 0), 0, Lk.zero⟩ : Opr) : Opr).kind, (⟨2, x1, (0, 0), 0, Lk.zero⟩ : Opr), 0, 0, Cf.zero⟩ nlS nlS nlS)
 have HE := hd' (HA9.o.done ⟨((⟨2, x1, (0, 0), 0, Lk.zero⟩ : Opr) : Opr).kind, (⟨2, x1, (0, 0), 0, Lk.zero⟩ : Opr), 0, 0, Cf.zero⟩ nlS nlS nlS (umm _ _))
 go_wp2_with (first | ((with_reducible refine wpList_store_mid ?g1_4 41 ?x1_4 ?y1_4 ?o1_4 w.heap.size 0 (actC ⟨((⟨2, x1, (0, 0), 0, Lk.zero⟩ : Opr) : Opr).kind, (⟨2, x1, (0, 0), 0, Lk.zero⟩ : Opr), 0, 0, Cf.zero⟩ nlS nlS nlS) ?h1_4 ?j1_4 ?t1_4 ?i1_4 ?s1_4 ?r1_4); (case g1_4 => exact rfl); (case o1_4 => exact rfl); (case h1_4 => exact rfl); (case j1_4 => exact rfl); (case t1_4 => exact Hth.o); (case i1_4 => exact szA); (case s1_4 => exact ukj _ _ _ _ _ _ _ _ _ _)) | fail)
 obtain ⟨hE1, hE2, hE3, hE4⟩ := HE.o
 refine bpr (results_cell_row rfl _ _ w.heap.size 41 (actC ⟨((⟨2, x1, (0, 0), 0, Lk.zero⟩ : Opr) : Opr).kind, (⟨2, x1, (0, 0), 0, Lk.zero⟩ : Opr), 0, 0, Cf.zero⟩ nlS nlS nlS) (0, 0) _ rfl hE3 Tryz.underlying41 rfl szA) rfl ?_
 refine ⟨hE2, ?_⟩
 rw [Hres.o]
 exact ⟨_, n1, rfl, ⟨_, _, _, _, _, _, _, _, _, rfl, hE4⟩, hE1, rfl⟩
theorem urp {w : World} {R : Nat} {vs : Value} {ws : List Wd} {n : Nat} (h : RdW w R vs ws n) :
  Calls Tryz.prog 79 #[.pointer (some ⟨R, 0, none⟩)] w (RP w R vs ws (VAct w.heap.size) (uln (ws.drop n))) := by
 generalize hP : uln (ws.drop n) = PP
 have HP := hd' hP
 have HA0 := hd' (AS.start h)
 clear hP h
 go_enter Tryz.func79, Tryz.ntmps79
 go_wp2_with fail
 refine (ul5 HA0.o.rd).mono ?_
 rintro e w1 ⟨hm1, h1⟩
 have HM1 := hd' (HA0.o.mod.trans' hm1)
 rcases hr1 : idP (ws.drop n) with _ | ⟨x1, q1⟩
 ·rw [hr1] at h1
  subst h1
  refine ⟨rfl, HM1.o, ?_⟩
  rw [← HP.o]
  simp [uln, opA, hr1]
 rw [hr1] at h1
 obtain ⟨_, n1, rfl, rfl, h1, rfl⟩ := h1
 have HA1 := hd' (HA0.o.step hm1 h1)
 have R1 := hd' hr1
 clear h1 hr1 hm1
 go_wp2_with (first | ((with_reducible show wpList _ _ _ (⟨_, Op.build _ _, _, _, _, _⟩ :: _) _ _); refine halt ?_) | fail)
 show wpList _ _ _ _ _ _
 refine uav rfl (.agg (oprC (⟨3, x1, (0, 0), 0, Lk.zero⟩ : Opr) nlS nlS nlS)) (by kernel_rfl) ?_
 simp only [Act.put, List.setIfInBounds_toArray, List.set_cons_zero, List.set_cons_succ]
 have HO1 := hd' (OS.make HA1.o (⟨3, x1, (0, 0), 0, Lk.zero⟩ : Opr) rfl)
 have hO1 : w1.heap.size = w1.heap.size := rfl
 go_wp2_with (first | ((with_reducible refine wpList_store_mid ?g1_5 37 ?x1_5 ?y1_5 ?o1_5 w1.heap.size 0 (oprC (⟨3, x1, (0, 0), 0, Lk.zero⟩ : Opr) nlS nlS nlS) ?h1_5 ?j1_5 ?t1_5 ?i1_5 ?s1_5 ?r1_5); (case g1_5 => exact rfl); (case o1_5 => exact rfl); (case h1_5 => exact rfl); (case j1_5 => exact rfl); (case t1_5 => exact OS.there); (case i1_5 => exact szO); (case s1_5 => exact uk4 _ _ _ _ _ _ _ _ _ _)) | fail)
 generalize (w1.alloc (.cells lz34 37)).setCells w1.heap.size 0 (oprC (⟨3, x1, (0, 0), 0, Lk.zero⟩ : Opr) nlS nlS nlS).toList = v1 at *
 clear hO1
 refine (ul5 HO1.o.ast.rd).mono ?_
 rintro e w2 ⟨hm2, h2⟩
 have HM2 := hd' (HO1.o.ast.mod.trans' hm2)
 rcases hr2 : idP (ws.drop n1) with _ | ⟨x2, q2⟩
 ·rw [hr2] at h2
  subst h2
  refine ⟨rfl, HM2.o, ?_⟩
  rw [← HP.o]
  simp [uln, opA, R1.o, hr2]
 rw [hr2] at h2
 obtain ⟨_, n2, rfl, rfl, h2, rfl⟩ := h2
 have HO2 := hd' (HO1.o.step hm2 h2)
 have R2 := hd' hr2
 clear h2 hr2 hm2
 have c2_3 := (HO2.o.op).cell 3 rfl
 have f2_3 := (HO2.o.op).frozen 3
 have c2_4 := (HO2.o.op.set 3 (iV x2.1)).cell 4 rfl
 have f2_4 := (HO2.o.op.set 3 (iV x2.1)).frozen 4
 have HO2s : Hid (OS w R vs ws w1.heap.size (⟨3, x1, x2, 0, Lk.zero⟩ : Opr) nlS nlS nlS ((w2.setCell ⟨w1.heap.size, 3, none⟩ (iV x2.1)).setCell ⟨w1.heap.size, 4, none⟩ (iV x2.2)) n2) := hd' (HO2.o.set (⟨3, x1, x2, 0, Lk.zero⟩ : Opr) nlS nlS nlS ((Gou.Mod.setCell _ ⟨w1.heap.size, 3, none⟩ (iV x2.1)).trans' (Gou.Mod.setCell _ ⟨w1.heap.size, 4, none⟩ (iV x2.2))) ((HO2.o.op.set 3 (iV x2.1)).set 4 (iV x2.2)) ⟨HO2.o.look.pix, HO2.o.look.filt, HO2.o.look.back⟩)
 go_wp2_with fail
 clear c2_3 f2_3 c2_4 f2_4
 generalize ((w2.setCell ⟨w1.heap.size, 3, none⟩ (iV x2.1)).setCell ⟨w1.heap.size, 4, none⟩ (iV x2.2)) = v2 at *
 refine (uk3 HO2s.o.ast.rd).mono ?_
 rintro e w3 ⟨hm3, h3⟩
 have HM3 := hd' (HO2s.o.ast.mod.trans' hm3)
 rcases hr3 : numP (ws.drop n2) with _ | ⟨x3, q3⟩
 ·rw [hr3] at h3
  subst h3
  refine ⟨rfl, HM3.o, ?_⟩
  rw [← HP.o]
  simp [uln, opA, R1.o, R2.o, hr3]
 rw [hr3] at h3
 obtain ⟨_, n3, rfl, rfl, h3, rfl⟩ := h3
 have HO3 := hd' (HO2s.o.step hm3 h3)
 have R3 := hd' hr3
 clear h3 hr3 hm3
 have c3_5 := (HO3.o.op).cell 5 rfl
 have f3_5 := (HO3.o.op).frozen 5
 have HO3s : Hid (OS w R vs ws w1.heap.size (⟨3, x1, x2, x3, Lk.zero⟩ : Opr) nlS nlS nlS (w3.setCell ⟨w1.heap.size, 5, none⟩ (iV x3)) n3) := hd' (HO3.o.set (⟨3, x1, x2, x3, Lk.zero⟩ : Opr) nlS nlS nlS (Gou.Mod.setCell _ ⟨w1.heap.size, 5, none⟩ (iV x3)) (HO3.o.op.set 5 (iV x3)) ⟨HO3.o.look.pix, HO3.o.look.filt, HO3.o.look.back⟩)
 have Hres : Hid (PP = some (opA ⟨3, x1, x2, x3, Lk.zero⟩, ws.drop n3)) := hd' (by rw [← HP.o]; simp [uln, opA, R1.o, R2.o, R3.o])
 have Hrg := hd' HO3s.o.range
 go_wp2_with (first | ((with_reducible refine wpList_load_mid ?g1_6 37 ?x1_6 ?o1_6 w1.heap.size 0 ?h1_6 (oprC (⟨3, x1, x2, x3, Lk.zero⟩ : Opr) nlS nlS nlS).toList ?d1_6 ?c1_6 ?u1_6 ?s1_6 ?i1_6 ?r1_6); (case g1_6 => exact rfl); (case o1_6 => exact rfl); (case h1_6 => exact rfl); (case c1_6 => exact Hrg.o); (case u1_6 => exact Tryz.underlying37); (case s1_6 => exact rfl); (case i1_6 => exact szOl)) | fail)
 clear c3_5 f3_5
 clear Hrg
 refine (ul4 _ (⟨3, x1, x2, x3, Lk.zero⟩ : Opr)).mono ?_
 rintro e w9 ⟨rfl, hm9⟩
 have HO9 := hd' (HO3s.o.other hm9)
 clear hm9
 have Hth := hd' (HO9.o.ast.there ⟨((⟨3, x1, x2, x3, Lk.zero⟩ : Opr) : Opr).kind, (⟨3, x1, x2, x3, Lk.zero⟩ : Opr), 0, 0, Cf.zero⟩ nlS nlS nlS)
 have HE := hd' (HO9.o.ast.done ⟨((⟨3, x1, x2, x3, Lk.zero⟩ : Opr) : Opr).kind, (⟨3, x1, x2, x3, Lk.zero⟩ : Opr), 0, 0, Cf.zero⟩ nlS nlS nlS (HO9.o.look.imp fun k _ hk => hk.1))
 go_wp2_with (first | ((with_reducible refine wpList_store_mid ?g1_7 41 ?x1_7 ?y1_7 ?o1_7 w.heap.size 0 (actC ⟨((⟨3, x1, x2, x3, Lk.zero⟩ : Opr) : Opr).kind, (⟨3, x1, x2, x3, Lk.zero⟩ : Opr), 0, 0, Cf.zero⟩ nlS nlS nlS) ?h1_7 ?j1_7 ?t1_7 ?i1_7 ?s1_7 ?r1_7); (case g1_7 => exact rfl); (case o1_7 => exact rfl); (case h1_7 => exact rfl); (case j1_7 => exact rfl); (case t1_7 => exact Hth.o); (case i1_7 => exact szA); (case s1_7 => exact ukj _ _ _ _ _ _ _ _ _ _)) | fail)
 obtain ⟨hE1, hE2, hE3, hE4⟩ := HE.o
 refine bpr (results_cell_row rfl _ _ w.heap.size 41 (actC ⟨((⟨3, x1, x2, x3, Lk.zero⟩ : Opr) : Opr).kind, (⟨3, x1, x2, x3, Lk.zero⟩ : Opr), 0, 0, Cf.zero⟩ nlS nlS nlS) (0, 0) _ rfl hE3 Tryz.underlying41 rfl szA) rfl ?_
 refine ⟨hE2, ?_⟩
 rw [Hres.o]
 exact ⟨_, n3, rfl, ⟨_, _, _, _, _, _, _, _, _, rfl, hE4⟩, hE1, rfl⟩
theorem ush {w : World} {R : Nat} {vs : Value} {ws : List Wd} {n : Nat} (h : RdW w R vs ws n) :
  Calls Tryz.prog 80 #[.pointer (some ⟨R, 0, none⟩)] w (RP w R vs ws (VAct w.heap.size) (ul6 (ws.drop n))) := by
 generalize hP : ul6 (ws.drop n) = PP
 have HP := hd' hP
 have HA0 := hd' (AS.start h)
 clear hP h
 go_enter Tryz.func80, Tryz.ntmps80
 go_wp2_with fail
 refine (ul5 HA0.o.rd).mono ?_
 rintro e w1 ⟨hm1, h1⟩
 have HM1 := hd' (HA0.o.mod.trans' hm1)
 rcases hr1 : idP (ws.drop n) with _ | ⟨x1, q1⟩
 ·rw [hr1] at h1
  subst h1
  refine ⟨rfl, HM1.o, ?_⟩
  rw [← HP.o]
  simp [ul6, opA, hr1]
 rw [hr1] at h1
 obtain ⟨_, n1, rfl, rfl, h1, rfl⟩ := h1
 have HA1 := hd' (HA0.o.step hm1 h1)
 have R1 := hd' hr1
 clear h1 hr1 hm1
 go_wp2_with (first | ((with_reducible show wpList _ _ _ (⟨_, Op.build _ _, _, _, _, _⟩ :: _) _ _); refine halt ?_) | fail)
 show wpList _ _ _ _ _ _
 refine uav rfl (.agg (oprC (⟨4, x1, (0, 0), 0, Lk.zero⟩ : Opr) nlS nlS nlS)) (by kernel_rfl) ?_
 simp only [Act.put, List.setIfInBounds_toArray, List.set_cons_zero, List.set_cons_succ]
 have HO1 := hd' (OS.make HA1.o (⟨4, x1, (0, 0), 0, Lk.zero⟩ : Opr) rfl)
 have hO1 : w1.heap.size = w1.heap.size := rfl
 go_wp2_with (first | ((with_reducible refine wpList_store_mid ?g1_8 37 ?x1_8 ?y1_8 ?o1_8 w1.heap.size 0 (oprC (⟨4, x1, (0, 0), 0, Lk.zero⟩ : Opr) nlS nlS nlS) ?h1_8 ?j1_8 ?t1_8 ?i1_8 ?s1_8 ?r1_8); (case g1_8 => exact rfl); (case o1_8 => exact rfl); (case h1_8 => exact rfl); (case j1_8 => exact rfl); (case t1_8 => exact OS.there); (case i1_8 => exact szO); (case s1_8 => exact uk4 _ _ _ _ _ _ _ _ _ _)) | fail)
 generalize (w1.alloc (.cells lz34 37)).setCells w1.heap.size 0 (oprC (⟨4, x1, (0, 0), 0, Lk.zero⟩ : Opr) nlS nlS nlS).toList = v1 at *
 clear hO1
 refine (uk3 HO1.o.ast.rd).mono ?_
 rintro e w2 ⟨hm2, h2⟩
 have HM2 := hd' (HO1.o.ast.mod.trans' hm2)
 rcases hr2 : numP (ws.drop n1) with _ | ⟨x2, q2⟩
 ·rw [hr2] at h2
  subst h2
  refine ⟨rfl, HM2.o, ?_⟩
  rw [← HP.o]
  simp [ul6, opA, R1.o, hr2]
 rw [hr2] at h2
 obtain ⟨_, n2, rfl, rfl, h2, rfl⟩ := h2
 have HO2 := hd' (HO1.o.step hm2 h2)
 have R2 := hd' hr2
 clear h2 hr2 hm2
 have c2_5 := (HO2.o.op).cell 5 rfl
 have f2_5 := (HO2.o.op).frozen 5
 have HO2s : Hid (OS w R vs ws w1.heap.size (⟨4, x1, (0, 0), x2, Lk.zero⟩ : Opr) nlS nlS nlS (w2.setCell ⟨w1.heap.size, 5, none⟩ (iV x2)) n2) := hd' (HO2.o.set (⟨4, x1, (0, 0), x2, Lk.zero⟩ : Opr) nlS nlS nlS (Gou.Mod.setCell _ ⟨w1.heap.size, 5, none⟩ (iV x2)) (HO2.o.op.set 5 (iV x2)) ⟨HO2.o.look.pix, HO2.o.look.filt, HO2.o.look.back⟩)
 have Hres : Hid (PP = some (opA ⟨4, x1, (0, 0), x2, Lk.zero⟩, ws.drop n2)) := hd' (by rw [← HP.o]; simp [ul6, opA, R1.o, R2.o])
 have Hrg := hd' HO2s.o.range
 go_wp2_with (first | ((with_reducible refine wpList_load_mid ?g1_9 37 ?x1_9 ?o1_9 w1.heap.size 0 ?h1_9 (oprC (⟨4, x1, (0, 0), x2, Lk.zero⟩ : Opr) nlS nlS nlS).toList ?d1_9 ?c1_9 ?u1_9 ?s1_9 ?i1_9 ?r1_9); (case g1_9 => exact rfl); (case o1_9 => exact rfl); (case h1_9 => exact rfl); (case c1_9 => exact Hrg.o); (case u1_9 => exact Tryz.underlying37); (case s1_9 => exact rfl); (case i1_9 => exact szOl)) | fail)
 clear c2_5 f2_5
 clear Hrg
 refine (ul4 _ (⟨4, x1, (0, 0), x2, Lk.zero⟩ : Opr)).mono ?_
 rintro e w9 ⟨rfl, hm9⟩
 have HO9 := hd' (HO2s.o.other hm9)
 clear hm9
 have Hth := hd' (HO9.o.ast.there ⟨((⟨4, x1, (0, 0), x2, Lk.zero⟩ : Opr) : Opr).kind, (⟨4, x1, (0, 0), x2, Lk.zero⟩ : Opr), 0, 0, Cf.zero⟩ nlS nlS nlS)
 have HE := hd' (HO9.o.ast.done ⟨((⟨4, x1, (0, 0), x2, Lk.zero⟩ : Opr) : Opr).kind, (⟨4, x1, (0, 0), x2, Lk.zero⟩ : Opr), 0, 0, Cf.zero⟩ nlS nlS nlS (HO9.o.look.imp fun k _ hk => hk.1))
 go_wp2_with (first | ((with_reducible refine wpList_store_mid ?g1_10 41 ?x1_10 ?y1_10 ?o1_10 w.heap.size 0 (actC ⟨((⟨4, x1, (0, 0), x2, Lk.zero⟩ : Opr) : Opr).kind, (⟨4, x1, (0, 0), x2, Lk.zero⟩ : Opr), 0, 0, Cf.zero⟩ nlS nlS nlS) ?h1_10 ?j1_10 ?t1_10 ?i1_10 ?s1_10 ?r1_10); (case g1_10 => exact rfl); (case o1_10 => exact rfl); (case h1_10 => exact rfl); (case j1_10 => exact rfl); (case t1_10 => exact Hth.o); (case i1_10 => exact szA); (case s1_10 => exact ukj _ _ _ _ _ _ _ _ _ _)) | fail)
 obtain ⟨hE1, hE2, hE3, hE4⟩ := HE.o
 refine bpr (results_cell_row rfl _ _ w.heap.size 41 (actC ⟨((⟨4, x1, (0, 0), x2, Lk.zero⟩ : Opr) : Opr).kind, (⟨4, x1, (0, 0), x2, Lk.zero⟩ : Opr), 0, 0, Cf.zero⟩ nlS nlS nlS) (0, 0) _ rfl hE3 Tryz.underlying41 rfl szA) rfl ?_
 refine ⟨hE2, ?_⟩
 rw [Hres.o]
 exact ⟨_, n2, rfl, ⟨_, _, _, _, _, _, _, _, _, rfl, hE4⟩, hE1, rfl⟩
theorem uvu {w : World} {R : Nat} {vs : Value} {ws : List Wd} {n : Nat} (h : RdW w R vs ws n) :
  Calls Tryz.prog 81 #[.pointer (some ⟨R, 0, none⟩)] w (RP w R vs ws (VAct w.heap.size) (um2 (ws.drop n))) := by
 generalize hP : um2 (ws.drop n) = PP
 have HP := hd' hP
 have HA0 := hd' (AS.start h)
 clear hP h
 go_enter Tryz.func81, Tryz.ntmps81
 go_wp2_with fail
 refine (ul5 HA0.o.rd).mono ?_
 rintro e w1 ⟨hm1, h1⟩
 have HM1 := hd' (HA0.o.mod.trans' hm1)
 rcases hr1 : idP (ws.drop n) with _ | ⟨x1, q1⟩
 ·rw [hr1] at h1
  subst h1
  refine ⟨rfl, HM1.o, ?_⟩
  rw [← HP.o]
  simp [um2, lkA, opA, hr1]
 rw [hr1] at h1
 obtain ⟨_, n1, rfl, rfl, h1, rfl⟩ := h1
 have HA1 := hd' (HA0.o.step hm1 h1)
 have R1 := hd' hr1
 clear h1 hr1 hm1
 go_wp2_with (first | ((with_reducible show wpList _ _ _ (⟨_, Op.build _ _, _, _, _, _⟩ :: _) _ _); refine halt ?_) | fail)
 show wpList _ _ _ _ _ _
 refine uav rfl (.agg (oprC (⟨5, x1, (0, 0), 0, Lk.zero⟩ : Opr) nlS nlS nlS)) (by kernel_rfl) ?_
 simp only [Act.put, List.setIfInBounds_toArray, List.set_cons_zero, List.set_cons_succ]
 have HO1 := hd' (OS.make HA1.o (⟨5, x1, (0, 0), 0, Lk.zero⟩ : Opr) rfl)
 have hO1 : w1.heap.size = w1.heap.size := rfl
 go_wp2_with (first | ((with_reducible refine wpList_store_mid ?g1_11 37 ?x1_11 ?y1_11 ?o1_11 w1.heap.size 0 (oprC (⟨5, x1, (0, 0), 0, Lk.zero⟩ : Opr) nlS nlS nlS) ?h1_11 ?j1_11 ?t1_11 ?i1_11 ?s1_11 ?r1_11); (case g1_11 => exact rfl); (case o1_11 => exact rfl); (case h1_11 => exact rfl); (case j1_11 => exact rfl); (case t1_11 => exact OS.there); (case i1_11 => exact szO); (case s1_11 => exact uk4 _ _ _ _ _ _ _ _ _ _)) | fail)
 generalize (w1.alloc (.cells lz34 37)).setCells w1.heap.size 0 (oprC (⟨5, x1, (0, 0), 0, Lk.zero⟩ : Opr) nlS nlS nlS).toList = v1 at *
 clear hO1
 refine (uk3 HO1.o.ast.rd).mono ?_
 rintro e w2 ⟨hm2, h2⟩
 have HM2 := hd' (HO1.o.ast.mod.trans' hm2)
 rcases hr2 : numP (ws.drop n1) with _ | ⟨x2, q2⟩
 ·rw [hr2] at h2
  subst h2
  refine ⟨rfl, HM2.o, ?_⟩
  rw [← HP.o]
  simp [um2, lkA, opA, R1.o, hr2]
 rw [hr2] at h2
 obtain ⟨_, n2, rfl, rfl, h2, rfl⟩ := h2
 have HO2 := hd' (HO1.o.step hm2 h2)
 have R2 := hd' hr2
 clear h2 hr2 hm2
 have c2_6 := (HO2.o.op).cell 6 rfl
 have f2_6 := (HO2.o.op).frozen 6
 have HO2s : Hid (OS w R vs ws w1.heap.size (⟨5, x1, (0, 0), 0, { Lk.zero with dx := x2 }⟩ : Opr) nlS nlS nlS (w2.setCell ⟨w1.heap.size, 6, none⟩ (iV x2)) n2) := hd' (HO2.o.set (⟨5, x1, (0, 0), 0, { Lk.zero with dx := x2 }⟩ : Opr) nlS nlS nlS (Gou.Mod.setCell _ ⟨w1.heap.size, 6, none⟩ (iV x2)) (HO2.o.op.set 6 (iV x2)) ⟨HO2.o.look.pix, HO2.o.look.filt, HO2.o.look.back⟩)
 go_wp2_with fail
 clear c2_6 f2_6
 generalize (w2.setCell ⟨w1.heap.size, 6, none⟩ (iV x2)) = v2 at *
 refine (uk3 HO2s.o.ast.rd).mono ?_
 rintro e w3 ⟨hm3, h3⟩
 have HM3 := hd' (HO2s.o.ast.mod.trans' hm3)
 rcases hr3 : numP (ws.drop n2) with _ | ⟨x3, q3⟩
 ·rw [hr3] at h3
  subst h3
  refine ⟨rfl, HM3.o, ?_⟩
  rw [← HP.o]
  simp [um2, lkA, opA, R1.o, R2.o, hr3]
 rw [hr3] at h3
 obtain ⟨_, n3, rfl, rfl, h3, rfl⟩ := h3
 have HO3 := hd' (HO2s.o.step hm3 h3)
 have R3 := hd' hr3
 clear h3 hr3 hm3
 have c3_7 := (HO3.o.op).cell 7 rfl
 have f3_7 := (HO3.o.op).frozen 7
 have HO3s : Hid (OS w R vs ws w1.heap.size (⟨5, x1, (0, 0), 0, { Lk.zero with dx := x2, dy := x3 }⟩ : Opr) nlS nlS nlS (w3.setCell ⟨w1.heap.size, 7, none⟩ (iV x3)) n3) := hd' (HO3.o.set (⟨5, x1, (0, 0), 0, { Lk.zero with dx := x2, dy := x3 }⟩ : Opr) nlS nlS nlS (Gou.Mod.setCell _ ⟨w1.heap.size, 7, none⟩ (iV x3)) (HO3.o.op.set 7 (iV x3)) ⟨HO3.o.look.pix, HO3.o.look.filt, HO3.o.look.back⟩)
 have Hres : Hid (PP = some (lkA 5 x1 { Lk.zero with dx := x2, dy := x3 }, ws.drop n3)) := hd' (by rw [← HP.o]; simp [um2, lkA, opA, R1.o, R2.o, R3.o])
 have Hrg := hd' HO3s.o.range
 go_wp2_with (first | ((with_reducible refine wpList_load_mid ?g1_12 37 ?x1_12 ?o1_12 w1.heap.size 0 ?h1_12 (oprC (⟨5, x1, (0, 0), 0, { Lk.zero with dx := x2, dy := x3 }⟩ : Opr) nlS nlS nlS).toList ?d1_12 ?c1_12 ?u1_12 ?s1_12 ?i1_12 ?r1_12); (case g1_12 => exact rfl); (case o1_12 => exact rfl); (case h1_12 => exact rfl); (case c1_12 => exact Hrg.o); (case u1_12 => exact Tryz.underlying37); (case s1_12 => exact rfl); (case i1_12 => exact szOl)) | fail)
 clear c3_7 f3_7
 clear Hrg
 refine (ul4 _ (⟨5, x1, (0, 0), 0, { Lk.zero with dx := x2, dy := x3 }⟩ : Opr)).mono ?_
 rintro e w9 ⟨rfl, hm9⟩
 have HO9 := hd' (HO3s.o.other hm9)
 clear hm9
 have Hth := hd' (HO9.o.ast.there ⟨((⟨5, x1, (0, 0), 0, { Lk.zero with dx := x2, dy := x3 }⟩ : Opr) : Opr).kind, (⟨5, x1, (0, 0), 0, { Lk.zero with dx := x2, dy := x3 }⟩ : Opr), 0, 0, Cf.zero⟩ nlS nlS nlS)
 have HE := hd' (HO9.o.ast.done ⟨((⟨5, x1, (0, 0), 0, { Lk.zero with dx := x2, dy := x3 }⟩ : Opr) : Opr).kind, (⟨5, x1, (0, 0), 0, { Lk.zero with dx := x2, dy := x3 }⟩ : Opr), 0, 0, Cf.zero⟩ nlS nlS nlS (HO9.o.look.imp fun k _ hk => hk.1))
 go_wp2_with (first | ((with_reducible refine wpList_store_mid ?g1_13 41 ?x1_13 ?y1_13 ?o1_13 w.heap.size 0 (actC ⟨((⟨5, x1, (0, 0), 0, { Lk.zero with dx := x2, dy := x3 }⟩ : Opr) : Opr).kind, (⟨5, x1, (0, 0), 0, { Lk.zero with dx := x2, dy := x3 }⟩ : Opr), 0, 0, Cf.zero⟩ nlS nlS nlS) ?h1_13 ?j1_13 ?t1_13 ?i1_13 ?s1_13 ?r1_13); (case g1_13 => exact rfl); (case o1_13 => exact rfl); (case h1_13 => exact rfl); (case j1_13 => exact rfl); (case t1_13 => exact Hth.o); (case i1_13 => exact szA); (case s1_13 => exact ukj _ _ _ _ _ _ _ _ _ _)) | fail)
 obtain ⟨hE1, hE2, hE3, hE4⟩ := HE.o
 refine bpr (results_cell_row rfl _ _ w.heap.size 41 (actC ⟨((⟨5, x1, (0, 0), 0, { Lk.zero with dx := x2, dy := x3 }⟩ : Opr) : Opr).kind, (⟨5, x1, (0, 0), 0, { Lk.zero with dx := x2, dy := x3 }⟩ : Opr), 0, 0, Cf.zero⟩ nlS nlS nlS) (0, 0) _ rfl hE3 Tryz.underlying41 rfl szA) rfl ?_
 refine ⟨hE2, ?_⟩
 rw [Hres.o]
 exact ⟨_, n3, rfl, ⟨_, _, _, _, _, _, _, _, _, rfl, hE4⟩, hE1, rfl⟩
theorem tfade_any {w : World} {R : Nat} {vs : Value} {ws : List Wd} {n : Nat} (h : RdW w R vs ws n) :
  Calls Tryz.prog 83 #[.pointer (some ⟨R, 0, none⟩)] w (RP w R vs ws (VAct w.heap.size) (uqg (ws.drop n))) := by
 generalize hP : uqg (ws.drop n) = PP
 have HP := hd' hP
 have HA0 := hd' (AS.start h)
 clear hP h
 go_enter Tryz.func83, Tryz.ntmps83
 go_wp2_with fail
 refine (ul5 HA0.o.rd).mono ?_
 rintro e w1 ⟨hm1, h1⟩
 have HM1 := hd' (HA0.o.mod.trans' hm1)
 rcases hr1 : idP (ws.drop n) with _ | ⟨x1, q1⟩
 ·rw [hr1] at h1
  subst h1
  refine ⟨rfl, HM1.o, ?_⟩
  rw [← HP.o]
  simp [uqg, lkA, opA, hr1]
 rw [hr1] at h1
 obtain ⟨_, n1, rfl, rfl, h1, rfl⟩ := h1
 have HA1 := hd' (HA0.o.step hm1 h1)
 have R1 := hd' hr1
 clear h1 hr1 hm1
 go_wp2_with (first | ((with_reducible show wpList _ _ _ (⟨_, Op.build _ _, _, _, _, _⟩ :: _) _ _); refine halt ?_) | fail)
 show wpList _ _ _ _ _ _
 refine uav rfl (.agg (oprC (⟨7, x1, (0, 0), 0, Lk.zero⟩ : Opr) nlS nlS nlS)) (by kernel_rfl) ?_
 simp only [Act.put, List.setIfInBounds_toArray, List.set_cons_zero, List.set_cons_succ]
 have HO1 := hd' (OS.make HA1.o (⟨7, x1, (0, 0), 0, Lk.zero⟩ : Opr) rfl)
 have hO1 : w1.heap.size = w1.heap.size := rfl
 go_wp2_with (first | ((with_reducible refine wpList_store_mid ?g1_14 37 ?x1_14 ?y1_14 ?o1_14 w1.heap.size 0 (oprC (⟨7, x1, (0, 0), 0, Lk.zero⟩ : Opr) nlS nlS nlS) ?h1_14 ?j1_14 ?t1_14 ?i1_14 ?s1_14 ?r1_14); (case g1_14 => exact rfl); (case o1_14 => exact rfl); (case h1_14 => exact rfl); (case j1_14 => exact rfl); (case t1_14 => exact OS.there); (case i1_14 => exact szO); (case s1_14 => exact uk4 _ _ _ _ _ _ _ _ _ _)) | fail)
 generalize (w1.alloc (.cells lz34 37)).setCells w1.heap.size 0 (oprC (⟨7, x1, (0, 0), 0, Lk.zero⟩ : Opr) nlS nlS nlS).toList = v1 at *
 clear hO1
 refine (uk3 HO1.o.ast.rd).mono ?_
 rintro e w2 ⟨hm2, h2⟩
 have HM2 := hd' (HO1.o.ast.mod.trans' hm2)
 rcases hr2 : numP (ws.drop n1) with _ | ⟨x2, q2⟩
 ·rw [hr2] at h2
  subst h2
  refine ⟨rfl, HM2.o, ?_⟩
  rw [← HP.o]
  simp [uqg, lkA, opA, R1.o, hr2]
 rw [hr2] at h2
 obtain ⟨_, n2, rfl, rfl, h2, rfl⟩ := h2
 have HO2 := hd' (HO1.o.step hm2 h2)
 have R2 := hd' hr2
 clear h2 hr2 hm2
 have c2_13 := (HO2.o.op).cell 13 rfl
 have f2_13 := (HO2.o.op).frozen 13
 have HO2s : Hid (OS w R vs ws w1.heap.size (⟨7, x1, (0, 0), 0, { Lk.zero with opacity := x2 }⟩ : Opr) nlS nlS nlS (w2.setCell ⟨w1.heap.size, 13, none⟩ (iV x2)) n2) := hd' (HO2.o.set (⟨7, x1, (0, 0), 0, { Lk.zero with opacity := x2 }⟩ : Opr) nlS nlS nlS (Gou.Mod.setCell _ ⟨w1.heap.size, 13, none⟩ (iV x2)) (HO2.o.op.set 13 (iV x2)) ⟨HO2.o.look.pix, HO2.o.look.filt, HO2.o.look.back⟩)
 have Hres : Hid (PP = some (lkA 7 x1 { Lk.zero with opacity := x2 }, ws.drop n2)) := hd' (by rw [← HP.o]; simp [uqg, lkA, opA, R1.o, R2.o])
 have Hrg := hd' HO2s.o.range
 go_wp2_with (first | ((with_reducible refine wpList_load_mid ?g1_15 37 ?x1_15 ?o1_15 w1.heap.size 0 ?h1_15 (oprC (⟨7, x1, (0, 0), 0, { Lk.zero with opacity := x2 }⟩ : Opr) nlS nlS nlS).toList ?d1_15 ?c1_15 ?u1_15 ?s1_15 ?i1_15 ?r1_15); (case g1_15 => exact rfl); (case o1_15 => exact rfl); (case h1_15 => exact rfl); (case c1_15 => exact Hrg.o); (case u1_15 => exact Tryz.underlying37); (case s1_15 => exact rfl); (case i1_15 => exact szOl)) | fail)
 clear c2_13 f2_13
 clear Hrg
 refine (ul4 _ (⟨7, x1, (0, 0), 0, { Lk.zero with opacity := x2 }⟩ : Opr)).mono ?_
 rintro e w9 ⟨rfl, hm9⟩
 have HO9 := hd' (HO2s.o.other hm9)
 clear hm9
 have Hth := hd' (HO9.o.ast.there ⟨((⟨7, x1, (0, 0), 0, { Lk.zero with opacity := x2 }⟩ : Opr) : Opr).kind, (⟨7, x1, (0, 0), 0, { Lk.zero with opacity := x2 }⟩ : Opr), 0, 0, Cf.zero⟩ nlS nlS nlS)
 have HE := hd' (HO9.o.ast.done ⟨((⟨7, x1, (0, 0), 0, { Lk.zero with opacity := x2 }⟩ : Opr) : Opr).kind, (⟨7, x1, (0, 0), 0, { Lk.zero with opacity := x2 }⟩ : Opr), 0, 0, Cf.zero⟩ nlS nlS nlS (HO9.o.look.imp fun k _ hk => hk.1))
 go_wp2_with (first | ((with_reducible refine wpList_store_mid ?g1_16 41 ?x1_16 ?y1_16 ?o1_16 w.heap.size 0 (actC ⟨((⟨7, x1, (0, 0), 0, { Lk.zero with opacity := x2 }⟩ : Opr) : Opr).kind, (⟨7, x1, (0, 0), 0, { Lk.zero with opacity := x2 }⟩ : Opr), 0, 0, Cf.zero⟩ nlS nlS nlS) ?h1_16 ?j1_16 ?t1_16 ?i1_16 ?s1_16 ?r1_16); (case g1_16 => exact rfl); (case o1_16 => exact rfl); (case h1_16 => exact rfl); (case j1_16 => exact rfl); (case t1_16 => exact Hth.o); (case i1_16 => exact szA); (case s1_16 => exact ukj _ _ _ _ _ _ _ _ _ _)) | fail)
 obtain ⟨hE1, hE2, hE3, hE4⟩ := HE.o
 refine bpr (results_cell_row rfl _ _ w.heap.size 41 (actC ⟨((⟨7, x1, (0, 0), 0, { Lk.zero with opacity := x2 }⟩ : Opr) : Opr).kind, (⟨7, x1, (0, 0), 0, { Lk.zero with opacity := x2 }⟩ : Opr), 0, 0, Cf.zero⟩ nlS nlS nlS) (0, 0) _ rfl hE3 Tryz.underlying41 rfl szA) rfl ?_
 refine ⟨hE2, ?_⟩
 rw [Hres.o]
 exact ⟨_, n2, rfl, ⟨_, _, _, _, _, _, _, _, _, rfl, hE4⟩, hE1, rfl⟩
theorem tmode_any {w : World} {R : Nat} {vs : Value} {ws : List Wd} {n : Nat} (h : RdW w R vs ws n) :
  Calls Tryz.prog 84 #[.pointer (some ⟨R, 0, none⟩)] w (RP w R vs ws (VAct w.heap.size) (up4 (ws.drop n))) := by
 generalize hP : up4 (ws.drop n) = PP
 have HP := hd' hP
 have HA0 := hd' (AS.start h)
 clear hP h
 go_enter Tryz.func84, Tryz.ntmps84
 go_wp2_with fail
 refine (ul5 HA0.o.rd).mono ?_
 rintro e w1 ⟨hm1, h1⟩
 have HM1 := hd' (HA0.o.mod.trans' hm1)
 rcases hr1 : idP (ws.drop n) with _ | ⟨x1, q1⟩
 ·rw [hr1] at h1
  subst h1
  refine ⟨rfl, HM1.o, ?_⟩
  rw [← HP.o]
  simp [up4, lkA, opA, hr1]
 rw [hr1] at h1
 obtain ⟨_, n1, rfl, rfl, h1, rfl⟩ := h1
 have HA1 := hd' (HA0.o.step hm1 h1)
 have R1 := hd' hr1
 clear h1 hr1 hm1
 go_wp2_with (first | ((with_reducible show wpList _ _ _ (⟨_, Op.build _ _, _, _, _, _⟩ :: _) _ _); refine halt ?_) | fail)
 show wpList _ _ _ _ _ _
 refine uav rfl (.agg (oprC (⟨8, x1, (0, 0), 0, Lk.zero⟩ : Opr) nlS nlS nlS)) (by kernel_rfl) ?_
 simp only [Act.put, List.setIfInBounds_toArray, List.set_cons_zero, List.set_cons_succ]
 have HO1 := hd' (OS.make HA1.o (⟨8, x1, (0, 0), 0, Lk.zero⟩ : Opr) rfl)
 have hO1 : w1.heap.size = w1.heap.size := rfl
 go_wp2_with (first | ((with_reducible refine wpList_store_mid ?g1_17 37 ?x1_17 ?y1_17 ?o1_17 w1.heap.size 0 (oprC (⟨8, x1, (0, 0), 0, Lk.zero⟩ : Opr) nlS nlS nlS) ?h1_17 ?j1_17 ?t1_17 ?i1_17 ?s1_17 ?r1_17); (case g1_17 => exact rfl); (case o1_17 => exact rfl); (case h1_17 => exact rfl); (case j1_17 => exact rfl); (case t1_17 => exact OS.there); (case i1_17 => exact szO); (case s1_17 => exact uk4 _ _ _ _ _ _ _ _ _ _)) | fail)
 generalize (w1.alloc (.cells lz34 37)).setCells w1.heap.size 0 (oprC (⟨8, x1, (0, 0), 0, Lk.zero⟩ : Opr) nlS nlS nlS).toList = v1 at *
 clear hO1
 refine (uk3 HO1.o.ast.rd).mono ?_
 rintro e w2 ⟨hm2, h2⟩
 have HM2 := hd' (HO1.o.ast.mod.trans' hm2)
 rcases hr2 : numP (ws.drop n1) with _ | ⟨x2, q2⟩
 ·rw [hr2] at h2
  subst h2
  refine ⟨rfl, HM2.o, ?_⟩
  rw [← HP.o]
  simp [up4, lkA, opA, R1.o, hr2]
 rw [hr2] at h2
 obtain ⟨_, n2, rfl, rfl, h2, rfl⟩ := h2
 have HO2 := hd' (HO1.o.step hm2 h2)
 have R2 := hd' hr2
 clear h2 hr2 hm2
 have c2_14 := (HO2.o.op).cell 14 rfl
 have f2_14 := (HO2.o.op).frozen 14
 have HO2s : Hid (OS w R vs ws w1.heap.size (⟨8, x1, (0, 0), 0, { Lk.zero with mode := x2 }⟩ : Opr) nlS nlS nlS (w2.setCell ⟨w1.heap.size, 14, none⟩ (iV x2)) n2) := hd' (HO2.o.set (⟨8, x1, (0, 0), 0, { Lk.zero with mode := x2 }⟩ : Opr) nlS nlS nlS (Gou.Mod.setCell _ ⟨w1.heap.size, 14, none⟩ (iV x2)) (HO2.o.op.set 14 (iV x2)) ⟨HO2.o.look.pix, HO2.o.look.filt, HO2.o.look.back⟩)
 have Hres : Hid (PP = some (lkA 8 x1 { Lk.zero with mode := x2 }, ws.drop n2)) := hd' (by rw [← HP.o]; simp [up4, lkA, opA, R1.o, R2.o])
 have Hrg := hd' HO2s.o.range
 go_wp2_with (first | ((with_reducible refine wpList_load_mid ?g1_18 37 ?x1_18 ?o1_18 w1.heap.size 0 ?h1_18 (oprC (⟨8, x1, (0, 0), 0, { Lk.zero with mode := x2 }⟩ : Opr) nlS nlS nlS).toList ?d1_18 ?c1_18 ?u1_18 ?s1_18 ?i1_18 ?r1_18); (case g1_18 => exact rfl); (case o1_18 => exact rfl); (case h1_18 => exact rfl); (case c1_18 => exact Hrg.o); (case u1_18 => exact Tryz.underlying37); (case s1_18 => exact rfl); (case i1_18 => exact szOl)) | fail)
 clear c2_14 f2_14
 clear Hrg
 refine (ul4 _ (⟨8, x1, (0, 0), 0, { Lk.zero with mode := x2 }⟩ : Opr)).mono ?_
 rintro e w9 ⟨rfl, hm9⟩
 have HO9 := hd' (HO2s.o.other hm9)
 clear hm9
 have Hth := hd' (HO9.o.ast.there ⟨((⟨8, x1, (0, 0), 0, { Lk.zero with mode := x2 }⟩ : Opr) : Opr).kind, (⟨8, x1, (0, 0), 0, { Lk.zero with mode := x2 }⟩ : Opr), 0, 0, Cf.zero⟩ nlS nlS nlS)
 have HE := hd' (HO9.o.ast.done ⟨((⟨8, x1, (0, 0), 0, { Lk.zero with mode := x2 }⟩ : Opr) : Opr).kind, (⟨8, x1, (0, 0), 0, { Lk.zero with mode := x2 }⟩ : Opr), 0, 0, Cf.zero⟩ nlS nlS nlS (HO9.o.look.imp fun k _ hk => hk.1))
 go_wp2_with (first | ((with_reducible refine wpList_store_mid ?g1_19 41 ?x1_19 ?y1_19 ?o1_19 w.heap.size 0 (actC ⟨((⟨8, x1, (0, 0), 0, { Lk.zero with mode := x2 }⟩ : Opr) : Opr).kind, (⟨8, x1, (0, 0), 0, { Lk.zero with mode := x2 }⟩ : Opr), 0, 0, Cf.zero⟩ nlS nlS nlS) ?h1_19 ?j1_19 ?t1_19 ?i1_19 ?s1_19 ?r1_19); (case g1_19 => exact rfl); (case o1_19 => exact rfl); (case h1_19 => exact rfl); (case j1_19 => exact rfl); (case t1_19 => exact Hth.o); (case i1_19 => exact szA); (case s1_19 => exact ukj _ _ _ _ _ _ _ _ _ _)) | fail)
 obtain ⟨hE1, hE2, hE3, hE4⟩ := HE.o
 refine bpr (results_cell_row rfl _ _ w.heap.size 41 (actC ⟨((⟨8, x1, (0, 0), 0, { Lk.zero with mode := x2 }⟩ : Opr) : Opr).kind, (⟨8, x1, (0, 0), 0, { Lk.zero with mode := x2 }⟩ : Opr), 0, 0, Cf.zero⟩ nlS nlS nlS) (0, 0) _ rfl hE3 Tryz.underlying41 rfl szA) rfl ?_
 refine ⟨hE2, ?_⟩
 rw [Hres.o]
 exact ⟨_, n2, rfl, ⟨_, _, _, _, _, _, _, _, _, rfl, hE4⟩, hE1, rfl⟩
theorem thide_any {w : World} {R : Nat} {vs : Value} {ws : List Wd} {n : Nat} (h : RdW w R vs ws n) :
  Calls Tryz.prog 85 #[.pointer (some ⟨R, 0, none⟩)] w (RP w R vs ws (VAct w.heap.size) (uqp (ws.drop n))) := by
 generalize hP : uqp (ws.drop n) = PP
 have HP := hd' hP
 have HA0 := hd' (AS.start h)
 clear hP h
 go_enter Tryz.func85, Tryz.ntmps85
 go_wp2_with fail
 refine (ul5 HA0.o.rd).mono ?_
 rintro e w1 ⟨hm1, h1⟩
 have HM1 := hd' (HA0.o.mod.trans' hm1)
 rcases hr1 : idP (ws.drop n) with _ | ⟨x1, q1⟩
 ·rw [hr1] at h1
  subst h1
  refine ⟨rfl, HM1.o, ?_⟩
  rw [← HP.o]
  simp [uqp, lkA, opA, hr1]
 rw [hr1] at h1
 obtain ⟨_, n1, rfl, rfl, h1, rfl⟩ := h1
 have HA1 := hd' (HA0.o.step hm1 h1)
 have R1 := hd' hr1
 clear h1 hr1 hm1
 have Hres : Hid (PP = some (lkA 9 x1 Lk.zero, ws.drop n1)) := hd' (by rw [← HP.o]; simp [uqp, lkA, opA, R1.o])
 go_wp2_with (first | ((with_reducible show wpList _ _ _ (⟨_, Op.build _ _, _, _, _, _⟩ :: _) _ _); refine halt ?_) | fail)
 show wpList _ _ _ _ _ _
 refine uav rfl (.agg (oprC (⟨9, x1, (0, 0), 0, Lk.zero⟩ : Opr) nlS nlS nlS)) (by kernel_rfl) ?_
 simp only [Act.put, List.setIfInBounds_toArray, List.set_cons_zero, List.set_cons_succ]
 go_wp2_with fail
 refine (ul4 _ (⟨9, x1, (0, 0), 0, Lk.zero⟩ : Opr)).mono ?_
 rintro e w9 ⟨rfl, hm9⟩
 have HA9 := hd' (HA1.o.other hm9 (fun _ h => h.elim))
 clear hm9
 have Hth := hd' (HA9.o.there ⟨((⟨9, x1, (0, 0), 0, Lk.zero⟩ : Opr) : Opr).kind, (⟨9, x1, (0, 0), 0, Lk.zero⟩ : Opr), 0, 0, Cf.zero⟩ nlS nlS nlS)
 have HE := hd' (HA9.o.done ⟨((⟨9, x1, (0, 0), 0, Lk.zero⟩ : Opr) : Opr).kind, (⟨9, x1, (0, 0), 0, Lk.zero⟩ : Opr), 0, 0, Cf.zero⟩ nlS nlS nlS (umm _ _))
 go_wp2_with (first | ((with_reducible refine wpList_store_mid ?g1_20 41 ?x1_20 ?y1_20 ?o1_20 w.heap.size 0 (actC ⟨((⟨9, x1, (0, 0), 0, Lk.zero⟩ : Opr) : Opr).kind, (⟨9, x1, (0, 0), 0, Lk.zero⟩ : Opr), 0, 0, Cf.zero⟩ nlS nlS nlS) ?h1_20 ?j1_20 ?t1_20 ?i1_20 ?s1_20 ?r1_20); (case g1_20 => exact rfl); (case o1_20 => exact rfl); (case h1_20 => exact rfl); (case j1_20 => exact rfl); (case t1_20 => exact Hth.o); (case i1_20 => exact szA); (case s1_20 => exact ukj _ _ _ _ _ _ _ _ _ _)) | fail)
 obtain ⟨hE1, hE2, hE3, hE4⟩ := HE.o
 refine bpr (results_cell_row rfl _ _ w.heap.size 41 (actC ⟨((⟨9, x1, (0, 0), 0, Lk.zero⟩ : Opr) : Opr).kind, (⟨9, x1, (0, 0), 0, Lk.zero⟩ : Opr), 0, 0, Cf.zero⟩ nlS nlS nlS) (0, 0) _ rfl hE3 Tryz.underlying41 rfl szA) rfl ?_
 refine ⟨hE2, ?_⟩
 rw [Hres.o]
 exact ⟨_, n1, rfl, ⟨_, _, _, _, _, _, _, _, _, rfl, hE4⟩, hE1, rfl⟩
theorem szC {o : Ct} {a : Value} : (Tryz.prog.info? 30).map (·.size) = some (uak o a).size := sz_contT.trans (by simp [uak])
theorem uuc (o : Opr) (c : Ct) (vp vq vf vb : Value) : uao (oprC o vp vf vb) 15 (uak c vq).toList = oprC ⟨o.kind, o.id, o.to, o.at_, { o.look with content := c }⟩ vq vf vb := by kernel_rfl
theorem Blk.content {w : World} {b : Nat} {T : TypeId} {o : Opr} {vp vf vb : Value} (h : Blk w b T (oprC o vp vf vb)) (c : Ct) (vq : Value) : Blk (w.setCells b 15 (uak c vq).toList) b T (oprC ⟨o.kind, o.id, o.to, o.at_, { o.look with content := c }⟩ vq vf vb) := by
 have := h.sets 15 (uak c vq).toList
 rwa [uuc] at this
theorem tcut_any {w : World} {R : Nat} {vs : Value} {ws : List Wd} {n : Nat} (h : RdW w R vs ws n) :
  Calls Tryz.prog 82 #[.pointer (some ⟨R, 0, none⟩)] w (RP w R vs ws (VAct w.heap.size) (cutP (ws.drop n))) := by
 generalize hP : cutP (ws.drop n) = PP
 have HP := hd' hP
 have HA0 := hd' (AS.start h)
 clear hP h
 go_enter Tryz.func82, Tryz.ntmps82
 go_wp2_with fail
 refine (ul5 HA0.o.rd).mono ?_
 rintro e w1 ⟨hm1, h1⟩
 have HM1 := hd' (HA0.o.mod.trans' hm1)
 rcases hr1 : idP (ws.drop n) with _ | ⟨x1, q1⟩
 ·rw [hr1] at h1
  subst h1
  refine ⟨rfl, HM1.o, ?_⟩
  rw [← HP.o]
  simp [cutP, lkA, opA, hr1]
 rw [hr1] at h1
 obtain ⟨_, n1, rfl, rfl, h1, rfl⟩ := h1
 have HA1 := hd' (HA0.o.step hm1 h1)
 have R1 := hd' hr1
 clear h1 hr1 hm1
 go_wp2_with (first | ((with_reducible show wpList _ _ _ (⟨_, Op.build _ _, _, _, _, _⟩ :: _) _ _); refine halt ?_) | fail)
 show wpList _ _ _ _ _ _
 refine uav rfl (.agg (oprC (⟨6, x1, (0, 0), 0, Lk.zero⟩ : Opr) nlS nlS nlS)) (by kernel_rfl) ?_
 simp only [Act.put, List.setIfInBounds_toArray, List.set_cons_zero, List.set_cons_succ]
 have HO1 := hd' (OS.make HA1.o (⟨6, x1, (0, 0), 0, Lk.zero⟩ : Opr) rfl)
 have hO1 : w1.heap.size = w1.heap.size := rfl
 go_wp2_with (first | ((with_reducible refine wpList_store_mid ?g1_1 37 ?x1_1 ?y1_1 ?o1_1 w1.heap.size 0 (oprC (⟨6, x1, (0, 0), 0, Lk.zero⟩ : Opr) nlS nlS nlS) ?h1_1 ?j1_1 ?t1_1 ?i1_1 ?s1_1 ?r1_1); (case g1_1 => exact rfl); (case o1_1 => exact rfl); (case h1_1 => exact rfl); (case j1_1 => exact rfl); (case t1_1 => exact OS.there); (case i1_1 => exact szO); (case s1_1 => exact uk4 _ _ _ _ _ _ _ _ _ _)) | fail)
 generalize (w1.alloc (.cells lz34 37)).setCells w1.heap.size 0 (oprC (⟨6, x1, (0, 0), 0, Lk.zero⟩ : Opr) nlS nlS nlS).toList = v1 at *
 clear hO1
 refine (unq HO1.o.ast.rd wOff).mono ?_
 rintro e w2 ⟨rfl, ⟨n2, h2, hd2⟩, hm2⟩
 have HO2 := hd' (HO1.o.step hm2 h2)
 clear h2 hm2
 by_cases hh : (ws.drop n1).head? = some wOff
 ·skip
  rw [dqt hh]
  rw [if_pos hh] at hd2
  have Hd2 := hd' hd2
  have Hh := hd' hh
  clear hd2 hh
  have Hres : Hid (PP = some (lkA 6 x1 Lk.zero, ws.drop n2)) := hd' (by rw [← HP.o, cutP, R1.o]; simp only [Option.bind_some]; rw [if_pos Hh.o, ← Hd2.o])
  have Hrg := hd' HO2.o.range
  go_wp2_with (first | ((with_reducible refine wpList_load_mid ?g1_2 37 ?x1_2 ?o1_2 w1.heap.size 0 ?h1_2 (oprC (⟨6, x1, (0, 0), 0, Lk.zero⟩ : Opr) nlS nlS nlS).toList ?d1_2 ?c1_2 ?u1_2 ?s1_2 ?i1_2 ?r1_2); (case g1_2 => exact rfl); (case o1_2 => exact rfl); (case h1_2 => exact rfl); (case c1_2 => exact Hrg.o); (case u1_2 => exact Tryz.underlying37); (case s1_2 => exact rfl); (case i1_2 => exact szOl)) | fail)
  clear Hrg
  refine (ul4 _ (⟨6, x1, (0, 0), 0, Lk.zero⟩ : Opr)).mono ?_
  rintro e w9 ⟨rfl, hm9⟩
  have HO9 := hd' (HO2.o.other hm9)
  clear hm9
  have Hth := hd' (HO9.o.ast.there ⟨((⟨6, x1, (0, 0), 0, Lk.zero⟩ : Opr) : Opr).kind, (⟨6, x1, (0, 0), 0, Lk.zero⟩ : Opr), 0, 0, Cf.zero⟩ nlS nlS nlS)
  have HE := hd' (HO9.o.ast.done ⟨((⟨6, x1, (0, 0), 0, Lk.zero⟩ : Opr) : Opr).kind, (⟨6, x1, (0, 0), 0, Lk.zero⟩ : Opr), 0, 0, Cf.zero⟩ nlS nlS nlS (HO9.o.look.imp fun k _ hk => hk.1))
  go_wp2_with (first | ((with_reducible refine wpList_store_mid ?g1_3 41 ?x1_3 ?y1_3 ?o1_3 w.heap.size 0 (actC ⟨((⟨6, x1, (0, 0), 0, Lk.zero⟩ : Opr) : Opr).kind, (⟨6, x1, (0, 0), 0, Lk.zero⟩ : Opr), 0, 0, Cf.zero⟩ nlS nlS nlS) ?h1_3 ?j1_3 ?t1_3 ?i1_3 ?s1_3 ?r1_3); (case g1_3 => exact rfl); (case o1_3 => exact rfl); (case h1_3 => exact rfl); (case j1_3 => exact rfl); (case t1_3 => exact Hth.o); (case i1_3 => exact szA); (case s1_3 => exact ukj _ _ _ _ _ _ _ _ _ _)) | fail)
  obtain ⟨hE1, hE2, hE3, hE4⟩ := HE.o
  refine bpr (results_cell_row rfl _ _ w.heap.size 41 (actC ⟨((⟨6, x1, (0, 0), 0, Lk.zero⟩ : Opr) : Opr).kind, (⟨6, x1, (0, 0), 0, Lk.zero⟩ : Opr), 0, 0, Cf.zero⟩ nlS nlS nlS) (0, 0) _ rfl hE3 Tryz.underlying41 rfl szA) rfl ?_
  refine ⟨hE2, ?_⟩
  rw [Hres.o]
  exact ⟨_, n2, rfl, ⟨_, _, _, _, _, _, _, _, _, rfl, hE4⟩, hE1, rfl⟩
 ·skip
  rw [dqf hh]
  rw [if_neg hh] at hd2
  have HP2 : Hid ((boxP (ws.drop n2)).map (fun b => (lkA 6 x1 { Lk.zero with hasClip := true, clip := b.1 }, b.2)) = PP) := hd' (by rw [← HP.o, cutP, R1.o]; simp only [Option.bind_some]; rw [if_neg hh, hd2])
  clear hd2 hh HP
  have HP := HP2
  clear HP2
  have c2_8 := (HO2.o.op).cell 8 rfl
  have f2_8 := (HO2.o.op).frozen 8
  have HO2s : Hid (OS w R vs ws w1.heap.size (⟨6, x1, (0, 0), 0, { Lk.zero with hasClip := true }⟩ : Opr) nlS nlS nlS (w2.setCell ⟨w1.heap.size, 8, none⟩ (.bool true)) n2) := hd' (HO2.o.set (⟨6, x1, (0, 0), 0, { Lk.zero with hasClip := true }⟩ : Opr) nlS nlS nlS (Gou.Mod.setCell _ ⟨w1.heap.size, 8, none⟩ (.bool true)) (HO2.o.op.set 8 (.bool true)) ⟨HO2.o.look.pix, HO2.o.look.filt, HO2.o.look.back⟩)
  go_wp2_with fail
  clear c2_8 f2_8
  generalize (w2.setCell ⟨w1.heap.size, 8, none⟩ (.bool true)) = v2 at *
  refine (uuv HO2s.o.ast.rd).mono ?_
  rintro e w3 ⟨hm3, h3⟩
  have HM3 := hd' (HO2s.o.ast.mod.trans' hm3)
  rcases hr3 : boxP (ws.drop n2) with _ | ⟨x3, q3⟩
  ·rw [hr3] at h3
   subst h3
   refine ⟨rfl, HM3.o, ?_⟩
   rw [← HP.o]
   simp [lkA, opA, hr3]
  rw [hr3] at h3
  obtain ⟨_, n3, rfl, rfl, h3, rfl⟩ := h3
  have HO3 := hd' (HO2s.o.step hm3 h3)
  have R3 := hd' hr3
  clear h3 hr3 hm3
  have c3_9 := (HO3.o.op).cell 9 rfl
  have f3_9 := (HO3.o.op).frozen 9
  have c3_10 := (HO3.o.op.set 9 (iV x3.x0)).cell 10 rfl
  have f3_10 := (HO3.o.op.set 9 (iV x3.x0)).frozen 10
  have c3_11 := ((HO3.o.op.set 9 (iV x3.x0)).set 10 (iV x3.y0)).cell 11 rfl
  have f3_11 := ((HO3.o.op.set 9 (iV x3.x0)).set 10 (iV x3.y0)).frozen 11
  have c3_12 := (((HO3.o.op.set 9 (iV x3.x0)).set 10 (iV x3.y0)).set 11 (iV x3.x1)).cell 12 rfl
  have f3_12 := (((HO3.o.op.set 9 (iV x3.x0)).set 10 (iV x3.y0)).set 11 (iV x3.x1)).frozen 12
  have HO3s : Hid (OS w R vs ws w1.heap.size (⟨6, x1, (0, 0), 0, { Lk.zero with hasClip := true, clip := x3 }⟩ : Opr) nlS nlS nlS ((((w3.setCell ⟨w1.heap.size, 9, none⟩ (iV x3.x0)).setCell ⟨w1.heap.size, 10, none⟩ (iV x3.y0)).setCell ⟨w1.heap.size, 11, none⟩ (iV x3.x1)).setCell ⟨w1.heap.size, 12, none⟩ (iV x3.y1)) n3) := hd' (HO3.o.set (⟨6, x1, (0, 0), 0, { Lk.zero with hasClip := true, clip := x3 }⟩ : Opr) nlS nlS nlS ((((Gou.Mod.setCell _ ⟨w1.heap.size, 9, none⟩ (iV x3.x0)).trans' (Gou.Mod.setCell _ ⟨w1.heap.size, 10, none⟩ (iV x3.y0))).trans' (Gou.Mod.setCell _ ⟨w1.heap.size, 11, none⟩ (iV x3.x1))).trans' (Gou.Mod.setCell _ ⟨w1.heap.size, 12, none⟩ (iV x3.y1))) ((((HO3.o.op.set 9 (iV x3.x0)).set 10 (iV x3.y0)).set 11 (iV x3.x1)).set 12 (iV x3.y1)) ⟨HO3.o.look.pix, HO3.o.look.filt, HO3.o.look.back⟩)
  have Hres : Hid (PP = some (lkA 6 x1 { Lk.zero with hasClip := true, clip := x3 }, ws.drop n3)) := hd' (by rw [← HP.o]; simp [lkA, opA, R3.o])
  have Hrg := hd' HO3s.o.range
  go_wp2_with (first | ((with_reducible refine wpList_load_mid ?g1_4 37 ?x1_4 ?o1_4 w1.heap.size 0 ?h1_4 (oprC (⟨6, x1, (0, 0), 0, { Lk.zero with hasClip := true, clip := x3 }⟩ : Opr) nlS nlS nlS).toList ?d1_4 ?c1_4 ?u1_4 ?s1_4 ?i1_4 ?r1_4); (case g1_4 => exact rfl); (case o1_4 => exact rfl); (case h1_4 => exact rfl); (case c1_4 => exact Hrg.o); (case u1_4 => exact Tryz.underlying37); (case s1_4 => exact rfl); (case i1_4 => exact szOl)) | fail)
  clear c3_9 f3_9 c3_10 f3_10 c3_11 f3_11 c3_12 f3_12
  clear Hrg
  refine (ul4 _ (⟨6, x1, (0, 0), 0, { Lk.zero with hasClip := true, clip := x3 }⟩ : Opr)).mono ?_
  rintro e w9 ⟨rfl, hm9⟩
  have HO9 := hd' (HO3s.o.other hm9)
  clear hm9
  have Hth := hd' (HO9.o.ast.there ⟨((⟨6, x1, (0, 0), 0, { Lk.zero with hasClip := true, clip := x3 }⟩ : Opr) : Opr).kind, (⟨6, x1, (0, 0), 0, { Lk.zero with hasClip := true, clip := x3 }⟩ : Opr), 0, 0, Cf.zero⟩ nlS nlS nlS)
  have HE := hd' (HO9.o.ast.done ⟨((⟨6, x1, (0, 0), 0, { Lk.zero with hasClip := true, clip := x3 }⟩ : Opr) : Opr).kind, (⟨6, x1, (0, 0), 0, { Lk.zero with hasClip := true, clip := x3 }⟩ : Opr), 0, 0, Cf.zero⟩ nlS nlS nlS (HO9.o.look.imp fun k _ hk => hk.1))
  go_wp2_with (first | ((with_reducible refine wpList_store_mid ?g1_5 41 ?x1_5 ?y1_5 ?o1_5 w.heap.size 0 (actC ⟨((⟨6, x1, (0, 0), 0, { Lk.zero with hasClip := true, clip := x3 }⟩ : Opr) : Opr).kind, (⟨6, x1, (0, 0), 0, { Lk.zero with hasClip := true, clip := x3 }⟩ : Opr), 0, 0, Cf.zero⟩ nlS nlS nlS) ?h1_5 ?j1_5 ?t1_5 ?i1_5 ?s1_5 ?r1_5); (case g1_5 => exact rfl); (case o1_5 => exact rfl); (case h1_5 => exact rfl); (case j1_5 => exact rfl); (case t1_5 => exact Hth.o); (case i1_5 => exact szA); (case s1_5 => exact ukj _ _ _ _ _ _ _ _ _ _)) | fail)
  obtain ⟨hE1, hE2, hE3, hE4⟩ := HE.o
  refine bpr (results_cell_row rfl _ _ w.heap.size 41 (actC ⟨((⟨6, x1, (0, 0), 0, { Lk.zero with hasClip := true, clip := x3 }⟩ : Opr) : Opr).kind, (⟨6, x1, (0, 0), 0, { Lk.zero with hasClip := true, clip := x3 }⟩ : Opr), 0, 0, Cf.zero⟩ nlS nlS nlS) (0, 0) _ rfl hE3 Tryz.underlying41 rfl szA) rfl ?_
  refine ⟨hE2, ?_⟩
  rw [Hres.o]
  exact ⟨_, n3, rfl, ⟨_, _, _, _, _, _, _, _, _, rfl, hE4⟩, hE1, rfl⟩
theorem ut0 {w : World} {R : Nat} {vs : Value} {ws : List Wd} {n : Nat} (h : RdW w R vs ws n) :
  Calls Tryz.prog 88 #[.pointer (some ⟨R, 0, none⟩)] w (RP w R vs ws (VAct w.heap.size) (ulz (ws.drop n))) := by
 generalize hP : ulz (ws.drop n) = PP
 have HP := hd' hP
 have HA0 := hd' (AS.start h)
 clear hP h
 go_enter Tryz.func88, Tryz.ntmps88
 go_wp2_with fail
 refine (ul5 HA0.o.rd).mono ?_
 rintro e w1 ⟨hm1, h1⟩
 have HM1 := hd' (HA0.o.mod.trans' hm1)
 rcases hr1 : idP (ws.drop n) with _ | ⟨x1, q1⟩
 ·rw [hr1] at h1
  subst h1
  refine ⟨rfl, HM1.o, ?_⟩
  rw [← HP.o]
  simp [ulz, lkA, opA, hr1]
 rw [hr1] at h1
 obtain ⟨_, n1, rfl, rfl, h1, rfl⟩ := h1
 have HA1 := hd' (HA0.o.step hm1 h1)
 have R1 := hd' hr1
 clear h1 hr1 hm1
 go_wp2_with (first | ((with_reducible show wpList _ _ _ (⟨_, Op.build _ _, _, _, _, _⟩ :: _) _ _); refine halt ?_) | fail)
 show wpList _ _ _ _ _ _
 refine uav rfl (.agg (oprC (⟨10, x1, (0, 0), 0, Lk.zero⟩ : Opr) nlS nlS nlS)) (by kernel_rfl) ?_
 simp only [Act.put, List.setIfInBounds_toArray, List.set_cons_zero, List.set_cons_succ]
 have HO1 := hd' (OS.make HA1.o (⟨10, x1, (0, 0), 0, Lk.zero⟩ : Opr) rfl)
 have hO1 : w1.heap.size = w1.heap.size := rfl
 go_wp2_with (first | ((with_reducible refine wpList_store_mid ?g1_6 37 ?x1_6 ?y1_6 ?o1_6 w1.heap.size 0 (oprC (⟨10, x1, (0, 0), 0, Lk.zero⟩ : Opr) nlS nlS nlS) ?h1_6 ?j1_6 ?t1_6 ?i1_6 ?s1_6 ?r1_6); (case g1_6 => exact rfl); (case o1_6 => exact rfl); (case h1_6 => exact rfl); (case j1_6 => exact rfl); (case t1_6 => exact OS.there); (case i1_6 => exact szO); (case s1_6 => exact uk4 _ _ _ _ _ _ _ _ _ _)) | fail)
 generalize (w1.alloc (.cells lz34 37)).setCells w1.heap.size 0 (oprC (⟨10, x1, (0, 0), 0, Lk.zero⟩ : Opr) nlS nlS nlS).toList = v1 at *
 clear hO1
 have HzO := hd' (show w1.heap.size < v1.heap.size from Blk.lt HO1.o.op)
 refine (uqv HO1.o.ast.rd).mono ?_
 rintro e w2 ⟨hm2, h2⟩
 have HM2 := hd' (HO1.o.ast.mod.trans' hm2)
 rcases hr2 : umd (ws.drop n1) with _ | ⟨x2, q2⟩
 ·rw [hr2] at h2
  subst h2
  refine ⟨rfl, HM2.o, ?_⟩
  rw [← HP.o]
  simp [ulz, lkA, opA, R1.o, hr2]
 rw [hr2] at h2
 obtain ⟨_, n2, rfl, ⟨pg, cg, rfl, hN⟩, h2, rfl⟩ := h2
 have HO2 := hd' (HO1.o.step hm2 h2)
 have R2 := hd' hr2
 have HN : Hid (NodesR (fun b => w.heap.size < b ∧ b ≠ w1.heap.size) w2 (.slice pg x2.2.nodes.length cg) x2.2.nodes) := hd' (hN.imp fun k _ hk => by have h1 := HzO.o; have h2 := HO1.o.hO; omega)
 clear hN
 clear h2 hr2 hm2
 have c2_28 := (HO2.o.op).cell 28 rfl
 have f2_28 := (HO2.o.op).frozen 28
 have c2_29 := (HO2.o.op.set 28 (.bool x2.1)).cell 29 rfl
 have f2_29 := (HO2.o.op.set 28 (.bool x2.1)).frozen 29
 have c2_30 := ((HO2.o.op.set 28 (.bool x2.1)).set 29 (.slice pg x2.2.nodes.length cg)).cell 30 rfl
 have f2_30 := ((HO2.o.op.set 28 (.bool x2.1)).set 29 (.slice pg x2.2.nodes.length cg)).frozen 30
 have HO2s : Hid (OS w R vs ws w1.heap.size (⟨10, x1, (0, 0), 0, { Lk.zero with hasFilt := x2.1, filt := x2.2 }⟩ : Opr) nlS (.slice pg x2.2.nodes.length cg) nlS (((w2.setCell ⟨w1.heap.size, 28, none⟩ (.bool x2.1)).setCell ⟨w1.heap.size, 29, none⟩ (.slice pg x2.2.nodes.length cg)).setCell ⟨w1.heap.size, 30, none⟩ (iV x2.2.out)) n2) := hd' (HO2.o.set (⟨10, x1, (0, 0), 0, { Lk.zero with hasFilt := x2.1, filt := x2.2 }⟩ : Opr) nlS (.slice pg x2.2.nodes.length cg) nlS (((Gou.Mod.setCell _ ⟨w1.heap.size, 28, none⟩ (.bool x2.1)).trans' (Gou.Mod.setCell _ ⟨w1.heap.size, 29, none⟩ (.slice pg x2.2.nodes.length cg))).trans' (Gou.Mod.setCell _ ⟨w1.heap.size, 30, none⟩ (iV x2.2.out))) (((HO2.o.op.set 28 (.bool x2.1)).set 29 (.slice pg x2.2.nodes.length cg)).set 30 (iV x2.2.out)) ⟨HO2.o.look.pix, HN.o, HO2.o.look.back⟩)
 have Hres : Hid (PP = some (lkA 10 x1 { Lk.zero with hasFilt := x2.1, filt := x2.2 }, ws.drop n2)) := hd' (by rw [← HP.o]; simp [ulz, lkA, opA, R1.o, R2.o])
 have Hrg := hd' HO2s.o.range
 go_wp2_with (first | ((with_reducible refine wpList_load_mid ?g1_7 37 ?x1_7 ?o1_7 w1.heap.size 0 ?h1_7 (oprC (⟨10, x1, (0, 0), 0, { Lk.zero with hasFilt := x2.1, filt := x2.2 }⟩ : Opr) nlS (.slice pg x2.2.nodes.length cg) nlS).toList ?d1_7 ?c1_7 ?u1_7 ?s1_7 ?i1_7 ?r1_7); (case g1_7 => exact rfl); (case o1_7 => exact rfl); (case h1_7 => exact rfl); (case c1_7 => exact Hrg.o); (case u1_7 => exact Tryz.underlying37); (case s1_7 => exact rfl); (case i1_7 => exact szOl)) | fail)
 clear c2_28 f2_28 c2_29 f2_29 c2_30 f2_30
 clear Hrg
 refine (ul4 _ (⟨10, x1, (0, 0), 0, { Lk.zero with hasFilt := x2.1, filt := x2.2 }⟩ : Opr)).mono ?_
 rintro e w9 ⟨rfl, hm9⟩
 have HO9 := hd' (HO2s.o.other hm9)
 clear hm9
 have Hth := hd' (HO9.o.ast.there ⟨((⟨10, x1, (0, 0), 0, { Lk.zero with hasFilt := x2.1, filt := x2.2 }⟩ : Opr) : Opr).kind, (⟨10, x1, (0, 0), 0, { Lk.zero with hasFilt := x2.1, filt := x2.2 }⟩ : Opr), 0, 0, Cf.zero⟩ nlS (.slice pg x2.2.nodes.length cg) nlS)
 have HE := hd' (HO9.o.ast.done ⟨((⟨10, x1, (0, 0), 0, { Lk.zero with hasFilt := x2.1, filt := x2.2 }⟩ : Opr) : Opr).kind, (⟨10, x1, (0, 0), 0, { Lk.zero with hasFilt := x2.1, filt := x2.2 }⟩ : Opr), 0, 0, Cf.zero⟩ nlS (.slice pg x2.2.nodes.length cg) nlS (HO9.o.look.imp fun k _ hk => hk.1))
 go_wp2_with (first | ((with_reducible refine wpList_store_mid ?g1_8 41 ?x1_8 ?y1_8 ?o1_8 w.heap.size 0 (actC ⟨((⟨10, x1, (0, 0), 0, { Lk.zero with hasFilt := x2.1, filt := x2.2 }⟩ : Opr) : Opr).kind, (⟨10, x1, (0, 0), 0, { Lk.zero with hasFilt := x2.1, filt := x2.2 }⟩ : Opr), 0, 0, Cf.zero⟩ nlS (.slice pg x2.2.nodes.length cg) nlS) ?h1_8 ?j1_8 ?t1_8 ?i1_8 ?s1_8 ?r1_8); (case g1_8 => exact rfl); (case o1_8 => exact rfl); (case h1_8 => exact rfl); (case j1_8 => exact rfl); (case t1_8 => exact Hth.o); (case i1_8 => exact szA); (case s1_8 => exact ukj _ _ _ _ _ _ _ _ _ _)) | fail)
 obtain ⟨hE1, hE2, hE3, hE4⟩ := HE.o
 refine bpr (results_cell_row rfl _ _ w.heap.size 41 (actC ⟨((⟨10, x1, (0, 0), 0, { Lk.zero with hasFilt := x2.1, filt := x2.2 }⟩ : Opr) : Opr).kind, (⟨10, x1, (0, 0), 0, { Lk.zero with hasFilt := x2.1, filt := x2.2 }⟩ : Opr), 0, 0, Cf.zero⟩ nlS (.slice pg x2.2.nodes.length cg) nlS) (0, 0) _ rfl hE3 Tryz.underlying41 rfl szA) rfl ?_
 refine ⟨hE2, ?_⟩
 rw [Hres.o]
 exact ⟨_, n2, rfl, ⟨_, _, _, _, _, _, _, _, _, rfl, hE4⟩, hE1, rfl⟩
theorem urq {w : World} {R : Nat} {vs : Value} {ws : List Wd} {n : Nat} (h : RdW w R vs ws n) :
  Calls Tryz.prog 89 #[.pointer (some ⟨R, 0, none⟩)] w (RP w R vs ws (VAct w.heap.size) (ulj (ws.drop n))) := by
 generalize hP : ulj (ws.drop n) = PP
 have HP := hd' hP
 have HA0 := hd' (AS.start h)
 clear hP h
 go_enter Tryz.func89, Tryz.ntmps89
 go_wp2_with fail
 refine (ul5 HA0.o.rd).mono ?_
 rintro e w1 ⟨hm1, h1⟩
 have HM1 := hd' (HA0.o.mod.trans' hm1)
 rcases hr1 : idP (ws.drop n) with _ | ⟨x1, q1⟩
 ·rw [hr1] at h1
  subst h1
  refine ⟨rfl, HM1.o, ?_⟩
  rw [← HP.o]
  simp [ulj, lkA, opA, hr1]
 rw [hr1] at h1
 obtain ⟨_, n1, rfl, rfl, h1, rfl⟩ := h1
 have HA1 := hd' (HA0.o.step hm1 h1)
 have R1 := hd' hr1
 clear h1 hr1 hm1
 go_wp2_with (first | ((with_reducible show wpList _ _ _ (⟨_, Op.build _ _, _, _, _, _⟩ :: _) _ _); refine halt ?_) | fail)
 show wpList _ _ _ _ _ _
 refine uav rfl (.agg (oprC (⟨11, x1, (0, 0), 0, Lk.zero⟩ : Opr) nlS nlS nlS)) (by kernel_rfl) ?_
 simp only [Act.put, List.setIfInBounds_toArray, List.set_cons_zero, List.set_cons_succ]
 have HO1 := hd' (OS.make HA1.o (⟨11, x1, (0, 0), 0, Lk.zero⟩ : Opr) rfl)
 have hO1 : w1.heap.size = w1.heap.size := rfl
 go_wp2_with (first | ((with_reducible refine wpList_store_mid ?g1_9 37 ?x1_9 ?y1_9 ?o1_9 w1.heap.size 0 (oprC (⟨11, x1, (0, 0), 0, Lk.zero⟩ : Opr) nlS nlS nlS) ?h1_9 ?j1_9 ?t1_9 ?i1_9 ?s1_9 ?r1_9); (case g1_9 => exact rfl); (case o1_9 => exact rfl); (case h1_9 => exact rfl); (case j1_9 => exact rfl); (case t1_9 => exact OS.there); (case i1_9 => exact szO); (case s1_9 => exact uk4 _ _ _ _ _ _ _ _ _ _)) | fail)
 generalize (w1.alloc (.cells lz34 37)).setCells w1.heap.size 0 (oprC (⟨11, x1, (0, 0), 0, Lk.zero⟩ : Opr) nlS nlS nlS).toList = v1 at *
 clear hO1
 have HzO := hd' (show w1.heap.size < v1.heap.size from Blk.lt HO1.o.op)
 refine (uqv HO1.o.ast.rd).mono ?_
 rintro e w2 ⟨hm2, h2⟩
 have HM2 := hd' (HO1.o.ast.mod.trans' hm2)
 rcases hr2 : umd (ws.drop n1) with _ | ⟨x2, q2⟩
 ·rw [hr2] at h2
  subst h2
  refine ⟨rfl, HM2.o, ?_⟩
  rw [← HP.o]
  simp [ulj, lkA, opA, R1.o, hr2]
 rw [hr2] at h2
 obtain ⟨_, n2, rfl, ⟨pg, cg, rfl, hN⟩, h2, rfl⟩ := h2
 have HO2 := hd' (HO1.o.step hm2 h2)
 have R2 := hd' hr2
 have HN : Hid (NodesR (fun b => w.heap.size < b ∧ b ≠ w1.heap.size) w2 (.slice pg x2.2.nodes.length cg) x2.2.nodes) := hd' (hN.imp fun k _ hk => by have h1 := HzO.o; have h2 := HO1.o.hO; omega)
 clear hN
 clear h2 hr2 hm2
 have c2_31 := (HO2.o.op).cell 31 rfl
 have f2_31 := (HO2.o.op).frozen 31
 have c2_32 := (HO2.o.op.set 31 (.bool x2.1)).cell 32 rfl
 have f2_32 := (HO2.o.op.set 31 (.bool x2.1)).frozen 32
 have c2_33 := ((HO2.o.op.set 31 (.bool x2.1)).set 32 (.slice pg x2.2.nodes.length cg)).cell 33 rfl
 have f2_33 := ((HO2.o.op.set 31 (.bool x2.1)).set 32 (.slice pg x2.2.nodes.length cg)).frozen 33
 have HO2s : Hid (OS w R vs ws w1.heap.size (⟨11, x1, (0, 0), 0, { Lk.zero with hasBack := x2.1, back := x2.2 }⟩ : Opr) nlS nlS (.slice pg x2.2.nodes.length cg) (((w2.setCell ⟨w1.heap.size, 31, none⟩ (.bool x2.1)).setCell ⟨w1.heap.size, 32, none⟩ (.slice pg x2.2.nodes.length cg)).setCell ⟨w1.heap.size, 33, none⟩ (iV x2.2.out)) n2) := hd' (HO2.o.set (⟨11, x1, (0, 0), 0, { Lk.zero with hasBack := x2.1, back := x2.2 }⟩ : Opr) nlS nlS (.slice pg x2.2.nodes.length cg) (((Gou.Mod.setCell _ ⟨w1.heap.size, 31, none⟩ (.bool x2.1)).trans' (Gou.Mod.setCell _ ⟨w1.heap.size, 32, none⟩ (.slice pg x2.2.nodes.length cg))).trans' (Gou.Mod.setCell _ ⟨w1.heap.size, 33, none⟩ (iV x2.2.out))) (((HO2.o.op.set 31 (.bool x2.1)).set 32 (.slice pg x2.2.nodes.length cg)).set 33 (iV x2.2.out)) ⟨HO2.o.look.pix, HO2.o.look.filt, HN.o⟩)
 have Hres : Hid (PP = some (lkA 11 x1 { Lk.zero with hasBack := x2.1, back := x2.2 }, ws.drop n2)) := hd' (by rw [← HP.o]; simp [ulj, lkA, opA, R1.o, R2.o])
 have Hrg := hd' HO2s.o.range
 go_wp2_with (first | ((with_reducible refine wpList_load_mid ?g1_10 37 ?x1_10 ?o1_10 w1.heap.size 0 ?h1_10 (oprC (⟨11, x1, (0, 0), 0, { Lk.zero with hasBack := x2.1, back := x2.2 }⟩ : Opr) nlS nlS (.slice pg x2.2.nodes.length cg)).toList ?d1_10 ?c1_10 ?u1_10 ?s1_10 ?i1_10 ?r1_10); (case g1_10 => exact rfl); (case o1_10 => exact rfl); (case h1_10 => exact rfl); (case c1_10 => exact Hrg.o); (case u1_10 => exact Tryz.underlying37); (case s1_10 => exact rfl); (case i1_10 => exact szOl)) | fail)
 clear c2_31 f2_31 c2_32 f2_32 c2_33 f2_33
 clear Hrg
 refine (ul4 _ (⟨11, x1, (0, 0), 0, { Lk.zero with hasBack := x2.1, back := x2.2 }⟩ : Opr)).mono ?_
 rintro e w9 ⟨rfl, hm9⟩
 have HO9 := hd' (HO2s.o.other hm9)
 clear hm9
 have Hth := hd' (HO9.o.ast.there ⟨((⟨11, x1, (0, 0), 0, { Lk.zero with hasBack := x2.1, back := x2.2 }⟩ : Opr) : Opr).kind, (⟨11, x1, (0, 0), 0, { Lk.zero with hasBack := x2.1, back := x2.2 }⟩ : Opr), 0, 0, Cf.zero⟩ nlS nlS (.slice pg x2.2.nodes.length cg))
 have HE := hd' (HO9.o.ast.done ⟨((⟨11, x1, (0, 0), 0, { Lk.zero with hasBack := x2.1, back := x2.2 }⟩ : Opr) : Opr).kind, (⟨11, x1, (0, 0), 0, { Lk.zero with hasBack := x2.1, back := x2.2 }⟩ : Opr), 0, 0, Cf.zero⟩ nlS nlS (.slice pg x2.2.nodes.length cg) (HO9.o.look.imp fun k _ hk => hk.1))
 go_wp2_with (first | ((with_reducible refine wpList_store_mid ?g1_11 41 ?x1_11 ?y1_11 ?o1_11 w.heap.size 0 (actC ⟨((⟨11, x1, (0, 0), 0, { Lk.zero with hasBack := x2.1, back := x2.2 }⟩ : Opr) : Opr).kind, (⟨11, x1, (0, 0), 0, { Lk.zero with hasBack := x2.1, back := x2.2 }⟩ : Opr), 0, 0, Cf.zero⟩ nlS nlS (.slice pg x2.2.nodes.length cg)) ?h1_11 ?j1_11 ?t1_11 ?i1_11 ?s1_11 ?r1_11); (case g1_11 => exact rfl); (case o1_11 => exact rfl); (case h1_11 => exact rfl); (case j1_11 => exact rfl); (case t1_11 => exact Hth.o); (case i1_11 => exact szA); (case s1_11 => exact ukj _ _ _ _ _ _ _ _ _ _)) | fail)
 obtain ⟨hE1, hE2, hE3, hE4⟩ := HE.o
 refine bpr (results_cell_row rfl _ _ w.heap.size 41 (actC ⟨((⟨11, x1, (0, 0), 0, { Lk.zero with hasBack := x2.1, back := x2.2 }⟩ : Opr) : Opr).kind, (⟨11, x1, (0, 0), 0, { Lk.zero with hasBack := x2.1, back := x2.2 }⟩ : Opr), 0, 0, Cf.zero⟩ nlS nlS (.slice pg x2.2.nodes.length cg)) (0, 0) _ rfl hE3 Tryz.underlying41 rfl szA) rfl ?_
 refine ⟨hE2, ?_⟩
 rw [Hres.o]
 exact ⟨_, n2, rfl, ⟨_, _, _, _, _, _, _, _, _, rfl, hE4⟩, hE1, rfl⟩
theorem tview_any {w : World} {R : Nat} {vs : Value} {ws : List Wd} {n : Nat} (h : RdW w R vs ws n) :
  Calls Tryz.prog 90 #[.pointer (some ⟨R, 0, none⟩)] w (RP w R vs ws (VAct w.heap.size) (upt (ws.drop n))) := by
 generalize hP : upt (ws.drop n) = PP
 have HP := hd' hP
 have HA0 := hd' (AS.start h)
 clear hP h
 go_enter Tryz.func90, Tryz.ntmps90
 go_wp2_with fail
 refine (uk3 HA0.o.rd).mono ?_
 rintro e w1 ⟨hm1, h1⟩
 have HM1 := hd' (HA0.o.mod.trans' hm1)
 rcases hr1 : numP (ws.drop n) with _ | ⟨x1, q1⟩
 ·rw [hr1] at h1
  subst h1
  refine ⟨rfl, HM1.o, ?_⟩
  rw [← HP.o]
  simp [upt, hr1]
 rw [hr1] at h1
 obtain ⟨_, n1, rfl, rfl, h1, rfl⟩ := h1
 have HA1 := hd' (HA0.o.step hm1 h1)
 have R1 := hd' hr1
 clear h1 hr1 hm1
 go_wp2_with fail
 refine (uk3 HA1.o.rd).mono ?_
 rintro e w2 ⟨hm2, h2⟩
 have HM2 := hd' (HA1.o.mod.trans' hm2)
 rcases hr2 : numP (ws.drop n1) with _ | ⟨x2, q2⟩
 ·rw [hr2] at h2
  subst h2
  refine ⟨rfl, HM2.o, ?_⟩
  rw [← HP.o]
  simp [upt, R1.o, hr2]
 rw [hr2] at h2
 obtain ⟨_, n2, rfl, rfl, h2, rfl⟩ := h2
 have HA2 := hd' (HA1.o.step hm2 h2)
 have R2 := hd' hr2
 clear h2 hr2 hm2
 have Hres : Hid (PP = some ((⟨12, Opr.zero, x1, x2, Cf.zero⟩ : Ac), ws.drop n2)) := hd' (by rw [← HP.o]; simp [upt, R1.o, R2.o])
 go_wp2_with (first | ((with_reducible show wpList _ _ _ (⟨_, Op.build _ _, _, _, _, _⟩ :: _) _ _); refine halt ?_) | fail)
 show wpList _ _ _ _ _ _
 refine uav rfl (.agg (actC (⟨12, Opr.zero, x1, x2, Cf.zero⟩ : Ac) nlS nlS nlS)) (by kernel_rfl) ?_
 simp only [Act.put, List.setIfInBounds_toArray, List.set_cons_zero, List.set_cons_succ]
 have Hth := hd' (HA2.o.there (⟨12, Opr.zero, x1, x2, Cf.zero⟩ : Ac) nlS nlS nlS)
 have HE := hd' (HA2.o.done (⟨12, Opr.zero, x1, x2, Cf.zero⟩ : Ac) nlS nlS nlS (umm _ _))
 go_wp2_with (first | ((with_reducible refine wpList_store_mid ?g1_12 41 ?x1_12 ?y1_12 ?o1_12 w.heap.size 0 (actC (⟨12, Opr.zero, x1, x2, Cf.zero⟩ : Ac) nlS nlS nlS) ?h1_12 ?j1_12 ?t1_12 ?i1_12 ?s1_12 ?r1_12); (case g1_12 => exact rfl); (case o1_12 => exact rfl); (case h1_12 => exact rfl); (case j1_12 => exact rfl); (case t1_12 => exact Hth.o); (case i1_12 => exact szA); (case s1_12 => exact ukj _ _ _ _ _ _ _ _ _ _)) | fail)
 obtain ⟨hE1, hE2, hE3, hE4⟩ := HE.o
 refine bpr (results_cell_row rfl _ _ w.heap.size 41 (actC (⟨12, Opr.zero, x1, x2, Cf.zero⟩ : Ac) nlS nlS nlS) (0, 0) _ rfl hE3 Tryz.underlying41 rfl szA) rfl ?_
 refine ⟨hE2, ?_⟩
 rw [Hres.o]
 exact ⟨_, n2, rfl, ⟨_, _, _, _, _, _, _, _, _, rfl, hE4⟩, hE1, rfl⟩
theorem uvv {w : World} {R : Nat} {vs : Value} {ws : List Wd} {n : Nat} (h : RdW w R vs ws n) :
  Calls Tryz.prog 92 #[.pointer (some ⟨R, 0, none⟩)] w (RP w R vs ws (VAct w.heap.size) (uqb (ws.drop n))) := by
 generalize hP : uqb (ws.drop n) = PP
 have HP := hd' hP
 have HA0 := hd' (AS.start h)
 clear hP h
 go_enter Tryz.func92, Tryz.ntmps92
 have Hres : Hid (PP = some ((⟨14, Opr.zero, 0, 0, Cf.zero⟩ : Ac), ws.drop n)) := hd' (by rw [← HP.o]; simp [uqb])
 go_wp2_with (first | ((with_reducible show wpList _ _ _ (⟨_, Op.build _ _, _, _, _, _⟩ :: _) _ _); refine halt ?_) | fail)
 show wpList _ _ _ _ _ _
 refine uav rfl (.agg (actC (⟨14, Opr.zero, 0, 0, Cf.zero⟩ : Ac) nlS nlS nlS)) (by kernel_rfl) ?_
 simp only [Act.put, List.setIfInBounds_toArray, List.set_cons_zero, List.set_cons_succ]
 have Hth := hd' (HA0.o.there (⟨14, Opr.zero, 0, 0, Cf.zero⟩ : Ac) nlS nlS nlS)
 have HE := hd' (HA0.o.done (⟨14, Opr.zero, 0, 0, Cf.zero⟩ : Ac) nlS nlS nlS (umm _ _))
 go_wp2_with (first | ((with_reducible refine wpList_store_mid ?g1_13 41 ?x1_13 ?y1_13 ?o1_13 w.heap.size 0 (actC (⟨14, Opr.zero, 0, 0, Cf.zero⟩ : Ac) nlS nlS nlS) ?h1_13 ?j1_13 ?t1_13 ?i1_13 ?s1_13 ?r1_13); (case g1_13 => exact rfl); (case o1_13 => exact rfl); (case h1_13 => exact rfl); (case j1_13 => exact rfl); (case t1_13 => exact Hth.o); (case i1_13 => exact szA); (case s1_13 => exact ukj _ _ _ _ _ _ _ _ _ _)) | fail)
 obtain ⟨hE1, hE2, hE3, hE4⟩ := HE.o
 refine bpr (results_cell_row rfl _ _ w.heap.size 41 (actC (⟨14, Opr.zero, 0, 0, Cf.zero⟩ : Ac) nlS nlS nlS) (0, 0) _ rfl hE3 Tryz.underlying41 rfl szA) rfl ?_
 refine ⟨hE2, ?_⟩
 rw [Hres.o]
 exact ⟨_, n, rfl, ⟨_, _, _, _, _, _, _, _, _, rfl, hE4⟩, hE1, rfl⟩
theorem tfill_any {w : World} {R : Nat} {vs : Value} {ws : List Wd} {n : Nat} (h : RdW w R vs ws n) :
  Calls Tryz.prog 86 #[.pointer (some ⟨R, 0, none⟩)] w (RP w R vs ws (VAct w.heap.size) (upk (ws.drop n))) := by
 generalize hP : upk (ws.drop n) = PP
 have HP := hd' hP
 have HA0 := hd' (AS.start h)
 clear hP h
 go_enter Tryz.func86, Tryz.ntmps86
 go_wp2_with fail
 refine (ul5 HA0.o.rd).mono ?_
 rintro e w1 ⟨hm1, h1⟩
 have HM1 := hd' (HA0.o.mod.trans' hm1)
 rcases hr1 : idP (ws.drop n) with _ | ⟨x1, q1⟩
 ·rw [hr1] at h1
  subst h1
  refine ⟨rfl, HM1.o, ?_⟩
  rw [← HP.o]
  simp [upk, lkA, opA, hr1]
 rw [hr1] at h1
 obtain ⟨_, n1, rfl, rfl, h1, rfl⟩ := h1
 have HA1 := hd' (HA0.o.step hm1 h1)
 have R1 := hd' hr1
 clear h1 hr1 hm1
 go_wp2_with (first | ((with_reducible show wpList _ _ _ (⟨_, Op.build _ _, _, _, _, _⟩ :: _) _ _); refine halt ?_) | fail)
 show wpList _ _ _ _ _ _
 refine uav rfl (.agg (oprC (⟨9, x1, (0, 0), 0, Lk.zero⟩ : Opr) nlS nlS nlS)) (by kernel_rfl) ?_
 simp only [Act.put, List.setIfInBounds_toArray, List.set_cons_zero, List.set_cons_succ]
 have HO1 := hd' (OS.make HA1.o (⟨9, x1, (0, 0), 0, Lk.zero⟩ : Opr) rfl)
 have hO1 : w1.heap.size = w1.heap.size := rfl
 go_wp2_with (first | ((with_reducible refine wpList_store_mid ?g1_14 37 ?x1_14 ?y1_14 ?o1_14 w1.heap.size 0 (oprC (⟨9, x1, (0, 0), 0, Lk.zero⟩ : Opr) nlS nlS nlS) ?h1_14 ?j1_14 ?t1_14 ?i1_14 ?s1_14 ?r1_14); (case g1_14 => exact rfl); (case o1_14 => exact rfl); (case h1_14 => exact rfl); (case j1_14 => exact rfl); (case t1_14 => exact OS.there); (case i1_14 => exact szO); (case s1_14 => exact uk4 _ _ _ _ _ _ _ _ _ _)) | fail)
 generalize (w1.alloc (.cells lz34 37)).setCells w1.heap.size 0 (oprC (⟨9, x1, (0, 0), 0, Lk.zero⟩ : Opr) nlS nlS nlS).toList = v1 at *
 clear hO1
 refine (uuv HO1.o.ast.rd).mono ?_
 rintro e w2 ⟨hm2, h2⟩
 have HM2 := hd' (HO1.o.ast.mod.trans' hm2)
 rcases hr2 : boxP (ws.drop n1) with _ | ⟨x2, q2⟩
 ·rw [hr2] at h2
  subst h2
  refine ⟨rfl, HM2.o, ?_⟩
  rw [← HP.o]
  simp [upk, lkA, opA, R1.o, hr2]
 rw [hr2] at h2
 obtain ⟨_, n2, rfl, rfl, h2, rfl⟩ := h2
 have HO2 := hd' (HO1.o.step hm2 h2)
 have R2 := hd' hr2
 clear h2 hr2 hm2
 go_wp2_with (first | ((with_reducible show wpList _ _ _ (⟨_, Op.build _ _, _, _, _, _⟩ :: _) _ _); refine halt ?_) | fail)
 show wpList _ _ _ _ _ _
 refine uav rfl (.agg (uak (⟨1, x2, Pxl.zero, 0, 0, 0, []⟩ : Ct) nlS)) (by kernel_rfl) ?_
 simp only [Act.put, List.setIfInBounds_toArray, List.set_cons_zero, List.set_cons_succ]
 have Hthc := hd' (HO2.o.op.there 15 (uak (⟨1, x2, Pxl.zero, 0, 0, 0, []⟩ : Ct) nlS).size (by rw [un1]; simp [uak]))
 have HO3 : Hid (OS w R vs ws w1.heap.size (⟨9, x1, (0, 0), 0, { Lk.zero with content := (⟨1, x2, Pxl.zero, 0, 0, 0, []⟩ : Ct) }⟩ : Opr) nlS nlS nlS (w2.setCells w1.heap.size 15 (uak (⟨1, x2, Pxl.zero, 0, 0, 0, []⟩ : Ct) nlS).toList) n2) := hd' (HO2.o.set (⟨9, x1, (0, 0), 0, { Lk.zero with content := (⟨1, x2, Pxl.zero, 0, 0, 0, []⟩ : Ct) }⟩ : Opr) nlS nlS nlS (Blk.setMod w2 w1.heap.size 15 (uak (⟨1, x2, Pxl.zero, 0, 0, 0, []⟩ : Ct) nlS).toList) (Blk.content HO2.o.op (⟨1, x2, Pxl.zero, 0, 0, 0, []⟩ : Ct) nlS) ⟨PixR.nil _ _, HO2.o.look.filt, HO2.o.look.back⟩)
 go_wp2_with (first | ((with_reducible refine wpList_store_mid ?g1_15 30 ?x1_15 ?y1_15 ?o1_15 w1.heap.size 15 (uak (⟨1, x2, Pxl.zero, 0, 0, 0, []⟩ : Ct) nlS) ?h1_15 ?j1_15 ?t1_15 ?i1_15 ?s1_15 ?r1_15); (case g1_15 => exact rfl); (case o1_15 => exact rfl); (case h1_15 => exact rfl); (case j1_15 => exact rfl); (case t1_15 => exact Hthc.o); (case i1_15 => exact szC); (case s1_15 => exact umy _ _ _ _)) | fail)
 generalize w2.setCells w1.heap.size 15 (uak (⟨1, x2, Pxl.zero, 0, 0, 0, []⟩ : Ct) nlS).toList = v3 at *
 refine (tpx_any HO3.o.ast.rd).mono ?_
 rintro e w3 ⟨hm3, h3⟩
 have HM3 := hd' (HO3.o.ast.mod.trans' hm3)
 rcases hr3 : pxP (ws.drop n2) with _ | ⟨x3, q3⟩
 ·rw [hr3] at h3
  subst h3
  refine ⟨rfl, HM3.o, ?_⟩
  rw [← HP.o]
  simp [upk, lkA, opA, R1.o, R2.o, hr3]
 rw [hr3] at h3
 obtain ⟨_, n3, rfl, rfl, h3, rfl⟩ := h3
 have HO3 := hd' (HO3.o.step hm3 h3)
 have R3 := hd' hr3
 clear h3 hr3 hm3
 have c3_20 := (HO3.o.op).cell 20 rfl
 have f3_20 := (HO3.o.op).frozen 20
 have c3_21 := (HO3.o.op.set 20 (.int .u8 (x3.p0 : Nat))).cell 21 rfl
 have f3_21 := (HO3.o.op.set 20 (.int .u8 (x3.p0 : Nat))).frozen 21
 have c3_22 := ((HO3.o.op.set 20 (.int .u8 (x3.p0 : Nat))).set 21 (.int .u8 (x3.p1 : Nat))).cell 22 rfl
 have f3_22 := ((HO3.o.op.set 20 (.int .u8 (x3.p0 : Nat))).set 21 (.int .u8 (x3.p1 : Nat))).frozen 22
 have c3_23 := (((HO3.o.op.set 20 (.int .u8 (x3.p0 : Nat))).set 21 (.int .u8 (x3.p1 : Nat))).set 22 (.int .u8 (x3.p2 : Nat))).cell 23 rfl
 have f3_23 := (((HO3.o.op.set 20 (.int .u8 (x3.p0 : Nat))).set 21 (.int .u8 (x3.p1 : Nat))).set 22 (.int .u8 (x3.p2 : Nat))).frozen 23
 have HO3s : Hid (OS w R vs ws w1.heap.size (⟨9, x1, (0, 0), 0, { Lk.zero with content := (⟨1, x2, x3, 0, 0, 0, []⟩ : Ct) }⟩ : Opr) nlS nlS nlS ((((w3.setCell ⟨w1.heap.size, 20, none⟩ (.int .u8 (x3.p0 : Nat))).setCell ⟨w1.heap.size, 21, none⟩ (.int .u8 (x3.p1 : Nat))).setCell ⟨w1.heap.size, 22, none⟩ (.int .u8 (x3.p2 : Nat))).setCell ⟨w1.heap.size, 23, none⟩ (.int .u8 (x3.p3 : Nat))) n3) := hd' (HO3.o.set (⟨9, x1, (0, 0), 0, { Lk.zero with content := (⟨1, x2, x3, 0, 0, 0, []⟩ : Ct) }⟩ : Opr) nlS nlS nlS ((((Gou.Mod.setCell _ ⟨w1.heap.size, 20, none⟩ (.int .u8 (x3.p0 : Nat))).trans' (Gou.Mod.setCell _ ⟨w1.heap.size, 21, none⟩ (.int .u8 (x3.p1 : Nat)))).trans' (Gou.Mod.setCell _ ⟨w1.heap.size, 22, none⟩ (.int .u8 (x3.p2 : Nat)))).trans' (Gou.Mod.setCell _ ⟨w1.heap.size, 23, none⟩ (.int .u8 (x3.p3 : Nat)))) ((((HO3.o.op.set 20 (.int .u8 (x3.p0 : Nat))).set 21 (.int .u8 (x3.p1 : Nat))).set 22 (.int .u8 (x3.p2 : Nat))).set 23 (.int .u8 (x3.p3 : Nat))) ⟨PixR.nil _ _, HO3.o.look.filt, HO3.o.look.back⟩)
 have Hres : Hid (PP = some (lkA 9 x1 { Lk.zero with content := (⟨1, x2, x3, 0, 0, 0, []⟩ : Ct) }, ws.drop n3)) := hd' (by rw [← HP.o]; simp [upk, lkA, opA, R1.o, R2.o, R3.o])
 have Hrg := hd' HO3s.o.range
 go_wp2_with (first | ((with_reducible refine wpList_load_mid ?g1_16 37 ?x1_16 ?o1_16 w1.heap.size 0 ?h1_16 (oprC (⟨9, x1, (0, 0), 0, { Lk.zero with content := (⟨1, x2, x3, 0, 0, 0, []⟩ : Ct) }⟩ : Opr) nlS nlS nlS).toList ?d1_16 ?c1_16 ?u1_16 ?s1_16 ?i1_16 ?r1_16); (case g1_16 => exact rfl); (case o1_16 => exact rfl); (case h1_16 => exact rfl); (case c1_16 => exact Hrg.o); (case u1_16 => exact Tryz.underlying37); (case s1_16 => exact rfl); (case i1_16 => exact szOl)) | fail)
 clear c3_20 f3_20 c3_21 f3_21 c3_22 f3_22 c3_23 f3_23
 clear Hrg
 refine (ul4 _ (⟨9, x1, (0, 0), 0, { Lk.zero with content := (⟨1, x2, x3, 0, 0, 0, []⟩ : Ct) }⟩ : Opr)).mono ?_
 rintro e w9 ⟨rfl, hm9⟩
 have HO9 := hd' (HO3s.o.other hm9)
 clear hm9
 have Hth := hd' (HO9.o.ast.there ⟨((⟨9, x1, (0, 0), 0, { Lk.zero with content := (⟨1, x2, x3, 0, 0, 0, []⟩ : Ct) }⟩ : Opr) : Opr).kind, (⟨9, x1, (0, 0), 0, { Lk.zero with content := (⟨1, x2, x3, 0, 0, 0, []⟩ : Ct) }⟩ : Opr), 0, 0, Cf.zero⟩ nlS nlS nlS)
 have HE := hd' (HO9.o.ast.done ⟨((⟨9, x1, (0, 0), 0, { Lk.zero with content := (⟨1, x2, x3, 0, 0, 0, []⟩ : Ct) }⟩ : Opr) : Opr).kind, (⟨9, x1, (0, 0), 0, { Lk.zero with content := (⟨1, x2, x3, 0, 0, 0, []⟩ : Ct) }⟩ : Opr), 0, 0, Cf.zero⟩ nlS nlS nlS (HO9.o.look.imp fun k _ hk => hk.1))
 go_wp2_with (first | ((with_reducible refine wpList_store_mid ?g1_17 41 ?x1_17 ?y1_17 ?o1_17 w.heap.size 0 (actC ⟨((⟨9, x1, (0, 0), 0, { Lk.zero with content := (⟨1, x2, x3, 0, 0, 0, []⟩ : Ct) }⟩ : Opr) : Opr).kind, (⟨9, x1, (0, 0), 0, { Lk.zero with content := (⟨1, x2, x3, 0, 0, 0, []⟩ : Ct) }⟩ : Opr), 0, 0, Cf.zero⟩ nlS nlS nlS) ?h1_17 ?j1_17 ?t1_17 ?i1_17 ?s1_17 ?r1_17); (case g1_17 => exact rfl); (case o1_17 => exact rfl); (case h1_17 => exact rfl); (case j1_17 => exact rfl); (case t1_17 => exact Hth.o); (case i1_17 => exact szA); (case s1_17 => exact ukj _ _ _ _ _ _ _ _ _ _)) | fail)
 obtain ⟨hE1, hE2, hE3, hE4⟩ := HE.o
 refine bpr (results_cell_row rfl _ _ w.heap.size 41 (actC ⟨((⟨9, x1, (0, 0), 0, { Lk.zero with content := (⟨1, x2, x3, 0, 0, 0, []⟩ : Ct) }⟩ : Opr) : Opr).kind, (⟨9, x1, (0, 0), 0, { Lk.zero with content := (⟨1, x2, x3, 0, 0, 0, []⟩ : Ct) }⟩ : Opr), 0, 0, Cf.zero⟩ nlS nlS nlS) (0, 0) _ rfl hE3 Tryz.underlying41 rfl szA) rfl ?_
 refine ⟨hE2, ?_⟩
 rw [Hres.o]
 exact ⟨_, n3, rfl, ⟨_, _, _, _, _, _, _, _, _, rfl, hE4⟩, hE1, rfl⟩
structure CS (w : World) (R : Nat) (vs : Value) (ws : List Wd) (C : Nat) (ac : Ac) (wr : World) (m : Nat) : Prop where
 ast : AS w R vs ws wr m
 box : Blk wr C 41 (actC ac nlS nlS nlS)
 hC : w.heap.size < C
theorem CS.step {w : World} {R : Nat} {vs : Value} {ws : List Wd} {C : Nat} {ac : Ac} {wr w2 : World} {m m2 : Nat} (h : CS w R vs ws C ac wr m) (hm : Gou.Mod (fun k => k = R) wr w2) (h2 : RdW w2 R vs ws m2) : CS w R vs ws C ac w2 m2 :=
 ⟨h.ast.step hm h2, ulh h.box hm (by have := h.hC; have := h.ast.hR; omega), h.hC⟩
theorem CS.other {w : World} {R : Nat} {vs : Value} {ws : List Wd} {C : Nat} {ac : Ac} {wr w2 : World} {m : Nat} (h : CS w R vs ws C ac wr m) (hm : Gou.Mod (fun _ => False) wr w2) : CS w R vs ws C ac w2 m :=
 ⟨h.ast.other hm (fun _ h => h.elim), h.box.mod hm (fun h => h), h.hC⟩
theorem CS.set {w : World} {R : Nat} {vs : Value} {ws : List Wd} {C : Nat} {ac : Ac} {wr : World} {m : Nat} (h : CS w R vs ws C ac wr m) (ac' : Ac) (i : Nat) (v : Value) (hb : (actC ac nlS nlS nlS).setIfInBounds i v = actC ac' nlS nlS nlS) : CS w R vs ws C ac' (wr.setCell ⟨C, i, none⟩ v) m :=
 ⟨h.ast.other (Gou.Mod.setCell wr ⟨C, i, none⟩ v) (fun k hk => by have := h.hC; simp at hk; omega), by have := h.box.set i v; rwa [hb] at this, h.hC⟩
theorem CS.make {w : World} {R : Nat} {vs : Value} {ws : List Wd} {wr : World} {m : Nat} (h : AS w R vs ws wr m) (ac : Ac) : CS w R vs ws wr.heap.size ac ((wr.alloc (.cells lz42 41)).setCells wr.heap.size 0 (actC ac nlS nlS nlS).toList) m := by
 have hz : w.heap.size < wr.heap.size := Blk.lt h.act
 have hA := (Blk.new wr 41 lz42).sets 0 (actC ac nlS nlS nlS).toList
 rw [uef _ _ (by simp [actC])] at hA
 have hm : Gou.Mod (fun _ => False) wr ((wr.alloc (.cells lz42 41)).setCells wr.heap.size 0 (actC ac nlS nlS nlS).toList) := (Gou.Mod.alloc0 _ _).trans (Blk.setMod _ _ _ _) (fun i hi e => by omega)
 exact ⟨h.other hm (fun _ h => h.elim), hA, hz⟩
theorem CS.there {wr : World} {ac : Ac} {a b c : Value} : (wr.alloc (.cells lz42 41)).there wr.heap.size 0 (actC ac a b c).size := (Blk.new wr 41 lz42).there 0 _ (by rw [uma]; simp)
theorem CS.range {w : World} {R : Nat} {vs : Value} {ws : List Wd} {C : Nat} {ac : Ac} {wr : World} {m : Nat} (h : CS w R vs ws C ac wr m) : wr.rangeAt C 0 (actC ac nlS nlS nlS).toList := Blk.range (pre := []) (post := []) h.box (by rw [List.append_nil]; rfl) rfl
theorem uox {l l' : List Wd} {u : Wd} (hd : l' = if l.head? = some u then l.drop 1 else l) : uv9 u l = (decide (l.head? = some u), l') := by
 subst hd
 unfold uv9
 split
 ·rename_i h
  rw [dqt h]
 ·rename_i h
  rw [dqf h]
theorem set41 (f a r d : Bool) (n m : Int) : (actC ⟨13, Opr.zero, 0, 0, ⟨f, a, r, d, n⟩⟩ nlS nlS nlS).setIfInBounds 41 (iV m) = actC ⟨13, Opr.zero, 0, 0, ⟨f, a, r, d, m⟩⟩ nlS nlS nlS := by kernel_rfl
theorem set37 (f a r d g : Bool) (n : Int) : (actC ⟨13, Opr.zero, 0, 0, ⟨f, a, r, d, n⟩⟩ nlS nlS nlS).setIfInBounds 37 (.bool g) = actC ⟨13, Opr.zero, 0, 0, ⟨g, a, r, d, n⟩⟩ nlS nlS nlS := by kernel_rfl
theorem set38 (f a r d g : Bool) (n : Int) : (actC ⟨13, Opr.zero, 0, 0, ⟨f, a, r, d, n⟩⟩ nlS nlS nlS).setIfInBounds 38 (.bool g) = actC ⟨13, Opr.zero, 0, 0, ⟨f, g, r, d, n⟩⟩ nlS nlS nlS := by kernel_rfl
theorem set39 (f a r d g : Bool) (n : Int) : (actC ⟨13, Opr.zero, 0, 0, ⟨f, a, r, d, n⟩⟩ nlS nlS nlS).setIfInBounds 39 (.bool g) = actC ⟨13, Opr.zero, 0, 0, ⟨f, a, g, d, n⟩⟩ nlS nlS nlS := by kernel_rfl
theorem set40 (f a r d g : Bool) (n : Int) : (actC ⟨13, Opr.zero, 0, 0, ⟨f, a, r, d, n⟩⟩ nlS nlS nlS).setIfInBounds 40 (.bool g) = actC ⟨13, Opr.zero, 0, 0, ⟨f, a, r, g, n⟩⟩ nlS nlS nlS := by kernel_rfl
theorem tconf_any {w : World} {R : Nat} {vs : Value} {ws : List Wd} {n : Nat} (h : RdW w R vs ws n) :
  Calls Tryz.prog 91 #[.pointer (some ⟨R, 0, none⟩)] w (RP w R vs ws (VAct w.heap.size) (uqq (ws.drop n))) := by
 generalize hP : uqq (ws.drop n) = PP
 have HP := hd' hP
 have HA0 := hd' (AS.start h)
 clear hP h
 go_enter Tryz.func91, Tryz.ntmps91
 have HC0 := hd' (CS.make HA0.o (⟨13, Opr.zero, 0, 0, ⟨false, false, false, false, 0⟩⟩ : Ac))
 have hz0 : ((w.alloc (.cells lz42 41))).heap.size = w.heap.size + 1 := by simp
 rw [hz0] at HC0
 have Hth0 : Hid ((((w.alloc (.cells lz42 41))).alloc (.cells lz42 41)).there (w.heap.size + 1) 0 (actC (⟨13, Opr.zero, 0, 0, ⟨false, false, false, false, 0⟩⟩ : Ac) nlS nlS nlS).size) := hd' (by have := CS.there (wr := (w.alloc (.cells lz42 41))) (ac := (⟨13, Opr.zero, 0, 0, ⟨false, false, false, false, 0⟩⟩ : Ac)) (a := .slice none 0 0) (b := .slice none 0 0) (c := .slice none 0 0); rwa [hz0] at this)
 clear hz0
 go_wp2_with (first | ((with_reducible show wpList _ _ _ (⟨_, Op.build _ _, _, _, _, _⟩ :: _) _ _); refine halt ?_) | fail)
 show wpList _ _ _ _ _ _
 refine uav rfl (.agg (actC (⟨13, Opr.zero, 0, 0, ⟨false, false, false, false, 0⟩⟩ : Ac) nlS nlS nlS)) (by kernel_rfl) ?_
 simp only [Act.put, List.setIfInBounds_toArray, List.set_cons_zero, List.set_cons_succ]
 go_wp2_with (first | ((with_reducible refine wpList_store_mid ?g1_1 41 ?x1_1 ?y1_1 ?o1_1 (w.heap.size + 1) 0 (actC (⟨13, Opr.zero, 0, 0, ⟨false, false, false, false, 0⟩⟩ : Ac) nlS nlS nlS) ?h1_1 ?j1_1 ?t1_1 ?i1_1 ?s1_1 ?r1_1); (case g1_1 => exact rfl); (case o1_1 => exact rfl); (case h1_1 => exact rfl); (case j1_1 => exact rfl); (case t1_1 => exact Hth0.o); (case i1_1 => exact szA); (case s1_1 => exact ukj _ _ _ _ _ _ _ _ _ _)) | fail)
 generalize (((w.alloc (.cells lz42 41))).alloc (.cells lz42 41)).setCells (w.heap.size + 1) 0 (actC (⟨13, Opr.zero, 0, 0, ⟨false, false, false, false, 0⟩⟩ : Ac) nlS nlS nlS).toList = v0 at *
 clear Hth0
 refine (uk3 HC0.o.ast.rd).mono ?_
 rintro e w1 ⟨hm1, h1⟩
 have HM1 := hd' (HC0.o.ast.mod.trans' hm1)
 rcases hr1 : numP (ws.drop n) with _ | ⟨x1, q1⟩
 ·rw [hr1] at h1
  subst h1
  refine ⟨rfl, HM1.o, ?_⟩
  rw [← HP.o]
  simp [uqq, hr1]
 rw [hr1] at h1
 obtain ⟨_, n1, rfl, rfl, h1, rfl⟩ := h1
 have HC1 := hd' (HC0.o.step hm1 h1)
 have R1 := hd' hr1
 clear h1 hr1 hm1
 have c1 := HC1.o.box.cell 41 rfl
 have f1 := HC1.o.box.frozen 41
 have HC1s := hd' (HC1.o.set (⟨13, Opr.zero, 0, 0, ⟨false, false, false, false, x1⟩⟩ : Ac) 41 (iV x1) (set41 _ _ _ _ _ _))
 go_wp2_with fail
 clear c1 f1
 generalize (w1.setCell ⟨(w.heap.size + 1), 41, none⟩ (iV x1)) = v1 at *
 refine (uoy _).mono ?_
 rintro e w2 ⟨rfl, rfl⟩
 have HzF := hd' (show R < v1.heap.size from Nat.lt_trans HC1s.o.ast.hR (Blk.lt HC1s.o.ast.act))
 have HzC := hd' (show w.heap.size + 1 < v1.heap.size from Blk.lt HC1s.o.box)
 have HF1 := hd' (Blk.new v1 9 #[.string ⟨wFuse.toArray⟩, .string ⟨wAlias.toArray⟩, .string ⟨wRoi.toArray⟩, .string ⟨wDamage.toArray⟩])
 have HC2 := hd' (HC1s.o.other (Gou.Mod.alloc0 v1 (.cells #[.string ⟨wFuse.toArray⟩, .string ⟨wAlias.toArray⟩, .string ⟨wRoi.toArray⟩, .string ⟨wDamage.toArray⟩] 9)))
 have u0 := HF1.o.cell 0 rfl
 clear HC1s
 go_wp2_with fail
 clear u0
 generalize v1.alloc (.cells #[.string ⟨wFuse.toArray⟩, .string ⟨wAlias.toArray⟩, .string ⟨wRoi.toArray⟩, .string ⟨wDamage.toArray⟩] 9) = w2 at *
 refine (unq HC2.o.ast.rd wFuse).mono ?_
 rintro e w3 ⟨rfl, ⟨n3, h3, hd3⟩, hm3⟩
 have HC3 := hd' (HC2.o.step hm3 h3)
 have HF3 := hd' (ulh HF1.o hm3 (by have := HzF.o; omega))
 have D3 := hd' (uox hd3)
 clear h3 hm3 hd3
 generalize hb3 : decide ((ws.drop n1).head? = some wFuse) = b3 at *
 clear hb3
 have c3 := HC3.o.box.cell 37 rfl
 have f3 := HC3.o.box.frozen 37
 have HC3s := hd' (HC3.o.set (⟨13, Opr.zero, 0, 0, ⟨b3, false, false, false, x1⟩⟩ : Ac) 37 (.bool b3) (set37 _ _ _ _ _ _))
 have HF3s := hd' (HF3.o.mod (Gou.Mod.setCell w3 ⟨(w.heap.size + 1), 37, none⟩ (.bool b3)) (fun e => by have h9 := HzC.o; simp at e; omega))
 clear HC3 HF3
 have u3 := HF3s.o.cell 1 rfl
 go_wp2_with fail
 clear c3 f3 u3
 generalize (w3.setCell ⟨(w.heap.size + 1), 37, none⟩ (.bool b3)) = v3 at *
 refine (unq HC3s.o.ast.rd wAlias).mono ?_
 rintro e w4 ⟨rfl, ⟨n4, h4, hd4⟩, hm4⟩
 have HC4 := hd' (HC3s.o.step hm4 h4)
 have HF4 := hd' (ulh HF3s.o hm4 (by have := HzF.o; omega))
 have D4 := hd' (uox hd4)
 clear h4 hm4 hd4
 generalize hb4 : decide ((ws.drop n3).head? = some wAlias) = b4 at *
 clear hb4
 have c4 := HC4.o.box.cell 38 rfl
 have f4 := HC4.o.box.frozen 38
 have HC4s := hd' (HC4.o.set (⟨13, Opr.zero, 0, 0, ⟨b3, b4, false, false, x1⟩⟩ : Ac) 38 (.bool b4) (set38 _ _ _ _ _ _))
 have HF4s := hd' (HF4.o.mod (Gou.Mod.setCell w4 ⟨(w.heap.size + 1), 38, none⟩ (.bool b4)) (fun e => by have h9 := HzC.o; simp at e; omega))
 clear HC4 HF4
 have u4 := HF4s.o.cell 2 rfl
 go_wp2_with fail
 clear c4 f4 u4
 generalize (w4.setCell ⟨(w.heap.size + 1), 38, none⟩ (.bool b4)) = v4 at *
 refine (unq HC4s.o.ast.rd wRoi).mono ?_
 rintro e w5 ⟨rfl, ⟨n5, h5, hd5⟩, hm5⟩
 have HC5 := hd' (HC4s.o.step hm5 h5)
 have HF5 := hd' (ulh HF4s.o hm5 (by have := HzF.o; omega))
 have D5 := hd' (uox hd5)
 clear h5 hm5 hd5
 generalize hb5 : decide ((ws.drop n4).head? = some wRoi) = b5 at *
 clear hb5
 have c5 := HC5.o.box.cell 39 rfl
 have f5 := HC5.o.box.frozen 39
 have HC5s := hd' (HC5.o.set (⟨13, Opr.zero, 0, 0, ⟨b3, b4, b5, false, x1⟩⟩ : Ac) 39 (.bool b5) (set39 _ _ _ _ _ _))
 have HF5s := hd' (HF5.o.mod (Gou.Mod.setCell w5 ⟨(w.heap.size + 1), 39, none⟩ (.bool b5)) (fun e => by have h9 := HzC.o; simp at e; omega))
 clear HC5 HF5
 have u5 := HF5s.o.cell 3 rfl
 go_wp2_with fail
 clear c5 f5 u5
 generalize (w5.setCell ⟨(w.heap.size + 1), 39, none⟩ (.bool b5)) = v5 at *
 refine (unq HC5s.o.ast.rd wDamage).mono ?_
 rintro e w6 ⟨rfl, ⟨n6, h6, hd6⟩, hm6⟩
 have HC6 := hd' (HC5s.o.step hm6 h6)
 have HF6 := hd' (ulh HF5s.o hm6 (by have := HzF.o; omega))
 have D6 := hd' (uox hd6)
 clear h6 hm6 hd6
 generalize hb6 : decide ((ws.drop n5).head? = some wDamage) = b6 at *
 clear hb6
 have c6 := HC6.o.box.cell 40 rfl
 have f6 := HC6.o.box.frozen 40
 have HC6s := hd' (HC6.o.set (⟨13, Opr.zero, 0, 0, ⟨b3, b4, b5, b6, x1⟩⟩ : Ac) 40 (.bool b6) (set40 _ _ _ _ _ _))
 have HF6s := hd' (HF6.o.mod (Gou.Mod.setCell w6 ⟨(w.heap.size + 1), 40, none⟩ (.bool b6)) (fun e => by have h9 := HzC.o; simp at e; omega))
 clear HC6 HF6
 have Hres : Hid (PP = some ((⟨13, Opr.zero, 0, 0, ⟨b3, b4, b5, b6, x1⟩⟩ : Ac), ws.drop n6)) := hd' (by rw [← HP.o, uqq, R1.o]; simp only [Option.map_some]; rw [D3.o]; simp only []; rw [D4.o]; simp only []; rw [D5.o]; simp only []; rw [D6.o])
 have Hrg := hd' HC6s.o.range
 have Hth := hd' (HC6s.o.ast.there (⟨13, Opr.zero, 0, 0, ⟨b3, b4, b5, b6, x1⟩⟩ : Ac) nlS nlS nlS)
 have HE := hd' (HC6s.o.ast.done (⟨13, Opr.zero, 0, 0, ⟨b3, b4, b5, b6, x1⟩⟩ : Ac) nlS nlS nlS (umm _ _))
 go_wp2_with (first | ((with_reducible refine wpList_load_mid ?g1_2 41 ?x1_2 ?o1_2 (w.heap.size + 1) 0 ?h1_2 (actC (⟨13, Opr.zero, 0, 0, ⟨b3, b4, b5, b6, x1⟩⟩ : Ac) nlS nlS nlS).toList ?d1_2 ?c1_2 ?u1_2 ?s1_2 ?i1_2 ?r1_2); (case g1_2 => exact rfl); (case o1_2 => exact rfl); (case h1_2 => exact rfl); (case c1_2 => exact Hrg.o); (case u1_2 => exact Tryz.underlying41); (case s1_2 => exact rfl); (case i1_2 => exact szAl)) | ((with_reducible refine wpList_store_mid ?g1_3 41 ?x1_3 ?y1_3 ?o1_3 w.heap.size 0 (actC (⟨13, Opr.zero, 0, 0, ⟨b3, b4, b5, b6, x1⟩⟩ : Ac) nlS nlS nlS) ?h1_3 ?j1_3 ?t1_3 ?i1_3 ?s1_3 ?r1_3); (case g1_3 => exact rfl); (case o1_3 => exact rfl); (case h1_3 => exact rfl); (case j1_3 => exact rfl); (case t1_3 => exact Hth.o); (case i1_3 => exact szA); (case s1_3 => exact ukj _ _ _ _ _ _ _ _ _ _)) | fail)
 obtain ⟨hE1, hE2, hE3, hE4⟩ := HE.o
 refine bpr (results_cell_row rfl _ _ w.heap.size 41 (actC (⟨13, Opr.zero, 0, 0, ⟨b3, b4, b5, b6, x1⟩⟩ : Ac) nlS nlS nlS) (0, 0) _ rfl hE3 Tryz.underlying41 rfl szA) rfl ?_
 refine ⟨hE2, ?_⟩
 rw [Hres.o]
 exact ⟨_, n6, rfl, ⟨_, _, _, _, _, _, _, _, _, rfl, hE4⟩, hE1, rfl⟩
end Go.Proofs.YtgolafbneiffpaaGreatDoor
