/- Texts of the scenes' proofs, laid together: TyY, TyZ, TzA, TzB, TzC, Open, LawA, LawB, LawC. -/
import Derived.Test.YtgolafbneiffpaaGreatDoorZao
import Derived.Test.YtgolafbneiffpaaGreatDoorZaj
import Derived.MapKept
import Derived.RegionDies
import Derived.Test.YtgolafbneiffpaaGreatDoorZaa
import Derived.Deep.Slices
import Derived.Deep.Fields
import Derived.Deep.OwnShut
import Derived.Lib.SmallJoins
import Derived.ChangeSame
import Derived.ProofKit
import Derived.OpenShut
import Derived.Test.YtgolafbneiffpaaGreatDoorZam
import Derived.Great.BuildSlice
set_option maxHeartbeats 64000000
set_option linter.unusedSimpArgs false
set_option linter.unusedVariables false
set_option linter.unusedSectionVars false
set_option linter.constructorNameAsVariable false
namespace Go.Proofs.YtgolafbneiffpaaGreatDoor
open Go.RowKit Go.Gou Go.Txt
set_option maxRecDepth 100000
theorem T_px : RowT Tryz.prog 28 27 4 4 (.agg #[.int .u8 0, .int .u8 0, .int .u8 0, .int .u8 0]) := ⟨Tryz.underlying28, by kernel_rfl, rfl, by omega⟩
structure PS (w : World) (R : Nat) (vs : Value) (ws : List Wd) (O : Nat) (o : Opr) (C : Nat) (c : Ct) (vp : Value) (wr : World) (m : Nat) : Prop where
 os : OS w R vs ws O o nlS nlS nlS wr m
 loc : Blk wr C 30 (uak c vp)
 ne : C ≠ O
 hC : w.heap.size < C
theorem PS.step {w : World} {R : Nat} {vs : Value} {ws : List Wd} {O : Nat} {o : Opr} {C : Nat} {c : Ct} {vp : Value} {wr w2 : World} {m m2 : Nat} (h : PS w R vs ws O o C c vp wr m) (hm : Gou.Mod (fun k => k = R) wr w2) (h2 : RdW w2 R vs ws m2) : PS w R vs ws O o C c vp w2 m2 :=
 ⟨h.os.step hm h2, ulh h.loc hm (by have := h.hC; have := h.os.ast.hR; omega), h.ne, h.hC⟩
theorem OS.far {w : World} {R : Nat} {vs : Value} {ws : List Wd} {O : Nat} {o : Opr} {wr w2 : World} {m : Nat} (h : OS w R vs ws O o nlS nlS nlS wr m) (ho : o.look = Lk.zero) {S : Nat → Prop} (hm : Gou.Mod S wr w2) (hS : ∀ k, S k → w.heap.size < k ∧ k ≠ O) : OS w R vs ws O o nlS nlS nlS w2 m :=
 ⟨h.ast.other hm (fun k hk => (hS k hk).1), h.op.mod hm (fun e => (hS _ e).2 rfl), by rw [ho]; exact umm _ _, h.hO⟩
theorem PS.far {w : World} {R : Nat} {vs : Value} {ws : List Wd} {O : Nat} {o : Opr} {C : Nat} {c : Ct} {vp : Value} {wr w2 : World} {m : Nat} (h : PS w R vs ws O o C c vp wr m) (ho : o.look = Lk.zero) {S : Nat → Prop} (hm : Gou.Mod S wr w2) (hS : ∀ k, S k → w.heap.size < k ∧ k ≠ O ∧ k ≠ C) : PS w R vs ws O o C c vp w2 m :=
 ⟨h.os.far ho hm (fun k hk => ⟨(hS k hk).1, (hS k hk).2.1⟩), h.loc.mod hm (fun e => (hS _ e).2.2 rfl), h.ne, h.hC⟩
theorem PS.set {w : World} {R : Nat} {vs : Value} {ws : List Wd} {O : Nat} {o : Opr} {C : Nat} {c : Ct} {vp : Value} {wr : World} {m : Nat} (h : PS w R vs ws O o C c vp wr m) (ho : o.look = Lk.zero) (c' : Ct) (vp' : Value) (i : Nat) (v : Value) (hb : (uak c vp).setIfInBounds i v = uak c' vp') : PS w R vs ws O o C c' vp' (wr.setCell ⟨C, i, none⟩ v) m :=
 ⟨h.os.far ho (Gou.Mod.setCell wr ⟨C, i, none⟩ v) (fun k hk => by have h1 := h.hC; have h2 := h.ne; simp at hk; omega), by have := h.loc.set i v; rwa [hb] at this, h.ne, h.hC⟩
theorem PS.make {w : World} {R : Nat} {vs : Value} {ws : List Wd} {O : Nat} {o : Opr} {wr : World} {m : Nat} (h : OS w R vs ws O o nlS nlS nlS wr m) (ho : o.look = Lk.zero) (c : Ct) (hc : c.pix = []) : PS w R vs ws O o wr.heap.size c nlS ((wr.alloc (.cells #[iV 0, iV 0, iV 0, iV 0, iV 0, .int .u8 0, .int .u8 0, .int .u8 0, .int .u8 0, iV 0, iV 0, iV 0, .slice none 0 0] 30)).setCells wr.heap.size 0 (uak c nlS).toList) m := by
 have hz : w.heap.size < wr.heap.size := Blk.lt h.ast.act
 have hzO : O < wr.heap.size := Blk.lt h.op
 have hA := (Blk.new wr 30 #[iV 0, iV 0, iV 0, iV 0, iV 0, .int .u8 0, .int .u8 0, .int .u8 0, .int .u8 0, iV 0, iV 0, iV 0, .slice none 0 0]).sets 0 (uak c nlS).toList
 rw [uef _ _ (by simp [uak])] at hA
 have hm : Gou.Mod (fun _ => False) wr ((wr.alloc (.cells #[iV 0, iV 0, iV 0, iV 0, iV 0, .int .u8 0, .int .u8 0, .int .u8 0, .int .u8 0, iV 0, iV 0, iV 0, .slice none 0 0] 30)).setCells wr.heap.size 0 (uak c nlS).toList) := (Gou.Mod.alloc0 _ _).trans (Blk.setMod _ _ _ _) (fun i hi e => by omega)
 exact ⟨h.other hm, hA, by omega, hz⟩
theorem PS.there {wr : World} {c : Ct} {a : Value} : (wr.alloc (.cells #[iV 0, iV 0, iV 0, iV 0, iV 0, .int .u8 0, .int .u8 0, .int .u8 0, .int .u8 0, iV 0, iV 0, iV 0, .slice none 0 0] 30)).there wr.heap.size 0 (uak c a).size := (Blk.new wr 30 #[iV 0, iV 0, iV 0, iV 0, iV 0, .int .u8 0, .int .u8 0, .int .u8 0, .int .u8 0, iV 0, iV 0, iV 0, .slice none 0 0]).there 0 _ (by simp [uak])
theorem PS.range {w : World} {R : Nat} {vs : Value} {ws : List Wd} {O : Nat} {o : Opr} {C : Nat} {c : Ct} {vp : Value} {wr : World} {m : Nat} (h : PS w R vs ws O o C c vp wr m) : wr.rangeAt C 0 (uak c vp).toList := Blk.range (pre := []) (post := []) h.loc (by rw [List.append_nil]; rfl) rfl
theorem szCl {c : Ct} {a : Value} : (Tryz.prog.info? 30).map (·.size) = some (uak c a).toList.length := sz_contT.trans (by simp [uak])
theorem set12 (c : Ct) (v v2 : Value) : (uak c v).setIfInBounds 12 v2 = uak c v2 := by kernel_rfl
theorem T_pxs (p : Pxl) : pxs [p] = [.int .u8 (p.p0 : Nat), .int .u8 (p.p1 : Nat), .int .u8 (p.p2 : Nat), .int .u8 (p.p3 : Nat)] := rfl
theorem pxs_snoc (ps : List Pxl) (p : Pxl) : pxs (ps ++ [p]) = pxs ps ++ pxs [p] := by simp
theorem usk {w : World} {R : Nat} {vs : Value} {ws : List Wd} {n : Nat} (h : RdW w R vs ws n) :
  Calls Tryz.prog 87 #[.pointer (some ⟨R, 0, none⟩)] w (RP w R vs ws (VAct w.heap.size) (ull (ws.drop n))) := by
 generalize hP : ull (ws.drop n) = PP
 have HP := hd' hP
 have HA0 := hd' (AS.start h)
 clear hP h
 go_enter Tryz.func87, Tryz.ntmps87
 go_wp2_with fail
 refine (ul5 HA0.o.rd).mono ?_
 rintro e w1 ⟨hm1, h1⟩
 have HM1 := hd' (HA0.o.mod.trans' hm1)
 rcases hr1 : idP (ws.drop n) with _ | ⟨x1, q1⟩
 ·rw [hr1] at h1
  subst h1
  refine ⟨rfl, HM1.o, ?_⟩
  rw [← HP.o]
  simp [ull, lkA, opA, hr1]
 rw [hr1] at h1
 obtain ⟨_, n1, rfl, rfl, h1, rfl⟩ := h1
 have HA1 := hd' (HA0.o.step hm1 h1)
 have R1 := hd' hr1
 clear h1 hr1 hm1
 go_wp2_with (first | ((with_reducible show wpList _ _ _ (⟨_, Op.build _ _, _, _, _, _⟩ :: _) _ _); refine halt ?_) | fail)
 show wpList _ _ _ _ _ _
 refine uav rfl (.agg (oprC (⟨9, x1, (0, 0), 0, Lk.zero⟩ : Opr) nlS nlS nlS)) (by kernel_rfl) ?_
 simp only [Act.put, List.setIfInBounds_toArray, List.set_cons_zero, List.set_cons_succ]
 have HO1 := hd' (OS.make HA1.o (⟨9, x1, (0, 0), 0, Lk.zero⟩ : Opr) rfl)
 go_wp2_with (first | ((with_reducible refine sT 37 ?_); refine stA (oprC (⟨9, x1, (0, 0), 0, Lk.zero⟩ : Opr) nlS nlS nlS) OS.there szO (uk4 _ _ _ _ _ _ _ _ _ _) (h := ?_)) | ((with_reducible show wpList _ _ _ (⟨_, Op.build _ _, _, _, _, _⟩ :: _) _ _); refine halt ?_) | fail)
 generalize (w1.alloc (.cells lz34 37)).setCells w1.heap.size 0 (oprC (⟨9, x1, (0, 0), 0, Lk.zero⟩ : Opr) nlS nlS nlS).toList = v1 at *
 show wpList _ _ _ _ _ _
 refine uav rfl (.agg (uak (⟨2, ⟨0, 0, 0, 0⟩, Pxl.zero, 0, 0, 0, []⟩ : Ct) nlS)) (by kernel_rfl) ?_
 simp only [Act.put, List.setIfInBounds_toArray, List.set_cons_zero, List.set_cons_succ]
 have HP1 := hd' (PS.make HO1.o rfl (⟨2, ⟨0, 0, 0, 0⟩, Pxl.zero, 0, 0, 0, []⟩ : Ct) rfl)
 go_wp2_with (first | ((with_reducible refine sT 30 ?_); refine stA (uak (⟨2, ⟨0, 0, 0, 0⟩, Pxl.zero, 0, 0, 0, []⟩ : Ct) nlS) PS.there szC (umy _ _ _ _) (h := ?_)) | fail)
 generalize hC : v1.heap.size = C at *
 clear HO1
 generalize (v1.alloc (.cells #[iV 0, iV 0, iV 0, iV 0, iV 0, .int .u8 0, .int .u8 0, .int .u8 0, .int .u8 0, iV 0, iV 0, iV 0, .slice none 0 0] 30)).setCells C 0 (uak (⟨2, ⟨0, 0, 0, 0⟩, Pxl.zero, 0, 0, 0, []⟩ : Ct) nlS).toList = v2 at *
 clear hC
 refine (uk3 HP1.o.os.ast.rd).mono ?_
 rintro e w2 ⟨hm2, h2⟩
 have HM2 := hd' (HP1.o.os.ast.mod.trans' hm2)
 rcases hr2 : numP (ws.drop n1) with _ | ⟨x2, q2⟩
 ·rw [hr2] at h2
  subst h2
  refine ⟨rfl, HM2.o, ?_⟩
  rw [← HP.o]
  simp [ull, lkA, opA, R1.o, hr2]
 rw [hr2] at h2
 obtain ⟨_, n2, rfl, rfl, h2, rfl⟩ := h2
 have HP2 := hd' (HP1.o.step hm2 h2)
 have R2 := hd' hr2
 clear h2 hr2 hm2
 have c2 := HP2.o.loc.cell 1 rfl
 have f2 := HP2.o.loc.frozen 1
 have HP2s := hd' (HP2.o.set rfl (⟨2, ⟨x2, 0, 0, 0⟩, Pxl.zero, 0, 0, 0, []⟩ : Ct) nlS 1 (iV x2) (by kernel_rfl))
 go_wp2_with fail
 clear c2 f2 HP2
 generalize (w2.setCell ⟨C, 1, none⟩ (iV x2)) = v12 at *
 refine (uk3 HP2s.o.os.ast.rd).mono ?_
 rintro e w3 ⟨hm3, h3⟩
 have HM3 := hd' (HP2s.o.os.ast.mod.trans' hm3)
 rcases hr3 : numP (ws.drop n2) with _ | ⟨x3, q3⟩
 ·rw [hr3] at h3
  subst h3
  refine ⟨rfl, HM3.o, ?_⟩
  rw [← HP.o]
  simp [ull, lkA, opA, R1.o, R2.o, hr3]
 rw [hr3] at h3
 obtain ⟨_, n3, rfl, rfl, h3, rfl⟩ := h3
 have HP3 := hd' (HP2s.o.step hm3 h3)
 have R3 := hd' hr3
 clear h3 hr3 hm3
 have c3 := HP3.o.loc.cell 2 rfl
 have f3 := HP3.o.loc.frozen 2
 have HP3s := hd' (HP3.o.set rfl (⟨2, ⟨x2, x3, 0, 0⟩, Pxl.zero, 0, 0, 0, []⟩ : Ct) nlS 2 (iV x3) (by kernel_rfl))
 go_wp2_with fail
 clear c3 f3 HP3
 generalize (w3.setCell ⟨C, 2, none⟩ (iV x3)) = v13 at *
 refine (uk3 HP3s.o.os.ast.rd).mono ?_
 rintro e w4 ⟨hm4, h4⟩
 have HM4 := hd' (HP3s.o.os.ast.mod.trans' hm4)
 rcases hr4 : numP (ws.drop n3) with _ | ⟨x4, q4⟩
 ·rw [hr4] at h4
  subst h4
  refine ⟨rfl, HM4.o, ?_⟩
  rw [← HP.o]
  simp [ull, lkA, opA, R1.o, R2.o, R3.o, hr4]
 rw [hr4] at h4
 obtain ⟨_, n4, rfl, rfl, h4, rfl⟩ := h4
 have HP4 := hd' (HP3s.o.step hm4 h4)
 have R4 := hd' hr4
 clear h4 hr4 hm4
 have c4 := HP4.o.loc.cell 9 rfl
 have f4 := HP4.o.loc.frozen 9
 have HP4s := hd' (HP4.o.set rfl (⟨2, ⟨x2, x3, 0, 0⟩, Pxl.zero, x4, 0, 0, []⟩ : Ct) nlS 9 (iV x4) (by kernel_rfl))
 go_wp2_with fail
 clear c4 f4 HP4
 generalize (w4.setCell ⟨C, 9, none⟩ (iV x4)) = v14 at *
 refine (uk3 HP4s.o.os.ast.rd).mono ?_
 rintro e w5 ⟨hm5, h5⟩
 have HM5 := hd' (HP4s.o.os.ast.mod.trans' hm5)
 rcases hr5 : numP (ws.drop n4) with _ | ⟨x5, q5⟩
 ·rw [hr5] at h5
  subst h5
  refine ⟨rfl, HM5.o, ?_⟩
  rw [← HP.o]
  simp [ull, lkA, opA, R1.o, R2.o, R3.o, R4.o, hr5]
 rw [hr5] at h5
 obtain ⟨_, n5, rfl, rfl, h5, rfl⟩ := h5
 have HP5 := hd' (HP4s.o.step hm5 h5)
 have R5 := hd' hr5
 clear h5 hr5 hm5
 have c5 := HP5.o.loc.cell 10 rfl
 have f5 := HP5.o.loc.frozen 10
 have HP5s := hd' (HP5.o.set rfl (⟨2, ⟨x2, x3, 0, 0⟩, Pxl.zero, x4, x5, 0, []⟩ : Ct) nlS 10 (iV x5) (by kernel_rfl))
 go_wp2_with fail
 clear c5 f5 HP5
 generalize (w5.setCell ⟨C, 10, none⟩ (iV x5)) = v15 at *
 refine (uk3 HP5s.o.os.ast.rd).mono ?_
 rintro e w6 ⟨hm6, h6⟩
 have HM6 := hd' (HP5s.o.os.ast.mod.trans' hm6)
 rcases hr6 : numP (ws.drop n5) with _ | ⟨x6, q6⟩
 ·rw [hr6] at h6
  subst h6
  refine ⟨rfl, HM6.o, ?_⟩
  rw [← HP.o]
  simp [ull, lkA, opA, R1.o, R2.o, R3.o, R4.o, R5.o, hr6]
 rw [hr6] at h6
 obtain ⟨_, n6, rfl, rfl, h6, rfl⟩ := h6
 have HP6 := hd' (HP5s.o.step hm6 h6)
 have R6 := hd' hr6
 clear h6 hr6 hm6
 have c6 := HP6.o.loc.cell 11 rfl
 have f6 := HP6.o.loc.frozen 11
 have HP6s := hd' (HP6.o.set rfl (⟨2, ⟨x2, x3, 0, 0⟩, Pxl.zero, x4, x5, x6, []⟩ : Ct) nlS 11 (iV x6) (by kernel_rfl))
 go_wp2_with fail
 clear c6 f6 HP6
 generalize (w6.setCell ⟨C, 11, none⟩ (iV x6)) = v16 at *
 have HPP : Hid ((pixP (ws.drop n6)).map (fun l => (lkA 9 x1 { Lk.zero with content := { (⟨2, ⟨x2, x3, 0, 0⟩, Pxl.zero, x4, x5, x6, []⟩ : Ct) with pix := [] ++ l } }, ([] : List Wd))) = PP) := hd' (by
  rw [← HP.o]
  simp only [ull, R1.o, R2.o, R3.o, R4.o, R5.o, R6.o, Option.bind_some, List.nil_append])
 clear HP
 go_loopw [26] (fun _ wr => ∃ (ps : List Pxl) (vp : Value) (m : Nat), PS w R vs ws w1.heap.size (⟨9, x1, (0, 0), 0, Lk.zero⟩ : Opr) C (⟨2, ⟨x2, x3, 0, 0⟩, Pxl.zero, x4, x5, x6, []⟩ : Ct) vp wr m ∧ wr.ownsRow w.heap.size 27 4 vp ps.length (pxs ps) ∧ vp.ownBlock ≠ some w.heap.size ∧ vp.ownBlock ≠ some w1.heap.size ∧ vp.ownBlock ≠ some C ∧ ((pixP (ws.drop m)).map (fun l => (lkA 9 x1 { Lk.zero with content := { (⟨2, ⟨x2, x3, 0, 0⟩, Pxl.zero, x4, x5, x6, []⟩ : Ct) with pix := ps ++ l } }, ([] : List Wd)))) = PP ∧ ps.length ≤ m) (fun _ wr => ws.length - rdAt R wr)
 case atStart => exact ⟨[], _, n6, HP6s.o, World.ownsRow_nil _ _ _ _, by simp [Value.ownBlock], by simp [Value.ownBlock], by simp [Value.ownBlock], HPP.o, by simp⟩
 case round =>
  obtain ⟨ps, vp, m, hps, hown, he1, he2, he3, hres, hpm⟩ := hrel
  obtain ⟨pb, cb, rfl⟩ := Gou.ownsRow_form hown
  obtain ⟨pw, cw, rfl, -⟩ := RowG.form hps.os.ast.rd.row
  have HP := hd' hps
  have Hown := hd' hown
  have He := hd' (And.intro he1 (And.intro he2 he3))
  have HX := hd' hres
  have Hpm := hd' hpm
  have r0 := hps.os.ast.rd.box.cell 0 rfl
  have r1 := hps.os.ast.rd.box.cell 1 rfl
  have hlen := hps.os.ast.rd.len
  have Hlen := hd' hlen
  have Hat := hd' hps.os.ast.rd.at
  clear hps hown he1 he2 he3 hres hpm HPP HP6s
  by_cases hml : m < ws.length
  ·have t1 : decide ((m : Int) < (ws.length : Int)) = true := dqt (by omega)
   have Hlt := hd' hml
   go_wp2_with fail
   go_quiet (fail)
   have HP4 := hd' (HP.o.step ((Gou.Mod.drewN (fun _ => False) wr nq).imp fun _ _ h => h.elim) (HP.o.os.ast.rd.other (Gou.Mod.drewN (fun _ => False) wr nq)))
   have Hown4 := hd' (uac Hown.o (Gou.Mod.drewN (fun _ => False) wr nq) (fun _ _ h => h))
   generalize wr.drewN nq = w4 at *
   have HzR := hd' HP4.o.os.ast.hR
   have NC : ¬ (C = R ∨ (Value.slice pb ps.length cb).ownBlock = some C) := by
    have h1 := HP4.o.hC
    have h2 := HP4.o.os.ast.hR
    rintro (e | e)
    ·omega
    ·exact He.o.2.2 e
   have cC : w4.cell? ⟨C, 12, none⟩ = some (.slice pb ps.length cb) := HP4.o.loc.cell 12 rfl
   clear r0 r1 HP Hown hml hlen
   go_wp2_with fail
   refine wdf (S := fun w' => Gou.Mod (fun k => k = R ∨ (Value.slice pb ps.length cb).ownBlock = some k) w4 w') 7 (Gou.Mod.drew _ _) (h := fun hH => ?_)
   refine tk 0 (.pointer (some ⟨C, 12, none⟩)) hH (h := ?_)
   refine tkC 1 cC NC hH (h := ?_)
   refine tk 2 (.pointer (some ⟨R, 0, none⟩)) hH (h := ?_)
   refine rd 3 (h := fun K hK => ?_)
   go_simp
   refine (tpx_any (HP4.o.os.ast.rd.other (Gou.Mod.drew _ _))).mono ?_
   rintro e w5 ⟨hm5, h5⟩
   have M := hd' (hH.trans' (hm5.imp fun _ _ h => .inl h))
   have HM5 := hd' ((HP4.o.os.ast.mod.trans' (Gou.Mod.drew _ _)).trans' hm5)
   have HmS := hd' ((Gou.Mod.drew (fun k => k = R) w4).trans' hm5)
   have Hown5 := hd' (uac (uac Hown4.o (Gou.Mod.drew (fun _ => False) _) (fun _ _ h => h)) hm5 (fun k hk e => by have h1 := (Hown4.o.lt k hk).1; have h2 := HzR.o; omega))
   rcases hr5 : pxP (ws.drop m) with _ | ⟨q, q5⟩
   ·rw [hr5] at h5
    subst h5
    refine ⟨rfl, HM5.o, ?_⟩
    rw [← HX.o, ulv Hlt.o, pixP]
    rw [ulv Hlt.o, pxP] at hr5
    have hn : pxT (ws[m]'Hlt.o) = none := by
     cases h : pxT (ws[m]'Hlt.o) with
     | none => rfl
     | some y => rw [h] at hr5; cases hr5
    rw [hn]
    simp only [Option.bind_none, Option.map_none]
   rw [hr5] at h5
   obtain ⟨_, n5, rfl, rfl, h5, rfl⟩ := h5
   have HP5 := hd' (HP4.o.step HmS.o h5)
   have R5x := hd' hr5
   clear hH h5 hr5 hm5 HM5 HmS
   refine hK _ _ M.o (fun hH => ?_)
   clear hK K M
   try simp only [Act.put, uSa, uSb, uSc]
   refine rd 4 (h := fun K hK => ?_)
   go_simp
   have HB6 := hd' (Blk.new w5 27 #[.int .u8 (q.p0 : Nat), .int .u8 (q.p1 : Nat), .int .u8 (q.p2 : Nat), .int .u8 (q.p3 : Nat)])
   have HA6 := hd' (Gou.Mod.alloc0 w5 (.cells #[.int .u8 (q.p0 : Nat), .int .u8 (q.p1 : Nat), .int .u8 (q.p2 : Nat), .int .u8 (q.p3 : Nat)] 27))
   have M := hd' (hH.trans' (HA6.o.imp fun _ _ h => h.elim))
   clear hH
   refine hK _ _ M.o (fun hH => ?_)
   clear hK K M
   try simp only [Act.put, uSa, uSb, uSc]
   refine rd 5 (h := fun K hK => ?_)
   refine ual T_px _ _ rfl w.heap.size (.slice pb ps.length cb) ps.length (pxs ps) (fun _ => True) (.slice (some ⟨w5.heap.size, 0, none⟩) 1 1) 1 (pxs [q]) rfl rfl (by have h1 := HP5.o.os.ast.mod.size; have h2 := HA6.o.size; omega) (uac Hown5.o HA6.o (fun _ _ h => h)) (RowG.of_blk HB6.o 4 1 rfl _ trivial) (by rw [T_pxs]; simp [Value.oneCell']) (by have h1 := Hpm.o; have h2 := Hlt.o; have h3 := Hlen.o; unfold maxLen; omega) (by have h1 := Hpm.o; have h2 := Hlt.o; have h3 := Hlen.o; omega) ?_
   intro v8 w8 G8
   have HG8 := hd' G8
   have M := hd' (hH.trans' (G8.mod.imp fun _ _ h => .inr h))
   clear hH G8
   refine hK _ _ M.o (fun hH => ?_)
   clear hK K M
   try simp only [Act.put, uSa, uSb, uSc]
   refine tk 6 (.pointer (some ⟨C, 12, none⟩)) hH (h := ?_)
   refine tk 7 (.bool true) hH (h := ?_)
   have MS := hd' hH
   refine wpAnyH_done (by kernel_rfl) ?_ _
   clear hH
   show Oper.wp _ _ _ _ _ _
   obtain ⟨p8, c8, rfl⟩ := Gou.ownsRow_form HG8.o.own
   have hfar : ∀ k, (Value.slice pb ps.length cb).ownBlock = some k → w.heap.size < k ∧ k ≠ w1.heap.size ∧ k ≠ C := fun k hk => by
    have h1 := (Hown5.o.lt k hk).1
    refine ⟨?_, fun e => He.o.2.1 (e ▸ hk), fun e => He.o.2.2 (e ▸ hk)⟩
    rcases Nat.lt_or_eq_of_le h1 with h2 | h2
    ·exact h2
    ·exact absurd (h2 ▸ hk) He.o.1
   have hp8 := (HP5.o.far rfl HA6.o (fun _ h => h.elim)).far rfl HG8.o.mod hfar
   have hz5 : w.heap.size < w5.heap.size ∧ w1.heap.size < w5.heap.size ∧ C < w5.heap.size := ⟨Blk.lt HP5.o.os.ast.act, Blk.lt HP5.o.os.op, Blk.lt HP5.o.loc⟩
   have hne8 : ∀ k, k < w5.heap.size → (Value.slice pb ps.length cb).ownBlock ≠ some k → (Value.slice p8 (ps.length + 1) c8).ownBlock ≠ some k := fun k hk h1 e => by
    rcases HG8.o.blk k e with h2 | h2
    ·exact h1 h2
    ·rw [World.size_alloc] at h2; omega
   have HN8 := hd' (And.intro (hne8 _ hz5.1 He.o.1) (And.intro (hne8 _ hz5.2.1 He.o.2.1) (hne8 _ hz5.2.2 He.o.2.2)))
   have HP9 := hd' (hp8.set rfl (⟨2, ⟨x2, x3, 0, 0⟩, Pxl.zero, x4, x5, x6, []⟩ : Ct) (.slice p8 (ps.length + 1) c8) 12 (.slice p8 (ps.length + 1) c8) (set12 _ _ _))
   have Hown9 := hd' (uac HG8.o.own (Gou.Mod.setCell w8 ⟨C, 12, none⟩ (.slice p8 (ps.length + 1) c8)) (fun k hk e => HN8.o.2.2 (by simp at e; rw [← e]; exact hk)))
   have Hnm : Hid (n5 = m + 1 ∧ pxT (ws[m]'Hlt.o) = some q) := hd' (by
    have h1 := R5x.o
    rw [ulv Hlt.o, pxP] at h1
    cases h : pxT (ws[m]'Hlt.o) with
    | none => rw [h] at h1; cases h1
    | some y =>
     rw [h] at h1
     simp only [Option.map_some, Option.some.injEq, Prod.mk.injEq] at h1
     have h2 := congrArg List.length h1.2
     have h3 := HP5.o.os.ast.rd.le
     have h4 := Hlt.o
     simp only [List.length_drop] at h2
     exact ⟨by omega, by rw [h1.1]⟩)
   have c12 := hp8.loc.cell 12 rfl
   have f12 := hp8.loc.frozen 12
   clear hp8 hne8 hz5 hfar cC NC
   go_wp2_with fail
   clear c12 f12
   go_roundw
   case rel =>
    refine ⟨ps ++ [q], _, n5, HP9.o, by rw [List.length_append, pxs_snoc]; exact Hown9.o, ?_, ?_, ?_, ?_, by rw [List.length_append]; have h1 := Hnm.o.1; have h2 := Hpm.o; simp; omega⟩
    ·have := HN8.o.1; simpa [List.length_append] using this
    ·have := HN8.o.2.1; simpa [List.length_append] using this
    ·have := HN8.o.2.2; simpa [List.length_append] using this
    ·rw [← HX.o, ulv Hlt.o, pixP, Hnm.o.2, Hnm.o.1]
     simp only [Option.bind_some]
     cases pixP (ws.drop (m + 1)) <;> simp
   case measure =>
    have h1 := HP9.o.os.ast.rd.at
    have h2 := Hat.o
    have h3 := Hlt.o
    have h4 := Hnm.o.1
    show ws.length - rdAt R _ < ws.length - rdAt R wr
    rw [h1, h2]
    omega
  ·obtain rfl : m = ws.length := by have := HP.o.os.ast.rd.le; omega
   have t1 : decide ((ws.length : Int) < (ws.length : Int)) = false := dqf (by omega)
   go_wp2_with fail
   go_quiet (fail)
   have HP4 := hd' (HP.o.step ((Gou.Mod.drewN (fun _ => False) wr nq).imp fun _ _ h => h.elim) (HP.o.os.ast.rd.other (Gou.Mod.drewN (fun _ => False) wr nq)))
   have Hown4 := hd' (uac Hown.o (Gou.Mod.drewN (fun _ => False) wr nq) (fun _ _ h => h))
   generalize wr.drewN nq = w4 at *
   have Hpx : Hid (PixR (fun b => w.heap.size < b ∧ b ≠ w1.heap.size) w4 (.slice pb ps.length cb) ps) := hd' (RowG.own_of Hown4.o (fun b hb hB => by
    have h1 := (Hown4.o.lt b hb).1
    refine ⟨?_, fun e => He.o.2.1 (e ▸ hb)⟩
    rcases Nat.lt_or_eq_of_le h1 with h2 | h2
    ·exact h2
    ·exact absurd (h2 ▸ hb) He.o.1))
   have HOx : Hid (OS w R (.slice pw ws.length cw) ws w1.heap.size (⟨9, x1, (0, 0), 0, { Lk.zero with content := { (⟨2, ⟨x2, x3, 0, 0⟩, Pxl.zero, x4, x5, x6, []⟩ : Ct) with pix := ps } }⟩ : Opr) (.slice pb ps.length cb) nlS nlS (w4.setCells w1.heap.size 15 (uak { (⟨2, ⟨x2, x3, 0, 0⟩, Pxl.zero, x4, x5, x6, []⟩ : Ct) with pix := ps } (.slice pb ps.length cb)).toList) ws.length) := hd' (HP4.o.os.set (⟨9, x1, (0, 0), 0, { Lk.zero with content := { (⟨2, ⟨x2, x3, 0, 0⟩, Pxl.zero, x4, x5, x6, []⟩ : Ct) with pix := ps } }⟩ : Opr) (.slice pb ps.length cb) nlS nlS (Blk.setMod w4 w1.heap.size 15 (uak { (⟨2, ⟨x2, x3, 0, 0⟩, Pxl.zero, x4, x5, x6, []⟩ : Ct) with pix := ps } (.slice pb ps.length cb)).toList) (Blk.content HP4.o.os.op { (⟨2, ⟨x2, x3, 0, 0⟩, Pxl.zero, x4, x5, x6, []⟩ : Ct) with pix := ps } (.slice pb ps.length cb)) ⟨Hpx.o, NodesR.nil _ _, NodesR.nil _ _⟩)
   have Hrc : Hid (w4.rangeAt C 0 (uak { (⟨2, ⟨x2, x3, 0, 0⟩, Pxl.zero, x4, x5, x6, []⟩ : Ct) with pix := ps } (.slice pb ps.length cb)).toList) := hd' HP4.o.range
   have Hthc : Hid (w4.there w1.heap.size 15 (uak { (⟨2, ⟨x2, x3, 0, 0⟩, Pxl.zero, x4, x5, x6, []⟩ : Ct) with pix := ps } (.slice pb ps.length cb)).size) := hd' (HP4.o.os.op.there 15 _ (by rw [un1]; simp [uak]))
   clear r0 r1 HP Hown hml hlen
   have Hres : Hid (PP = some (lkA 9 x1 { Lk.zero with content := { (⟨2, ⟨x2, x3, 0, 0⟩, Pxl.zero, x4, x5, x6, []⟩ : Ct) with pix := ps } }, ws.drop ws.length)) := hd' (by rw [← HX.o, List.drop_length]; simp [pixP])
   have Hrg := hd' HOx.o.range
   go_wp2_with (first | ((with_reducible refine lT 30 ?_); refine ldA Hrc.o Tryz.underlying30 szCl (h := ?_)) | ((with_reducible refine sT 30 ?_); refine stA (uak { (⟨2, ⟨x2, x3, 0, 0⟩, Pxl.zero, x4, x5, x6, []⟩ : Ct) with pix := ps } (.slice pb ps.length cb)) Hthc.o szC (umy _ _ _ _) (h := ?_)) | ((with_reducible refine lT 37 ?_); refine ldA Hrg.o Tryz.underlying37 szOl (h := ?_)) | fail)
   clear Hrg
   refine (ul4 _ (⟨9, x1, (0, 0), 0, { Lk.zero with content := { (⟨2, ⟨x2, x3, 0, 0⟩, Pxl.zero, x4, x5, x6, []⟩ : Ct) with pix := ps } }⟩ : Opr)).mono ?_
   rintro e w9 ⟨rfl, hm9⟩
   have HO9 := hd' (HOx.o.other hm9)
   clear hm9
   have Hth := hd' (HO9.o.ast.there ⟨((⟨9, x1, (0, 0), 0, { Lk.zero with content := { (⟨2, ⟨x2, x3, 0, 0⟩, Pxl.zero, x4, x5, x6, []⟩ : Ct) with pix := ps } }⟩ : Opr) : Opr).kind, (⟨9, x1, (0, 0), 0, { Lk.zero with content := { (⟨2, ⟨x2, x3, 0, 0⟩, Pxl.zero, x4, x5, x6, []⟩ : Ct) with pix := ps } }⟩ : Opr), 0, 0, Cf.zero⟩ (.slice pb ps.length cb) nlS nlS)
   have HE := hd' (HO9.o.ast.done ⟨((⟨9, x1, (0, 0), 0, { Lk.zero with content := { (⟨2, ⟨x2, x3, 0, 0⟩, Pxl.zero, x4, x5, x6, []⟩ : Ct) with pix := ps } }⟩ : Opr) : Opr).kind, (⟨9, x1, (0, 0), 0, { Lk.zero with content := { (⟨2, ⟨x2, x3, 0, 0⟩, Pxl.zero, x4, x5, x6, []⟩ : Ct) with pix := ps } }⟩ : Opr), 0, 0, Cf.zero⟩ (.slice pb ps.length cb) nlS nlS (HO9.o.look.imp fun k _ hk => hk.1))
   go_wp2_with (first | ((with_reducible refine sT 41 ?_); refine stA (actC ⟨((⟨9, x1, (0, 0), 0, { Lk.zero with content := { (⟨2, ⟨x2, x3, 0, 0⟩, Pxl.zero, x4, x5, x6, []⟩ : Ct) with pix := ps } }⟩ : Opr) : Opr).kind, (⟨9, x1, (0, 0), 0, { Lk.zero with content := { (⟨2, ⟨x2, x3, 0, 0⟩, Pxl.zero, x4, x5, x6, []⟩ : Ct) with pix := ps } }⟩ : Opr), 0, 0, Cf.zero⟩ (.slice pb ps.length cb) nlS nlS) Hth.o szA (ukj _ _ _ _ _ _ _ _ _ _) (h := ?_)) | fail)
   obtain ⟨hE1, hE2, hE3, hE4⟩ := HE.o
   refine bpr (results_cell_row rfl _ _ w.heap.size 41 (actC ⟨((⟨9, x1, (0, 0), 0, { Lk.zero with content := { (⟨2, ⟨x2, x3, 0, 0⟩, Pxl.zero, x4, x5, x6, []⟩ : Ct) with pix := ps } }⟩ : Opr) : Opr).kind, (⟨9, x1, (0, 0), 0, { Lk.zero with content := { (⟨2, ⟨x2, x3, 0, 0⟩, Pxl.zero, x4, x5, x6, []⟩ : Ct) with pix := ps } }⟩ : Opr), 0, 0, Cf.zero⟩ (.slice pb ps.length cb) nlS nlS) (0, 0) _ rfl hE3 Tryz.underlying41 rfl szA) rfl ?_
   refine ⟨hE2, ?_⟩
   rw [Hres.o]
   exact ⟨_, ws.length, rfl, ⟨_, _, _, _, _, _, _, _, _, rfl, hE4⟩, hE1, rfl⟩
end Go.Proofs.YtgolafbneiffpaaGreatDoor
namespace Go.Gou
open Go.RowKit Go.MapKept
theorem run_ins {P : Program} {w : World} {t kt et : TypeId} {r : Nat} {es : Array MapEntry} {clock : Nat} (ht : P.underlying t = some (.map kt et)) (hd : P.underlying kt = some .string) (hb : w.heap[r]? = some (.map es clock)) (s : ByteArray) (v : Value) (hf : Instr.findNow .string (.string s) es.toList 0 = some none) :
  (Instr.mapUpdate t (.map (some r)) (.string s) v).run P w = .ok () { w with heap := w.heap.setIfInBounds r (.map (es.push ⟨.string s, v, clock⟩) (clock + 1)) } := by
 simp [Instr.mapUpdate, run_underlying ht, Go.MapKept.run_getObj_map hb, Go.MapKept.run_checkKey hd (k := .string s) (by simp [IsKey]), Go.MapKept.run_findKey hd hf, Go.MapKept.run_setObj_map _ hb, Result.andThen]
def resV (r : Option (Nat × Value)) (z : Value) : Value := match r with
 | some p => p.2
 | none => z
theorem run_look {P : Program} {w : World} {t kt et : TypeId} {r : Nat} {es : Array MapEntry} {clock : Nat} (ht : P.underlying t = some (.map kt et)) (hd : P.underlying kt = some .string) (hb : w.heap[r]? = some (.map es clock)) (s : ByteArray) {res : Option (Nat × Value)} (hf : Instr.findNow .string (.string s) es.toList 0 = some res) {z : Value} (hz : (zeroValue et).run P w = .ok z w) :
  (Instr.lookup t (.map (some r)) (.string s) false).run P w = .ok (resV res z) w := by
 cases res with
 | none => simp [Instr.lookup, run_underlying ht, Go.MapKept.run_getObj_map hb, Go.MapKept.run_checkKey hd (k := .string s) (by simp [IsKey]), Go.MapKept.run_findKey hd hf, hz, Result.andThen, resV]
 | some p => simp [resV, Instr.lookup, run_underlying ht, Go.MapKept.run_getObj_map hb, Go.MapKept.run_checkKey hd (k := .string s) (by simp [IsKey]), Go.MapKept.run_findKey hd hf, Result.andThen]
theorem uky {P : Program} {ops : Array Oper} {rest : List Oper} {o : Oper} {a : Act} {w : World} {Q : Exit → Act → World → Prop} (hg : o.guard = none) (t : TypeId) (m k x : Operand) (ho : o.op = .insert t m k x) (hdst : o.dst = none) {kt et : TypeId} (ht : P.underlying t = some (.map kt et)) (hd : P.underlying kt = some .string)
  {r : Nat} {es : Array MapEntry} {clock : Nat} (hm : a.eval m = .map (some r)) (s : ByteArray) (hk : a.eval k = .string s) (v : Value) (hx : a.eval x = v) (hb : w.heap[r]? = some (.map es clock)) (hf : Instr.findNow .string (.string s) es.toList 0 = some none)
  (h : ∀ w', w'.heap[r]? = some (.map (es.push ⟨.string s, v, clock⟩) (clock + 1)) → Mod (fun k => k = r) w w' → wpList P ops Q rest a w') : wpList P ops Q (o :: rest) a w := by
 refine wpList_plain hg fun K' hK' => ?_
 unfold Oper.wp
 have hrun := run_ins (P := P) ht hd hb s v hf
 simp [execOp, ho, hm, hk, hx, hrun, Result.andThen]
 have hr : r < w.heap.size := by
  rcases Nat.lt_or_ge r w.heap.size with h' | h'
  ·exact h'
  ·rw [Array.getElem?_eq_none h'] at hb; cases hb
 have hput : a.put o.dst undef = a := by rw [hdst]; rfl
 have h3 := h { w with heap := w.heap.setIfInBounds r (.map (es.push ⟨.string s, v, clock⟩) (clock + 1)) } (by simp only; rw [Array.getElem?_setIfInBounds_self_of_lt hr]) ⟨rfl, rfl, rfl, by simp, fun k hk hs => by simp only; rw [Array.getElem?_setIfInBounds_ne (fun e => hs e.symm)]⟩
 exact hK' _ _ (by rw [hput]; exact h3)
theorem uum {P : Program} {ev : Operand → Value} {d : Option Tmp} {T ty : TypeId} {x y : Operand} {pos : String} {af : Array Edge} {g : Option (Nat × Bool)} {r : Value} {w : World} (h : (Instr.lookup T (ev x) (ev y) false).run P w = .ok r w) :
  (execOp ev { dst := d, op := .lookup T x y false, type := ty, pos := pos, after := af, guard := g }).run P w = .ok (.value r) w := by
 unfold execOp
 simp only [Sem.run_bind, h, Result.andThen_ok, Sem.run_pure]
theorem alloc_get (w : World) (o : Obj) : (w.alloc o).heap[w.heap.size]? = some o := heap_alloc_new w o
theorem uvr {P : Program} {ops : Array Oper} {rest : List Oper} {o : Oper} {a : Act} {w w1 : World} {Q : Exit → Act → World → Prop} (hg : o.guard = none) (v : Value) (hr : (execOp a.eval o).run P w = .ok (.value v) w1) (h : wpList P ops Q rest (a.put o.dst v) w1) : wpList P ops Q (o :: rest) a w :=
 wpList_plain hg fun K hK => by unfold Oper.wp; rw [hr]; exact hK _ _ h
end Go.Gou
namespace Go.Proofs.YtgolafbneiffpaaGreatDoor
open Go.RowKit Go.Gou Go.Txt Go.MapKept
set_option maxRecDepth 100000
def ofV (u : Wd) : Value :=
 if u = un0 then (Value.func (.func 77) #[] #[]) else
 if u = unz then (Value.func (.func 78) #[] #[]) else
 if u = umg then (Value.func (.func 79) #[] #[]) else
 if u = um0 then (Value.func (.func 80) #[] #[]) else
 if u = uny then (Value.func (.func 81) #[] #[]) else
 if u = wCut then (Value.func (.func 82) #[] #[]) else
 if u = usg then (Value.func (.func 83) #[] #[]) else
 if u = usd then (Value.func (.func 84) #[] #[]) else
 if u = usf then (Value.func (.func 85) #[] #[]) else
 if u = wBox then (Value.func (.func 86) #[] #[]) else
 if u = umk then (Value.func (.func 87) #[] #[]) else
 if u = ul3 then (Value.func (.func 88) #[] #[]) else
 if u = uls then (Value.func (.func 89) #[] #[]) else
 if u = usc then (Value.func (.func 90) #[] #[]) else
 if u = uql then (Value.func (.func 91) #[] #[]) else
 if u = umj then (Value.func (.func 92) #[] #[]) else
 .nilFunc
theorem uog {u k : Wd} (h : u ≠ k) : ((⟨u.toArray⟩ : ByteArray) == ⟨k.toArray⟩) = false := by
 rcases hb : ((⟨u.toArray⟩ : ByteArray) == ⟨k.toArray⟩) with _ | _
 ·rfl
 ·exact absurd ((bytes_beq _ _).1 hb) (str_ne h)
def ofE : Array MapEntry := #[⟨.string (⟨#[105, 110, 115, 101, 114, 116]⟩ : ByteArray), (Value.func (.func 77) #[] #[]), 0⟩, ⟨.string (⟨#[114, 101, 109, 111, 118, 101]⟩ : ByteArray), (Value.func (.func 78) #[] #[]), 1⟩, ⟨.string (⟨#[114, 101, 112, 97, 114, 101, 110, 116]⟩ : ByteArray), (Value.func (.func 79) #[] #[]), 2⟩, ⟨.string (⟨#[114, 101, 111, 114, 100, 101, 114]⟩ : ByteArray), (Value.func (.func 80) #[] #[]), 3⟩, ⟨.string (⟨#[115, 104, 105, 102, 116]⟩ : ByteArray), (Value.func (.func 81) #[] #[]), 4⟩, ⟨.string (⟨#[99, 117, 116]⟩ : ByteArray), (Value.func (.func 82) #[] #[]), 5⟩, ⟨.string (⟨#[102, 97, 100, 101]⟩ : ByteArray), (Value.func (.func 83) #[] #[]), 6⟩, ⟨.string (⟨#[109, 111, 100, 101]⟩ : ByteArray), (Value.func (.func 84) #[] #[]), 7⟩, ⟨.string (⟨#[104, 105, 100, 101]⟩ : ByteArray), (Value.func (.func 85) #[] #[]), 8⟩, ⟨.string (⟨#[98, 111, 120]⟩ : ByteArray), (Value.func (.func 86) #[] #[]), 9⟩, ⟨.string (⟨#[112, 105, 99, 116, 117, 114, 101]⟩ : ByteArray), (Value.func (.func 87) #[] #[]), 10⟩, ⟨.string (⟨#[102, 105, 108, 116, 101, 114]⟩ : ByteArray), (Value.func (.func 88) #[] #[]), 11⟩, ⟨.string (⟨#[98, 97, 99, 107, 100, 114, 111, 112]⟩ : ByteArray), (Value.func (.func 89) #[] #[]), 12⟩, ⟨.string (⟨#[118, 105, 101, 119]⟩ : ByteArray), (Value.func (.func 90) #[] #[]), 13⟩, ⟨.string (⟨#[99, 111, 110, 102]⟩ : ByteArray), (Value.func (.func 91) #[] #[]), 14⟩, ⟨.string (⟨#[102, 114, 97, 109, 101]⟩ : ByteArray), (Value.func (.func 92) #[] #[]), 15⟩]
theorem of_find (u : Wd) : ∃ r, Instr.findNow .string (.string ⟨u.toArray⟩) ofE.toList 0 = some r ∧ resV r .nilFunc = ofV u := by
 by_cases h0 : u = un0
 ·subst h0
  exact ⟨some (0, (Value.func (.func 77) #[] #[])), by kernel_rfl, by kernel_rfl⟩
 by_cases h1 : u = unz
 ·subst h1
  exact ⟨some (1, (Value.func (.func 78) #[] #[])), by kernel_rfl, by kernel_rfl⟩
 by_cases h2 : u = umg
 ·subst h2
  exact ⟨some (2, (Value.func (.func 79) #[] #[])), by kernel_rfl, by kernel_rfl⟩
 by_cases h3 : u = um0
 ·subst h3
  exact ⟨some (3, (Value.func (.func 80) #[] #[])), by kernel_rfl, by kernel_rfl⟩
 by_cases h4 : u = uny
 ·subst h4
  exact ⟨some (4, (Value.func (.func 81) #[] #[])), by kernel_rfl, by kernel_rfl⟩
 by_cases h5 : u = wCut
 ·subst h5
  exact ⟨some (5, (Value.func (.func 82) #[] #[])), by kernel_rfl, by kernel_rfl⟩
 by_cases h6 : u = usg
 ·subst h6
  exact ⟨some (6, (Value.func (.func 83) #[] #[])), by kernel_rfl, by kernel_rfl⟩
 by_cases h7 : u = usd
 ·subst h7
  exact ⟨some (7, (Value.func (.func 84) #[] #[])), by kernel_rfl, by kernel_rfl⟩
 by_cases h8 : u = usf
 ·subst h8
  exact ⟨some (8, (Value.func (.func 85) #[] #[])), by kernel_rfl, by kernel_rfl⟩
 by_cases h9 : u = wBox
 ·subst h9
  exact ⟨some (9, (Value.func (.func 86) #[] #[])), by kernel_rfl, by kernel_rfl⟩
 by_cases h10 : u = umk
 ·subst h10
  exact ⟨some (10, (Value.func (.func 87) #[] #[])), by kernel_rfl, by kernel_rfl⟩
 by_cases h11 : u = ul3
 ·subst h11
  exact ⟨some (11, (Value.func (.func 88) #[] #[])), by kernel_rfl, by kernel_rfl⟩
 by_cases h12 : u = uls
 ·subst h12
  exact ⟨some (12, (Value.func (.func 89) #[] #[])), by kernel_rfl, by kernel_rfl⟩
 by_cases h13 : u = usc
 ·subst h13
  exact ⟨some (13, (Value.func (.func 90) #[] #[])), by kernel_rfl, by kernel_rfl⟩
 by_cases h14 : u = uql
 ·subst h14
  exact ⟨some (14, (Value.func (.func 91) #[] #[])), by kernel_rfl, by kernel_rfl⟩
 by_cases h15 : u = umj
 ·subst h15
  exact ⟨some (15, (Value.func (.func 92) #[] #[])), by kernel_rfl, by kernel_rfl⟩
 refine ⟨none, ?_, by simp [resV, ofV, h0, h1, h2, h3, h4, h5, h6, h7, h8, h9, h10, h11, h12, h13, h14, h15]⟩
 have b0 : ((⟨u.toArray⟩ : ByteArray) == (⟨#[105, 110, 115, 101, 114, 116]⟩ : ByteArray)) = false := uog h0
 have b1 : ((⟨u.toArray⟩ : ByteArray) == (⟨#[114, 101, 109, 111, 118, 101]⟩ : ByteArray)) = false := uog h1
 have b2 : ((⟨u.toArray⟩ : ByteArray) == (⟨#[114, 101, 112, 97, 114, 101, 110, 116]⟩ : ByteArray)) = false := uog h2
 have b3 : ((⟨u.toArray⟩ : ByteArray) == (⟨#[114, 101, 111, 114, 100, 101, 114]⟩ : ByteArray)) = false := uog h3
 have b4 : ((⟨u.toArray⟩ : ByteArray) == (⟨#[115, 104, 105, 102, 116]⟩ : ByteArray)) = false := uog h4
 have b5 : ((⟨u.toArray⟩ : ByteArray) == (⟨#[99, 117, 116]⟩ : ByteArray)) = false := uog h5
 have b6 : ((⟨u.toArray⟩ : ByteArray) == (⟨#[102, 97, 100, 101]⟩ : ByteArray)) = false := uog h6
 have b7 : ((⟨u.toArray⟩ : ByteArray) == (⟨#[109, 111, 100, 101]⟩ : ByteArray)) = false := uog h7
 have b8 : ((⟨u.toArray⟩ : ByteArray) == (⟨#[104, 105, 100, 101]⟩ : ByteArray)) = false := uog h8
 have b9 : ((⟨u.toArray⟩ : ByteArray) == (⟨#[98, 111, 120]⟩ : ByteArray)) = false := uog h9
 have b10 : ((⟨u.toArray⟩ : ByteArray) == (⟨#[112, 105, 99, 116, 117, 114, 101]⟩ : ByteArray)) = false := uog h10
 have b11 : ((⟨u.toArray⟩ : ByteArray) == (⟨#[102, 105, 108, 116, 101, 114]⟩ : ByteArray)) = false := uog h11
 have b12 : ((⟨u.toArray⟩ : ByteArray) == (⟨#[98, 97, 99, 107, 100, 114, 111, 112]⟩ : ByteArray)) = false := uog h12
 have b13 : ((⟨u.toArray⟩ : ByteArray) == (⟨#[118, 105, 101, 119]⟩ : ByteArray)) = false := uog h13
 have b14 : ((⟨u.toArray⟩ : ByteArray) == (⟨#[99, 111, 110, 102]⟩ : ByteArray)) = false := uog h14
 have b15 : ((⟨u.toArray⟩ : ByteArray) == (⟨#[102, 114, 97, 109, 101]⟩ : ByteArray)) = false := uog h15
 simp only [ofE, Instr.findNow, Instr.sameNow, b0, b1, b2, b3, b4, b5, b6, b7, b8, b9, b10, b11, b12, b13, b14, b15]
theorem of_any (w : World) (u : Wd) : Calls Tryz.prog 51 #[.string ⟨u.toArray⟩] w fun e w' => e = .returned (ofV u) ∧ Gou.Mod (fun _ => False) w w' := by
 have Hf := hd' (of_find u)
 generalize ofV u = V at *
 generalize (⟨u.toArray⟩ : ByteArray) = U at *
 go_enter Tryz.func51, Tryz.ntmps51
 go_wp2_with ((with_reducible show wpList _ _ _ (⟨_, Op.makeMap _ _, _, _, _, _⟩ :: _) _ _); refine halt ?_)
 show wpList _ _ _ _ _ _
 refine uvr (w1 := w.alloc (.map #[] 0)) rfl (.map (some w.heap.size)) rfl ?_
 simp only [Act.put, List.setIfInBounds_toArray, List.set_cons_zero, List.set_cons_succ]
 have hb0 : (w.alloc (.map #[] 0)).heap[w.heap.size]? = some (.map #[] 0) := alloc_get w _
 have hm0 := Gou.Mod.refl (fun k => k = w.heap.size) (w.alloc (.map #[] 0))
 refine uky rfl 150 _ _ _ rfl rfl Tryz.underlying150 Tryz.underlying9 rfl (⟨#[105, 110, 115, 101, 114, 116]⟩ : ByteArray) rfl (Value.func (.func 77) #[] #[]) rfl hb0 (by kernel_rfl) ?_
 intro w1 hb1 hmm
 have hm1 := hm0.trans' hmm
 clear hb0 hm0 hmm
 refine uky rfl 150 _ _ _ rfl rfl Tryz.underlying150 Tryz.underlying9 rfl (⟨#[114, 101, 109, 111, 118, 101]⟩ : ByteArray) rfl (Value.func (.func 78) #[] #[]) rfl hb1 (by kernel_rfl) ?_
 intro w2 hb2 hmm
 have hm2 := hm1.trans' hmm
 clear hb1 hm1 hmm
 refine uky rfl 150 _ _ _ rfl rfl Tryz.underlying150 Tryz.underlying9 rfl (⟨#[114, 101, 112, 97, 114, 101, 110, 116]⟩ : ByteArray) rfl (Value.func (.func 79) #[] #[]) rfl hb2 (by kernel_rfl) ?_
 intro w3 hb3 hmm
 have hm3 := hm2.trans' hmm
 clear hb2 hm2 hmm
 refine uky rfl 150 _ _ _ rfl rfl Tryz.underlying150 Tryz.underlying9 rfl (⟨#[114, 101, 111, 114, 100, 101, 114]⟩ : ByteArray) rfl (Value.func (.func 80) #[] #[]) rfl hb3 (by kernel_rfl) ?_
 intro w4 hb4 hmm
 have hm4 := hm3.trans' hmm
 clear hb3 hm3 hmm
 refine uky rfl 150 _ _ _ rfl rfl Tryz.underlying150 Tryz.underlying9 rfl (⟨#[115, 104, 105, 102, 116]⟩ : ByteArray) rfl (Value.func (.func 81) #[] #[]) rfl hb4 (by kernel_rfl) ?_
 intro w5 hb5 hmm
 have hm5 := hm4.trans' hmm
 clear hb4 hm4 hmm
 refine uky rfl 150 _ _ _ rfl rfl Tryz.underlying150 Tryz.underlying9 rfl (⟨#[99, 117, 116]⟩ : ByteArray) rfl (Value.func (.func 82) #[] #[]) rfl hb5 (by kernel_rfl) ?_
 intro w6 hb6 hmm
 have hm6 := hm5.trans' hmm
 clear hb5 hm5 hmm
 refine uky rfl 150 _ _ _ rfl rfl Tryz.underlying150 Tryz.underlying9 rfl (⟨#[102, 97, 100, 101]⟩ : ByteArray) rfl (Value.func (.func 83) #[] #[]) rfl hb6 (by kernel_rfl) ?_
 intro w7 hb7 hmm
 have hm7 := hm6.trans' hmm
 clear hb6 hm6 hmm
 refine uky rfl 150 _ _ _ rfl rfl Tryz.underlying150 Tryz.underlying9 rfl (⟨#[109, 111, 100, 101]⟩ : ByteArray) rfl (Value.func (.func 84) #[] #[]) rfl hb7 (by kernel_rfl) ?_
 intro w8 hb8 hmm
 have hm8 := hm7.trans' hmm
 clear hb7 hm7 hmm
 refine uky rfl 150 _ _ _ rfl rfl Tryz.underlying150 Tryz.underlying9 rfl (⟨#[104, 105, 100, 101]⟩ : ByteArray) rfl (Value.func (.func 85) #[] #[]) rfl hb8 (by kernel_rfl) ?_
 intro w9 hb9 hmm
 have hm9 := hm8.trans' hmm
 clear hb8 hm8 hmm
 refine uky rfl 150 _ _ _ rfl rfl Tryz.underlying150 Tryz.underlying9 rfl (⟨#[98, 111, 120]⟩ : ByteArray) rfl (Value.func (.func 86) #[] #[]) rfl hb9 (by kernel_rfl) ?_
 intro w10 hb10 hmm
 have hm10 := hm9.trans' hmm
 clear hb9 hm9 hmm
 refine uky rfl 150 _ _ _ rfl rfl Tryz.underlying150 Tryz.underlying9 rfl (⟨#[112, 105, 99, 116, 117, 114, 101]⟩ : ByteArray) rfl (Value.func (.func 87) #[] #[]) rfl hb10 (by kernel_rfl) ?_
 intro w11 hb11 hmm
 have hm11 := hm10.trans' hmm
 clear hb10 hm10 hmm
 refine uky rfl 150 _ _ _ rfl rfl Tryz.underlying150 Tryz.underlying9 rfl (⟨#[102, 105, 108, 116, 101, 114]⟩ : ByteArray) rfl (Value.func (.func 88) #[] #[]) rfl hb11 (by kernel_rfl) ?_
 intro w12 hb12 hmm
 have hm12 := hm11.trans' hmm
 clear hb11 hm11 hmm
 refine uky rfl 150 _ _ _ rfl rfl Tryz.underlying150 Tryz.underlying9 rfl (⟨#[98, 97, 99, 107, 100, 114, 111, 112]⟩ : ByteArray) rfl (Value.func (.func 89) #[] #[]) rfl hb12 (by kernel_rfl) ?_
 intro w13 hb13 hmm
 have hm13 := hm12.trans' hmm
 clear hb12 hm12 hmm
 refine uky rfl 150 _ _ _ rfl rfl Tryz.underlying150 Tryz.underlying9 rfl (⟨#[118, 105, 101, 119]⟩ : ByteArray) rfl (Value.func (.func 90) #[] #[]) rfl hb13 (by kernel_rfl) ?_
 intro w14 hb14 hmm
 have hm14 := hm13.trans' hmm
 clear hb13 hm13 hmm
 refine uky rfl 150 _ _ _ rfl rfl Tryz.underlying150 Tryz.underlying9 rfl (⟨#[99, 111, 110, 102]⟩ : ByteArray) rfl (Value.func (.func 91) #[] #[]) rfl hb14 (by kernel_rfl) ?_
 intro w15 hb15 hmm
 have hm15 := hm14.trans' hmm
 clear hb14 hm14 hmm
 refine uky rfl 150 _ _ _ rfl rfl Tryz.underlying150 Tryz.underlying9 rfl (⟨#[102, 114, 97, 109, 101]⟩ : ByteArray) rfl (Value.func (.func 92) #[] #[]) rfl hb15 (by kernel_rfl) ?_
 intro w16 hb16 hmm
 have hm16 := hm15.trans' hmm
 clear hb15 hm15 hmm
 have HB : Hid (w16.heap[w.heap.size]? = some (.map ofE 16)) := hd' hb16
 have HM := hd' ((Gou.Mod.alloc0 w (.map #[] 0)).trans hm16 (fun k hk e => by omega))
 clear hb16 hm16
 go_wp2_with ((with_reducible show wpList _ _ _ (⟨_, Op.lookup _ _ _ _, _, _, _, _⟩ :: _) _ _); refine halt ?_)
 show wpList _ _ _ _ _ _
 obtain ⟨r, hr, hv⟩ := Hf.o
 have hl := run_look (P := Tryz.prog) (w := w16) Tryz.underlying150 Tryz.underlying9 HB.o U hr (z := .nilFunc) (by kernel_rfl)
 rw [hv] at hl
 refine uav rfl V (uum hl) ?_
 simp only [Act.put, List.setIfInBounds_toArray, List.set_cons_zero, List.set_cons_succ]
 go_wp2_with fail
 go_ret
 exact ⟨rfl, HM.o⟩
end Go.Proofs.YtgolafbneiffpaaGreatDoor
namespace Go.Txt
open Go Go.Gou
theorem unp {l r : List Wd} {x : Int} (h : numP l = some (x, r)) : r.length ≤ l.length := by
 cases l with
 | nil => cases h
 | cons w t =>
  obtain ⟨n, -, h⟩ := Option.map_eq_some_iff.1 h
  cases h
  simp
theorem id_rest {l r : List Wd} {x : Int × Int} (h : idP l = some (x, r)) : r.length ≤ l.length := by
 obtain ⟨p, hp, h⟩ := Option.bind_eq_some_iff.1 h
 obtain ⟨q, hq, h⟩ := Option.map_eq_some_iff.1 h
 cases h
 exact Nat.le_trans (unp hq) (unp hp)
theorem uu4 : ∀ {ws : List Wd} {l : List Pxl}, pixP ws = some l → l.length = ws.length
 | [], l, h => by cases h; rfl
 | w :: r, l, h => by
  obtain ⟨p, hp, h⟩ := Option.bind_eq_some_iff.1 h
  obtain ⟨q, hq, rfl⟩ := Option.map_eq_some_iff.1 h
  simp [uu4 hq]
theorem up6 {e : Wd} : ∀ {l : List Wd} {k : Nat} {xs : List Int} {r : List Wd}, ulu e k l = some (xs, r) → k ≤ 100 → k + xs.length ≤ 100
 | [], k, xs, r, h, _ => by cases h
 | a :: l, k, xs, r, h, hk => by
  rw [ulu] at h
  split at h
  ·simp at h
   obtain ⟨rfl, -⟩ := h
   simpa using hk
  ·split at h
   ·obtain ⟨x, -, h⟩ := Option.bind_eq_some_iff.1 h
    obtain ⟨q, hq, h⟩ := Option.map_eq_some_iff.1 h
    cases h
    have := up6 hq (by omega)
    simp
    omega
   ·cases h
theorem uq8 : ∀ {f n : Nat} {ws : List Wd} {l : List ubb}, ung f n ws = some l → n ≤ 1000 → n + l.length ≤ 1000 ∧ ∀ x ∈ l, x.ins.length ≤ 100 ∧ x.ps.length ≤ 100
 | f, n, [], l, h, hn => by
  have : l = [] := by cases f <;> (cases h; rfl)
  subst this
  exact ⟨by simpa using hn, fun x hx => by cases hx⟩
 | 0, n, w :: r, l, h, hn => by cases h
 | f + 1, n, w :: r, l, h, hn => by
  obtain ⟨op, hop, h⟩ := Option.bind_eq_some_iff.1 h
  split at h
  ·obtain ⟨i, hi, h⟩ := Option.bind_eq_some_iff.1 h
   obtain ⟨p, hp, h⟩ := Option.bind_eq_some_iff.1 h
   obtain ⟨l', hl, rfl⟩ := Option.map_eq_some_iff.1 h
   have ih := uq8 hl (by omega)
   refine ⟨by simp; omega, fun x hx => ?_⟩
   rcases List.mem_cons.1 hx with rfl | hx
   ·have h1 := up6 hi (by omega)
    have h2 := up6 hp (by omega)
    exact ⟨by simpa using h1, by simpa using h2⟩
   ·exact ih.2 x hx
  ·cases h
theorem up9 {ws : List Wd} {g : Bool × Gr} {r : List Wd} (h : umd ws = some (g, r)) : ucm g.2.nodes := by
 unfold umd at h
 split at h
 ·cases h
  exact ⟨by decide, fun i n hn => by simp [Gr.zero] at hn⟩
 ·obtain ⟨o, ho, h⟩ := Option.bind_eq_some_iff.1 h
  obtain ⟨l, hl, h⟩ := Option.map_eq_some_iff.1 h
  cases h
  have := uq8 hl (by omega)
  refine ⟨by have := this.1; simp at this ⊢; omega, fun i n hn => ?_⟩
  have h2 := this.2 n (lmG hn)
  omega
theorem born_zero : LookBorne Lk.zero := ⟨by decide, ⟨by decide, fun i n hn => by simp [Lk.zero, Gr.zero] at hn⟩, ⟨by decide, fun i n hn => by simp [Lk.zero, Gr.zero] at hn⟩⟩
def PBorn (p : P Ac) : Prop := ∀ ws a r, ws.length ≤ 1000000000 → p ws = some (a, r) → LookBorne a.op.look
theorem PBorn.ite {p q : P Ac} {c : Prop} [Decidable c] (hp : PBorn p) (hq : PBorn q) : PBorn (if c then p else q) := by
 by_cases h : c
 ·rw [if_pos h]; exact hp
 ·rw [if_neg h]; exact hq
theorem ul9 {l : Lk} (h1 : l.content.pix = []) (h2 : l.filt.nodes = []) (h3 : l.back.nodes = []) : LookBorne l := ⟨by rw [h1]; decide, by rw [h2]; exact ⟨by decide, fun i n hn => by simp at hn⟩, by rw [h3]; exact ⟨by decide, fun i n hn => by simp at hn⟩⟩
theorem us5 : PBorn umu := fun ws a r hl h => by
 obtain ⟨x0, h0, h⟩ := Option.bind_eq_some_iff.1 h
 obtain ⟨x1, h1, h⟩ := Option.map_eq_some_iff.1 h
 cases h
 exact ul9 rfl rfl rfl
theorem uss : PBorn um9 := fun ws a r hl h => by
 obtain ⟨x0, h0, h⟩ := Option.map_eq_some_iff.1 h
 cases h
 exact ul9 rfl rfl rfl
theorem uqm : PBorn uln := fun ws a r hl h => by
 obtain ⟨x0, h0, h⟩ := Option.bind_eq_some_iff.1 h
 obtain ⟨x1, h1, h⟩ := Option.bind_eq_some_iff.1 h
 obtain ⟨x2, h2, h⟩ := Option.map_eq_some_iff.1 h
 cases h
 exact ul9 rfl rfl rfl
theorem urs : PBorn ul6 := fun ws a r hl h => by
 obtain ⟨x0, h0, h⟩ := Option.bind_eq_some_iff.1 h
 obtain ⟨x1, h1, h⟩ := Option.map_eq_some_iff.1 h
 cases h
 exact ul9 rfl rfl rfl
theorem ut2 : PBorn um2 := fun ws a r hl h => by
 obtain ⟨x0, h0, h⟩ := Option.bind_eq_some_iff.1 h
 obtain ⟨x1, h1, h⟩ := Option.bind_eq_some_iff.1 h
 obtain ⟨x2, h2, h⟩ := Option.map_eq_some_iff.1 h
 cases h
 exact ul9 rfl rfl rfl
theorem uwd : PBorn uqg := fun ws a r hl h => by
 obtain ⟨x0, h0, h⟩ := Option.bind_eq_some_iff.1 h
 obtain ⟨x1, h1, h⟩ := Option.map_eq_some_iff.1 h
 cases h
 exact ul9 rfl rfl rfl
theorem uv0 : PBorn up4 := fun ws a r hl h => by
 obtain ⟨x0, h0, h⟩ := Option.bind_eq_some_iff.1 h
 obtain ⟨x1, h1, h⟩ := Option.map_eq_some_iff.1 h
 cases h
 exact ul9 rfl rfl rfl
theorem uv4 : PBorn uqp := fun ws a r hl h => by
 obtain ⟨x0, h0, h⟩ := Option.map_eq_some_iff.1 h
 cases h
 exact ul9 rfl rfl rfl
theorem uwc : PBorn upk := fun ws a r hl h => by
 obtain ⟨x0, h0, h⟩ := Option.bind_eq_some_iff.1 h
 obtain ⟨x1, h1, h⟩ := Option.bind_eq_some_iff.1 h
 obtain ⟨x2, h2, h⟩ := Option.map_eq_some_iff.1 h
 cases h
 exact ul9 rfl rfl rfl
theorem uvt : PBorn upt := fun ws a r hl h => by
 obtain ⟨x0, h0, h⟩ := Option.bind_eq_some_iff.1 h
 obtain ⟨x1, h1, h⟩ := Option.map_eq_some_iff.1 h
 cases h
 exact ul9 rfl rfl rfl
theorem uwf : PBorn uqq := fun ws a r hl h => by
 obtain ⟨x0, h0, h⟩ := Option.map_eq_some_iff.1 h
 cases h
 exact ul9 rfl rfl rfl
theorem uuk : PBorn uqb := fun ws a r hl h => by
 cases h
 exact ul9 rfl rfl rfl
theorem cutP_born : PBorn cutP := fun ws a r hl h => by
 obtain ⟨i, hi, h⟩ := Option.bind_eq_some_iff.1 h
 split at h
 ·cases h
  exact ul9 rfl rfl rfl
 ·obtain ⟨y, hy, h⟩ := Option.map_eq_some_iff.1 h
  cases h
  exact ul9 rfl rfl rfl
theorem utd : PBorn ulz := fun ws a r hl h => by
 obtain ⟨i, hi, h⟩ := Option.bind_eq_some_iff.1 h
 obtain ⟨g, hg, h⟩ := Option.map_eq_some_iff.1 h
 cases h
 exact ⟨born_zero.pix, up9 hg, born_zero.back⟩
theorem uqr : PBorn ulj := fun ws a r hl h => by
 obtain ⟨i, hi, h⟩ := Option.bind_eq_some_iff.1 h
 obtain ⟨g, hg, h⟩ := Option.map_eq_some_iff.1 h
 cases h
 exact ⟨born_zero.pix, born_zero.filt, up9 hg⟩
theorem urv : PBorn ull := fun ws a r hl h => by
 obtain ⟨i, hi, h⟩ := Option.bind_eq_some_iff.1 h
 obtain ⟨x, hx, h⟩ := Option.bind_eq_some_iff.1 h
 obtain ⟨y, hy, h⟩ := Option.bind_eq_some_iff.1 h
 obtain ⟨u, hu, h⟩ := Option.bind_eq_some_iff.1 h
 obtain ⟨v, hv, h⟩ := Option.bind_eq_some_iff.1 h
 obtain ⟨t, ht, h⟩ := Option.bind_eq_some_iff.1 h
 obtain ⟨l, hl', h⟩ := Option.map_eq_some_iff.1 h
 cases h
 have h1 := uu4 hl'
 have h2 := unp ht
 have h3 := unp hv
 have h4 := unp hu
 have h5 := unp hy
 have h6 := unp hx
 have h7 := id_rest hi
 exact ⟨by show l.length ≤ 1000000000; omega, born_zero.filt, born_zero.back⟩
theorem read_born {w : Wd} {ws r : List Wd} {a : Ac} (hl : ws.length ≤ 1000000000) (h : ulx w ws = some (a, r)) : LookBorne a.op.look :=
 (show PBorn (ulx w) from PBorn.ite us5 (.ite uss (.ite uqm (.ite urs (.ite ut2 (.ite cutP_born (.ite uwd (.ite uv0 (.ite uv4 (.ite uwc (.ite urv (.ite utd (.ite uqr (.ite uvt (.ite uwf (.ite uuk (fun _ _ _ _ h => nomatch h))))))))))))))))) ws a r hl h
end Go.Txt
namespace Go.Proofs.YtgolafbneiffpaaGreatDoor
open Go.RowKit Go.Gou Go.Txt
set_option maxRecDepth 100000
def Reads1 (f : FuncId) (p : P Ac) : Prop := ∀ (w : World) (R : Nat) (vs : Value) (ws : List Wd) (n : Nat), RdW w R vs ws n → Calls Tryz.prog f #[.pointer (some ⟨R, 0, none⟩)] w (RP w R vs ws (VAct w.heap.size) (p (ws.drop n)))
theorem of_reads (u : Wd) : (ofV u = .nilFunc ∧ ulx u = fun _ => none) ∨ ∃ f, ofV u = .func (.func f) #[] #[] ∧ Reads1 f (ulx u) ∧ ∀ args w, (callFunc f args).run Tryz.prog w = .ok (.enter f args) w := by
 by_cases h0 : u = un0
 ·refine .inr ⟨77, by subst h0; rfl, ?_⟩
  have e : ulx u = umu := by subst h0; rfl
  rw [e]
  exact ⟨fun w R vs ws n h => utz h, fun args w => by kernel_rfl⟩
 by_cases h1 : u = unz
 ·refine .inr ⟨78, by subst h1; rfl, ?_⟩
  have e : ulx u = um9 := by subst h1; rfl
  rw [e]
  exact ⟨fun w R vs ws n h => utw h, fun args w => by kernel_rfl⟩
 by_cases h2 : u = umg
 ·refine .inr ⟨79, by subst h2; rfl, ?_⟩
  have e : ulx u = uln := by subst h2; rfl
  rw [e]
  exact ⟨fun w R vs ws n h => urp h, fun args w => by kernel_rfl⟩
 by_cases h3 : u = um0
 ·refine .inr ⟨80, by subst h3; rfl, ?_⟩
  have e : ulx u = ul6 := by subst h3; rfl
  rw [e]
  exact ⟨fun w R vs ws n h => ush h, fun args w => by kernel_rfl⟩
 by_cases h4 : u = uny
 ·refine .inr ⟨81, by subst h4; rfl, ?_⟩
  have e : ulx u = um2 := by subst h4; rfl
  rw [e]
  exact ⟨fun w R vs ws n h => uvu h, fun args w => by kernel_rfl⟩
 by_cases h5 : u = wCut
 ·refine .inr ⟨82, by subst h5; rfl, ?_⟩
  have e : ulx u = cutP := by subst h5; rfl
  rw [e]
  exact ⟨fun w R vs ws n h => tcut_any h, fun args w => by kernel_rfl⟩
 by_cases h6 : u = usg
 ·refine .inr ⟨83, by subst h6; rfl, ?_⟩
  have e : ulx u = uqg := by subst h6; rfl
  rw [e]
  exact ⟨fun w R vs ws n h => tfade_any h, fun args w => by kernel_rfl⟩
 by_cases h7 : u = usd
 ·refine .inr ⟨84, by subst h7; rfl, ?_⟩
  have e : ulx u = up4 := by subst h7; rfl
  rw [e]
  exact ⟨fun w R vs ws n h => tmode_any h, fun args w => by kernel_rfl⟩
 by_cases h8 : u = usf
 ·refine .inr ⟨85, by subst h8; rfl, ?_⟩
  have e : ulx u = uqp := by subst h8; rfl
  rw [e]
  exact ⟨fun w R vs ws n h => thide_any h, fun args w => by kernel_rfl⟩
 by_cases h9 : u = wBox
 ·refine .inr ⟨86, by subst h9; rfl, ?_⟩
  have e : ulx u = upk := by subst h9; rfl
  rw [e]
  exact ⟨fun w R vs ws n h => tfill_any h, fun args w => by kernel_rfl⟩
 by_cases h10 : u = umk
 ·refine .inr ⟨87, by subst h10; rfl, ?_⟩
  have e : ulx u = ull := by subst h10; rfl
  rw [e]
  exact ⟨fun w R vs ws n h => usk h, fun args w => by kernel_rfl⟩
 by_cases h11 : u = ul3
 ·refine .inr ⟨88, by subst h11; rfl, ?_⟩
  have e : ulx u = ulz := by subst h11; rfl
  rw [e]
  exact ⟨fun w R vs ws n h => ut0 h, fun args w => by kernel_rfl⟩
 by_cases h12 : u = uls
 ·refine .inr ⟨89, by subst h12; rfl, ?_⟩
  have e : ulx u = ulj := by subst h12; rfl
  rw [e]
  exact ⟨fun w R vs ws n h => urq h, fun args w => by kernel_rfl⟩
 by_cases h13 : u = usc
 ·refine .inr ⟨90, by subst h13; rfl, ?_⟩
  have e : ulx u = upt := by subst h13; rfl
  rw [e]
  exact ⟨fun w R vs ws n h => tview_any h, fun args w => by kernel_rfl⟩
 by_cases h14 : u = uql
 ·refine .inr ⟨91, by subst h14; rfl, ?_⟩
  have e : ulx u = uqq := by subst h14; rfl
  rw [e]
  exact ⟨fun w R vs ws n h => tconf_any h, fun args w => by kernel_rfl⟩
 by_cases h15 : u = umj
 ·refine .inr ⟨92, by subst h15; rfl, ?_⟩
  have e : ulx u = uqb := by subst h15; rfl
  rw [e]
  exact ⟨fun w R vs ws n h => uvv h, fun args w => by kernel_rfl⟩
 refine .inl ⟨by simp [ofV, h0, h1, h2, h3, h4, h5, h6, h7, h8, h9, h10, h11, h12, h13, h14, h15], by simp [ulx, h0, h1, h2, h3, h4, h5, h6, h7, h8, h9, h10, h11, h12, h13, h14, h15]⟩
set_option maxRecDepth 100000 in
theorem tone_idle (p0 p1 : Value) (w : World) :
  CallsD Tryz.prog 50 #[p0, p1] .returning w fun e u' w' => e = .returned (.tuple #[]) ∧ u' = .returning ∧ w' = w := by
 refine callsD_of_wpS Tryz.func50 rfl fun c₀ cs hu => ?_
 apply wpS_seq
 apply wpS_region
 simp [wpOpsS, go_sem, recoverD, hu, Tryz.ntmps50, Exit.thenS]
 refine (upu _).mono ?_
 rintro e w' ⟨rfl, rfl⟩
 simp [wpOpsS, go_sem, recoverD, hu, Tryz.ntmps50, Exit.thenS]
 refine wpS_cond (t := false) (by simp [Act.eval, Array.replicate]) ?_
 simp only [Bool.false_eq_true, if_false]
 refine wpS_of_wp (wp_skip ?_)
 cases c₀
 simp_all [bodyPostS, results, Tryz.results50]
set_option maxRecDepth 100000 in
theorem uty (A B : Nat) (ca : Array Value) (hca : ca.size = 42) (vb : Value) (w0 w : World) (older : List PanicEntry) (hm0 : Gou.Mod (fun _ => False) w0 w)
  (hA : Blk w A 41 ca) (hB : Blk w B 4 #[vb]) (hA0 : w0.heap.size ≤ A) (hB0 : w0.heap.size ≤ B) (hAB : A ≠ B) :
  CallsD Tryz.prog 50 #[.pointer (some ⟨A, 0, none⟩), .pointer (some ⟨B, 0, none⟩)] (.panicking ({ v := .iface 84 (.agg #[]), recovered := false } :: older)) w fun e u' w' =>
   e = .returned (.tuple #[]) ∧ u' = .panicking ({ v := .iface 84 (.agg #[]), recovered := true } :: older) ∧ Gou.Mod (fun _ => False) w0 w' ∧ Blk w' A 41 (actC Ac.zero nlS nlS nlS) ∧ Blk w' B 4 #[.bool false] := by
 refine callsD_of_wpS Tryz.func50 rfl fun c₀ cs' hu => ?_
 apply wpS_seq
 apply wpS_region
 simp [wpOpsS, go_sem, recoverD, hu, Tryz.ntmps50, Exit.thenS]
 refine (uot _).mono ?_
 rintro e w1 ⟨rfl, hm1⟩
 have hA1 := hA.mod hm1 (fun h => h)
 have hB1 := hB.mod hm1 (fun h => h)
 have Hth : Hid (w1.there A 0 (actC Ac.zero nlS nlS nlS).size) := hd' (hA1.there 0 _ (by rw [uma, hca]; omega))
 have hA2 := hA1.sets 0 (actC Ac.zero nlS nlS nlS).toList
 rw [uef _ _ (by rw [hca]; simp [actC])] at hA2
 have hB2 := hB1.mod (Blk.setMod w1 A 0 (actC Ac.zero nlS nlS nlS).toList) (fun h => hAB h.symm)
 have cB := hB2.cell 0 rfl
 have fB := hB2.frozen 0
 have hA3 : Blk _ A 41 (actC Ac.zero nlS nlS nlS) := hA2.mod (Gou.Mod.setCell (w1.setCells A 0 (actC Ac.zero nlS nlS nlS).toList) ⟨B, 0, none⟩ (.bool false)) (fun h => hAB h)
 have hB3 := hB2.set 0 (.bool false)
 have hm3 := ((hm0.trans' hm1).trans (Blk.setMod w1 A 0 (actC Ac.zero nlS nlS nlS).toList) (fun i hi e => by omega)).own ⟨B, 0, none⟩ (.bool false) hB0
 have HE := hd' (And.intro hm3 (And.intro hA3 hB3))
 clear hA3 hB3 hm3 hB2 hA2 hA1 hB1 hm0 hA hB hm1
 simp [wpOpsS, go_sem, recoverD, hu, Tryz.ntmps50, Exit.thenS]
 refine wpS_cond (t := true) (by simp [Act.eval, Array.replicate]) ?_
 simp only [if_true]
 refine wpS_of_wp ?_
 go_wp2_with (first | ((with_reducible show wpList _ _ _ (⟨_, Op.build _ _, _, _, _, _⟩ :: _) _ _); refine halt ?_) | fail)
 show wpList _ _ _ _ _ _
 refine uav rfl (.agg (actC Ac.zero nlS nlS nlS)) (by kernel_rfl) ?_
 simp only [Act.put, List.setIfInBounds_toArray, List.set_cons_zero, List.set_cons_succ]
 go_wp2_with (first | ((with_reducible refine wpList_store_mid ?g1_1 41 ?x1_1 ?y1_1 ?o1_1 A 0 (actC Ac.zero nlS nlS nlS) ?h1_1 ?j1_1 ?t1_1 ?i1_1 ?s1_1 ?r1_1); (case g1_1 => exact rfl); (case o1_1 => exact rfl); (case h1_1 => exact rfl); (case j1_1 => exact rfl); (case t1_1 => exact Hth.o); (case i1_1 => exact szA); (case s1_1 => exact ukj _ _ _ _ _ _ _ _ _ _)) | fail)
 cases c₀
 simp_all [bodyPostS, results, Tryz.results50]
 exact HE.o
def OnP (w : World) (res : Option Ac) (e : Ending) (w' : World) : Prop :=
 Gou.Mod (fun _ => False) w w' ∧ ∃ a v, e = .returned (.tuple #[v, .bool res.isSome]) ∧ VAct w.heap.size a w' v ∧ ∀ b, res = some b → a = b
theorem usq (w : World) (o : Nat) (b : Bool) (h : w.cell? ⟨o, 0, none⟩ = some (.bool b)) : (loadVar 4 ⟨o, 0, none⟩).run Tryz.prog w = .ok (.bool b) w := by simp [go_sem, h]
theorem uqz (w : World) (o : Nat) (x : Ac) (a b c : Value) (h : Blk w o 41 (actC x a b c)) : (loadVar 41 ⟨o, 0, none⟩).run Tryz.prog w = .ok (.agg (actC x a b c)) w := run_loadVar_row (P := Tryz.prog) w o 41 41 _ (0, 0) _ h Tryz.underlying41 rfl szA
theorem fn_nil (w : World) : (binOp .neq 118 .nilFunc .nilFunc).run Tryz.prog w = .ok (.bool false) w := by kernel_rfl
theorem fn_some (f : FuncId) (w : World) : (binOp .neq 118 (.func (.func f) #[] #[]) .nilFunc).run Tryz.prog w = .ok (.bool true) w := by kernel_rfl
structure OnIn (w : World) (ca : Array Value) (w' : World) : Prop where
 mod : Gou.Mod (fun _ => False) w w'
 act : Blk w' w.heap.size 41 ca
 ok : Blk w' (w.heap.size + 1) 4 #[.bool false]
 cz : ca.size = 42
theorem OnIn.next {w : World} {ca : Array Value} {w1 w2 : World} {S : Nat → Prop} (h : OnIn w ca w1) (hm : Gou.Mod S w1 w2) (hS : ∀ k, S k → w.heap.size + 1 < k) : OnIn w ca w2 :=
 ⟨h.mod.trans hm fun i hi hs => by have := hS i hs; omega, h.act.mod hm fun hs => by have := hS _ hs; omega, h.ok.mod hm fun hs => by have := hS _ hs; omega, h.cz⟩
theorem OnIn.start (w : World) : OnIn w lz42 ((w.alloc (.cells lz42 41)).alloc (.cells #[.bool false] 4)) := by
 refine ⟨(Gou.Mod.alloc0 _ _).trans' (Gou.Mod.alloc0 _ _), (Blk.new w 41 lz42).mod (Gou.Mod.alloc0 _ _) (fun h => h), ?_, rfl⟩
 have := Blk.new (w.alloc (.cells lz42 41)) 4 #[.bool false]
 rwa [World.size_alloc] at this
theorem OnIn.put {w : World} {ca : Array Value} {w1 : World} (h : OnIn w ca w1) (a : Ac) (x y z : Value) : OnIn w (actC a x y z) (w1.setCells w.heap.size 0 (actC a x y z).toList) := by
 have hA := h.act.sets 0 (actC a x y z).toList
 rw [uef _ _ (by rw [h.cz]; simp [actC])] at hA
 have hm := Blk.setMod w1 w.heap.size 0 (actC a x y z).toList
 exact ⟨h.mod.trans hm (fun i hi e => by omega), hA, h.ok.mod hm (fun e => by omega), by simp [actC]⟩
theorem OnIn.there {w : World} {ca : Array Value} {w1 : World} (h : OnIn w ca w1) (a : Ac) (x y z : Value) : w1.there w.heap.size 0 (actC a x y z).size := h.act.there 0 _ (by rw [uma, h.cz]; omega)
theorem uos {w w1 : World} {ca : Array Value} (h : OnIn w ca w1) (older : List PanicEntry) {res : Option Ac} (hr : res = none) (fn : Func) (tmps : Array Value) (hf : fn.results = #[.cell 2 41, .cell 3 4]) (h2 : tmps.getD 2 undef = .pointer (some ⟨w.heap.size, 0, none⟩)) (h3 : tmps.getD 3 undef = .pointer (some ⟨w.heap.size + 1, 0, none⟩)) :
  Leaves Tryz.prog fn tmps (OnP w res) [{ target := .fn (.func 50) #[.pointer (some ⟨w.heap.size, 0, none⟩), .pointer (some ⟨w.heap.size + 1, 0, none⟩)], args := #[] }] (.panicking ({ v := .iface 84 (.agg #[]), recovered := false } :: [])) w1 := by
 refine leaves_cons (f := 50) (args := #[.pointer (some ⟨w.heap.size, 0, none⟩), .pointer (some ⟨w.heap.size + 1, 0, none⟩)]) (by simp) (by simp [go_sem]) ?_
 refine (uty _ _ _ h.cz _ w w1 _ h.mod h.act h.ok (by omega) (by omega) (by omega)).mono ?_
 rintro e u' w2 ⟨rfl, rfl, hm, hA, hB⟩
 have hlA := uqz _ _ _ _ _ _ hA
 have hlB := usq _ _ _ (hB.cell 0 rfl)
 refine ⟨.tuple #[.agg (actC Ac.zero nlS nlS nlS), .bool false], ?_, hm, ?_⟩
 ·exact ult hf _ _ _ _ _ _ h2 h3 hlA hlB
 ·subst hr
  exact ⟨Ac.zero, _, rfl, ⟨_, _, _, _, _, _, _, _, _, rfl, umm _ _⟩, fun b hb => by cases hb⟩
theorem tone_any (w : World) (p : Option Addr) (c : Nat) (ws : List Wd) (ht : LT w) (hne : ws ≠ []) (hx : RowG (fun _ => True) w 1 (.slice p ws.length c) ws.length (strs ws)) (hlen : ws.length ≤ 1000000000) (hlim : ∀ u ∈ ws, u.length ≤ 1000000000) :
  Calls Tryz.prog 26 #[.slice p ws.length c] w (OnP w (oneT ws)) := by
 obtain ⟨u, r, rfl⟩ : ∃ u r, ws = u :: r := by
  cases ws with
  | nil => exact absurd rfl hne
  | cons u r => exact ⟨u, r, rfl⟩
 generalize hRR : oneT (u :: r) = RR
 have HRR := hd' hRR
 clear hRR hne
 have H0 := hd' (OnIn.start w)
 have Ht := hd' ht
 have Hlen := hd' hlen
 have Hlim := hd' hlim
 have HX0 := hd' (RowG.mod (RowG.imp (G' := fun b => b < w.heap.size) hx (fun k hk _ => hk)) H0.o.mod (fun _ _ _ h => h))
 generalize hws : u :: r = ws at *
 have Hws := hd' hws
 have hlp : 0 < ws.length := by rw [← hws]; simp
 have hx0 := HX0.o
 obtain ⟨-, p', c', e, hcap, hc⟩ := hx0
 simp only [Value.slice.injEq] at e
 obtain ⟨rfl, -, rfl⟩ := e
 rcases hc with hc | ⟨b, o, rfl, hb, hbl, hc⟩
 ·omega
 have c0 : ((w.alloc (.cells lz42 41)).alloc (.cells #[.bool false] 4)).cell? ⟨b, o, none⟩ = some (.string ⟨u.toArray⟩) := hc 0 _ (by rw [← hws]; rfl)
 have hlpI : (0 : Int) < (ws.length : Int) := by omega
 clear hc hx ht hlen hlim hws
 go_enter_defers Tryz.func26, Tryz.ntmps26
 go_wp2_with fail
 refine (of_any _ u).mono ?_
 rintro e w2 ⟨rfl, hm2⟩
 have H2 := hd' (H0.o.next hm2 (fun _ h => h.elim))
 have HX2 := hd' (RowG.mod HX0.o hm2 (fun _ _ _ h => h))
 clear hm2 c0 H0 HX0
 rcases of_reads u with ⟨hv, hrd⟩ | ⟨f, hv, hrd, heg⟩
 ·rw [hv]
  have Hno : Hid (RR = none) := hd' (by rw [← HRR.o, ← Hws.o]; simp [oneT, hrd])
  clear hv hrd
  have hq := fn_nil w2
  go_wp2_with fail
  refine (ukv _).mono ?_
  rintro e w' ⟨rfl, hww⟩
  obtain rfl : w2 = w' := hww.symm
  exact uos H2.o [] Hno.o _ _ rfl rfl rfl
 ·rw [hv]
  have Hrd := hd' hrd
  have Heg := hd' heg
  clear hv hrd heg
  have hq := fn_some f w2
  go_wp2_with fail
  clear hq
  refine (ulo _).mono ?_
  rintro e w' ⟨rfl, hww⟩
  obtain rfl : w2 = w' := hww.symm
  clear hww
  have HR := hd' (show w.heap.size + 1 < w2.heap.size from Blk.lt H2.o.ok)
  have HD3 : Hid (RdW (w2.alloc (.cells #[.slice (some ⟨b, o, none⟩) ws.length c, iV 1] 122)) w2.heap.size (.slice (some ⟨b, o, none⟩) ws.length c) ws 1) := hd'
      ⟨Ht.o.up0 (H2.o.mod.trans' (Gou.Mod.alloc0 _ _)), by have := Ht.o.sz; have := HR.o; omega, Blk.new w2 122 _, RowG.imp (RowG.mod HX2.o (Gou.Mod.alloc0 _ _) (fun _ _ _ h => h)) (fun k _ hk => by have := HR.o; omega), by omega, Hlen.o, Hlim.o⟩
  have H3 := hd' (H2.o.next (Gou.Mod.alloc0 w2 (.cells #[.slice (some ⟨b, o, none⟩) ws.length c, iV 1] 122)) (fun _ h => h.elim))
  have HZ3 : Hid ((w2.alloc (.cells #[.slice (some ⟨b, o, none⟩) ws.length c, iV 1] 122)).heap.size = w2.heap.size + 1) := hd' (by simp)
  have heg := Heg.o #[.pointer (some ⟨w2.heap.size, 0, none⟩)] (w2.alloc (.cells #[.slice (some ⟨b, o, none⟩) ws.length c, iV 1] 122))
  go_wp2_with fail
  refine (Hrd.o _ _ _ _ 1 HD3.o).mono ?_
  rintro e w4 ⟨hm4, h4⟩
  have H4 := hd' (H3.o.next hm4 (fun k hk => by subst hk; exact HR.o))
  have Hz4 := hd' (Nat.le_trans (Nat.le_of_eq HZ3.o.symm) hm4.size)
  have Hr1 : Hid (ws.drop 1 = r) := hd' (by rw [← Hws.o]; rfl)
  rcases hr4 : ulx u (ws.drop 1) with _ | ⟨a, q⟩
  ·rw [hr4] at h4
   subst h4
   exact uos H4.o [] (by rw [← HRR.o, ← Hws.o, oneT, ← Hr1.o, hr4]; rfl) _ _ rfl rfl rfl
  rw [hr4] at h4
  obtain ⟨v, m, rfl, hv, h4, rfl⟩ := h4
  obtain ⟨p1, n1, k1, p2, n2, k2, p3, n3, k3, rfl, hl⟩ := hv
  have e1 : n1 = a.op.look.content.pix.length := by
   obtain ⟨_, _, e, _⟩ := RowG.form hl.pix
   simp only [Value.slice.injEq] at e
   exact e.2.1
  have e2 : n2 = a.op.look.filt.nodes.length := by
   obtain ⟨_, _, e⟩ := hl.filt.form
   simp only [Value.slice.injEq] at e
   exact e.2.1
  have e3 : n3 = a.op.look.back.nodes.length := by
   obtain ⟨_, _, e⟩ := hl.back.form
   simp only [Value.slice.injEq] at e
   exact e.2.1
  subst e1 e2 e3
  have R4 := hd' hr4
  have Hle := hd' h4.le
  have Hth := hd' (H4.o.there a (.slice p1 a.op.look.content.pix.length k1) (.slice p2 a.op.look.filt.nodes.length k2) (.slice p3 a.op.look.back.nodes.length k3))
  have H5 := hd' (H4.o.put a (.slice p1 a.op.look.content.pix.length k1) (.slice p2 a.op.look.filt.nodes.length k2) (.slice p3 a.op.look.back.nodes.length k3))
  have hS := Blk.setMod w4 w.heap.size 0 (actC a (.slice p1 a.op.look.content.pix.length k1) (.slice p2 a.op.look.filt.nodes.length k2) (.slice p3 a.op.look.back.nodes.length k3)).toList
  have cR := (h4.box.mod hS (fun e => by have := HR.o; omega)).cell 1 rfl
  have HL5 := hd' ((hl.mod hS (fun k _ hk e => by have h1 := HR.o; have h2 := HZ3.o; omega)).imp (G' := fun b => w.heap.size + 1 < b) (fun k _ hk => by have h1 := HR.o; have h2 := HZ3.o; omega))
  have Hbn := hd' (read_born (by rw [List.length_drop]; have := Hlen.o; omega) hr4)
  have Hsm := hd' (read_ok hr4).small
  clear hr4 h4 hl hS hm4 heg HD3 H4
  obtain ⟨bq, e5⟩ : ∃ bq, ((m : Int) == (ws.length : Int)) = bq := ⟨_, rfl⟩
  have Hbq : Hid (bq = true ↔ m = ws.length) := hd' (by rw [← e5, beq_iff_eq]; omega)
  go_wp2_with (first | ((with_reducible refine wpList_store_mid ?g1_2 41 ?x1_2 ?y1_2 ?o1_2 w.heap.size 0 (actC a (.slice p1 a.op.look.content.pix.length k1) (.slice p2 a.op.look.filt.nodes.length k2) (.slice p3 a.op.look.back.nodes.length k3)) ?h1_2 ?j1_2 ?t1_2 ?i1_2 ?s1_2 ?r1_2); (case g1_2 => exact rfl); (case o1_2 => exact rfl); (case h1_2 => exact rfl); (case j1_2 => exact rfl); (case t1_2 => exact Hth.o); (case i1_2 => exact szA); (case s1_2 => exact ukj _ _ _ _ _ _ _ _ _ _)) | fail)
  clear cR e5
  rcases bq with _ | _
  rotate_left
  ·have Hml : Hid (m = ws.length) := hd' (Hbq.o.1 rfl)
   refine (ulo _).mono ?_
   rintro e w' ⟨rfl, hww⟩
   subst hww
   generalize w4.setCells w.heap.size 0 (actC a (.slice p1 a.op.look.content.pix.length k1) (.slice p2 a.op.look.filt.nodes.length k2) (.slice p3 a.op.look.back.nodes.length k3)).toList = w5 at *
   have Hrg : Hid (w5.rangeAt w.heap.size 0 (actC a (.slice p1 a.op.look.content.pix.length k1) (.slice p2 a.op.look.filt.nodes.length k2) (.slice p3 a.op.look.back.nodes.length k3)).toList) := hd' (Blk.range (pre := []) (post := []) H5.o.act (by rw [List.append_nil]; rfl) rfl)
   go_wp2_with (first | ((with_reducible refine wpList_load_mid ?g1_3 41 ?x1_3 ?o1_3 w.heap.size 0 ?h1_3 (actC a (.slice p1 a.op.look.content.pix.length k1) (.slice p2 a.op.look.filt.nodes.length k2) (.slice p3 a.op.look.back.nodes.length k3)).toList ?d1_3 ?c1_3 ?u1_3 ?s1_3 ?i1_3 ?r1_3); (case g1_3 => exact rfl); (case o1_3 => exact rfl); (case h1_3 => exact rfl); (case c1_3 => exact Hrg.o); (case u1_3 => exact Tryz.underlying41); (case s1_3 => exact rfl); (case i1_3 => exact szAl)) | fail)
   refine (uru _ p1 p2 p3 k1 k2 k3 a (HL5.o.imp fun _ _ _ => trivial) Hbn.o Hsm.o).mono ?_
   rintro e w6 ⟨hm6, h6⟩
   have H6 := hd' (H5.o.next hm6 (fun _ h => h.elim))
   have HL6 := hd' (HL5.o.mod hm6 (fun _ _ _ h => h))
   clear hm6 Hrg
   rcases he : uk6 a with _ | es
   ·rw [he] at h6
    subst h6
    have Hno : Hid (RR = none) := hd' (by rw [← HRR.o, ← Hws.o, oneT, ← Hr1.o, R4.o]; simp [he])
    clear he
    go_wp2_with fail
    refine (ukv _).mono ?_
    rintro e w' ⟨rfl, hww⟩
    obtain rfl : w6 = w' := hww.symm
    exact uos H6.o [] Hno.o _ _ rfl rfl rfl
   ·rw [he] at h6
    obtain ⟨v6, rfl, hv6⟩ := h6
    obtain ⟨pv, cv, rfl⟩ := Gou.ownsRow_form hv6
    have Hyes : Hid (RR = some a) := hd' (by rw [← HRR.o, ← Hws.o, oneT, ← Hr1.o, R4.o, Hml.o]; simp [he])
    clear he hv6
    go_wp2_with fail
    refine (ulo _).mono ?_
    rintro e w' ⟨rfl, hww⟩
    obtain rfl : w6 = w' := hww.symm
    clear hww
    have Hrg : Hid (w6.rangeAt w.heap.size 0 (actC a (.slice p1 a.op.look.content.pix.length k1) (.slice p2 a.op.look.filt.nodes.length k2) (.slice p3 a.op.look.back.nodes.length k3)).toList) := hd' (Blk.range (pre := []) (post := []) H6.o.act (by rw [List.append_nil]; rfl) rfl)
    have Hth := hd' (H6.o.there a (.slice p1 a.op.look.content.pix.length k1) (.slice p2 a.op.look.filt.nodes.length k2) (.slice p3 a.op.look.back.nodes.length k3))
    have h7 := H6.o.put a (.slice p1 a.op.look.content.pix.length k1) (.slice p2 a.op.look.filt.nodes.length k2) (.slice p3 a.op.look.back.nodes.length k3)
    have cB := h7.ok.cell 0 rfl
    have fB := h7.ok.frozen 0
    have hA7 := h7.act.mod (Gou.Mod.setCell _ ⟨w.heap.size + 1, 0, none⟩ (.bool true)) (fun e => by simp at e)
    have hB7 := h7.ok.set 0 (.bool true)
    have hm7 := h7.mod.own ⟨w.heap.size + 1, 0, none⟩ (.bool true) (by show w.heap.size ≤ w.heap.size + 1; omega)
    have hL7 := HL6.o.mod (Blk.setMod w6 w.heap.size 0 (actC a (.slice p1 a.op.look.content.pix.length k1) (.slice p2 a.op.look.filt.nodes.length k2) (.slice p3 a.op.look.back.nodes.length k3)).toList) (fun k _ hk e => by omega)
    have hL8 := (hL7.mod (Gou.Mod.setCell _ ⟨w.heap.size + 1, 0, none⟩ (.bool true)) (fun k _ hk e => by simp at e; omega)).imp (G' := fun b => w.heap.size ≤ b) (fun _ _ hk => by omega)
    have HE := hd' (And.intro hA7 (And.intro hB7 (And.intro hm7 hL8)))
    clear hA7 hB7 hm7 hL7 hL8 h7
    go_wp2_with (first | ((with_reducible refine wpList_load_mid ?g1_5 41 ?x1_5 ?o1_5 w.heap.size 0 ?h1_5 (actC a (.slice p1 a.op.look.content.pix.length k1) (.slice p2 a.op.look.filt.nodes.length k2) (.slice p3 a.op.look.back.nodes.length k3)).toList ?d1_5 ?c1_5 ?u1_5 ?s1_5 ?i1_5 ?r1_5); (case g1_5 => exact rfl); (case o1_5 => exact rfl); (case h1_5 => exact rfl); (case c1_5 => exact Hrg.o); (case u1_5 => exact Tryz.underlying41); (case s1_5 => exact rfl); (case i1_5 => exact szAl)) | ((with_reducible refine wpList_store_mid ?g1_4 41 ?x1_4 ?y1_4 ?o1_4 w.heap.size 0 (actC a (.slice p1 a.op.look.content.pix.length k1) (.slice p2 a.op.look.filt.nodes.length k2) (.slice p3 a.op.look.back.nodes.length k3)) ?h1_4 ?j1_4 ?t1_4 ?i1_4 ?s1_4 ?r1_4); (case g1_4 => exact rfl); (case o1_4 => exact rfl); (case h1_4 => exact rfl); (case j1_4 => exact rfl); (case t1_4 => exact Hth.o); (case i1_4 => exact szA); (case s1_4 => exact ukj _ _ _ _ _ _ _ _ _ _)) | fail)
    show Leaves _ _ _ _ _ _ _
    refine leaves_cons (f := 50) (args := #[.pointer (some ⟨w.heap.size, 0, none⟩), .pointer (some ⟨w.heap.size + 1, 0, none⟩)]) (by simp) (by simp [go_sem]) ?_
    refine (tone_idle _ _ _).mono ?_
    rintro e u' w7 ⟨rfl, rfl, hww⟩
    subst hww
    obtain ⟨hA, hB, hm, hL⟩ := HE.o
    refine ⟨.tuple #[.agg (actC a (.slice p1 a.op.look.content.pix.length k1) (.slice p2 a.op.look.filt.nodes.length k2) (.slice p3 a.op.look.back.nodes.length k3)), .bool true], ?_, hm, ?_⟩
    ·exact ult rfl _ _ _ _ _ _ rfl rfl (uqz _ _ _ _ _ _ hA) (usq _ _ _ (hB.cell 0 rfl))
    ·rw [Hyes.o]
     exact ⟨a, _, rfl, ⟨_, _, _, _, _, _, _, _, _, rfl, hL⟩, fun b hb => by cases hb; rfl⟩
  ·have hml : m ≠ ws.length := fun h => by have := Hbq.o.2 h; cases this
   have Hno : Hid (RR = none) := hd' (by
    rw [← HRR.o, ← Hws.o, oneT, ← Hr1.o, R4.o]
    simp only [Option.bind_some]
    rw [if_neg]
    rintro ⟨h, -⟩
    have h2 := congrArg List.length h
    have h3 := Hle.o
    rw [List.length_drop] at h2
    simp at h2
    omega)
   clear hml
   refine (ukv _).mono ?_
   rintro e w' ⟨rfl, hww⟩
   subst hww
   exact uos H5.o [] Hno.o _ _ rfl rfl rfl
theorem blank_any (x : Nat) (w : World) : Calls Tryz.prog 49 #[.int .i32 (x : Int)] w fun e w' => e = .returned (.bool (unw x)) ∧ w' = w := by
 go_enter Tryz.func49, Tryz.ntmps49
 by_cases h0 : x = 32
 ·subst h0
  go_wp2_with fail
  go_ret
  exact ⟨rfl, rfl⟩
 ·have e0 : ((x : Int) == 32) = false := by rw [bqf]; omega
  by_cases h1 : x = 9
  ·subst h1
   go_wp2_with fail
   go_ret
   exact ⟨rfl, rfl⟩
  ·have e1 : ((x : Int) == 9) = false := by rw [bqf]; omega
   have e2 : Hid (unw x = false) := hd' (by simp [unw, h0, h1])
   clear h0 h1
   go_wp2_with fail
   go_ret
   exact ⟨by rw [e2.out]; rfl, rfl⟩
theorem uuq (w : World) : Go.Proofs.PredAtRunes Tryz.prog 49 #[] unw w := fun W x _ _ => by
 unfold Go.Proofs.FnGives
 rw [Array.append_empty]
 refine (blank_any x W).mono ?_
 rintro e w' ⟨rfl, rfl⟩
 exact ⟨rfl, 0, rfl⟩
theorem strs_of (l : List ByteArray) : strs (l.map fun x => x.data.toList) = l.map Value.string := by
 simp only [strs, List.map_map]
 apply List.map_congr_left
 intro x _
 rfl
theorem okB_lt {c : UInt8} (h : umc c = true) : c.toNat < 128 := by
 simp only [umc, uly, Bool.or_eq_true, beq_iff_eq, Bool.and_eq_true, decide_eq_true_eq] at h
 rcases h with (rfl | rfl) | h
 ·decide
 ·decide
 ·omega
theorem okB_iff (c : UInt8) : umc c = (decide (c.toNat = 32) || (decide (c.toNat = 9) || (decide (33 ≤ c.toNat) && decide (c.toNat ≤ 126)))) := by
 have h1 : (c == 32) = decide (c.toNat = 32) := by
  by_cases h : c = 32
  ·subst h; rfl
  ·rw [bqf.2 h, dqf (fun e : c.toNat = 32 => h (UInt8.toNat_inj.1 e))]
 have h2 : (c == 9) = decide (c.toNat = 9) := by
  by_cases h : c = 9
  ·subst h; rfl
  ·rw [bqf.2 h, dqf (fun e : c.toNat = 9 => h (UInt8.toNat_inj.1 e))]
 rw [umc, uly, h1, h2, Bool.or_assoc]
theorem take_ok {l : List UInt8} {i : Nat} (h : i < l.length) (h1 : (l.take i).all umc = true) (h2 : umc l[i] = true) : (l.take (i + 1)).all umc = true := by
 rw [List.take_add_one, lgE h, List.all_append, h1]
 simp [h2]
theorem all_not {l : List UInt8} {i : Nat} (h : i < l.length) (h2 : umc l[i] = false) : l.all umc = false := by
 rcases ha : l.all umc with _ | _
 ·rfl
 ·have := List.all_eq_true.1 ha _ (lgM h)
  rw [h2] at this
  cases this
def SplP (w : World) (res : Option (List Wd)) (e : Ending) (w' : World) : Prop :=
 Gou.Mod (fun _ => False) w w' ∧ match res with
  | none => e = .returned (.tuple #[.slice none 0 0, .bool false])
  | some ws => ∃ p c, e = .returned (.tuple #[.slice p ws.length c, .bool true]) ∧ RowG (fun _ => True) w' 1 (.slice p ws.length c) ws.length (strs ws)
theorem split_any (w : World) (s : List UInt8) (hs : s.length ≤ 1000000000) (ht : LT w) :
  Calls Tryz.prog 25 #[.string ⟨s.toArray⟩] w (SplP w (uli s)) := by
 generalize hW : uli s = WW
 have HW := hd' hW
 have Hs := hd' hs
 obtain ⟨m, hm⟩ := ht.mx
 have hsz : (⟨s.toArray⟩ : ByteArray).size = s.length := by simp [ByteArray.size]
 have Hcut := hd' (Tryz.strings_Cut ⟨s.toArray⟩ ⟨#[35]⟩ m w (by omega) hm)
 clear hW hs hm ht hsz
 go_enter Tryz.func25, Tryz.ntmps25
 go_wp2_with fail
 refine Hcut.o.mono ?_
 rintro e w1 ⟨rfl, k1, rfl⟩
 rw [cut_head]
 have HM1 := hd' (Gou.Mod.drewN (fun _ => False) w k1)
 have Hh : Hid ((unr s).length ≤ 1000000000) := hd' (Nat.le_trans (List.takeWhile_sublist _).length_le Hs.o)
 have HW2 : Hid ((if (unr s).all umc then some (ukl [] (unr s)) else none) = WW) := hd' HW.o
 generalize (Lib.cut s [35]).2.1 = y1 at *
 generalize (Lib.cut s [35]).2.2 = y2 at *
 generalize unr s = h at *
 generalize w.drewN k1 = w1 at *
 have hsz : (⟨h.toArray⟩ : ByteArray).size = h.length := by simp [ByteArray.size]
 clear Hcut HW Hs
 go_wp2_with fail
 go_loopw [14] (fun vi wr => ∃ i : Nat, vi = iV i ∧ i ≤ h.length ∧ (h.take i).all umc = true ∧ wr = w1) (fun vi _ => h.length - (intOf vi).toNat)
 case atStart => exact ⟨0, rfl, by omega, rfl, rfl⟩
 case round =>
  obtain ⟨i, rfl, hi, hall, rfl⟩ := hrel
  have Hall := hd' hall
  have hi1 : wrap64 ((i : Int) + 1) = (i : Int) + 1 := IntWalk.wrap64_in _ (by have := Hh.o; omega)
  clear hall hsz
  by_cases hil : i < h.length
  ·have t1 : decide ((i : Int) < (h.length : Int)) = true := dqt (by omega)
   have Hil := hd' hil
   have dI := upv (u := h) hil (i : Int) rfl wr
   rw [show h.getD i 0 = h[i] by rw [List.getD, lgE hil]; rfl] at dI
   have Htk := hd' (take_ok hil Hall.o)
   have Han := hd' (all_not hil)
   rw [okB_iff] at Htk Han
   generalize h[i].toNat = n at *
   clear hil
   by_cases h32 : n = 32
   ·subst h32
    go_wp2_with fail
    go_roundw
    case rel => exact ⟨i + 1, by go_num, by have := Hil.o; omega, Htk.o rfl, by first | exact rfl | trivial⟩
    case measure => first | exact ury Hil.o | exact up5 Hil.o hi1
   by_cases h9 : n = 9
   ·subst h9
    go_wp2_with fail
    go_roundw
    case rel => exact ⟨i + 1, by go_num, by have := Hil.o; omega, Htk.o rfl, by first | exact rfl | trivial⟩
    case measure => first | exact ury Hil.o | exact up5 Hil.o hi1
   have e0 : ((n : Int) == 32) = false := by rw [bqf]; omega
   have e1 : ((n : Int) == 9) = false := by rw [bqf]; omega
   have e0' : ((n : Int) != 32) = true := by simp [bne, e0]
   have e1' : ((n : Int) != 9) = true := by simp [bne, e1]
   by_cases h33 : n < 33
   ·have d0 : decide ((n : Int) < 33) = true := dqt (by omega)
    have Hno : Hid (WW = none) := hd' (by rw [← HW2.o, if_neg]; rw [Han.o (by simp; omega)]; simp)
    clear h32 h9 h33
    go_wp2_with fail
    go_ret2
    exact ⟨HM1.o, by rw [Hno.o]; rfl⟩
   ·have d0 : decide ((n : Int) < 33) = false := dqf (by omega)
    by_cases h126 : 126 < n
    ·have d1 : decide ((126 : Int) < (n : Int)) = true := dqt (by omega)
     have Hno : Hid (WW = none) := hd' (by rw [← HW2.o, if_neg]; rw [Han.o (by simp; omega)]; simp)
     clear h32 h9 h33 h126
     go_wp2_with fail
     go_ret2
     exact ⟨HM1.o, by rw [Hno.o]; rfl⟩
    ·have d1 : decide ((126 : Int) < (n : Int)) = false := dqf (by omega)
     have Hok : Hid ((h.take (i + 1)).all umc = true) := hd' (Htk.o (by simp; omega))
     clear h32 h9 h33 h126
     go_wp2_with fail
     go_roundw
     case rel => exact ⟨i + 1, by go_num, by have := Hil.o; omega, Hok.o, by first | exact rfl | trivial⟩
     case measure => first | exact ury Hil.o | exact up5 Hil.o hi1
  ·obtain rfl : i = h.length := by omega
   have t1 : decide ((h.length : Int) < (h.length : Int)) = false := dqf (by omega)
   have hall : h.all umc = true := by have := Hall.o; rwa [List.take_length] at this
   have Hyes : Hid (WW = some (ukl [] h)) := hd' (by rw [← HW2.o, if_pos hall])
   have Hff : Hid ((Lib.goFieldsP unw ⟨h.toArray⟩).map (fun x => x.data.toList) = ukl [] h) := hd' (uul ⟨h.toArray⟩ (fun c hc => okB_lt (List.all_eq_true.1 hall c hc)))
   have Hcall := hd' (Tryz.strings_FieldsFunc_runes 49 #[] (fun args w => by kernel_rfl) unw ⟨h.toArray⟩ wr (by have := Hh.o; simp [ByteArray.size]; omega) (uuq wr))
   clear hall
   go_wp2_with fail
   refine Hcall.o.mono ?_
   rintro e w2 ⟨A, rfl, hA, hown, hb⟩
   have HM2 := hd' (HM1.o.trans' (Gou.Mod.of_below hb (fun _ => False)))
   have Hown := hd' (RowG.of_own hown)
   clear hown hb Hcall hA
   have Hl : Hid ((Lib.goFieldsP unw ⟨h.toArray⟩).length = (ukl [] h).length) := hd' (by rw [← Hff.o, List.length_map])
   have Hst : Hid ((Lib.goFieldsP unw ⟨h.toArray⟩).map Value.string = strs (ukl [] h)) := hd' (by rw [← Hff.o, strs_of])
   rw [Hl.o, Hst.o] at Hown
   rw [Hl.o]
   go_wp2_with fail
   go_ret2
   refine ⟨HM2.o, ?_⟩
   rw [Hyes.o]
   exact ⟨_, _, rfl, RowG.imp Hown.o fun _ _ _ => trivial⟩
end Go.Proofs.YtgolafbneiffpaaGreatDoor
namespace Go.Gou
open Go.RowKit Go.ChangeShapes Go.WideShapes Go.Deep Go.Joins
section
variable {H : Type} {enc : TypeId × Value → H} {P : Program} {w : World} {base : Nat} {spare : Nat → Bool} {held : Bool}
theorem udk {t e : TypeId} {fs : Array Field} {fuel : Nat} {cs : List Value} {x : DataW H × List MemPlace} (ht : P.underlying t = some (.slice e)) (he : P.underlying e = some (.struct fs))
  (hone : oneCellFields P fs = true) (hC : P.cellsOf e = fs.size) (h : DataW.trod enc P w base spare held fuel t cs = some x) :
  (cs = [.slice none 0 0] ∧ x = (.nil, [])) ∨
  ∃ (a : Addr) (len cap m : Nat) (D : Nat → DataW H) (Pl : Nat → List MemPlace), cs = [.slice (some a) len cap] ∧ base ≤ a.block ∧ len ≤ cap ∧ cap ≤ maxLen ∧ m = (if spare a.block then cap else len) ∧
      x = (.slice ((List.range len).map D) ((List.range (m - len)).map fun j => D (len + j)), MemPlace.row a (m * fs.size) ++ (List.range m).flatMap Pl) ∧
      ∀ i, i < m → ∃ (ys : List (DataW H × List MemPlace)) (n : Nat), D i = .agg (ys.map (·.1)) ∧ Pl i = ys.flatMap (·.2) ∧ ys.length = fs.size ∧
          ∀ (j : Nat) (f : Field), fs[j]? = some f → ∃ (v : Value) (y : DataW H × List MemPlace), w.cell? (a.add (i * fs.size + j)) = some v ∧ ys[j]? = some y ∧ DataW.trod enc P w base spare held n f.type [v] = some y := by
 rcases open_slice ht h with h0 | ⟨a, len, cap, m, n, D, Pl, hcs, hb, hl, hm, hmm, hx, hi⟩
 ·exact .inl h0
 ·refine .inr ⟨a, len, cap, m, D, Pl, hcs, hb, hl, hm, hmm, by rw [hC] at hx; exact hx, fun i him => ?_⟩
  obtain ⟨cs', hc, ht'⟩ := hi i him
  rw [hC] at hc
  obtain ⟨ys, n', hn', hy, hlen, hyl, hf⟩ := DataW.trod_struct he ht'
  obtain ⟨_, hcl, hat⟩ := World.cells?_some hc
  simp only [Prod.mk.injEq] at hy
  refine ⟨ys, n', hy.1, hy.2, hyl, fun j f hj => ?_⟩
  obtain ⟨ho, hk⟩ := hone_of hone j f hj
  have hjl : j < fs.size := (Array.getElem?_eq_some_iff.1 hj).1
  have hcell := hat j hjl
  have hv : cs'[j]? = some (cs'[j]'(by omega)) := lgE (by omega)
  have h1 := hf j f hj
  rw [ho, hk] at h1
  have hone' : (cs'.drop j).take 1 = [cs'[j]'(by omega)] := by
   rw [List.drop_eq_getElem_cons (by omega)]
   rfl
  rw [hone'] at h1
  have hys : ys[j]? = some (ys[j]'(by omega)) := lgE (by omega)
  refine ⟨_, _, ?_, hys, h1.trans hys⟩
  rw [← Go.Deep.add_add, hcell, hv]
theorem uds {t e : TypeId} {fuel : Nat} {v : Value} {x : DataW H × List MemPlace} (ht : P.underlying t = some (.slice e)) (he : P.underlying e = some (.int .i64)) (hc : P.cellsOf e = 1)
  (h : DataW.trod enc P w base spare held fuel t [v] = some x) : ∃ xs, IntsAt w.heap.size w v xs ∧ (∀ y ∈ xs, (Lit.int .i64 y).wf = true) ∧ xs.length ≤ maxLen := by
 rcases open_slice1 ht hc h with ⟨hcs, _⟩ | ⟨a, len, cap, m, n, V, D, Pl, hcs, _, hl, hm, hmm, _, hi⟩
 ·obtain rfl : v = .slice none 0 0 := by simpa using hcs
  exact ⟨[], ⟨none, 0, rfl, Nat.le_refl _, .inl rfl⟩, by simp, by simp⟩
 ·obtain rfl : v = .slice (some a) len cap := by simpa using hcs
  have hlm : len ≤ m := by rw [hmm]; split <;> omega
  have hint : ∀ i, i < len → ∃ q : Int, V i = .int .i64 q ∧ (Lit.int .i64 q).wf = true := by
   intro i hil
   obtain ⟨_, ht'⟩ := hi i (by omega)
   obtain ⟨q, hq, _, hw⟩ := DataW.trod_int he ht'
   simp at hq
   exact ⟨q, hq, hw⟩
  obtain ⟨f, hf⟩ := choose_lt (p := fun i (q : Int) => V i = .int .i64 q ∧ (Lit.int .i64 q).wf = true) hint
  refine ⟨(List.range len).map f, ?_, ?_, by simp; omega⟩
  ·by_cases h0 : len = 0
   ·subst h0
    exact ⟨some a, cap, rfl, by simp, .inl rfl⟩
   ·obtain ⟨b, o, sp⟩ := a
    have hsp : sp = none := by
     have := World.cell?_spot (hi 0 (by omega)).1
     simpa [Addr.add] using this
    subst hsp
    refine ⟨_, cap, by simp, by simpa using hl, .inr ⟨b, o, rfl, ?_, ?_⟩⟩
    ·have := wbc w _ (hi 0 (by omega)).1
     simpa [Addr.add] using this
    ·intro i hil
     have hil' : i < len := by simpa using hil
     have h1 := (hi i (by omega)).1
     rw [add_plain] at h1
     rw [h1, (hf i hil').1]
     simp
  ·intro y hy
   simp at hy
   obtain ⟨i, hil, rfl⟩ := hy
   exact (hf i hil).2
structure NodeT (P : Program) (e : TypeId) (fs : Array Field) (ti tn : TypeId) : Prop where
 ty : P.underlying e = some (.struct fs)
 one : oneCellFields P fs = true
 cells : P.cellsOf e = fs.size
 size : fs.size = 3
 f0 : ∃ f, fs[0]? = some f ∧ P.underlying f.type = some (.int .i64)
 f1 : ∃ f, fs[1]? = some f ∧ P.underlying f.type = some (.slice tn)
 f2 : ∃ f, fs[2]? = some f ∧ P.underlying f.type = some (.slice tn)
 tint : P.underlying tn = some (.int .i64)
 tc : P.cellsOf tn = 1
structure uol (n : ubb) : Prop where
 op : (Lit.int .i64 n.op).wf = true
 ins : ∀ x ∈ n.ins, (Lit.int .i64 x).wf = true
 ps : ∀ x ∈ n.ps, (Lit.int .i64 x).wf = true
 insl : n.ins.length ≤ maxLen
 psl : n.ps.length ≤ maxLen
instance : Inhabited ubb := ⟨⟨0, [], []⟩⟩
theorem uf4 {t e ti tn : TypeId} {fs : Array Field} {fuel : Nat} {v : Value} {x : DataW H × List MemPlace} (N : NodeT P e fs ti tn) (ht : P.underlying t = some (.slice e))
  (h : DataW.trod enc P w base spare held fuel t [v] = some x) : ∃ ns, NodesAt w.heap.size w v ns ∧ (∀ n ∈ ns, uol n) ∧ ns.length ≤ maxLen := by
 rcases udk ht N.ty N.one N.cells h with ⟨hcs, _⟩ | ⟨a, len, cap, m, D, Pl, hcs, _, hl, hm, hmm, _, hi⟩
 ·obtain rfl : v = .slice none 0 0 := by simpa using hcs
  exact ⟨[], ⟨none, 0, rfl, Nat.le_refl _, .inl rfl⟩, by simp, by simp⟩
 ·obtain rfl : v = .slice (some a) len cap := by simpa using hcs
  have hlm : len ≤ m := by rw [hmm]; split <;> omega
  have hnode : ∀ i, i < len → ∃ n : ubb, uol n ∧ ∃ vi vp, w.cell? (a.add (i * 3)) = some (.int .i64 n.op) ∧ w.cell? (a.add (i * 3 + 1)) = some vi ∧ w.cell? (a.add (i * 3 + 2)) = some vp ∧ IntsAt w.heap.size w vi n.ins ∧ IntsAt w.heap.size w vp n.ps := by
   intro i hil
   obtain ⟨ys, k, _, _, _, hf⟩ := hi i (by omega)
   rw [N.size] at hf
   obtain ⟨f0, h0, t0⟩ := N.f0
   obtain ⟨f1, h1, t1⟩ := N.f1
   obtain ⟨f2, h2, t2⟩ := N.f2
   obtain ⟨v0, y0, c0, _, r0⟩ := hf 0 f0 h0
   obtain ⟨v1, y1, c1, _, r1⟩ := hf 1 f1 h1
   obtain ⟨v2, y2, c2, _, r2⟩ := hf 2 f2 h2
   obtain ⟨q, hq, _, hw⟩ := DataW.trod_int t0 r0
   obtain rfl : v0 = .int .i64 q := by simpa using hq
   obtain ⟨ins, hi1, hw1, hl1⟩ := uds t1 N.tint N.tc r1
   obtain ⟨ps, hi2, hw2, hl2⟩ := uds t2 N.tint N.tc r2
   exact ⟨⟨q, ins, ps⟩, ⟨hw, hw1, hw2, hl1, hl2⟩, v1, v2, by simpa using c0, c1, c2, hi1, hi2⟩
  obtain ⟨f, hf⟩ := choose_lt (p := fun i (n : ubb) => uol n ∧ ∃ vi vp, w.cell? (a.add (i * 3)) = some (.int .i64 n.op) ∧ w.cell? (a.add (i * 3 + 1)) = some vi ∧ w.cell? (a.add (i * 3 + 2)) = some vp ∧ IntsAt w.heap.size w vi n.ins ∧ IntsAt w.heap.size w vp n.ps) hnode
  refine ⟨(List.range len).map f, ?_, ?_, by simp; omega⟩
  ·by_cases h0 : len = 0
   ·subst h0
    exact ⟨some a, cap, rfl, by simp, .inl rfl⟩
   ·obtain ⟨b, o, sp⟩ := a
    obtain ⟨_, _, _, hc0, _⟩ := hf 0 (by omega)
    have hsp : sp = none := by
     have := World.cell?_spot hc0
     simpa [Addr.add] using this
    subst hsp
    refine ⟨_, cap, by simp, by simpa using hl, .inr ⟨b, o, rfl, ?_, ?_⟩⟩
    ·have := wbc w _ hc0
     simpa [Addr.add] using this
    ·intro i hil
     have hil' : i < len := by simpa using hil
     obtain ⟨_, vi, vp, k0, k1, k2, r1, r2⟩ := hf i hil'
     rw [add_plain] at k0 k1 k2
     refine ⟨vi, vp, ?_, by rw [Nat.add_assoc]; exact k1, by rw [Nat.add_assoc]; exact k2, by simpa using r1, by simpa using r2⟩
     rw [k0]
     simp
  ·intro n hn
   simp at hn
   obtain ⟨i, hil, rfl⟩ := hn
   exact (hf i hil).1
end
open Go.RowKit
end Go.Gou
namespace Go.Proofs.YtgolafbneiffpaaGreatDoor
open Go.RowKit Go.Gou
end Go.Proofs.YtgolafbneiffpaaGreatDoor
namespace Go.Gou
open Go.RowKit
theorem BytesAt.lit {w : World} {B : Nat} {cs : Array Value} {T : TypeId} (bs : List Nat) (hcs : cs.toList = u8s bs) (hB : B = w.heap.size) (n : Nat) (hn : n = bs.length) : BytesAt (fun _ => True) (w.alloc (.cells cs T)) (.slice (some ⟨B, 0, none⟩) n n) bs := by
 subst hB hn
 refine ⟨_, _, rfl, Nat.le_refl _, .inr ⟨w.heap.size, 0, rfl, by simp, trivial, fun i hi => ?_⟩⟩
 rw [Nat.zero_add, cell_of_row (w.alloc (.cells cs T)) w.heap.size i cs T (0, 0) (heap_alloc_new w _), ← agT, hcs]
 simp [hi]
end Go.Gou
namespace Go.Proofs.YtgolafbneiffpaaGreatDoor
open Go.RowKit Go.Gou
end Go.Proofs.YtgolafbneiffpaaGreatDoor
namespace Go.Gou
open Go.RowKit
theorem ucq (cs : Array Value) (o : Nat) (vs : List Value) (h : o + vs.length ≤ cs.size) (j : Nat) : (uao cs o vs)[j]? = if o ≤ j ∧ j < o + vs.length then vs[j - o]? else cs[j]? := by
 induction vs generalizing cs o with
 | nil =>
  rw [uao, if_neg (by simp)]
 | cons v r ih =>
  simp only [List.length_cons] at h
  rw [uao, ih (cs.setIfInBounds o v) (o + 1) (by simp; omega)]
  by_cases h1 : j = o
  ·subst h1
   rw [if_neg (by omega), if_pos (by simp)]
   simp [Array.getElem?_setIfInBounds]
   omega
  ·by_cases h2 : o + 1 ≤ j ∧ j < o + 1 + r.length
   ·rw [if_pos h2, if_pos (by simp; omega)]
    have : j - o = (j - (o + 1)) + 1 := by omega
    rw [this, List.getElem?_cons_succ]
   ·rw [if_neg h2, if_neg (by simp; omega), Array.getElem?_setIfInBounds, if_neg (fun h => h1 h.symm)]
theorem uh2 (ps : List Pxl) : (pxs ps).length = 4 * ps.length := by
 induction ps with
 | nil => rfl
 | cons p r ih => simp only [pxs, List.flatMap_cons, List.length_append] at ih ⊢; rw [ih]; simp [Pxl.cells]; omega
theorem ut7 (ps : List Pxl) (k : Nat) (p : Pxl) (h : k < ps.length) (j : Nat) : (pxs (ps.set k p))[j]? = if k * 4 ≤ j ∧ j < k * 4 + 4 then p.cells[j - k * 4]? else (pxs ps)[j]? := by
 induction ps generalizing k j with
 | nil => simp at h
 | cons q r ih =>
  cases k with
  | zero =>
   simp only [List.set_cons_zero, pxs, List.flatMap_cons, Nat.zero_mul, Nat.zero_le, true_and, Nat.zero_add, Nat.sub_zero]
   by_cases hj : j < 4
   ·rw [if_pos hj, lgL (by simpa [Pxl.cells] using hj)]
   ·rw [if_neg hj, lgR (by simp [Pxl.cells]; omega), lgR (by simp [Pxl.cells]; omega)]
    rfl
  | succ k =>
   simp only [List.length_cons] at h
   simp only [List.set_cons_succ, pxs, List.flatMap_cons]
   by_cases hj : j < 4
   ·rw [if_neg (by omega), lgL (by simpa [Pxl.cells] using hj), lgL (by simpa [Pxl.cells] using hj)]
   ·have hq : q.cells.length = 4 := rfl
    rw [lgR (by omega), lgR (by omega), hq]
    have := ih k (by omega) (j - 4)
    simp only [pxs] at this
    rw [this]
    by_cases hc : k * 4 ≤ j - 4 ∧ j - 4 < k * 4 + 4
    ·rw [if_pos hc, if_pos (by omega)]
     congr 1
     omega
    ·rw [if_neg hc, if_neg (by omega)]
theorem PixR.put {G : Nat → Prop} {w : World} {b o n cap : Nat} {ps : List Pxl} (h : PixR G w (.slice (some ⟨b, o, none⟩) n cap) ps) {cur : Array Value} {T : TypeId} (hb : w.heap[b]? = some (.cells cur T (0, 0))) {k : Nat} (hk : k < ps.length) (p : Pxl) :
  o + k * 4 + 4 ≤ cur.size ∧ PixR G (w.setCells b (o + k * 4) p.cells) (.slice (some ⟨b, o, none⟩) n cap) (ps.set k p) := by
 obtain ⟨hl, p', cap', e, hcap, h⟩ := h
 simp only [Value.slice.injEq] at e
 obtain ⟨rfl, rfl, rfl⟩ := e
 rcases h with h | ⟨b', o', e, hlt, hG, hc⟩
 ·omega
 ·simp only [Option.some.injEq, Addr.mk.injEq] at e
  obtain ⟨rfl, rfl, _⟩ := e
  have hsz : o + k * 4 + 4 ≤ cur.size := by
   have h3 := hc (k * 4 + 3) _ (pxs_get ps k hk).2.2.2
   rw [cell_of_row w b _ cur T (0, 0) hb] at h3
   have := (Array.getElem?_eq_some_iff.1 h3).1
   omega
  refine ⟨hsz, ⟨?_, some ⟨b, o, none⟩, cap, by simp, by simpa using hcap, .inr ⟨b, o, rfl, ?_, hG, fun j u hu => ?_⟩⟩⟩
  ·rw [uh2, List.length_set]; omega
  ·rw [ukm]; exact hlt
  ·have hb2 := Blk.sets hb (o + k * 4) p.cells
   rw [cell_of_row _ b (o + j) _ T (0, 0) hb2, ucq _ _ _ (by simpa [Pxl.cells] using hsz)]
   rw [ut7 ps k p hk j] at hu
   have hpl : p.cells.length = 4 := rfl
   rw [hpl]
   by_cases hj : k * 4 ≤ j ∧ j < k * 4 + 4
   ·rw [if_pos hj] at hu
    rw [if_pos (by omega), ← hu]
    congr 1
    omega
   ·rw [if_neg hj] at hu
    rw [if_neg (by omega)]
    have := hc j u hu
    rw [cell_of_row w b _ cur T (0, 0) hb] at this
    exact this
end Go.Gou
namespace Go.Proofs.YtgolafbneiffpaaGreatDoor
open Go.RowKit Go.Gou
end Go.Proofs.YtgolafbneiffpaaGreatDoor
