/- Texts of the scenes' proofs, laid together: ScO, ScQ, ScT, ScU, ScV, ScX, ScY, ScZ, ScP. -/
import Derived.Test.YtpbmfalokongfaaGreatDoorZac
import Derived.Test.YtpbmfalokongfaaGreatDoorZab
import Derived.Deep.Cut
import Derived.Deep.DeepAppendRoom
import Derived.Lib.SliceRun
import Derived.Shelf.Spec.SlicesInsertGrow
import Derived.Test.YtpbmfalokongfaaGreatDoorZaa
set_option maxHeartbeats 64000000
set_option linter.unusedSimpArgs false
set_option linter.unusedVariables false
set_option linter.unusedSectionVars false
set_option linter.constructorNameAsVariable false
namespace Go.Gou
theorem Ly.heightL_take {ks : List Ly} {j : Nat} (h : j < ks.length) : Ly.heightL (ks.take (j + 1)) = max (Ly.heightL (ks.take j)) (1 + ks[j].height) := by
 induction ks generalizing j with
 | nil => simp at h
 | cons k ks ih =>
  cases j with
  | zero => simp [Ly.heightL]
  | succ j =>
   rw [List.take_succ_cons, List.take_succ_cons, Ly.heightL, Ly.heightL, ih (by simpa using h)]
   simp only [List.getElem_cons_succ]
   omega
end Go.Gou
namespace Go.Proofs.YtpbmfalokongfaaGreatDoor
open Go.RowKit Go.Gou
set_option maxRecDepth 100000
def FreeP (w : World) (b : Ar) (e : Ending) (w' : World) : Prop := Gou.Mod (fun _ => False) w w' ∧ ∃ vg vl q, e = .returned (.tuple #[.agg #[vg, vl], .bool q]) ∧ ArL w.heap.size w' vg vl b
theorem uj2 (w : World) (vg vl : Value) (a : Ar) (x : Idt) (h : ArR w vg vl a) (hlen : a.gens.length = a.live.length) (hn : a.live.length ≤ 1024) (hg : ∀ g ∈ a.gens, 0 ≤ g ∧ g ≤ 1000000000000) :
 Calls Tryz.prog 67 #[.agg #[vg, vl], .agg #[iV x.1, iV x.2]] w (FreeP w (a.free x)) := by
 obtain ⟨⟨pg, cg, rfl⟩, ⟨pl, cl, rfl⟩⟩ := h.forms
 have Hh := hd' h
 have Hlen := hd' hlen
 have Hn := hd' hn
 have Hg := hd' hg
 clear h hlen hn hg
 obtain ⟨b0, b1, b2, bm⟩ := ubd w 28 30 28 #[.slice pg a.gens.length cg, .slice pl a.live.length cl] #[iV x.1, iV x.2] #[.slice none 0 0, .slice none 0 0]
 go_enter Tryz.func67, Tryz.ntmps67
 have Hb0 := hd' b0
 have Hb1 := hd' b1
 have Hb2 := hd' b2
 have Hbm := hd' bm
 have c0 := b0.cell 0 rfl
 have c1 := b0.cell 1 rfl
 clear b0 b1 b2 bm
 go_wp2_with fail
 generalize ((w.alloc (.cells #[.slice pg a.gens.length cg, .slice pl a.live.length cl] 28)).alloc (.cells #[iV x.1, iV x.2] 30)).alloc (.cells #[.slice none 0 0, .slice none 0 0] 28) = W1 at *
 refine (udx _ _ _ a (Hh.o.up Hbm.o) (by have := Hlen.o; have := Hn.o; omega) (by have := Hn.o; omega)).mono ?_
 rintro e w2 ⟨vg, vl, rfl, ha, hm2⟩
 obtain ⟨⟨p2, c2, rfl⟩, ⟨q2, d2, rfl⟩⟩ := ha.forms
 have HB5 := hd' (Blk.new w2 28 #[.slice p2 a.gens.length c2, .slice q2 a.live.length d2])
 have HMa := hd' (Gou.Mod.alloc0 w2 (.cells #[.slice p2 a.gens.length c2, .slice q2 a.live.length d2] 28))
 have Ha3 := hd' (ha.up HMa.o)
 have HX0 := hd' ((Hb0.o.up hm2).up HMa.o)
 have HX1 := hd' ((Hb1.o.up hm2).up HMa.o)
 have HR := hd' ((Hb2.o.up hm2).up HMa.o)
 have HM3 := hd' ((Hbm.o.trans' hm2).trans' HMa.o)
 have HRlt := hd' (Blk.lt Hb2.o)
 have HNlt : Hid (W1.heap.size ≤ w2.heap.size) := hd' hm2.size
 clear ha hm2 c0 c1 Hb0 Hb1 Hb2 HMa
 have c0 := HX0.o.cell 0 rfl
 have c1 := HX0.o.cell 1 rfl
 have x0 := HX1.o.cell 0 rfl
 have x1 := HX1.o.cell 1 rfl
 go_wp2_with fail
 generalize w2.alloc (.cells #[.slice p2 a.gens.length c2, .slice q2 a.live.length d2] 28) = W3 at *
 generalize w2.heap.size = N5 at *
 refine (ucv _ pg pl cg cl a x (Hh.o.up HM3.o) Hlen.o).mono ?_
 rintro e w4 ⟨rfl, hm4⟩
 have Ha4 := hd' (Ha3.o.up hm4)
 have HB4 := hd' (HB5.o.up hm4)
 have HX14 := hd' (HX1.o.up hm4)
 have HR4 := hd' (HR.o.up hm4)
 have HM4 := hd' (HM3.o.trans' hm4)
 clear hm4 Ha3 HB5 HX0 HX1 HR HM3 c0 c1 x0 x1
 have x0 : w4.cell? ⟨w.heap.size + 1, 0, none⟩ = some (iV x.1) := HX14.o.cell 0 rfl
 have c50 : w4.cell? ⟨N5, 0, none⟩ = some (.slice p2 a.gens.length c2) := HB4.o.cell 0 rfl
 have c51 : w4.cell? ⟨N5, 1, none⟩ = some (.slice q2 a.live.length d2) := HB4.o.cell 1 rfl
 have r0 := HR4.o.cell 0 rfl
 have r1 := HR4.o.cell 1 rfl
 have s0 := HR4.o.frozen 0
 have s1 := HR4.o.frozen 1
 have Hfree : Hid (a.free x = a.free x) := hd' rfl
 by_cases hno : a.has x = true ∧ x.1 ≠ 0
 ·obtain ⟨i, hi1, hi2, hi3⟩ := Ar.has_iff.1 hno.1
  have e0 : a.has x = true := hno.1
  have e1 : (x.1 == 0) = false := bqf.2 hno.2
  have hb : a.free x = ⟨a.gens.set i (x.2 + 1), a.live.set i false⟩ := by
   unfold Ar.free
   rw [if_pos hno, hi1, Int.toNat_natCast]
  have Hb := hd' hb
  have Hi3 := hd' hi3
  have Hi2 := hd' hi2
  obtain ⟨u, v⟩ := x
  simp only at hi1 e1 x0 hi3 hno
  subst hi1
  have hilt : i < a.live.length := (lgS.1 hi2).1
  have hilg : i < a.gens.length := (lgS.1 hi3).1
  have Hv := hd' (Hg.o v (lmG hi3))
  rw [e0]
  clear hno e0 hb hi2 hi3
  obtain ⟨gg, rfl, hgg, _⟩ := ub9 Ha4.o.g (by omega)
  obtain ⟨gl, rfl, hgl, _⟩ := ub9 Ha4.o.l (by omega)
  have Hgg := hd' hgg
  have Hgl := hd' hgl
  have hne : gl ≠ gg := fun e => uep Ha4.o.l Ha4.o.g (by decide) gl rfl (by rw [e]; rfl)
  have hNg : N5 ≠ gg := fun e => uan Ha4.o.g HB4.o (by decide) (by rw [e]; rfl)
  have hNl : N5 ≠ gl := fun e => uan Ha4.o.l HB4.o (by decide) (by rw [e]; rfl)
  have kl : w4.cell? ⟨gl, i, none⟩ = some (.bool (a.live.getD i false)) := ucs Ha4.o.l hilt
  have kf := (ud2 Ha4.o.l hilt).2
  have kg : w4.cell? ⟨gg, i, none⟩ = some (iV v) := ueq Ha4.o.g (by rw [ivs, List.getElem?_map, Hi3.o]; rfl)
  have kgf := (ud2 Ha4.o.g hilg).2
  have hw : wrap64 (v + 1) = v + 1 := by have := Hv.o; unfold wrap64; omega
  have hw2 : IntKind.i64.wrap (v + 1) = v + 1 := by rw [IntKind.wrap_i64]; have := Hv.o; omega
  have hxg : w.heap.size + 1 ≠ gl ∧ w.heap.size + 1 ≠ gg ∧ w.heap.size + 1 + 1 ≠ gl ∧ w.heap.size + 1 + 1 ≠ gg := by have := HRlt.o; omega
  obtain ⟨hx1, hx2, hx3, hx4⟩ := hxg
  go_wp2_with fail
  have hq1 := (Gou.Mod.set1 w4 gl i (.bool false)).imp (S' := fun k => k = gl ∨ k = gg) (fun k _ h => .inl h)
  have hq2 := hq1.trans' ((Gou.Mod.set1 (w4.setCell ⟨gl, i, none⟩ (.bool false)) gg i (iV (v + 1))).imp (S' := fun k => k = gl ∨ k = gg) (fun k _ h => .inr h))
  have hL1 := ueo Ha4.o.l i (.bool false)
  have hG1 := uac Ha4.o.g (Gou.Mod.set1 w4 gl i (.bool false)) (fun k hk e => by simp [Value.ownBlock] at hk; omega)
  have hG2 := ueo hG1 i (iV (v + 1))
  have hL2 := uac hL1 (Gou.Mod.set1 (w4.setCell ⟨gl, i, none⟩ (.bool false)) gg i (iV (v + 1))) (fun k hk e => by simp [Value.ownBlock] at hk; omega)
  have hR2 := HR4.o.mod hq2 (by omega)
  have hm := (Gou.Mod.set1 ((w4.setCell ⟨gl, i, none⟩ (.bool false)).setCell ⟨gg, i, none⟩ (iV (v + 1))) (w.heap.size + 1 + 1) 0 (.slice (some ⟨gg, 0, none⟩) a.gens.length c2)).trans' (Gou.Mod.set1 _ (w.heap.size + 1 + 1) 1 (.slice (some ⟨gl, 0, none⟩) a.live.length d2))
  have hR3 := (hR2.set 0 (.slice (some ⟨gg, 0, none⟩) a.gens.length c2)).set 1 (.slice (some ⟨gl, 0, none⟩) a.live.length d2)
  have hG3 := uac hG2 hm (fun k hk e => by simp [Value.ownBlock] at hk; omega)
  have hL3 := uac hL2 hm (fun k hk e => by simp [Value.ownBlock] at hk; omega)
  have HMf := (HM4.o.trans hq2 (fun k hk h => by have := HRlt.o; have := Hgg.o; have := Hgl.o; omega)).trans hm (fun k hk h => by omega)
  refine bpr (uam rfl (ResAt.of rfl hR3 Tryz.underlying28 rfl uae)) rfl ?_
  refine ⟨HMf, .slice (some ⟨gg, 0, none⟩) a.gens.length c2, .slice (some ⟨gl, 0, none⟩) a.live.length d2, true, rfl, ?_⟩
  rw [Hb.o]
  refine ⟨?_, ?_⟩
  ·have h1 := uaj hG3 (show w.heap.size ≤ W1.heap.size by have := HRlt.o; omega)
   simp only [List.length_set]
   rw [show ivs (a.gens.set i (v + 1)) = (ivs a.gens).set i (iV (v + 1)) from by simp [ivs, List.map_set]]
   exact h1
  ·have h1 := uaj hL3 (show w.heap.size ≤ W1.heap.size by have := HRlt.o; omega)
   simp only [List.length_set]
   rw [show bvs (a.live.set i false) = (bvs a.live).set i (.bool false) from by simp [bvs, List.map_set]]
   exact h1
 ·have hb : a.free x = a := by
   unfold Ar.free
   rw [if_neg hno]
  have Hb := hd' hb
  clear hb
  have fin : Hid (∀ q : Bool, FreeP w (a.free x) (.returned (.tuple #[.agg #[.slice p2 a.gens.length c2, .slice q2 a.live.length d2], .bool q])) ((w4.setCell ⟨w.heap.size + 1 + 1, 0, none⟩ (.slice p2 a.gens.length c2)).setCell ⟨w.heap.size + 1 + 1, 1, none⟩ (.slice q2 a.live.length d2))) := hd' (fun q => by
   have hm := (Gou.Mod.set1 w4 (w.heap.size + 1 + 1) 0 (.slice p2 a.gens.length c2)).trans' (Gou.Mod.set1 _ (w.heap.size + 1 + 1) 1 (.slice q2 a.live.length d2))
   refine ⟨HM4.o.trans hm (fun k hk e => by omega), _, _, q, rfl, ?_⟩
   rw [Hb.o]
   exact (Ha4.o.mod hm (fun k hk e => by have := uba Ha4.o.g k hk; have := HRlt.o; omega) (fun k hk e => by have := uba Ha4.o.l k hk; have := HRlt.o; omega)).low (by have := HRlt.o; omega))
  have hR3 := hd' ((HR4.o.set 0 (.slice p2 a.gens.length c2)).set 1 (.slice q2 a.live.length d2))
  cases hh : a.has x with
  | false =>
   clear hno hh
   go_wp2_with fail
   refine bpr (uam rfl (ResAt.of rfl hR3.out Tryz.underlying28 rfl uae)) rfl ?_
   exact fin.out _
  | true =>
   have e1 : (x.1 == 0) = true := by
    rw [hh] at hno
    simpa using hno
   clear hno hh
   go_wp2_with fail
   refine bpr (uam rfl (ResAt.of rfl hR3.out Tryz.underlying28 rfl uae)) rfl ?_
   exact fin.out _
theorem ujv : ∀ (T : Ly) (w : World) (vp vf vb vk : Value), LyR (fun _ => True) w (lyA T.id T.look vp vf vb vk).toList T → T.height ≤ 1000 → TFit T →
 Calls Tryz.prog 68 #[.agg (lyA T.id T.look vp vf vb vk)] w fun e w' => e = .returned (iV (T.height : Nat)) ∧ Gou.Mod (fun _ => False) w w' := by
 intro T
 induction T using Ly.ind with
 | h i lk ks ih =>
  intro w vp vf vb vk hr hh hft
  obtain ⟨hl, css, hrow, hcl, hk⟩ := hr.parts
  simp only [Ly.id_mk, Ly.look_mk, Ly.kids_mk] at hl hrow hcl hk ⊢
  obtain ⟨pk, ck, rfl⟩ := RowG.slice hrow
  have Hrow := hd' hrow
  have Hcl := hd' hcl
  have Hk := hd' hk
  have Hft := hd' hft
  have Hh := hd' hh
  have Ih := hd' ih
  have hlen := hft.len
  rw [Ly.kids_mk] at hlen
  have Hlen := hd' hlen
  clear hl hrow hcl hk hr hft ih hlen hh
  have HB := hd' (Blk.new w 45 (lyA i lk vp vf vb (.slice pk ks.length ck)))
  have HMa := hd' (Gou.Mod.alloc0 w (.cells (lyA i lk vp vf vb (.slice pk ks.length ck)) 45))
  have c30 : (w.alloc (.cells (lyA i lk vp vf vb (.slice pk ks.length ck)) 45)).cell? ⟨w.heap.size, 30, none⟩ = some (.slice pk ks.length ck) := HB.o.cell 30 rfl
  go_enter Tryz.func68, Tryz.ntmps68
  go_wp2_with fail
  generalize w.alloc (.cells (lyA i lk vp vf vb (.slice pk ks.length ck)) 45) = W1 at *
  go_loopw [3, 9] (fun v3 vi wr => ∃ j : Nat, vi = iV j ∧ j ≤ ks.length ∧ v3 = iV (Ly.heightL (ks.take j) : Nat) ∧ Gou.Mod (fun _ => False) w wr) (fun _ vi _ => ks.length - (intOf vi).toNat)
  case atStart => exact ⟨0, rfl, Nat.zero_le _, by simp [Ly.heightL], HMa.o⟩
  case round =>
   obtain ⟨j, rfl, hj, rfl, hm⟩ := hrel
   have Hm := hd' hm
   clear hm c30 HB HMa
   by_cases hil : j < ks.length
   ·obtain ⟨b, o, kp, kf, kb, kk, rfl, hbl, _, hrg, hkr⟩ := LyR.kidR Hrow.o Hcl.o rfl Hk.o hil
    have Hrg := hd' (uax hrg Hm.o (fun h => h))
    have Hst : Hid (Ly.heightL (ks.take (j + 1)) = max (Ly.heightL (ks.take j)) (1 + ks[j].height)) := hd' (Ly.heightL_take hil)
    have hkh : 1 + ks[j].height ≤ 1000 := by have := Hh.o; rw [Ly.height] at this; exact (Ly.heightL_le.1 this) _ (lgM hil)
    have hk0 : Ly.heightL (ks.take j) ≤ 1000 := by
     have := Hh.o
     rw [Ly.height] at this
     exact Ly.heightL_le.2 (fun k hk => Ly.heightL_le.1 this k (List.mem_of_mem_take hk))
    have Hik : Hid (∀ w', Gou.Mod (fun _ => False) wr w' → Calls Tryz.prog 68 #[.agg (lyA ks[j].id ks[j].look kp kf kb kk)] w' fun e w'' => e = .returned (iV (ks[j].height : Nat)) ∧ Gou.Mod (fun _ => False) w' w'') := hd' (fun w' hw' => Ih.o ks[j] (lgM hil) w' kp kf kb kk (hkr.up (Hm.o.trans' hw')) (by omega) (Hft.o.kids ks[j] (by rw [Ly.kids_mk]; exact lgM hil)))
    have Hkr := hd' (hkr.up Hm.o)
    have Hil := hd' hil
    have Hkh := hd' (And.intro hkh hk0)
    clear hrg hkr hbl hkh hk0
    generalize ks[j] = kd at *
    generalize Ly.heightL (ks.take j) = h0 at *
    go_upto_region 5 with (first | ((with_reducible refine lT 45 ?_); refine ldA Hrg.o Tryz.underlying45 uaa (h := ?_)) | ((with_reducible refine sT 45 ?_); refine stA (lyA kd.id kd.look kp kf kb kk) ((Blk.new wr 45 lyL).there 0 31 (by simp)) uaa (uat (LyR.one Hkr.o)) (h := ?_)) | fail)
    have HB5 := hd' ((Blk.new wr 45 lyL).setAll (lyA kd.id kd.look kp kf kb kk) rfl)
    have HM3 : Hid (Gou.Mod (fun _ => False) wr ((wr.alloc (.cells lyL 45)).setCells wr.heap.size 0 (lyA kd.id kd.look kp kf kb kk).toList)) := hd' (Gou.Mod.allocSet _ _ _)
    generalize (wr.alloc (.cells lyL 45)).setCells wr.heap.size 0 (lyA kd.id kd.look kp kf kb kk).toList = W3 at *
    have HB5w := hd' HB5.o.whole
    have e9 : IntKind.i64.wrap (1 + ((kd.height : Nat) : Int)) = ((1 + kd.height : Nat) : Int) := by rw [IntKind.wrap_i64]; have := Hkh.o; omega
    go_wp2_with (first | ((with_reducible refine lT 45 ?_); refine ldA HB5w.o Tryz.underlying45 uaa (h := ?_)) | fail)
    refine (Hik.o _ HM3.o).mono ?_
    rintro e w4 ⟨rfl, hm4⟩
    have HM4 := hd' ((Hm.o.trans' HM3.o).trans' hm4)
    clear hm4 HB5w HB5 HM3
    have hwi : wrap64 ((j : Int) + 1) = ((j + 1 : Nat) : Int) := by have := Hil.o; have := Hlen.o; unfold wrap64; omega
    go_wp2_with fail
    go_roundw
    case rel => exact ⟨j + 1, by rw [← hwi], by have := Hil.o; omega, by rw [Hst.o]; congr 1; omega, HM4.o⟩
    case measure => rw [hwi]; have := Hil.o; simp only [intOf]; omega
   ·have hil' : j = ks.length := by omega
    subst hil'
    rw [List.take_length] at *
    go_wp2_with fail
    go_ret
    exact ⟨by rw [Ly.height]; rfl, Hm.o⟩
end Go.Proofs.YtpbmfalokongfaaGreatDoor
namespace Go.Gou
open Go.RowKit
theorem ujf {P : Program} (w : World) (dT sT ty elem : TypeId) (k b o dLen dCap : Nat) (a : Addr) (sLen sCap : Nat) (cs : List Value)
 (hu : P.underlying dT = some (.slice elem)) (hs : (P.info? elem).map (·.size) = some k) (hn : cs.length = Nat.min sLen dLen * k)
 (hsrc : ∀ j v, cs[j]? = some v → w.cell? (a.add j) = some v) (hc : ∀ j, j < cs.length → (w.cell? ⟨b, o + j, none⟩).isSome = true) (hf : ∀ j, j < cs.length → w.frozen? ⟨b, o + j, none⟩ = false) (h1 : ∀ v ∈ cs, v.oneCell' = true) :
 (Builtin.copy_ #[dT, sT] ty #[.slice (some ⟨b, o, none⟩) dLen dCap, .slice (some a) sLen sCap]).run P w = .ok (goInt (Nat.min sLen dLen)) (w.setCells b o cs) := by
 have hl := run_loadCells_list (P := P) w a cs hsrc
 have hst := run_storeCells_cells (P := P) b o cs 0 w (by simpa using hc) (by simpa using hf) h1
 cases hq : P.info? elem with
 | none => simp [hq] at hs
 | some i =>
  have hi : i.size = k := by simpa [hq] using hs
  simp [Builtin.copy_, run_underlying hu, Builtin.lenOf, Builtin.firstCells, sizeOf, typeInfo, hq, hi, ← hn, hl, hst]
theorem uhu {P : Program} (w : World) (t e ty : TypeId) (z : Value) (ht : P.underlying t = some (.slice e)) (hv : (zeroValue e).run P w = .ok z w) (b o n c : Nat) (hn : 0 < n)
 (hc : ∀ j, j < n * z.cells.size → (w.cell? ⟨b, o + j, none⟩).isSome = true) (hf : ∀ j, j < n * z.cells.size → w.frozen? ⟨b, o + j, none⟩ = false) (h1 : ∀ v ∈ Builtin.zeroCells z.cells n, v.oneCell' = true) :
 (Builtin.clear_ #[t] ty #[.slice (some ⟨b, o, none⟩) n c]).run P w = .ok (.tuple #[]) (w.setCells b o (Builtin.zeroCells z.cells n).toList) := by
 have hl : (Builtin.zeroCells z.cells n).toList.length = n * z.cells.size := by simp [Builtin.zeroCells]
 have hst := run_storeCells_cells (P := P) b o (Builtin.zeroCells z.cells n).toList 0 w (by simpa [hl] using hc) (by simpa [hl] using hf) (by intro v hv'; exact h1 v (by simpa using hv'))
 simp only [Nat.add_zero] at hst
 obtain ⟨m, rfl⟩ : ∃ m, n = m + 1 := ⟨n - 1, by omega⟩
 simp [Builtin.clear_, run_underlying ht, hv, hst]
theorem ufd {P : Program} {t e : TypeId} {k bytes : Nat} {z : Value} (T : RowT P t e k bytes z) (hz : ∀ w, (zeroValue e).run P w = .ok z w) {ops : Array Oper} {rest : List Oper} {o : Oper} {a : Act} {w : World} {Q : Exit → Act → World → Prop} (hgd : o.guard = none) (x : Operand) (hop : o.op = .call { callee := .builtin .clear, args := #[x], argTypes := #[t] })
 (b f n c : Nat) (hx : a.eval x = .slice (some ⟨b, f, none⟩) n c) (hn : 0 < n) (hc : w.there b f (n * k)) (h1 : ∀ v ∈ Builtin.zeroCells z.cells n, v.oneCell' = true)
 (h : wpList P ops Q rest (a.put o.dst (.tuple #[])) (w.setCells b f (Builtin.zeroCells z.cells n).toList)) : wpList P ops Q (o :: rest) a w := by
 have hr := uhu w t e o.type z T.und (hz w) b f n c hn (fun j hj => (hc j (by rw [← T.zc]; exact hj)).1) (fun j hj => (hc j (by rw [← T.zc]; exact hj)).2) h1
 refine wpList_plain hgd fun K hK => ?_
 unfold Oper.wp execOp
 simp only [hop, resolve, invoke, builtin, Sem.run_bind, Sem.run_pure, Result.andThen_ok, List.map_toArray, List.map_cons, List.map_nil, hx, hr]
 exact hK _ _ h
theorem ud9 {P : Program} {t e : TypeId} {k bytes : Nat} {z : Value} (T : RowT P t e k bytes z) {o : Oper} {a : Act} {w : World} {K : Act → World → Prop} {Q : Exit → Act → World → Prop} (d x : Operand) (hop : o.op = .call { callee := .builtin .copy, args := #[d, x], argTypes := #[t, t] })
 (b f dLen dCap : Nat) (ad : Addr) (sLen sCap : Nat) (cs : List Value) (hd : a.eval d = .slice (some ⟨b, f, none⟩) dLen dCap) (hx : a.eval x = .slice (some ad) sLen sCap) (hn : cs.length = Nat.min sLen dLen * k)
 (hsrc : ∀ j v, cs[j]? = some v → w.cell? (ad.add j) = some v) (hc : w.there b f cs.length) (h1 : ∀ v ∈ cs, v.oneCell' = true)
 (h : K (a.put o.dst (goInt (Nat.min sLen dLen))) (w.setCells b f cs)) : o.wp P a w K Q := by
 have hr := ujf (P := P) w t t o.type e k b f dLen dCap ad sLen sCap cs T.und (by have := T.info; cases hq : P.info? e with | none => simp [hq] at this | some i => simp [hq] at this ⊢; exact this.2.1) hn hsrc (fun j hj => (hc j hj).1) (fun j hj => (hc j hj).2) h1
 unfold Oper.wp execOp
 simp only [hop, resolve, invoke, builtin, Sem.run_bind, Sem.run_pure, Result.andThen_ok, List.map_toArray, List.map_cons, List.map_nil, hd, hx, hr]
 exact h
theorem ucy {P : Program} {t e : TypeId} {k bytes : Nat} {z : Value} (T : RowT P t e k bytes z) {ops : Array Oper} {rest : List Oper} {o : Oper} {a : Act} {w : World} {Q : Exit → Act → World → Prop} (hgd : o.guard = none) (d x : Operand) (hop : o.op = .call { callee := .builtin .copy, args := #[d, x], argTypes := #[t, t] })
 (b f dLen dCap : Nat) (ad : Addr) (sLen sCap : Nat) (cs : List Value) (hd : a.eval d = .slice (some ⟨b, f, none⟩) dLen dCap) (hx : a.eval x = .slice (some ad) sLen sCap) (hn : cs.length = Nat.min sLen dLen * k)
 (hsrc : ∀ j v, cs[j]? = some v → w.cell? (ad.add j) = some v) (hc : w.there b f cs.length) (h1 : ∀ v ∈ cs, v.oneCell' = true)
 (h : wpList P ops Q rest (a.put o.dst (goInt (Nat.min sLen dLen))) (w.setCells b f cs)) : wpList P ops Q (o :: rest) a w :=
 wpList_plain hgd fun _ hK => ud9 T d x hop b f dLen dCap ad sLen sCap cs hd hx hn hsrc hc h1 (hK _ _ h)
theorem ufw {z : Array Value} (n : Nat) (h : z.all (·.oneCell') = true) (h0 : 0 < z.size) : ∀ v ∈ Builtin.zeroCells z n, v.oneCell' = true := by
 intro v hv
 simp only [Builtin.zeroCells, Array.mem_map, Array.mem_range] at hv
 obtain ⟨i, _, rfl⟩ := hv
 have hi : i % z.size < z.size := Nat.mod_lt _ h0
 rw [getElem!_pos z _ hi]
 exact Array.all_eq_true.1 h _ hi
theorem own_take {w : World} {B : Nat} {e : TypeId} {k g n cap : Nat} {cs : List Value} (h : w.ownsRow B e k (.slice (some ⟨g, 0, none⟩) n cap) n cs) {i : Nat} (hi : i ≤ n) :
 w.ownsRow B e k (.slice (some ⟨g, 0, none⟩) i cap) i (cs.take (i * k)) := by
 have hik : i * k ≤ n * k := Nat.mul_le_mul_right _ hi
 have hl := h.1
 refine ⟨by rw [List.length_take]; omega, ?_⟩
 rcases h.2 with ⟨h0, _⟩ | ⟨g', cap', cur, hv, hbg, hg, hnc, hcm, hcs, htake⟩
 ·cases h0
 ·cases hv
  exact .inr ⟨g, cap, cur, rfl, hbg, hg, by omega, hcm, hcs, by rw [← htake, List.take_take, Nat.min_eq_left hik]⟩
theorem own_tail {w : World} {B : Nat} {e : TypeId} {k g n cap : Nat} {cs : List Value} (h : w.ownsRow B e k (.slice (some ⟨g, 0, none⟩) n cap) n cs) (vs : List Value) (o : Nat) (ho : n * k ≤ o) :
 (w.setCells g o vs).ownsRow B e k (.slice (some ⟨g, 0, none⟩) n cap) n cs := by
 induction vs generalizing w o with
 | nil => exact h
 | cons v r ih =>
  have h2 := ueo h o v
  have e : cs.set o v = cs := List.set_eq_of_length_le (by rw [h.1]; exact ho)
  rw [e] at h2
  exact ih h2 (o + 1) (by omega)
theorem ucj {w : World} {B : Nat} {e : TypeId} {k g n cap : Nat} {cs : List Value} (h : w.ownsRow B e k (.slice (some ⟨g, 0, none⟩) n cap) n cs) :
 ∃ cur, Blk w g e cur ∧ n ≤ cap ∧ cap ≤ maxLen ∧ cur.size = cap * k ∧ cur.toList.take (n * k) = cs := by
 rcases h.2 with ⟨h0, _⟩ | ⟨g', cap', cur, hv, hbg, hg, hnc, hcm, hcs, htake⟩
 ·cases h0
 ·cases hv
  exact ⟨cur, hg, hnc, hcm, hcs, htake⟩
theorem uc4 {w : World} {B : Nat} {e : TypeId} {k g n cap : Nat} {cs : List Value} (h : w.ownsRow B e k (.slice (some ⟨g, 0, none⟩) n cap) n cs) {j : Nat} {u : Value} (hj : cs[j]? = some u) : w.cell? ⟨g, j, none⟩ = some u := by
 obtain ⟨cur, hb, _, _, hs, ht⟩ := ucj h
 refine hb.cell j ?_
 rw [← ht, List.getElem?_take] at hj
 split at hj
 ·rw [← agT]; exact hj
 ·cases hj
theorem own_there {w : World} {B : Nat} {e : TypeId} {k g n cap : Nat} {cs : List Value} (h : w.ownsRow B e k (.slice (some ⟨g, 0, none⟩) n cap) n cs) (o m : Nat) (hm : o + m ≤ cap * k) : w.there g o m := by
 obtain ⟨cur, hb, _, _, hs, ht⟩ := ucj h
 exact hb.there o m (by omega)
theorem ujw {css : List (List Value)} (h : ∀ c ∈ css, c.length = 31) {i : Nat} (hi : i < css.length) : (css.eraseIdx i).flatten = css.flatten.take (i * 31) ++ css.flatten.drop ((i + 1) * 31) := by
 induction css generalizing i with
 | nil => simp at hi
 | cons c css ih =>
  have hc : c.length = 31 := h c (by simp)
  cases i with
  | zero => simp [← hc]
  | succ i =>
   have := ih (fun c hc => h c (by simp [hc])) (i := i) (by simpa using hi)
   rw [List.eraseIdx_cons_succ, List.flatten_cons, this, List.flatten_cons]
   have e1 : (c ++ css.flatten).take ((i + 1) * 31) = c ++ css.flatten.take (i * 31) := by
    rw [List.take_append, List.take_of_length_le (l := c) (by omega), hc]
    congr 2; omega
   have e2 : (c ++ css.flatten).drop ((i + 1 + 1) * 31) = css.flatten.drop ((i + 1) * 31) := by
    rw [List.drop_append, List.drop_of_length_le (l := c) (by omega), hc, List.nil_append]
    congr 1; omega
   rw [e1, e2, List.append_assoc]
theorem ufm {w : World} {B : Nat} {e : TypeId} {k g n cap : Nat} {cur : Array Value} {cs : List Value} (h : Blk w g e cur) (hB : B ≤ g) (hn : n ≤ cap) (hm : cap ≤ maxLen) (hs : cur.size = cap * k) (ht : cur.toList.take (n * k) = cs) :
 w.ownsRow B e k (.slice (some ⟨g, 0, none⟩) n cap) n cs := by
 have hle : n * k ≤ cap * k := Nat.mul_le_mul_right _ hn
 exact ⟨by rw [← ht, List.length_take, Array.length_toList]; omega, .inr ⟨g, cap, cur, rfl, hB, h, hn, hm, hs, ht⟩⟩
theorem ub4 (vs : List Value) : ∀ (cs : Array Value) (o : Nat), o + vs.length ≤ cs.size → (uao cs o vs).toList = cs.toList.take o ++ vs ++ cs.toList.drop (o + vs.length) := by
 induction vs with
 | nil => intro cs o h; simp [uao]
 | cons v r ih =>
  intro cs o h
  rw [List.length_cons] at h
  rw [uao, ih _ _ (by simp; omega), Array.toList_setIfInBounds]
  have e1 : (cs.toList.set o v).take (o + 1) = cs.toList.take o ++ [v] := by
   rw [List.take_add_one, List.take_set_of_le (Nat.le_refl o), List.getElem?_set_self (by rw [Array.length_toList]; omega)]
   rfl
  rw [e1, List.drop_set_of_lt (by omega), List.length_cons]
  simp [Nat.add_assoc, Nat.add_comm 1]
theorem ua7 (vs : List Value) : ∀ (cs : Array Value) (o : Nat), (uao cs o vs).size = cs.size := by
 induction vs with
 | nil => intro cs o; rfl
 | cons v r ih => intro cs o; rw [uao, ih]; simp
theorem ins_shift {cur : Array Value} {cs c : List Value} {n i : Nat} (hs : (n + 1) * 31 ≤ cur.size) (ht : cur.toList.take (n * 31) = cs) (hi : i ≤ n) (hc : c.length = 31) :
 (uao (uao cur ((i + 1) * 31) (cs.drop (i * 31))) (i * 31) c).toList.take ((n + 1) * 31) = cs.take (i * 31) ++ c ++ cs.drop (i * 31) := by
 have hl : cs.length = n * 31 := by rw [← ht, List.length_take, Array.length_toList]; omega
 have hd : (cs.drop (i * 31)).length = n * 31 - i * 31 := by rw [List.length_drop, hl]
 have h1 := ub4 (cs.drop (i * 31)) cur ((i + 1) * 31) (by omega)
 have h2 := ub4 c (uao cur ((i + 1) * 31) (cs.drop (i * 31))) (i * 31) (by rw [ua7]; omega)
 rw [h2, h1]
 have hta : (cur.toList.take ((i + 1) * 31)).length = (i + 1) * 31 := by rw [List.length_take, Array.length_toList]; omega
 have e1 : (cur.toList.take ((i + 1) * 31) ++ cs.drop (i * 31) ++ cur.toList.drop ((i + 1) * 31 + (cs.drop (i * 31)).length)).take (i * 31) = cs.take (i * 31) := by
  rw [List.append_assoc, List.take_append_of_le_length (by omega), List.take_take, ← ht, List.take_take]
  congr 1; omega
 have e2 : (cur.toList.take ((i + 1) * 31) ++ cs.drop (i * 31) ++ cur.toList.drop ((i + 1) * 31 + (cs.drop (i * 31)).length)).drop (i * 31 + c.length) = cs.drop (i * 31) ++ cur.toList.drop ((i + 1) * 31 + (cs.drop (i * 31)).length) := by
  rw [List.append_assoc, List.drop_append, List.drop_of_length_le (by omega), List.nil_append, hta, show i * 31 + c.length - (i + 1) * 31 = 0 by omega, List.drop_zero]
 rw [e1, e2, ← List.append_assoc]
 have ht' : (cs.take (i * 31)).length = i * 31 := by rw [List.length_take]; omega
 rw [List.take_append_of_le_length (by simp only [List.length_append]; omega), List.take_of_length_le (by simp only [List.length_append]; omega)]
theorem ins_grow {cur : Array Value} {cs c : List Value} {n i : Nat} (hs : (n + 1) * 31 ≤ cur.size) (hl : cs.length = n * 31) (ht : cur.toList.take (i * 31) = cs.take (i * 31)) (hi : i ≤ n) (hc : c.length = 31) :
 (uao (uao cur (i * 31) c) ((i + 1) * 31) (cs.drop (i * 31))).toList.take ((n + 1) * 31) = cs.take (i * 31) ++ c ++ cs.drop (i * 31) := by
 have hd : (cs.drop (i * 31)).length = n * 31 - i * 31 := by rw [List.length_drop, hl]
 have h1 := ub4 c cur (i * 31) (by omega)
 have h2 := ub4 (cs.drop (i * 31)) (uao cur (i * 31) c) ((i + 1) * 31) (by rw [ua7]; omega)
 rw [h2, h1, ht]
 have ht' : (cs.take (i * 31)).length = i * 31 := by rw [List.length_take]; omega
 have e1 : (cs.take (i * 31) ++ c ++ cur.toList.drop (i * 31 + c.length)).take ((i + 1) * 31) = cs.take (i * 31) ++ c := by
  rw [List.take_append_of_le_length (by simp only [List.length_append]; omega), List.take_of_length_le (by simp only [List.length_append]; omega)]
 rw [e1, List.take_append_of_le_length (by simp only [List.length_append]; omega), List.take_of_length_le (by simp only [List.length_append]; omega)]
end Go.Gou
namespace Go.Proofs.YtpbmfalokongfaaGreatDoor
open Go.RowKit Go.Gou
set_option maxRecDepth 100000
theorem sl_to (w : World) (g n cap i : Nat) (hi : i ≤ cap) : (Instr.sliceAt 43 (.slice (some ⟨g, 0, none⟩) n cap) none (some (iV i)) none).run Tryz.prog w = .ok (.slice (some ⟨g, 0, none⟩) i cap) w := by
 rw [run_sliceAt_slice _ _ _ _ _ _ (by kernel_rfl), run_slice_h _ _ _ _ _ (by kernel_rfl) _ _ (by omega) (by omega)]
 simp only [show (sizeOf (Tryz.prog.elem 43)).run Tryz.prog w = .ok 31 w by kernel_rfl, Result.andThen_ok, sliced, Int.toNat_natCast, Nat.sub_zero]
 congr 2
 split <;> simp [Addr.add]
def at31 (cap i : Nat) : Nat := if cap = i then 0 else i * 31
theorem add31 (g i : Nat) : (⟨g, 0, none⟩ : Addr).add (i * 31) = ⟨g, i * 31, none⟩ := by
 rw [Addr.add_mid, Nat.zero_add]
theorem sl_mid (w : World) (g n cap i j : Nat) (hi : i ≤ j) (hj : j ≤ cap) : (Instr.sliceAt 43 (.slice (some ⟨g, 0, none⟩) n cap) (some (iV i)) (some (iV j)) none).run Tryz.prog w = .ok (.slice (some ⟨g, at31 cap i, none⟩) (j - i) (cap - i)) w := by
 rw [run_sliceAt_slice _ _ _ _ _ _ (by kernel_rfl), run_slice_lh _ _ _ _ _ (by kernel_rfl) _ _ _ _ (by omega) (by omega) (by omega)]
 simp only [show (sizeOf (Tryz.prog.elem 43)).run Tryz.prog w = .ok 31 w by kernel_rfl, Result.andThen_ok, sliced, Int.toNat_natCast, at31, Option.map_some, add31]
 congr 2
 split <;> rfl
theorem ucp (w : World) (g n cap i : Nat) (hi : i ≤ n) (hn : n ≤ cap) : (Instr.sliceAt 43 (.slice (some ⟨g, 0, none⟩) n cap) (some (iV i)) none none).run Tryz.prog w = .ok (.slice (some ⟨g, at31 cap i, none⟩) (n - i) (cap - i)) w := by
 rw [run_sliceAt_slice _ _ _ _ _ _ (by kernel_rfl), run_slice_l _ _ _ _ _ (by kernel_rfl) _ _ (by omega) (by omega)]
 simp only [show (sizeOf (Tryz.prog.elem 43)).run Tryz.prog w = .ok 31 w by kernel_rfl, Result.andThen_ok, sliced, Int.toNat_natCast, at31, Option.map_some, add31]
 congr 2
 split <;> rfl
theorem drop_len {cs : List Value} {n i : Nat} (h : cs.length = n * 31) : (cs.drop ((i + 1) * 31)).length = (n - (i + 1)) * 31 := by
 rw [List.length_drop, h, Nat.sub_mul]
theorem at_cell {w : World} {B : Nat} {e : TypeId} {g n cap i j : Nat} {cs : List Value} {u : Value} (h : w.ownsRow B e 31 (.slice (some ⟨g, 0, none⟩) n cap) n cs) (hn : n ≤ cap) (hi : i < n) (hj : (cs.drop ((i + 1) * 31))[j]? = some u) : w.cell? ((⟨g, at31 cap (i + 1), none⟩ : Addr).add j) = some u := by
 rw [List.getElem?_drop] at hj
 have hl := (lgS.1 hj).1
 have h0 := h.1
 have hc : cap ≠ i + 1 := by
  rintro rfl
  omega
 rw [Addr.add_mid, at31, if_neg hc]
 exact uc4 h hj
theorem zero_ly (w : World) : (zeroValue 45).run Tryz.prog w = .ok (.agg lyL) w := by kernel_rfl
theorem zero_one : ∀ v ∈ Builtin.zeroCells (Value.agg lyL).cells 1, v.oneCell' = true := ufw 1 (by kernel_rfl) (by decide)
theorem ujy (w : World) (B g n cap i : Nat) (cs : List Value) (h : w.ownsRow B 45 31 (.slice (some ⟨g, 0, none⟩) n cap) n cs) (h1 : ∀ d ∈ cs, d.oneCell' = true) (hi : i < n) :
 Calls Tryz.prog 84 #[.slice (some ⟨g, 0, none⟩) n cap, iV i, iV (i + 1)] w fun e w' =>
  e = .returned (.slice (some ⟨g, 0, none⟩) (n - 1) cap) ∧ w'.ownsRow B 45 31 (.slice (some ⟨g, 0, none⟩) (n - 1) cap) (n - 1) (cs.take (i * 31) ++ cs.drop ((i + 1) * 31)) ∧ Gou.Mod (fun k => k = g) w w' := by
 obtain ⟨cur, hb, hnc, hcm, hcs, htk⟩ := ucj h
 have Ho := hd' h
 have H1 := hd' h1
 have hcm' : cap ≤ 9223372036854775807 := by unfold maxLen at hcm; omega
 have e1 : ((i : Int) == (i : Int) + 1) = false := bqf.2 (by omega)
 have Hi := hd' hi
 have Hn := hd' hnc
 have q1 : ∀ (w : World), (Instr.sliceAt 43 (.slice (some ⟨g, 0, none⟩) n cap) none (some (iV i)) none).run Tryz.prog w = .ok (.slice (some ⟨g, 0, none⟩) i cap) w := fun w => sl_to w g n cap i (by omega)
 have q2 : ∀ (w : World), (Instr.sliceAt 43 (.slice (some ⟨g, 0, none⟩) n cap) (some (iV (i + 1))) none none).run Tryz.prog w = .ok (.slice (some ⟨g, at31 cap (i + 1), none⟩) (n - (i + 1)) (cap - (i + 1))) w := fun w => ucp w g n cap (i + 1) hi hnc
 have q0 : 0 ≤ (i : Int) := by omega
 have q3 : (i : Int) ≤ (i : Int) + 1 := by omega
 have q4 : (i : Int) + 1 ≤ (n : Int) := by omega
 have q5 : (n : Int) ≤ cap := by omega
 have q6 : (i : Int) ≤ cap := by omega
 clear h h1 hb hcs htk hcm
 go_enter Tryz.func84, Tryz.ntmps84
 go_upto_region 6 with fail
 refine wp_region_held_drew (S := fun w' => Gou.Mod (fun k => k = g) w w') (by kernel_rfl) (Gou.Mod.drew _ _) (fun hH => ?_)
 refine tk 0 (.slice (some ⟨g, 0, none⟩) n cap) hH (h := ?_)
 refine tk 1 (iV i) hH (h := ?_)
 refine tk 3 (.slice (some ⟨g, 0, none⟩) n cap) hH (h := ?_)
 refine tk 4 (iV (i + 1)) hH (h := ?_)
 refine tk 2 (.slice (some ⟨g, 0, none⟩) i cap) hH (h := ?_)
 refine tk 5 (.slice (some ⟨g, at31 cap (i + 1), none⟩) (n - (i + 1)) (cap - (i + 1))) hH (h := ?_)
 refine rd 6 (h := fun K hK => ?_)
 have Hq := hd' (own_take (ua4 Ho.o (Gou.Mod.drew (fun _ => False) w)) (Nat.le_of_lt Hi.o))
 obtain ⟨i0, hi0, hz0, hz1, hz2⟩ := info_parts T_ly.info
 have ei : i + (n - (i + 1)) = n - 1 := by have := Hi.o; omega
 refine wp_append_own_spare _ _ _ 43 rfl B 45 i0 31 T_ly.und hi0 hz1 g i cap _ rfl Hq.o ⟨g, at31 cap (i + 1), none⟩ (n - (i + 1)) (cap - (i + 1)) (cs.drop ((i + 1) * 31)) rfl (drop_len Ho.o.1) (fun j u hj => at_cell (ua4 Ho.o (Gou.Mod.drew (fun _ => False) w)) Hn.o Hi.o hj) (fun u hu => H1.o u (List.mem_of_mem_drop hu)) (by rw [ei]; have := Hn.o; omega) ?_
 intro w4 ho4 hg4
 rw [ei] at ho4 ⊢
 have Ho4 := hd' ho4
 have M : Hid (Gou.Mod (fun k => k = g) w w4) := hd' ((Gou.Mod.drew _ w).trans' ((Gou.Mod.of_grown hg4).imp (fun k _ h => by simpa using h.symm)))
 clear hH ho4 hg4 Hq i0 hi0 hz0 hz1 hz2
 refine hK _ _ M.o (fun hH => ?_)
 clear hK K M
 try simp only [Act.put, uSa, uSb, uSc]
 refine tk 7 (.slice (some ⟨g, 0, none⟩) (n - 1) cap) hH (h := ?_)
 have MS := hd' hH
 refine wpAnyH_done (by kernel_rfl) ?_ _
 clear hH
 try simp only [Act.put]
 obtain ⟨m, hm⟩ : ∃ m, m = n - 1 := ⟨_, rfl⟩
 have q7 : ∀ (w : World), (Instr.sliceAt 43 (.slice (some ⟨g, 0, none⟩) m cap) (some (iV m)) (some (iV n)) none).run Tryz.prog w = .ok (.slice (some ⟨g, m * 31, none⟩) 1 (cap - m)) w := fun w => by
  rw [sl_mid w g m cap m n (by omega) hnc, at31, if_neg (by omega), show n - m = 1 by omega]
 rw [← hm] at Ho4 ⊢
 have Hm := hd' hm
 have q8 : (m : Int) ≤ n := by omega
 have q9 : 0 ≤ (m : Int) := by omega
 clear q1 q2 q0 q3 q4 q6 hi hnc ei hm
 go_wp2_with (first | ((with_reducible show wpList _ _ _ (⟨_, Op.call ⟨.builtin .clear, _, _⟩, _, _, _, _⟩ :: _) _ _); refine halt ?_) | fail)
 refine ufd T_ly zero_ly rfl _ rfl g (m * 31) 1 (cap - m) rfl (by omega) (own_there Ho4.o (m * 31) (1 * 31) (by have := Hi.o; have := Hn.o; have := Hm.o; omega)) zero_one ?_
 have Hx := hd' (own_tail Ho4.o (Builtin.zeroCells (Value.agg lyL).cells 1).toList (m * 31) (Nat.le_refl _))
 have HM := hd' (MS.o.trans' (Gou.Blk.setMod w4 g (m * 31) (Builtin.zeroCells (Value.agg lyL).cells 1).toList))
 generalize w4.setCells g (m * 31) (Builtin.zeroCells (Value.agg lyL).cells 1).toList = w5 at *
 clear Ho4 MS q7
 go_wp2_with fail
 go_ret
 rw [← Hm.o]
 exact ⟨rfl, Hx.o, HM.o⟩
theorem sl_some (p : Option Addr) (n cap i : Nat) (hi : i ≤ n) : ∃ X, ∀ (w : World), (Instr.sliceAt 43 (.slice p n cap) (some (iV i)) none none).run Tryz.prog w = .ok X w := by
 refine ⟨sliced p i n cap 31, fun w => ?_⟩
 rw [run_sliceAt_slice _ _ _ _ _ _ (by kernel_rfl), run_slice_l _ _ _ _ _ (by kernel_rfl) _ _ (by omega) (by omega)]
 simp only [show (sizeOf (Tryz.prog.elem 43)).run Tryz.prog w = .ok 31 w by kernel_rfl, Result.andThen_ok, Int.toNat_natCast]
theorem ujs (w : World) (B vb n cap i : Nat) (p : Option Addr) (cs c : List Value) (hB : B ≤ w.heap.size) (h : w.ownsRow B 45 31 (.slice p n cap) n cs) (hc : Blk w vb 45 c.toArray) (hcl : c.length = 31) (h1 : ∀ d ∈ c, d.oneCell' = true) (hi : i = n) (hn : n ≤ 1000000) :
 Calls Tryz.prog 78 #[.slice p n cap, iV i, .slice (some ⟨vb, 0, none⟩) 1 1] w fun e w' => ∃ q c', e = .returned (.slice q (n + 1) c') ∧ Grown w B 45 31 (.slice p n cap) (n + 1) (cs.take (i * 31) ++ c ++ cs.drop (i * 31)) (.slice q (n + 1) c') w' := by
 subst hi
 obtain ⟨X, hX⟩ := sl_some p i cap i (Nat.le_refl i)
 have hwh : RowG (fun _ => True) w 31 (.slice (some ⟨vb, 0, none⟩) 1 1) 1 c := by
  have := RowG.of_blk hc 31 1 (by simpa using hcl) (fun _ => True) trivial
  simpa using this
 have hl := h.1
 have Ho := hd' h
 have Hw := hd' hwh
 have H1 := hd' h1
 have Hn := hd' hn
 have HB := hd' hB
 have Hl := hd' hl
 have Hcl := hd' hcl
 clear h hwh h1 hn hB hl hcl hc
 go_enter Tryz.func78, Tryz.ntmps78
 go_wp2_with (first | ((with_reducible show wpList _ _ _ (⟨_, Op.call ⟨.builtin .append, _, _⟩, _, _, _, _⟩ :: _) _ _); refine halt ?_) | fail)
 refine uaz T_ly rfl _ _ rfl B (.slice p i cap) i cs (fun _ => True) (.slice (some ⟨vb, 0, none⟩) 1 1) 1 c rfl rfl HB.o Ho.o Hw.o H1.o (by have := Hn.o; unfold maxLen; omega) (by have := Hn.o; omega) ?_
 intro v5 w5 G5
 obtain ⟨p5, c5, rfl⟩ := Gou.ownsRow_form G5.own
 have HG := hd' G5
 clear G5
 go_wp2_with fail
 go_ret
 have := HG.o
 refine ⟨p5, c5, rfl, ?_⟩
 rw [List.take_of_length_le (by rw [Hl.o]; exact Nat.le_refl _), List.drop_of_length_le (by rw [Hl.o]; exact Nat.le_refl _), List.append_nil]
 exact this
theorem uhl (w : World) (B g n i : Nat) (cs : List Value) (h : w.ownsRow B 45 31 (.slice (some ⟨g, 0, none⟩) n n) n cs) (hi : i < n) (hn : n ≤ 1000000) :
 ∃ (G : Nat) (ROW : Array Value), n + 1 ≤ G ∧ G ≤ maxLen ∧ ROW.size = G * 31 ∧ ROW.toList.take (i * 31) = cs.take (i * 31) ∧ ∀ ty, (Builtin.append_ #[43, 3] ty #[.slice (some ⟨g, 0, none⟩) i n, iV ((n : Int) + 1 - (i : Int))]).run Tryz.prog w =
     .ok (.slice (some ⟨w.heap.size, 0, none⟩) (n + 1) G) (w.drew.alloc (.cells ROW 45)) := by
 obtain ⟨i0, hi0, hz0, hzs, hzb⟩ := info_parts T_ly.info
 have hik : i + (n + 1 - i) = n + 1 := by omega
 have hl := h.1
 have hold : (Builtin.firstCells i0.size i (.slice (some ⟨g, 0, none⟩) i n)).run Tryz.prog w.drew = .ok (cs.take (i * 31)).toArray w.drew := by
  rw [hzs]
  exact run_firstCells_some w.drew 31 i ⟨g, 0, none⟩ i n (cs.take (i * 31)) (by rw [List.length_take]; omega) (fun j v hj => by
   rw [Addr.add_mid, Nat.zero_add]
   rw [List.getElem?_take] at hj
   split at hj
   ·exact uc4 (ua4 h (Gou.Mod.drew (fun _ => False) w)) hj
   ·cases hj)
 have hz31 : (Value.agg lyL).cells.size = 31 := rfl
 refine ⟨grownCap w (n + 1) n 45, (cs.take (i * 31)).toArray ++ Builtin.zeroCells (Value.agg lyL).cells (n + 1 - i) ++ Builtin.zeroCells (Value.agg lyL).cells (grownCap w (n + 1) n 45 - (n + 1)), grownCap_ge w _ _ _, grownCap_le_maxLen w _ _ _ (by unfold maxLen; omega), ?_, ?_, fun ty => ?_⟩
 ·have hge := grownCap_ge w (n + 1) n 45
  simp only [Array.size_append, Builtin.zeroCells, Array.size_map, Array.size_range, hz31, List.size_toArray, List.length_take]
  omega
 ·rw [Array.append_assoc, Array.toList_append, List.take_append_of_le_length (by rw [List.length_take]; omega), List.take_take, Nat.min_self]
 ·have h2 := Lib.run_append_grow_zeros w 43 3 ty 45 i0 _ .i64 .i64 T_ly.und (by kernel_rfl) hi0 hz0 (some ⟨g, 0, none⟩) i n (cs.take (i * 31)) hold (n + 1 - i) (by omega) (by omega) (by omega) (by omega) (by rw [hzb]; omega) (by rw [hzb, hik]; exact growslice_fits (by omega) (by omega))
  rw [hik] at h2
  rw [show (n : Int) + 1 - (i : Int) = ((n + 1 - i : Nat) : Int) by omega]
  exact h2
theorem uie (w : World) (B vb g n i : Nat) (cs c : List Value) (hB : B ≤ w.heap.size) (h : w.ownsRow B 45 31 (.slice (some ⟨g, 0, none⟩) n n) n cs) (hc : Blk w vb 45 c.toArray) (hcl : c.length = 31) (h1 : ∀ d ∈ c, d.oneCell' = true) (h2 : ∀ d ∈ cs, d.oneCell' = true) (hi : i < n) (hn : n ≤ 1000000) :
 Calls Tryz.prog 78 #[.slice (some ⟨g, 0, none⟩) n n, iV i, .slice (some ⟨vb, 0, none⟩) 1 1] w fun e w' => ∃ q c', e = .returned (.slice q (n + 1) c') ∧ Grown w B 45 31 (.slice (some ⟨g, 0, none⟩) n n) (n + 1) (cs.take (i * 31) ++ c ++ cs.drop (i * 31)) (.slice q (n + 1) c') w' := by
 obtain ⟨G, ROW, hG1, hG2, hR1, hR2, hrz⟩ := uhl w B g n i cs h hi hn
 have q1 : ∀ (w : World), (Instr.sliceAt 43 (.slice (some ⟨g, 0, none⟩) n n) none (some (iV i)) none).run Tryz.prog w = .ok (.slice (some ⟨g, 0, none⟩) i n) w := fun w => sl_to w g n n i (by omega)
 have q2 : ∀ (w : World), (Instr.sliceAt 43 (.slice (some ⟨g, 0, none⟩) n n) (some (iV i)) none none).run Tryz.prog w = .ok (.slice (some ⟨g, i * 31, none⟩) (n - i) (n - i)) w := fun w' => by
  rw [ucp w' g n n i (by omega) (by omega), at31, if_neg (by omega)]
 have q3 : ∀ (w' : World), (Instr.sliceAt 43 (.slice (some ⟨w.heap.size, 0, none⟩) (n + 1) G) (some (iV i)) none none).run Tryz.prog w' = .ok (.slice (some ⟨w.heap.size, i * 31, none⟩) (n + 1 - i) (G - i)) w' := fun w' => by
  rw [ucp w' w.heap.size (n + 1) G i (by omega) (by omega), at31, if_neg (by omega)]
 have q4 : ∀ (w' : World), (Instr.sliceAt 43 (.slice (some ⟨w.heap.size, 0, none⟩) (n + 1) G) (some (iV (i + 1))) none none).run Tryz.prog w' = .ok (.slice (some ⟨w.heap.size, (i + 1) * 31, none⟩) (n - i) (G - (i + 1))) w' := fun w' => by
  have := ucp w' w.heap.size (n + 1) G (i + 1) (by omega) (by omega)
  rw [at31, if_neg (by omega), show n + 1 - (i + 1) = n - i by omega] at this
  exact this
 have e1 : ((1 : Int) == 0) = false := by decide
 have e2 : ((i : Int) == (n : Int)) = false := bqf.2 (by omega)
 have e3 : IntKind.i64.wrap ((n : Int) + 1) = (n : Int) + 1 := by rw [IntKind.wrap_i64]; omega
 have e4 : IntKind.i64.wrap ((n : Int) + 1 - (i : Int)) = (n : Int) + 1 - (i : Int) := by rw [IntKind.wrap_i64]; omega
 have e5 : IntKind.i64.wrap ((i : Int) + 1) = (i : Int) + 1 := by rw [IntKind.wrap_i64]; omega
 have e6 : (n : Int) < (n : Int) + 1 := by omega
 have Ho := hd' h
 have HC := hd' hc
 have H1 := hd' h1
 have H2 := hd' h2
 have Hn := hd' hn
 have Hi := hd' hi
 have HB := hd' hB
 have Hcl := hd' hcl
 have HG := hd' (And.intro hG1 hG2)
 have HR := hd' (And.intro hR1 hR2)
 have Hq2 := hd' q2
 have Hq4 := hd' q4
 clear h hc h1 h2 hn hi hB hcl hG1 hG2 hR1 hR2
 go_enter Tryz.func78, Tryz.ntmps78
 go_upto_region 11 with (first | (at_builtin; refine Lib.wpList_append_run _ rfl _ _ _ _ rfl _ _ rfl rfl _ _ (hrz _) ?_) | ((with_reducible show wpList _ _ _ (⟨_, Op.call ⟨.builtin .copy, _, _⟩, _, _, _, _⟩ :: _) _ _); refine halt ?_) | fail)
 have HB1 := hd' ((Blk.new w 45 ROW).up (Gou.Mod.drew (fun _ => False) _))
 have HM1 := hd' ((Gou.Mod.alloc0 w (.cells ROW 45)).trans' (Gou.Mod.drew (fun _ => False) (w.alloc (.cells ROW 45))))
 generalize (w.alloc (.cells ROW 45)).drew = W1 at *
 have hmin : Nat.min 1 (n + 1 - i) = 1 := by have := Hi.o; show min 1 (n + 1 - i) = 1; omega
 refine ucy T_ly rfl _ _ rfl w.heap.size (i * 31) (n + 1 - i) (G - i) ⟨vb, 0, none⟩ 1 1 c rfl rfl (by rw [hmin, Hcl.o]) (fun j v hj => by rw [Addr.add_mid, Nat.zero_add]; exact (HC.o.up HM1.o).cell j (by simpa using hj)) (HB1.o.there (i * 31) c.length (by have := Hcl.o; have := Hi.o; have := HR.o.1; have := HG.o.1; omega)) H1.o ?_
 rw [hmin]
 have HB2 := hd' (HB1.o.sets (i * 31) c)
 have HM2 := hd' (Gou.Blk.setMod W1 w.heap.size (i * 31) c)
 have HMM := hd' (HM1.o.trans HM2.o (fun k hk e => by omega))
 generalize W1.setCells w.heap.size (i * 31) c = W2 at *
 clear HB1 HM1 HM2 hmin hrz q1 q2 q3 q4 e6
 go_upto_region 12 with fail
 have q2 := Hq2.o
 have q4 := Hq4.o
 refine wp_region_held_drew (S := fun w' => Gou.Mod (fun k => k = w.heap.size) W2 w') (by kernel_rfl) (Gou.Mod.drew _ _) (fun hH => ?_)
 refine tk 0 (.slice (some ⟨w.heap.size, 0, none⟩) (n + 1) G) hH (h := ?_)
 refine tk 1 (iV i) hH (h := ?_)
 refine tk 2 (iV 1) hH (h := ?_)
 refine tk 3 (iV (i + 1)) hH (h := ?_)
 refine tk 4 (.slice (some ⟨w.heap.size, (i + 1) * 31, none⟩) (n - i) (G - (i + 1))) hH (h := ?_)
 refine tk 5 (.slice (some ⟨g, 0, none⟩) n n) hH (h := ?_)
 refine tk 6 (iV i) hH (h := ?_)
 refine tk 7 (.slice (some ⟨g, i * 31, none⟩) (n - i) (n - i)) hH (h := ?_)
 refine rd 8 (h := fun K hK => ?_)
 have hmin : Nat.min (n - i) (n - i) = n - i := Nat.min_self _
 refine ud9 T_ly _ _ rfl w.heap.size ((i + 1) * 31) (n - i) (G - (i + 1)) ⟨g, i * 31, none⟩ (n - i) (n - i) (cs.drop (i * 31)) rfl rfl (by rw [hmin, List.length_drop, Ho.o.1, Nat.sub_mul]) (fun j v hj => by rw [Addr.add_mid]; rw [List.getElem?_drop] at hj; exact uc4 (ua4 (ua4 Ho.o HMM.o) (Gou.Mod.drew (fun _ => False) W2)) hj) ((HB2.o.up (Gou.Mod.drew (fun _ => False) W2)).there _ _ (by rw [ua7, List.length_drop]; have := Ho.o.1; have := Hi.o; have := HR.o.1; have := HG.o.1; omega)) (fun v hv => H2.o v (List.mem_of_mem_drop hv)) ?_
 rw [hmin]
 have HB3 := hd' ((HB2.o.up (Gou.Mod.drew (fun _ => False) W2)).sets ((i + 1) * 31) (cs.drop (i * 31)))
 have M := hd' (hH.trans' (Gou.Blk.setMod W2.drew w.heap.size ((i + 1) * 31) (cs.drop (i * 31))))
 generalize W2.drew.setCells w.heap.size ((i + 1) * 31) (cs.drop (i * 31)) = W3 at *
 clear hH HB2 hmin
 refine hK _ _ M.o (fun hH => ?_)
 clear hK K M
 try simp only [Act.put, uSa, uSb, uSc]
 have MS := hd' hH
 refine wpAnyH_done (by kernel_rfl) ?_ _
 clear hH
 try simp only [Act.put]
 have HX : Hid (Grown w B 45 31 (.slice (some ⟨g, 0, none⟩) n n) (n + 1) (cs.take (i * 31) ++ c ++ cs.drop (i * 31)) (.slice (some ⟨w.heap.size, 0, none⟩) (n + 1) G) W3) := hd' ⟨ufm HB3.o HB.o HG.o.1 HG.o.2 (by rw [ua7, ua7]; exact HR.o.1) (ins_grow (by have := HR.o.1; have := HG.o.1; omega) Ho.o.1 HR.o.2 (Nat.le_of_lt Hi.o) Hcl.o), (HMM.o.trans MS.o (fun k hk e => by omega)).imp (fun _ _ h => h.elim), fun b hb => .inr (by simp only [Value.ownBlock, Option.some.injEq] at hb; omega)⟩
 clear HB3 MS HMM
 go_wp2_with fail
 go_ret
 exact ⟨_, _, rfl, HX.o⟩
theorem uh7 (w : World) (vb g o lb cb : Nat) (a c : Array Value) (ta tb : TypeId) (ha : Blk w vb ta a) (hc : Blk w g tb c) (hne : vb ≠ g) (h0 : c.size ≠ 0) :
 (callFunc 88 #[.slice (some ⟨vb, 0, none⟩) 1 1, .slice (some ⟨g, o, none⟩) lb cb]).run Tryz.prog w = .ok (.value (.bool false)) w := by
 have hsa : w.shape? vb = some (ta, a.size) := by unfold World.shape?; rw [ha]
 have hsb : w.shape? g = some (tb, c.size) := by unfold World.shape?; rw [hc]
 rw [run_callFunc_extern Tryz.func88 (by kernel_rfl) (by kernel_rfl) (by kernel_rfl) (e := Extern.SlicesOverlaps.overlaps #[43, 43] #[4]) (by kernel_rfl),
     Lib.run_overlaps_apart w 43 4 45 T_ly.und 31 (fun w => by kernel_rfl) ⟨vb, 0, none⟩ ⟨g, o, none⟩ 1 1 lb cb hne ta tb a.size c.size hsa hsb h0 (ha.frozen 0) (ha.frozen a.size)]
 rfl
theorem ug1 (w : World) (B vb g n cap i : Nat) (cs c : List Value) (h : w.ownsRow B 45 31 (.slice (some ⟨g, 0, none⟩) n cap) n cs) (hc : Blk w vb 45 c.toArray) (hne : vb ≠ g) (hcl : c.length = 31) (h1 : ∀ d ∈ c, d.oneCell' = true) (h2 : ∀ d ∈ cs, d.oneCell' = true) (hi : i < n) (hn : n ≤ 1000000) (hr : n + 1 ≤ cap) :
 Calls Tryz.prog 78 #[.slice (some ⟨g, 0, none⟩) n cap, iV i, .slice (some ⟨vb, 0, none⟩) 1 1] w fun e w' => ∃ q c', e = .returned (.slice q (n + 1) c') ∧ Grown w B 45 31 (.slice (some ⟨g, 0, none⟩) n cap) (n + 1) (cs.take (i * 31) ++ c ++ cs.drop (i * 31)) (.slice q (n + 1) c') w' := by
 obtain ⟨cur, hb, hnc, hcm, hcs, htk⟩ := ucj h
 have hB := (uba h g rfl)
 have q1 : ∀ (w : World), (Instr.sliceAt 43 (.slice (some ⟨g, 0, none⟩) n cap) none (some (iV (n + 1))) none).run Tryz.prog w = .ok (.slice (some ⟨g, 0, none⟩) (n + 1) cap) w := fun w => sl_to w g n cap (n + 1) hr
 have q2 : ∀ (w : World), (Instr.sliceAt 43 (.slice (some ⟨g, 0, none⟩) n cap) (some (iV i)) none none).run Tryz.prog w = .ok (.slice (some ⟨g, i * 31, none⟩) (n - i) (cap - i)) w := fun w' => by
  rw [ucp w' g n cap i (by omega) (by omega), at31, if_neg (by omega)]
 have q3 : ∀ (w : World), (Instr.sliceAt 43 (.slice (some ⟨g, 0, none⟩) (n + 1) cap) (some (iV i)) none none).run Tryz.prog w = .ok (.slice (some ⟨g, i * 31, none⟩) (n + 1 - i) (cap - i)) w := fun w' => by
  rw [ucp w' g (n + 1) cap i (by omega) (by omega), at31, if_neg (by omega)]
 have q4 : ∀ (w' : World), (Instr.sliceAt 43 (.slice (some ⟨g, 0, none⟩) (n + 1) cap) (some (iV (i + 1))) none none).run Tryz.prog w' = .ok (.slice (some ⟨g, (i + 1) * 31, none⟩) (n - i) (cap - (i + 1))) w' := fun w' => by
  have := ucp w' g (n + 1) cap (i + 1) (by omega) (by omega)
  rw [at31, if_neg (by omega), show n + 1 - (i + 1) = n - i by omega] at this
  exact this
 have q5 : ∀ lb cb o, (callFunc 88 #[.slice (some ⟨vb, 0, none⟩) 1 1, .slice (some ⟨g, o, none⟩) lb cb]).run Tryz.prog w = .ok (.value (.bool false)) w := fun lb cb o => uh7 w vb g o lb cb _ _ _ _ hc hb hne (by omega)
 have e1 : ((1 : Int) == 0) = false := by decide
 have e2 : ((i : Int) == (n : Int)) = false := bqf.2 (by omega)
 have e3 : IntKind.i64.wrap ((n : Int) + 1) = (n : Int) + 1 := by rw [IntKind.wrap_i64]; omega
 have e5 : IntKind.i64.wrap ((i : Int) + 1) = (i : Int) + 1 := by rw [IntKind.wrap_i64]; omega
 have e6 : ¬ (cap : Int) < (n : Int) + 1 := by omega
 have Ho := hd' h
 have HC := hd' hc
 have H1 := hd' h1
 have H2 := hd' h2
 have Hn := hd' hn
 have Hi := hd' hi
 have HB := hd' hB
 have Hr := hd' hr
 have Hcl := hd' hcl
 have Hne := hd' hne
 have Hcur := hd' hb
 have HR := hd' (And.intro hcs htk)
 have Hcm := hd' hcm
 have Hq3 := hd' q3
 have Hq4 := hd' q4
 clear h hc h1 h2 hn hi hB hcl hb hcs htk hr hnc hcm hne
 go_enter Tryz.func78, Tryz.ntmps78
 go_upto_region 15 with (simp only [q5])
 clear q1 q2 q3 q4 q5 e6
 have q3 := Hq3.o
 have q4 := Hq4.o
 refine wp_region_held_drew (S := fun w' => Gou.Mod (fun k => k = g) w w') (by kernel_rfl) (Gou.Mod.drew _ _) (fun hH => ?_)
 refine tk 0 (.slice (some ⟨g, 0, none⟩) (n + 1) cap) hH (h := ?_)
 refine tk 1 (iV i) hH (h := ?_)
 refine tk 2 (iV 1) hH (h := ?_)
 refine tk 3 (iV (i + 1)) hH (h := ?_)
 refine tk 4 (.slice (some ⟨g, (i + 1) * 31, none⟩) (n - i) (cap - (i + 1))) hH (h := ?_)
 refine tk 5 (.slice (some ⟨g, 0, none⟩) (n + 1) cap) hH (h := ?_)
 refine tk 6 (iV i) hH (h := ?_)
 refine tk 7 (.slice (some ⟨g, i * 31, none⟩) (n + 1 - i) (cap - i)) hH (h := ?_)
 refine rd 8 (h := fun K hK => ?_)
 have hmin : Nat.min (n + 1 - i) (n - i) = n - i := by show min _ _ = _; omega
 refine ud9 T_ly _ _ rfl g ((i + 1) * 31) (n - i) (cap - (i + 1)) ⟨g, i * 31, none⟩ (n + 1 - i) (cap - i) (cs.drop (i * 31)) rfl rfl (by rw [hmin, List.length_drop, Ho.o.1, Nat.sub_mul]) (fun j v hj => by rw [Addr.add_mid]; rw [List.getElem?_drop] at hj; exact uc4 (ua4 Ho.o (Gou.Mod.drew (fun _ => False) w)) hj) ((Hcur.o.up (Gou.Mod.drew (fun _ => False) w)).there _ _ (by rw [List.length_drop]; have := Ho.o.1; have := Hi.o; have := HR.o.1; have := Hr.o; omega)) (fun v hv => H2.o v (List.mem_of_mem_drop hv)) ?_
 rw [hmin]
 have HB3 := hd' ((Hcur.o.up (Gou.Mod.drew (fun _ => False) w)).sets ((i + 1) * 31) (cs.drop (i * 31)))
 have M := hd' (hH.trans' (Gou.Blk.setMod w.drew g ((i + 1) * 31) (cs.drop (i * 31))))
 generalize w.drew.setCells g ((i + 1) * 31) (cs.drop (i * 31)) = W3 at *
 clear hH hmin q3 q4
 refine hK _ _ M.o (fun hH => ?_)
 clear hK K M
 try simp only [Act.put, uSa, uSb, uSc]
 have MS := hd' hH
 refine wpAnyH_done (by kernel_rfl) ?_ _
 clear hH
 try simp only [Act.put]
 have q3 := Hq3.o
 have hmin : Nat.min 1 (n + 1 - i) = 1 := by have := Hi.o; show min 1 (n + 1 - i) = 1; omega
 go_wp2_with (first | ((with_reducible show wpList _ _ _ (⟨_, Op.call ⟨.builtin .copy, _, _⟩, _, _, _, _⟩ :: _) _ _); refine halt ?_) | fail)
 refine ucy T_ly rfl _ _ rfl g (i * 31) (n + 1 - i) (cap - i) ⟨vb, 0, none⟩ 1 1 c rfl rfl (by rw [hmin, Hcl.o]) (fun j v hj => by rw [Addr.add_mid, Nat.zero_add]; exact (Blk.mod HC.o MS.o Hne.o).cell j (by simpa using hj)) (HB3.o.there (i * 31) c.length (by rw [ua7]; have := Hcl.o; have := Hi.o; have := HR.o.1; have := Hr.o; omega)) H1.o ?_
 rw [hmin]
 have HB4 := hd' (HB3.o.sets (i * 31) c)
 have HM4 := hd' (MS.o.trans' (Gou.Blk.setMod W3 g (i * 31) c))
 generalize W3.setCells g (i * 31) c = W4 at *
 have HX : Hid (Grown w B 45 31 (.slice (some ⟨g, 0, none⟩) n cap) (n + 1) (cs.take (i * 31) ++ c ++ cs.drop (i * 31)) (.slice (some ⟨g, 0, none⟩) (n + 1) cap) W4) := hd' ⟨ufm HB4.o HB.o Hr.o Hcm.o (by rw [ua7, ua7]; exact HR.o.1) (ins_shift (by have := HR.o.1; have := Hr.o; omega) HR.o.2 (Nat.le_of_lt Hi.o) Hcl.o), HM4.o.imp (fun k _ h => by rw [h]; rfl), fun b hb => .inl hb⟩
 clear HB3 HB4 MS HM4 q3 hmin
 go_wp2_with fail
 go_ret
 exact ⟨_, _, rfl, HX.o⟩
theorem ufp (w : World) (B vb n cap i : Nat) (p : Option Addr) (cs c : List Value) (hB : B ≤ w.heap.size) (h : w.ownsRow B 45 31 (.slice p n cap) n cs) (hc : Blk w vb 45 c.toArray) (hne : ∀ g, (Value.slice p n cap).ownBlock = some g → vb ≠ g) (hcl : c.length = 31) (h1 : ∀ d ∈ c, d.oneCell' = true) (h2 : ∀ d ∈ cs, d.oneCell' = true) (hi : i ≤ n) (hn : n ≤ 1000000) :
 Calls Tryz.prog 78 #[.slice p n cap, iV i, .slice (some ⟨vb, 0, none⟩) 1 1] w fun e w' => ∃ q c', e = .returned (.slice q (n + 1) c') ∧ Grown w B 45 31 (.slice p n cap) (n + 1) (cs.take (i * 31) ++ c ++ cs.drop (i * 31)) (.slice q (n + 1) c') w' := by
 by_cases he : i = n
 ·exact ujs w B vb n cap i p cs c hB h hc hcl h1 he hn
 ·have hp : ∃ g, p = some ⟨g, 0, none⟩ := by
   rcases h.2 with ⟨h0, _⟩ | ⟨g', cap', cur, hv, _⟩
   ·simp only [Value.slice.injEq] at h0
    omega
   ·simp only [Value.slice.injEq] at hv
    exact ⟨g', hv.1⟩
  obtain ⟨g, rfl⟩ := hp
  obtain ⟨cur, _, hnc, _⟩ := ucj h
  by_cases hr : n + 1 ≤ cap
  ·exact ug1 w B vb g n cap i cs c h hc (hne g rfl) hcl h1 h2 (by omega) hn hr
  ·obtain rfl : cap = n := by omega
   exact uie w B vb g cap i cs c hB h hc hcl h1 h2 (by omega) hn
end Go.Proofs.YtpbmfalokongfaaGreatDoor
namespace Go.Gou
open Go.RowKit
variable {TL TD : TypeId} {base : Nat}
theorem LyO.one {w : World} {c : List Value} {T : Ly} {F : List Nat} (h : LyO TL TD base w c T F) : ∀ d ∈ c, d.oneCell' = true := by
 have h2 := h.reads
 obtain ⟨vp, vf, vb, vk, css, e, _⟩ := h2.form
 subst e
 exact LyR.one h2
theorem ins_at {α : Type} (l : List α) (x : α) {i : Nat} (hi : i ≤ l.length) (j : Nat) : (l.take i ++ x :: l.drop i)[j]? = if j < i then l[j]? else if j = i then some x else l[j - 1]? := by
 have ht : (l.take i).length = i := by rw [List.length_take]; omega
 by_cases h1 : j < i
 ·rw [lgL (by omega), List.getElem?_take, if_pos h1, if_pos h1]
 ·rw [if_neg h1, lgR (by omega), ht]
  by_cases h2 : j = i
  ·subst h2
   rw [if_pos rfl, Nat.sub_self, List.getElem?_cons_zero]
  ·rw [if_neg h2]
   obtain ⟨d, rfl⟩ : ∃ d, j = i + d + 1 := ⟨j - i - 1, by omega⟩
   rw [show i + d + 1 - i = d + 1 by omega, List.getElem?_cons_succ, List.getElem?_drop]
   rfl
theorem flat_ins {css : List (List Value)} (h : ∀ c ∈ css, c.length = 31) (c : List Value) {i : Nat} (hi : i ≤ css.length) : (css.take i ++ c :: css.drop i).flatten = css.flatten.take (i * 31) ++ c ++ css.flatten.drop (i * 31) := by
 induction css generalizing i with
 | nil => simp at hi; subst hi; simp
 | cons a css ih =>
  have ha : a.length = 31 := h a (by simp)
  cases i with
  | zero => simp
  | succ i =>
   have := ih (fun c hc => h c (by simp [hc])) (i := i) (by simpa using hi)
   rw [List.take_succ_cons, List.drop_succ_cons, List.cons_append, List.flatten_cons, this, List.flatten_cons]
   have e1 : (a ++ css.flatten).take ((i + 1) * 31) = a ++ css.flatten.take (i * 31) := by
    rw [List.take_append, List.take_of_length_le (l := a) (by omega), ha]
    congr 2; omega
   have e2 : (a ++ css.flatten).drop ((i + 1) * 31) = css.flatten.drop (i * 31) := by
    rw [List.drop_append, List.drop_of_length_le (l := a) (by omega), ha, List.nil_append]
    congr 1; omega
   rw [e1, e2]
   simp only [List.append_assoc]
theorem lyA_ne (i : Idt) (l : Lk) (vp vf vb vk v7 : Value) {j : Nat} (hj : j < 31) (h30 : j ≠ 30) : (lyA i l vp vf vb vk)[j]? = (lyA i l vp vf vb v7)[j]? := by
 rw [← agT, ← agT, uf6, uf6]
 have e : ∀ v, iV i.1 :: iV i.2 :: ((uai l vp vf vb).toList ++ [v]) = (iV i.1 :: iV i.2 :: (uai l vp vf vb).toList) ++ [v] := fun _ => rfl
 have hl : (iV i.1 :: iV i.2 :: (uai l vp vf vb).toList).length = 30 := rfl
 rw [e, e, lgL (by rw [hl]; omega), lgL (by rw [hl]; omega)]
theorem TreeD.insert {w w5 w7 : World} {b o : Nat} {T : Ly} {F : List Nat} {vp vf vb vk v7 : Value} {css : List (List Value)} {fs : List (List Nat)} {cur : Array Value} {TT : TypeId} (h : TreeD TL TD base w b o T F vp vf vb vk css fs cur TT) (hm : Mod (fun _ => False) w w5)
 {c : List Value} {k : Ly} {f : List Nat} (hc : LyO TL TD base w5 c k f) (hf : ∀ x ∈ f, x ∉ F ∧ x ≠ b) {i : Nat} (hi : i ≤ T.kids.length)
 (hg : Grown w5 base TL 31 vk (T.kids.length + 1) (css.flatten.take (i * 31) ++ c ++ css.flatten.drop (i * 31)) v7 w7) :
 ∃ F2, TreeAt TL TD base (w7.setCell ⟨b, o + 30, none⟩ v7) b o (.mk T.id T.look (T.kids.take i ++ k :: T.kids.drop i)) F2 ∧ Frm w (w7.setCell ⟨b, o + 30, none⟩ v7) b o F (fun _ => False) ∧ ∀ x ∈ F2, x ∈ F ∨ x ∈ f ∨ w.heap.size ≤ x := by
 have hd := h.up hm
 have hlt := h.tree.lt
 obtain ⟨h1, h2, h3, h4, h5, h6, h7, h8, h9, h10, h11, h12⟩ := hd
 have hvF : ∀ x, vk.ownBlock = some x → x ∈ F := fun x hx => by rw [h9, hx]; simp
 have hfF : ∀ x ∈ fs.flatten, x ∈ F := fun x hx => by rw [h9]; exact List.mem_append_right _ hx
 have h31 := LyO.lens h6 h7 h8
 have hvlook : ∀ x, vk.ownBlock = some x → ¬ LookBlk TL TD w5 x := fun x hx => by
  obtain ⟨_, _, cu, cp, g3, _⟩ := uar h5 hx
  rintro ⟨cur', T', g1, g2, _⟩
  unfold Blk at g3
  rw [g3] at g1
  simp only [Option.some.injEq, Obj.cells.injEq] at g1
  exact g2 g1.2.1.symm
 have hblook : ¬ LookBlk TL TD w5 b := (h.up hm).tree.notLook
 have hmS : Mod (fun x => vk.ownBlock = some x ∨ x = b) w5 (w7.setCell ⟨b, o + 30, none⟩ v7) :=
  (hg.mod.imp (fun _ _ h => .inl h)).trans' ((Mod.setCell w7 ⟨b, o + 30, none⟩ v7).imp (fun _ _ h => .inr h))
 have hbv : vk.ownBlock ≠ some b := fun e => h12 (hvF b e)
 have hlook : ∀ x, base ≤ x → LookBlk TL TD w5 x → ¬ (vk.ownBlock = some x ∨ x = b) := fun x _ hl hx => by
  rcases hx with hx | rfl
  ·exact hvlook x hx hl
  ·exact hblook hl
 have hB7 : Blk w7 b TT cur := Blk.mod h1 hg.mod hbv
 have hnd0 := List.nodup_append.1 (h9 ▸ h10)
 have hlyo : ∀ (j : Nat) (c' : List Value) (k' : Ly) (f' : List Nat), css[j]? = some c' → T.kids[j]? = some k' → fs[j]? = some f' → LyO TL TD base (w7.setCell ⟨b, o + 30, none⟩ v7) c' k' f' := fun j c' k' f' a1 a2 a3 =>
  (h8 j c' k' f' a1 a2 a3).mod hmS (fun x hx hx' => by
   have hxf : x ∈ fs.flatten := List.mem_flatten.2 ⟨f', lmG a3, hx⟩
   rcases hx' with hx' | rfl
   ·exact hnd0.2.2 x (by rw [hx']; simp) x hxf rfl
   ·exact h12 (hfF _ hxf)) hlook
 have hcn : LyO TL TD base (w7.setCell ⟨b, o + 30, none⟩ v7) c k f := hc.mod hmS (fun x hx hx' => by
  rcases hx' with hx' | rfl
  ·exact (hf x hx).1 (hvF x hx')
  ·exact (hf _ hx).2 rfl) hlook
 have hv7 : ∀ x, v7.ownBlock = some x → (vk.ownBlock = some x ∨ w5.heap.size ≤ x) := hg.blk
 have hv7b : v7.ownBlock ≠ some b := fun e => by
  rcases hv7 b e with e | e
  ·exact hbv e
  ·have := hm.size; omega
 have hown8 : (w7.setCell ⟨b, o + 30, none⟩ v7).ownsRow base TL 31 v7 (T.kids.length + 1) (css.take i ++ c :: css.drop i).flatten := by
  rw [flat_ins h31 c (by omega)]
  exact uac hg.own (Mod.setCell w7 ⟨b, o + 30, none⟩ v7) (fun x hx e => hv7b (by rw [hx, e]))
 have hfl : (fs.take i ++ f :: fs.drop i).flatten = (fs.take i).flatten ++ (f ++ (fs.drop i).flatten) := by rw [List.flatten_append, List.flatten_cons]
 have hsplit : fs.flatten = (fs.take i).flatten ++ (fs.drop i).flatten := by rw [← List.flatten_append, List.take_append_drop]
 have hmem : ∀ x, x ∈ (fs.take i ++ f :: fs.drop i).flatten → x ∈ f ∨ x ∈ fs.flatten := fun x hx => by
  rw [hfl, List.mem_append, List.mem_append] at hx
  rw [hsplit, List.mem_append]
  rcases hx with hx | hx | hx
  ·exact .inr (.inl hx)
  ·exact .inl hx
  ·exact .inr (.inr hx)
 have hnd : (v7.ownBlock.toList ++ (fs.take i ++ f :: fs.drop i).flatten).Nodup := by
  rw [List.nodup_append]
  refine ⟨by cases v7.ownBlock <;> simp, ?_, fun x hx y hy e => ?_⟩
  ·have hdd := hnd0.2.1
   rw [hsplit, List.nodup_append] at hdd
   rw [hfl, List.nodup_append, List.nodup_append]
   refine ⟨hdd.1, ⟨hc.nodup, hdd.2.1, fun x hx y hy e => ?_⟩, fun x hx y hy e => ?_⟩
   ·subst e
    exact (hf x hx).1 (hfF x (by rw [hsplit]; exact List.mem_append_right _ hy))
   ·subst e
    rw [List.mem_append] at hy
    rcases hy with hy | hy
    ·exact (hf x hy).1 (hfF x (by rw [hsplit]; exact List.mem_append_left _ hx))
    ·exact hdd.2.2 x hx x hy rfl
  ·subst e
   have hx' : v7.ownBlock = some x := by
    cases ho : v7.ownBlock with
    | none => rw [ho] at hx; simp at hx
    | some g => rw [ho] at hx; simp at hx; rw [hx]
   rcases hv7 x hx' with e | e
   ·rcases hmem x hy with hy | hy
    ·exact (hf x hy).1 (hvF x e)
    ·exact hnd0.2.2 x (by rw [e]; simp) x hy rfl
   ·rcases hmem x hy with hy | hy
    ·have := (hc.rows x hy).2.1; omega
    ·obtain ⟨l, hl1, hl2⟩ := List.mem_flatten.1 hy
     obtain ⟨j, hj⟩ := List.mem_iff_getElem?.1 hl1
     have hj' := (lgS.1 hj).1
     have := ((h8 j _ _ l (lgE (by omega)) (lgE (by omega)) hj).rows x hl2).2.1
     omega
 have hc30 : cur[o + 30]? = some vk := by rw [h3 30 (by omega)]; rfl
 have ho30 : o + 30 < cur.size := (Array.getElem?_eq_some_iff.1 hc30).1
 refine ⟨v7.ownBlock.toList ++ (fs.take i ++ f :: fs.drop i).flatten, ⟨⟨_, cur.setIfInBounds (o + 30) v7, TT, LyO.mk T.id T.look (T.kids.take i ++ k :: T.kids.drop i) vp vf vb v7 (css.take i ++ c :: css.drop i) (fs.take i ++ f :: fs.drop i) (h4.look_mod hmS hlook) ?_ ?_ ?_ ?_ hnd, hB7.set (o + 30) v7, h2, ?_⟩, h11, ?_⟩, ⟨?_, cur, cur.setIfInBounds (o + 30) v7, TT, h.h1, hB7.set (o + 30) v7, by simp, ?_⟩, ?_⟩
 ·have : (T.kids.take i ++ k :: T.kids.drop i).length = T.kids.length + 1 := by simp; omega
  rw [this]
  exact hown8
 ·simp; omega
 ·simp; omega
 ·intro j c' k' f' a1 a2 a3
  rw [ins_at css c (by omega)] at a1
  rw [ins_at T.kids k hi] at a2
  rw [ins_at fs f (by omega)] at a3
  split at a1
  ·rename_i hj
   rw [if_pos hj] at a2 a3
   exact hlyo j c' k' f' a1 a2 a3
  ·rename_i hj
   rw [if_neg hj] at a2 a3
   split at a1
   ·rename_i hj2
    rw [if_pos hj2] at a2 a3
    cases a1; cases a2; cases a3
    exact hcn
   ·rename_i hj2
    rw [if_neg hj2] at a2 a3
    exact hlyo (j - 1) c' k' f' a1 a2 a3
 ·intro j hj
  by_cases hj30 : j = 30
  ·subst hj30
   rw [Array.getElem?_setIfInBounds_self_of_lt ho30]
   rfl
  ·rw [Array.getElem?_setIfInBounds_ne (by omega), h3 j hj, agT]
   exact lyA_ne T.id T.look vp vf vb vk v7 hj hj30
 ·rw [List.mem_append, not_or]
  refine ⟨fun hx => hv7b ?_, fun hx => ?_⟩
  ·cases ho : v7.ownBlock with
   | none => rw [ho] at hx; simp at hx
   | some g => rw [ho] at hx; simp at hx; rw [hx]
  ·rcases hmem b hx with hx | hx
   ·exact (hf b hx).2 rfl
   ·exact h12 (hfF b hx)
 ·exact (hm.imp (fun _ _ h => h.elim)).trans' (hmS.imp (fun x _ hx => by
   rcases hx with hx | hx
   ·exact .inr (.inl (hvF x hx))
   ·exact .inl hx))
 ·intro j hj
  exact Array.getElem?_setIfInBounds_ne (by omega)
 ·intro x hx
  rw [List.mem_append] at hx
  rcases hx with hx | hx
  ·have hx' : v7.ownBlock = some x := by
    cases ho : v7.ownBlock with
    | none => rw [ho] at hx; simp at hx
    | some g => rw [ho] at hx; simp at hx; rw [hx]
   rcases hv7 x hx' with e | e
   ·exact .inl (hvF x e)
   ·exact .inr (.inr (Nat.le_trans hm.size e))
  ·rcases hmem x hx with hx | hx
   ·exact .inr (.inl hx)
   ·exact .inl (hfF x hx)
theorem TreeD.delete {w w5 w7 : World} {b o : Nat} {T : Ly} {F : List Nat} {vp vf vb : Value} {g cap : Nat} {css : List (List Value)} {fs : List (List Nat)} {cur : Array Value} {TT : TypeId} (h : TreeD TL TD base w b o T F vp vf vb (.slice (some ⟨g, 0, none⟩) T.kids.length cap) css fs cur TT) (hm : Mod (fun _ => False) w w5)
 {i : Nat} {k : Ly} (hk : T.kids[i]? = some k) (hown : w7.ownsRow base TL 31 (.slice (some ⟨g, 0, none⟩) (T.kids.length - 1) cap) (T.kids.length - 1) (css.flatten.take (i * 31) ++ css.flatten.drop ((i + 1) * 31))) (hm7 : Mod (fun k => k = g) w5 w7) :
 ∃ c f F2, css[i]? = some c ∧ LyO TL TD base (w7.setCell ⟨b, o + 30, none⟩ (.slice (some ⟨g, 0, none⟩) (T.kids.length - 1) cap)) c k f ∧ TreeAt TL TD base (w7.setCell ⟨b, o + 30, none⟩ (.slice (some ⟨g, 0, none⟩) (T.kids.length - 1) cap)) b o (.mk T.id T.look (T.kids.eraseIdx i)) F2 ∧
     Frm w (w7.setCell ⟨b, o + 30, none⟩ (.slice (some ⟨g, 0, none⟩) (T.kids.length - 1) cap)) b o F (fun _ => False) ∧ (∀ x ∈ F2, x ∈ F ∧ x ∉ f) ∧ ∀ x ∈ f, x ∈ F := by
 have hd := h.up hm
 have hil := (lgS.1 hk).1
 generalize hv7 : Value.slice (some ⟨g, 0, none⟩) (T.kids.length - 1) cap = v7 at *
 have ho7 : v7.ownBlock = some g := by rw [← hv7]; rfl
 obtain ⟨h1, h2, h3, h4, h5, h6, h7, h8, h9, h10, h11, h12⟩ := hd
 have h9' : F = g :: fs.flatten := h9
 have hgF : g ∈ F := by rw [h9']; simp
 have hfF : ∀ x ∈ fs.flatten, x ∈ F := fun x hx => by rw [h9']; exact List.mem_cons_of_mem _ hx
 have h31 := LyO.lens h6 h7 h8
 have hbg : b ≠ g := fun e => h12 (e ▸ hgF)
 have hglook : ¬ LookBlk TL TD w5 g := by
  obtain ⟨_, _, cu, cp, g3, _⟩ := uar h5 (b := g) rfl
  rintro ⟨cur', T', g1, g2, _⟩
  unfold Blk at g3
  rw [g3] at g1
  simp only [Option.some.injEq, Obj.cells.injEq] at g1
  exact g2 g1.2.1.symm
 have hblook : ¬ LookBlk TL TD w5 b := (h.up hm).tree.notLook
 have hmS : Mod (fun x => x = g ∨ x = b) w5 (w7.setCell ⟨b, o + 30, none⟩ v7) :=
  (hm7.imp (fun _ _ h => .inl h)).trans' ((Mod.setCell w7 ⟨b, o + 30, none⟩ v7).imp (fun _ _ h => .inr h))
 have hlook : ∀ x, base ≤ x → LookBlk TL TD w5 x → ¬ (x = g ∨ x = b) := fun x _ hl hx => by
  rcases hx with rfl | rfl
  ·exact hglook hl
  ·exact hblook hl
 have hB7 : Blk w7 b TT cur := Blk.mod h1 hm7 hbg
 have hnd0 : (g :: fs.flatten).Nodup := h9' ▸ h10
 rw [List.nodup_cons] at hnd0
 have hlyo : ∀ (j : Nat) (c' : List Value) (k' : Ly) (f' : List Nat), css[j]? = some c' → T.kids[j]? = some k' → fs[j]? = some f' → LyO TL TD base (w7.setCell ⟨b, o + 30, none⟩ v7) c' k' f' := fun j c' k' f' a1 a2 a3 =>
  (h8 j c' k' f' a1 a2 a3).mod hmS (fun x hx hx' => by
   have hxf : x ∈ fs.flatten := List.mem_flatten.2 ⟨f', lmG a3, hx⟩
   rcases hx' with rfl | rfl
   ·exact hnd0.1 hxf
   ·exact h12 (hfF _ hxf)) hlook
 have hci : css[i]? = some css[i] := lgE (by omega)
 have hfi : fs[i]? = some fs[i] := lgE (by omega)
 have hfl : (fs.eraseIdx i).flatten = (fs.take i).flatten ++ (fs.drop (i + 1)).flatten := by rw [List.eraseIdx_eq_take_drop_succ, List.flatten_append]
 have hsplit : fs.flatten = (fs.take i).flatten ++ (fs[i] ++ (fs.drop (i + 1)).flatten) := by
  have e : fs = fs.take i ++ fs[i] :: fs.drop (i + 1) := by rw [List.getElem_cons_drop, List.take_append_drop]
  conv => lhs; rw [e]
  rw [List.flatten_append, List.flatten_cons]
 have hdd := hnd0.2
 rw [hsplit, List.nodup_append, List.nodup_append] at hdd
 have hmem : ∀ x, x ∈ (fs.eraseIdx i).flatten → x ∈ fs.flatten ∧ x ∉ fs[i] := fun x hx => by
  rw [hfl, List.mem_append] at hx
  rw [hsplit, List.mem_append, List.mem_append]
  rcases hx with hx | hx
  ·exact ⟨.inl hx, fun hh => hdd.2.2 x hx x (List.mem_append_left _ hh) rfl⟩
  ·exact ⟨.inr (.inr hx), fun hh => hdd.2.1.2.2 x hh x hx rfl⟩
 have hnd : (v7.ownBlock.toList ++ (fs.eraseIdx i).flatten).Nodup := by
  rw [ho7, Option.toList_some, List.singleton_append, List.nodup_cons]
  refine ⟨fun hx => hnd0.1 (hmem g hx).1, ?_⟩
  rw [hfl, List.nodup_append]
  exact ⟨hdd.1, hdd.2.1.2.1, fun x hx y hy e => hdd.2.2 x hx y (List.mem_append_right _ hy) e⟩
 have hown8 : (w7.setCell ⟨b, o + 30, none⟩ v7).ownsRow base TL 31 v7 (T.kids.length - 1) (css.eraseIdx i).flatten := by
  rw [ujw h31 (by omega)]
  exact uac hown (Mod.setCell w7 ⟨b, o + 30, none⟩ v7) (fun x hx e => hbg (by rw [ho7] at hx; cases hx; exact e.symm))
 have hc30 : cur[o + 30]? = some (.slice (some ⟨g, 0, none⟩) T.kids.length cap) := by rw [h3 30 (by omega)]; rfl
 have ho30 : o + 30 < cur.size := (Array.getElem?_eq_some_iff.1 hc30).1
 have hgf : g ∉ fs[i] := fun hh => hnd0.1 (List.mem_flatten.2 ⟨_, lgM _, hh⟩)
 refine ⟨css[i], fs[i], v7.ownBlock.toList ++ (fs.eraseIdx i).flatten, hci, hlyo i _ _ _ hci hk hfi, ⟨⟨_, cur.setIfInBounds (o + 30) v7, TT, LyO.mk T.id T.look (T.kids.eraseIdx i) vp vf vb v7 (css.eraseIdx i) (fs.eraseIdx i) (h4.look_mod hmS hlook) ?_ ?_ ?_ ?_ hnd, hB7.set (o + 30) v7, h2, ?_⟩, h11, ?_⟩, ⟨?_, cur, cur.setIfInBounds (o + 30) v7, TT, h.h1, hB7.set (o + 30) v7, by simp, ?_⟩, ?_, ?_⟩
 ·rw [List.length_eraseIdx, if_pos hil]
  exact hown8
 ·rw [List.length_eraseIdx, List.length_eraseIdx, if_pos hil, if_pos (by omega)]; omega
 ·rw [List.length_eraseIdx, List.length_eraseIdx, if_pos hil, if_pos (by omega)]; omega
 ·intro j c' k' f' a1 a2 a3
  rw [List.getElem?_eraseIdx] at a1 a2 a3
  split at a1
  ·rename_i hj
   rw [if_pos hj] at a2 a3
   exact hlyo j c' k' f' a1 a2 a3
  ·rename_i hj
   rw [if_neg hj] at a2 a3
   exact hlyo (j + 1) c' k' f' a1 a2 a3
 ·intro j hj
  by_cases hj30 : j = 30
  ·subst hj30
   rw [Array.getElem?_setIfInBounds_self_of_lt ho30]
   rfl
  ·rw [Array.getElem?_setIfInBounds_ne (by omega), h3 j hj, agT]
   exact lyA_ne T.id T.look vp vf vb _ v7 hj hj30
 ·rw [ho7, Option.toList_some, List.singleton_append, List.mem_cons, not_or]
  exact ⟨hbg, fun hx => h12 (hfF b (hmem b hx).1)⟩
 ·exact (hm.imp (fun _ _ h => h.elim)).trans' (hmS.imp (fun x _ hx => by
   rcases hx with rfl | hx
   ·exact .inr (.inl hgF)
   ·exact .inl hx))
 ·intro j hj
  exact Array.getElem?_setIfInBounds_ne (by omega)
 ·intro x hx
  rw [ho7, Option.toList_some, List.singleton_append, List.mem_cons] at hx
  rcases hx with rfl | hx
  ·exact ⟨hgF, hgf⟩
  ·exact ⟨hfF x (hmem x hx).1, (hmem x hx).2⟩
 ·exact fun x hx => hfF x (List.mem_flatten.2 ⟨_, lgM _, hx⟩)
end Go.Gou
namespace Go.Proofs.YtpbmfalokongfaaGreatDoor
open Go.RowKit Go.Gou
set_option maxRecDepth 100000
def PutP (base : Nat) (s : Ly) (F : List Nat) (i : Nat) (k : Ly) (f : List Nat) (w : World) (b o : Nat) (e : Ending) (w' : World) : Prop := e = .returned (.tuple #[]) ∧
 ∃ F2, TreeL base w' b o (.mk s.id s.look (s.kids.take i ++ k :: s.kids.drop i)) F2 ∧ Frm w w' b o F (fun _ => False) ∧ ∀ x ∈ F2, x ∈ F ∨ x ∈ f ∨ w.heap.size ≤ x
theorem put_any (base : Nat) (w : World) (b o i : Nat) (s : Ly) (F : List Nat) (k : Ly) (f : List Nat) (kp kf kb kk : Value) (hT : TreeL base w b o s F) (hk : LyO 45 77 base w (lyA k.id k.look kp kf kb kk).toList k f) (hf : ∀ x ∈ f, x ∉ F ∧ x ≠ b) (hi : i ≤ s.kids.length) (hn : s.kids.length ≤ 1000000) :
 Calls Tryz.prog 60 #[.pointer (some ⟨b, o, none⟩), iV i, .agg (lyA k.id k.look kp kf kb kk)] w (PutP base s F i k f w b o) := by
 obtain ⟨vp, vf, vb, vk, css, fs, cur, TT, hd⟩ := hT.open
 obtain ⟨p, cap, rfl⟩ := Gou.ownsRow_form hd.h5
 have hlt := hT.lt
 have hnb : (Value.slice p s.kids.length cap).ownBlock ≠ some b := fun e => hd.out (by rw [hd.h9, e]; simp)
 have c30 : w.cell? ⟨b, o + 30, none⟩ = some (.slice p s.kids.length cap) := by rw [cell_of_row w b (o + 30) cur TT _ hd.h1, hd.h3 30 (by omega)]; rfl
 have hvlt : ∀ x, (Value.slice p s.kids.length cap).ownBlock = some x → x < w.heap.size ∧ base ≤ x := fun x hx => by
  obtain ⟨h1, h2, _⟩ := uar hd.h5 hx
  exact ⟨h2, h1⟩
 have hone := LyR.one hk.reads
 have h31c := LyO.lens hd.h6 hd.h7 hd.h8
 have hones : ∀ d ∈ css.flatten, d.oneCell' = true := fun d hdd => by
  obtain ⟨l, hl1, hl2⟩ := List.mem_flatten.1 hdd
  obtain ⟨j, hj⟩ := List.mem_iff_getElem?.1 hl1
  have hj' := (lgS.1 hj).1
  have h6 := hd.h6
  have h7 := hd.h7
  have := hd.h8 j l _ _ hj (lgE (by omega)) (lgE (by omega))
  exact LyO.one this d hl2
 have Hc := hd' c30
 have Hd := hd' hd
 have Hk := hd' hk
 have Hf := hd' hf
 have Hi := hd' hi
 have Hn := hd' hn
 have Hlt := hd' hlt
 have Hnb := hd' hnb
 have Hvlt := hd' hvlt
 have Hone := hd' hone
 have Hones := hd' hones
 have HB := hd' (Blk.new w 45 (lyA k.id k.look kp kf kb kk))
 have HMa := hd' (Gou.Mod.alloc0 w (.cells (lyA k.id k.look kp kf kb kk) 45))
 clear hT hk hf hi hn hd hlt hnb hvlt hone hones h31c c30
 go_enter Tryz.func60, Tryz.ntmps60
 go_wp2_with fail
 generalize w.alloc (.cells (lyA k.id k.look kp kf kb kk) 45) = W1 at *
 have Hrg : Hid (W1.rangeAt w.heap.size 0 (lyA k.id k.look kp kf kb kk).toList) := hd' (Blk.range (pre := []) (post := []) HB.o (by simp) rfl)
 have HNv : Hid (¬ ((Value.slice p s.kids.length cap).ownBlock = some w.heap.size ∨ w.heap.size = b)) := hd' (fun e => e.elim (fun e => absurd (Hvlt.o _ e).1 (Nat.lt_irrefl _)) (fun e => by have := Hlt.o; omega))
 have HMq := hd' (HMa.o.trans' (Gou.Mod.drew (fun _ => False) W1))
 refine wp_region_held_drew (S := fun w' => Gou.Mod (fun k => (Value.slice p s.kids.length cap).ownBlock = some k ∨ k = b) W1 w') (by kernel_rfl) (Gou.Mod.drew _ _) (fun hH => ?_)
 refine tk 0 (.pointer (some ⟨b, o, none⟩)) hH (h := ?_)
 refine tk 1 (.pointer (some ⟨b, o, none⟩)) hH (h := ?_)
 refine tk 2 (.pointer (some ⟨b, o, none⟩)) hH (h := ?_)
 refine tk 3 (.pointer (some ⟨b, o + 30, none⟩)) hH (h := ?_)
 refine tk 5 (iV i) hH (h := ?_)
 refine tkR 6 (.agg (lyA k.id k.look kp kf kb kk)) Hrg.o (HNv.o) Tryz.underlying45 uaa hH (h := ?_)
 refine rd2 4 7 (h := fun K11 hK => ?_) (g := fun K11 hK => ?_)
 ·skip
  have g0 := (HMq.o.cell (p := ⟨b, o + 30, none⟩) Hlt.o (fun h => h)).trans Hc.o
  go_simp
  clear g0
  have M := hd' hH
  clear hH
  refine hK _ _ M.o (fun hH => ?_)
  clear hK K11 M
  try simp only [Act.put, uSa, uSb, uSc]
  refine rd 7 (h := fun K hK => ?_)
  refine ua8 T_ly _ rfl (lyA k.id k.look kp kf kb kk) rfl rfl (by decide) ?_
  have HB5 := hd' (Blk.new W1.drew 45 (lyA k.id k.look kp kf kb kk))
  have M := hd' (hH.trans' (Gou.Mod.alloc (fun k => (Value.slice p s.kids.length cap).ownBlock = some k ∨ k = b) W1.drew (.cells (lyA k.id k.look kp kf kb kk) 45)))
  have HN5 : Hid (w.heap.size ≤ W1.drew.heap.size) := hd' HMa.o.size
  replace HMq := hd' (HMq.o.trans' (Gou.Mod.alloc0 W1.drew (.cells (lyA k.id k.look kp kf kb kk) 45)))
  clear hH
  generalize W1.drew.alloc (.cells (lyA k.id k.look kp kf kb kk) 45) = w5 at *
  generalize W1.drew.heap.size = N5 at *
  refine hK _ _ M.o (fun hH => ?_)
  clear hK K M
  try simp only [Act.put, uSa, uSb, uSc]
  refine rd 8 (h := fun K hK => ?_)
  go_simp
  refine (ufp w5 base N5 s.kids.length cap i p css.flatten (lyA k.id k.look kp kf kb kk).toList (by have := Hd.o.ge; have := Hlt.o; have := HMq.o.size; omega) (ua4 Hd.o.h5 HMq.o) (by rw [Array.toArray_toList]; exact HB5.o) (fun g hg e => by have := (Hvlt.o g hg).1; have := HN5.o; omega) rfl Hone.o Hones.o Hi.o Hn.o).mono ?_
  rintro e w7 ⟨q7, c7, rfl, hg7⟩
  have M := hd' (hH.trans' (hg7.mod.imp (fun _ _ h => .inl h)))
  have HG7 := hd' hg7
  have HB7 := hd' (Blk.mod (Hd.o.up HMq.o).h1 hg7.mod Hnb.o)
  clear hH hg7
  refine hK _ _ M.o (fun hH => ?_)
  clear hK K M
  try simp only [Act.put, uSa, uSb, uSc]
  refine tk 9 (.pointer (some ⟨b, o, none⟩)) hH (h := ?_)
  refine tk 10 (.pointer (some ⟨b, o + 30, none⟩)) hH (h := ?_)
  refine rd 11 (h := fun K hK => ?_)
  have f7 := HB7.o.frozen (o + 30)
  have o7 : ∃ u, w7.cell? ⟨b, o + 30, none⟩ = some u := ⟨_, HB7.o.cell (o + 30) (by rw [Hd.o.h3 30 (by omega)]; rfl)⟩
  obtain ⟨u7, o7⟩ := o7
  go_simp
  clear f7 o7
  have M := hd' (hH.trans' ((Gou.Mod.set1 w7 b (o + 30) (.slice q7 (s.kids.length + 1) c7)).imp (fun _ _ h => .inr h)))
  clear hH
  refine hK _ _ M.o (fun hH => ?_)
  clear hK K M
  try simp only [Act.put, uSa, uSb, uSc]
  have MS := hd' hH
  refine wpAnyH_done (by kernel_rfl) ?_ _
  clear hH
  try simp only [Act.put]
  obtain ⟨F2, hT2, hF2, hx2⟩ := Hd.o.insert HMq.o (Hk.o.up HMq.o) Hf.o Hi.o HG7.o
  have HT2 := hd' hT2
  have HF2 := hd' hF2
  have HX2 := hd' hx2
  clear hT2 hF2 hx2 Hd Hk HG7 MS
  go_wp2_with fail
  go_end0
  exact ⟨rfl, F2, HT2.o, HF2.o, HX2.o⟩
 ·skip
  skip
  refine ua8 T_ly _ rfl (lyA k.id k.look kp kf kb kk) rfl rfl (by decide) ?_
  have HB5 := hd' (Blk.new W1.drew 45 (lyA k.id k.look kp kf kb kk))
  have M := hd' (hH.trans' (Gou.Mod.alloc (fun k => (Value.slice p s.kids.length cap).ownBlock = some k ∨ k = b) W1.drew (.cells (lyA k.id k.look kp kf kb kk) 45)))
  have HN5 : Hid (w.heap.size ≤ W1.drew.heap.size) := hd' HMa.o.size
  replace HMq := hd' (HMq.o.trans' (Gou.Mod.alloc0 W1.drew (.cells (lyA k.id k.look kp kf kb kk) 45)))
  clear hH
  generalize W1.drew.alloc (.cells (lyA k.id k.look kp kf kb kk) 45) = w5 at *
  generalize W1.drew.heap.size = N5 at *
  refine hK _ _ M.o (fun hH => ?_)
  clear hK K11 M
  try simp only [Act.put, uSa, uSb, uSc]
  refine rd 4 (h := fun K hK => ?_)
  have g0 := (HMq.o.cell (p := ⟨b, o + 30, none⟩) Hlt.o (fun h => h)).trans Hc.o
  go_simp
  clear g0
  have M := hd' hH
  clear hH
  refine hK _ _ M.o (fun hH => ?_)
  clear hK K M
  try simp only [Act.put, uSa, uSb, uSc]
  refine rd 8 (h := fun K hK => ?_)
  go_simp
  refine (ufp w5 base N5 s.kids.length cap i p css.flatten (lyA k.id k.look kp kf kb kk).toList (by have := Hd.o.ge; have := Hlt.o; have := HMq.o.size; omega) (ua4 Hd.o.h5 HMq.o) (by rw [Array.toArray_toList]; exact HB5.o) (fun g hg e => by have := (Hvlt.o g hg).1; have := HN5.o; omega) rfl Hone.o Hones.o Hi.o Hn.o).mono ?_
  rintro e w7 ⟨q7, c7, rfl, hg7⟩
  have M := hd' (hH.trans' (hg7.mod.imp (fun _ _ h => .inl h)))
  have HG7 := hd' hg7
  have HB7 := hd' (Blk.mod (Hd.o.up HMq.o).h1 hg7.mod Hnb.o)
  clear hH hg7
  refine hK _ _ M.o (fun hH => ?_)
  clear hK K M
  try simp only [Act.put, uSa, uSb, uSc]
  refine tk 9 (.pointer (some ⟨b, o, none⟩)) hH (h := ?_)
  refine tk 10 (.pointer (some ⟨b, o + 30, none⟩)) hH (h := ?_)
  refine rd 11 (h := fun K hK => ?_)
  have f7 := HB7.o.frozen (o + 30)
  have o7 : ∃ u, w7.cell? ⟨b, o + 30, none⟩ = some u := ⟨_, HB7.o.cell (o + 30) (by rw [Hd.o.h3 30 (by omega)]; rfl)⟩
  obtain ⟨u7, o7⟩ := o7
  go_simp
  clear f7 o7
  have M := hd' (hH.trans' ((Gou.Mod.set1 w7 b (o + 30) (.slice q7 (s.kids.length + 1) c7)).imp (fun _ _ h => .inr h)))
  clear hH
  refine hK _ _ M.o (fun hH => ?_)
  clear hK K M
  try simp only [Act.put, uSa, uSb, uSc]
  have MS := hd' hH
  refine wpAnyH_done (by kernel_rfl) ?_ _
  clear hH
  try simp only [Act.put]
  obtain ⟨F2, hT2, hF2, hx2⟩ := Hd.o.insert HMq.o (Hk.o.up HMq.o) Hf.o Hi.o HG7.o
  have HT2 := hd' hT2
  have HF2 := hd' hF2
  have HX2 := hd' hx2
  clear hT2 hF2 hx2 Hd Hk HG7 MS
  go_wp2_with fail
  go_end0
  exact ⟨rfl, F2, HT2.o, HF2.o, HX2.o⟩
end Go.Proofs.YtpbmfalokongfaaGreatDoor
namespace Go.Gou
open Go.RowKit
variable {TL TD TI TB : TypeId} {base : Nat}
structure DoerR (TL TD TI TB : TypeId) (base : Nat) (w : World) (D : Nat) (a : Ar) (T : Ly) (F : List Nat) (o : Opr) (vg vl vp vf vb : Value) (cur : Array Value) : Prop where
 tree : TreeAt TL TD base w D 2 T F
 blk : Blk w D TD cur
 size : cur.size = 67
 c0 : cur[0]? = some vg
 c1 : cur[1]? = some vl
 ops : ∀ j, j < 34 → cur[33 + j]? = (oprC o vp vf vb)[j]?
 ar : ArO TI TB base w vg vl a
 look : LookR (fun b => b < base) w o.look vp vf vb
theorem TreeAt.else_ {w w2 : World} {b o : Nat} {T : Ly} {F : List Nat} (h : TreeAt TL TD base w b o T F) {S : Nat → Prop} (hm : Mod S w w2) (hF : ∀ k ∈ F, ¬ S k) (hS : ∀ k, base ≤ k → LookBlk TL TD w k → ¬ S k) {TT : TypeId} {cur cur2 : Array Value} (h1 : Blk w b TT cur) (h2 : Blk w2 b TT cur2) (hc : ∀ j, o ≤ j → j < o + 31 → cur2[j]? = cur[j]?) : TreeAt TL TD base w2 b o T F := by
 obtain ⟨⟨c, cur', TT', g1, g2, g3, g4⟩, g5, g6⟩ := h
 unfold Blk at h1 g2
 rw [h1] at g2
 simp only [Option.some.injEq, Obj.cells.injEq] at g2
 obtain ⟨rfl, rfl, -⟩ := g2
 exact ⟨⟨c, cur2, TT, g1.mod hm hF hS, h2, g3, fun j hj => by rw [hc _ (by omega) (by omega)]; exact g4 j hj⟩, g5, g6⟩
theorem DoerR.up {w w' : World} {D : Nat} {a : Ar} {T : Ly} {F : List Nat} {o : Opr} {vg vl vp vf vb : Value} {cur : Array Value} (h : DoerR TL TD TI TB base w D a T F o vg vl vp vf vb cur) (hm : Mod (fun _ => False) w w') : DoerR TL TD TI TB base w' D a T F o vg vl vp vf vb cur :=
 ⟨h.tree.up hm, h.blk.up hm, h.size, h.c0, h.c1, h.ops, h.ar.up hm, h.look.mod hm (fun _ _ _ h => h)⟩
theorem DoerR.mod {S : Nat → Prop} {w w' : World} {D : Nat} {a : Ar} {T : Ly} {F : List Nat} {o : Opr} {vg vl vp vf vb : Value} {cur : Array Value} (h : DoerR TL TD TI TB base w D a T F o vg vl vp vf vb cur) (hTI : TI ≠ TL ∧ TI ≠ TD ∧ ucx TI) (hTB : TB ≠ TL ∧ TB ≠ TD ∧ ucx TB) (hm : Mod S w w')
 (hD : ¬ S D) (hF : ∀ k ∈ F, ¬ S k) (hl : ∀ k, base ≤ k → LookBlk TL TD w k → ¬ S k) (hb : ∀ k, k < base → ¬ S k) : DoerR TL TD TI TB base w' D a T F o vg vl vp vf vb cur := by
 have hrow : ∀ {e : TypeId} {k n : Nat} {v : Value} {xs : List Value}, w.ownsRow base e k v n xs → e ≠ TL ∧ e ≠ TD ∧ ucx e → ∀ x, v.ownBlock = some x → ¬ S x := fun hr he x hx hh => by
  obtain ⟨g1, _, cu, cp, g3, _⟩ := uar hr hx
  exact hl x g1 ⟨cu, _, g3, he.1, he.2⟩ hh
 exact ⟨h.tree.mod hm hD hF hl, h.blk.mod hm hD, h.size, h.c0, h.c1, h.ops, h.ar.mod hm (hrow h.ar.g hTI) (hrow h.ar.l hTB), h.look.mod hm (fun k _ hk => hb k hk)⟩
theorem DoerR.step {w w2 : World} {D : Nat} {a : Ar} {T : Ly} {F : List Nat} {o : Opr} {vg vl vp vf vb : Value} {cur : Array Value} (h : DoerR TL TD TI TB base w D a T F o vg vl vp vf vb cur) (hTI : TI ≠ TL ∧ TI ≠ TD ∧ ucx TI) (hTB : TB ≠ TL ∧ TB ≠ TD ∧ ucx TB)
 {π : List Nat} {s s2 : Ly} {b' o' : Nat} {F' F2 : List Nat} (hz : Zoom TL TD base w D 2 T F π s b' o' F') (t2 : TreeAt TL TD base w2 b' o' s2 F2) (fr : Frm w w2 b' o' F' (fun _ => False)) (hF2 : ∀ x ∈ F2, x ∈ F' ∨ (x ∉ F ∧ x ≠ D)) :
 ∃ F3 cur2, DoerR TL TD TI TB base w2 D a (T.put π s2) F3 o vg vl vp vf vb cur2 ∧ ∀ x ∈ F3, x ∈ F2 ∨ (x ∈ F ∧ x ∉ F') := by
 obtain ⟨F3, h3, hF3⟩ := hz.put w2 s2 F2 _ t2 fr hF2 (fun x hx => hx.elim)
 have hDF : D ∉ F := h.tree.out
 -- what has turned is layers, and the doer
 have hty : ∀ x, (x = b' ∨ x ∈ F' ∨ False) → base ≤ x ∧ ¬ LookBlk TL TD w x := fun x hx => by
  rcases hx with rfl | hx | hx
  ·exact ⟨hz.sub.ge, hz.sub.notLook⟩
  ·obtain ⟨⟨c, _, _, g1, _⟩, _, _⟩ := hz.sub
   exact ⟨(g1.rows x hx).1, g1.notLook hx⟩
  ·exact hx.elim
 have hrow : ∀ {e : TypeId} {k n : Nat} {v : Value} {xs : List Value}, w.ownsRow base e k v n xs → e ≠ TL ∧ e ≠ TD ∧ ucx e → ∀ x, v.ownBlock = some x → ¬ (x = b' ∨ x ∈ F' ∨ False) := fun hr he x hx hh => by
  obtain ⟨_, _, cu, cp, g3, _⟩ := uar hr hx
  exact (hty x hh).2 ⟨cu, _, g3, he.1, he.2⟩
 have hblk : ∃ cur2, Blk w2 D TD cur2 ∧ cur2.size = cur.size ∧ ∀ j, (j < 2 ∨ 33 ≤ j) → cur2[j]? = cur[j]? := by
  by_cases hb : b' = D
  ·have ho : o' = 2 := by
    rcases hz.blk with hh | hh
    ·exact hh.2
    ·exact absurd (hb ▸ hh) hDF
   obtain ⟨cA, cB, TT, v1, v2, v3, v4⟩ := fr.cells
   rw [hb] at v1 v2
   have hblk := h.blk
   unfold Blk at v1 hblk
   rw [hblk] at v1
   simp only [Option.some.injEq, Obj.cells.injEq] at v1
   obtain ⟨rfl, rfl, -⟩ := v1
   exact ⟨cB, v2, v3, fun j hj => v4 j (by omega)⟩
  ·refine ⟨cur, h.blk.mod fr.mod ?_, rfl, fun _ _ => rfl⟩
   rintro (e | hh | hh)
   ·exact hb e.symm
   ·exact hDF (hz.rows D hh)
   ·exact hh
 obtain ⟨cur2, r1, r2, r3⟩ := hblk
 exact ⟨F3, cur2, ⟨h3, r1, by rw [r2, h.size], by rw [r3 0 (by omega)]; exact h.c0, by rw [r3 1 (by omega)]; exact h.c1, fun j hj => by rw [r3 _ (by omega)]; exact h.ops j hj,
     h.ar.mod fr.mod (hrow h.ar.g hTI) (hrow h.ar.l hTB), h.look.mod fr.mod (fun k _ hk hh => by have := (hty k hh).1; omega)⟩, hF3⟩
theorem TreeD.kidC {w : World} {b o : Nat} {T : Ly} {F : List Nat} {vp vf vb vk : Value} {css : List (List Value)} {fs : List (List Nat)} {cur : Array Value} {TT : TypeId} (h : TreeD TL TD base w b o T F vp vf vb vk css fs cur TT) {i : Nat} {k : Ly} (hk : T.kids[i]? = some k) :
 ∃ g cap kp kf kb kk, vk = .slice (some ⟨g, 0, none⟩) T.kids.length cap ∧ css[i]? = some (lyA k.id k.look kp kf kb kk).toList ∧ w.rangeAt g (i * 31) (lyA k.id k.look kp kf kb kk).toList ∧ g < w.heap.size ∧ g ∈ F ∧ w.cell? ⟨b, o + 30, none⟩ = some vk ∧
     (∀ d ∈ (lyA k.id k.look kp kf kb kk).toList, d.oneCell' = true) ∧ ∀ d ∈ css.flatten, d.oneCell' = true := by
 have h6 := h.h6
 have h7 := h.h7
 have hil := (lgS.1 hk).1
 have h31 := LyO.lens h.h6 h.h7 h.h8
 have hci : css[i]? = some css[i] := lgE (by omega)
 have hly := h.h8 i _ k _ hci hk (lgE (by omega))
 obtain ⟨kp, kf, kb, kk, _, e, _⟩ := hly.reads.form
 have h5 := h.h5
 rcases h5.2 with ⟨_, h0⟩ | ⟨g, cap, cur', hv, hb, hh, hnc, _⟩
 ·omega
 ·subst hv
  rw [e] at hci hly
  refine ⟨g, cap, kp, kf, kb, kk, rfl, hci, fun r v hr => uc4 h5 ?_, Blk.lt hh, by rw [h.h9]; simp [Value.ownBlock], by rw [cell_of_row w b (o + 30) cur TT _ h.h1, h.h3 30 (by omega)]; rfl, LyO.one hly, fun d hd => ?_⟩
  ·have hr' := (lgS.1 hr).1
   rw [uew] at hr'
   rw [udb h31 i r hr', hci]
   exact hr
  ·obtain ⟨l, hl1, hl2⟩ := List.mem_flatten.1 hd
   obtain ⟨j, hj⟩ := List.mem_iff_getElem?.1 hl1
   have hj' := (lgS.1 hj).1
   exact LyO.one (h.h8 j l _ _ hj (lgE (by omega)) (lgE (by omega))) d hl2
theorem DoerR.arena {w : World} {D : Nat} {a a2 : Ar} {T : Ly} {F : List Nat} {o : Opr} {vg vl vp vf vb vg2 vl2 : Value} {cur : Array Value} (h : DoerR TL TD TI TB base w D a T F o vg vl vp vf vb cur) (hTI : TI ≠ TD) (hTB : TB ≠ TD) (ha : ArO TI TB base w vg2 vl2 a2) :
 ∃ cur2, DoerR TL TD TI TB base (w.setCells D 0 [vg2, vl2]) D a2 T F o vg2 vl2 vp vf vb cur2 := by
 have hm := Blk.setMod w D 0 [vg2, vl2]
 have hD : ∀ k, base ≤ k → LookBlk TL TD w k → ¬ k = D := fun k _ hl e => h.tree.notLook (e ▸ hl)
 have hb2 := h.blk.sets 0 [vg2, vl2]
 have hsz := h.size
 have hge := h.tree.ge
 have hc : ∀ j, 2 ≤ j → (uao cur 0 [vg2, vl2])[j]? = cur[j]? := fun j hj => by
  simp only [uao]
  rw [Array.getElem?_setIfInBounds_ne (by omega), Array.getElem?_setIfInBounds_ne (by omega)]
 have hrow : ∀ {e : TypeId} {k n : Nat} {v : Value} {xs : List Value}, w.ownsRow base e k v n xs → e ≠ TD → ∀ x, v.ownBlock = some x → ¬ x = D := fun hr he x hx hh => by
  obtain ⟨_, _, cu, cp, g3, _⟩ := uar hr hx
  have hb := h.blk
  subst hh
  unfold Blk at g3 hb
  rw [hb] at g3
  simp only [Option.some.injEq, Obj.cells.injEq] at g3
  exact he g3.2.1.symm
 refine ⟨uao cur 0 [vg2, vl2], h.tree.else_ hm (fun k hk e => h.tree.out (e ▸ hk)) hD h.blk hb2 (fun j h1 _ => hc j h1), hb2, by rw [ua7, hsz], ?_, ?_, fun j hj => by rw [hc _ (by omega)]; exact h.ops j hj, ha.mod hm (hrow ha.g hTI) (hrow ha.l hTB), h.look.mod hm (fun k _ hk e => by omega)⟩
 ·simp only [uao]
  rw [Array.getElem?_setIfInBounds_ne (by omega), Array.getElem?_setIfInBounds_self_of_lt (by omega)]
 ·simp only [uao]
  rw [Array.getElem?_setIfInBounds_self_of_lt (by simp; omega)]
theorem DoerR.cell {w : World} {D : Nat} {a : Ar} {T : Ly} {F : List Nat} {o : Opr} {vg vl vp vf vb : Value} {cur : Array Value} (h : DoerR TL TD TI TB base w D a T F o vg vl vp vf vb cur) :
 w.cell? ⟨D, 0, none⟩ = some vg ∧ w.cell? ⟨D, 1, none⟩ = some vl ∧ w.cell? ⟨D, 33, none⟩ = some (iV o.kind) ∧ w.cell? ⟨D, 34, none⟩ = some (iV o.id.1) ∧ w.cell? ⟨D, 35, none⟩ = some (iV o.id.2) ∧ w.cell? ⟨D, 36, none⟩ = some (iV o.to.1) ∧ w.cell? ⟨D, 37, none⟩ = some (iV o.to.2) ∧ w.cell? ⟨D, 38, none⟩ = some (iV o.at_) :=
 ⟨h.blk.cell 0 h.c0, h.blk.cell 1 h.c1, h.blk.cell 33 (by rw [h.ops 0 (by omega)]; rfl), h.blk.cell 34 (by rw [h.ops 1 (by omega)]; rfl), h.blk.cell 35 (by rw [h.ops 2 (by omega)]; rfl), h.blk.cell 36 (by rw [h.ops 3 (by omega)]; rfl), h.blk.cell 37 (by rw [h.ops 4 (by omega)]; rfl), h.blk.cell 38 (by rw [h.ops 5 (by omega)]; rfl)⟩
namespace Ly
theorem parL_hit {x : Idt} : ∀ {ks : List Ly} {n j : Nat} {k : Ly}, (∀ a ∈ ks.take j, a.id ≠ x ∧ a.parPath x = none) → ks[j]? = some k → k.id = x → parL x n ks = some ([], n + j)
 | [], n, j, k, _, h, _ => by simp at h
 | a :: ks, n, 0, k, _, h, hk => by
  simp at h
  subst h
  rw [parL, if_pos hk]
  rfl
 | a :: ks, n, j + 1, k, ha, h, hk => by
  have h0 := ha a (by simp)
  rw [parL, if_neg h0.1, h0.2]
  simp only
  rw [parL_hit (j := j) (fun b hb => ha b (by simp [hb])) h hk]
  congr 2
  omega
theorem parL_in {x : Idt} : ∀ {ks : List Ly} {n j : Nat} {k : Ly} {q : List Nat × Nat}, (∀ a ∈ ks.take j, a.id ≠ x ∧ a.parPath x = none) → ks[j]? = some k → k.id ≠ x → k.parPath x = some q → parL x n ks = some ((n + j) :: q.1, q.2)
 | [], n, j, k, q, _, h, _, _ => by simp at h
 | a :: ks, n, 0, k, q, _, h, hi, hk => by
  simp at h
  subst h
  rw [parL, if_neg hi, hk]
  rfl
 | a :: ks, n, j + 1, k, q, ha, h, hi, hk => by
  have h0 := ha a (by simp)
  rw [parL, if_neg h0.1, h0.2]
  simp only
  rw [parL_in (j := j) (fun b hb => ha b (by simp [hb])) h hi hk]
  congr 3
  omega
end Ly
end Go.Gou
namespace Go.Proofs.YtpbmfalokongfaaGreatDoor
open Go.RowKit Go.Gou
set_option maxRecDepth 100000
def ParP (base : Nat) (T : Ly) (x : Idt) (w : World) (b o : Nat) (F : List Nat) (e : Ending) (w' : World) : Prop := Gou.Mod (fun _ => False) w w' ∧
 (T.parPath x = none → e = .returned (.tuple #[.pointer none, iV 0])) ∧
 (∀ p, T.parPath x = some p → ∃ b' o' F' s, e = .returned (.tuple #[.pointer (some ⟨b', o', none⟩), iV ((p.2 : Nat) : Int)]) ∧ ZoomL base w' b o T F p.1 s b' o' F')
theorem ufk (base : Nat) (x : Idt) : ∀ (T : Ly) (w : World) (b o : Nat) (F : List Nat), TreeL base w b o T F →
 Calls Tryz.prog 69 #[.pointer (some ⟨b, o, none⟩), .agg #[iV x.1, iV x.2]] w (ParP base T x w b o F) := by
 intro T
 induction T using Ly.ind with
 | h i lk ks ih =>
  intro w b o F hT
  obtain ⟨p, cap, c30, -, -, hcap, hcap2, hk⟩ := hT.kids
  simp only [Ly.id_mk, Ly.kids_mk] at c30 hk hcap
  have Hk := hd' hk
  have HT := hd' hT
  have Ih := hd' ih
  clear hk hT ih
  have hlt := HT.o.lt
  have c30' := ((Gou.Mod.alloc (fun _ => False) w (.cells #[iV x.1, iV x.2] 30)).cell (p := ⟨b, o + 30, none⟩) hlt (fun h => h)).trans c30
  go_enter Tryz.func69, Tryz.ntmps69
  go_wp2_with fail
  generalize hW : w.alloc (.cells #[iV x.1, iV x.2] 30) = w1 at *
  have Hm2 : Hid (Gou.Mod (fun _ => False) w w1) := hd' (hW ▸ Gou.Mod.alloc _ _ _)
  have hN : Hid (Blk w1 w.heap.size 30 #[iV x.1, iV x.2]) := hd' (hW ▸ heap_alloc_new w _)
  clear hW c30'
  obtain ⟨N, hNN⟩ : ∃ N, N = w.heap.size := ⟨_, rfl⟩
  rw [← hNN] at hN
  rw [← hNN]
  clear hNN
  go_loopw [14] (fun v wr => ∃ j : Nat, v = iV j ∧ j ≤ ks.length ∧ (∀ a ∈ ks.take j, a.id ≠ x ∧ a.parPath x = none) ∧ Gou.Mod (fun _ => False) w wr ∧ Blk wr N 30 #[iV x.1, iV x.2]) (fun v _ => ks.length - (intOf v).toNat)
  case atStart => exact ⟨0, rfl, by omega, by simp, Hm2.o, hN.out⟩
  case round =>
   obtain ⟨j, rfl, hj, hall, hm, hb⟩ := hrel
   have Hall := hd' hall
   have Hm := hd' hm
   have HB := hd' hb
   clear hall hm hb Hm2 hN
   have hlt' := HT.o.lt
   by_cases hil : j < ks.length
   ·have e1 : decide ((j : Int) < (ks.length : Int)) = true := dqt (by omega)
    obtain ⟨g, f, rfl, hT', hgF, hfF, hzoom⟩ := Hk.o j ks[j] (lgE hil)
    have Hz := hd' hzoom
    have HT' := hd' (hT'.up Hm.o)
    obtain ⟨_, _, _, k0, k1, _⟩ := HT'.o.kids
    have c30' := (Hm.o.cell (p := ⟨b, o + 30, none⟩) hlt' (fun h => h)).trans c30
    have x0 := HB.o.cell 0 rfl
    have x1 := HB.o.cell 1 rfl
    clear hT' hzoom hgF hfF
    have Hkj : Hid (ks[j]? = some ks[j]) := hd' (lgE hil)
    have Hstep : Hid (ks[j].id ≠ x → ks[j].parPath x = none → ∀ a ∈ ks.take (j + 1), a.id ≠ x ∧ a.parPath x = none) := hd' (fun h h2 a ha => by
     rw [ltS hil, List.mem_append, List.mem_singleton] at ha
     rcases ha with ha | rfl
     ·exact Hall.o a ha
     ·exact ⟨h, h2⟩)
    have Hik : Hid (∀ w', Gou.Mod (fun _ => False) wr w' → Calls Tryz.prog 69 #[.pointer (some ⟨g, j * 31, none⟩), .agg #[iV x.1, iV x.2]] w' (ParP base ks[j] x w' g (j * 31) f)) :=
     hd' (fun w' hw' => Ih.o ks[j] (lgM hil) w' g (j * 31) f (HT'.o.up hw'))
    have Hjl := hd' hil
    generalize ks[j] = k at *
    have Hid0 := fun (w' : World) => udm k.id x w'
    by_cases hx : k.id = x
    ·have e1 : decide (k.id = x) = true := dqt hx
     rw [e1] at Hid0
     have Hx := hd' hx
     clear hx e1
     go_upto_region 4 with fail
     go_quiet (fail)
     go_wp2_with fail
     have Hmq := hd' (Hm.o.trans' (Gou.Mod.drewN (fun _ => False) wr nq))
     refine bpr (v := .tuple #[.pointer (some ⟨b, o, none⟩), iV ((j : Nat) : Int)]) (by simp [results, Tryz.results69, go_sem]) rfl ?_
     have hpp : Ly.parPath x (.mk i lk ks) = some ([], j) := by
      rw [Ly.parPath, Ly.parL_hit Hall.o Hkj.o Hx.o, Nat.zero_add]
     refine ⟨Hmq.o, fun h => ?_, fun π h => ?_⟩
     ·rw [hpp] at h
      cases h
     ·rw [hpp] at h
      cases h
      exact ⟨b, o, F, _, rfl, Zoom.here (HT.o.up Hmq.o)⟩
    ·have e1 : decide (k.id = x) = false := dqf hx
     rw [e1] at Hid0
     have Hx := hd' hx
     clear hx e1
     cases hp : k.parPath x with
     | none =>
      have Hp := hd' hp
      clear hp
      go_upto_region 4 with fail
      go_quiet (fail)
      have Hmq := hd' (Gou.Mod.drewN (fun _ => False) wr nq)
      have HBq := hd' (HB.o.mod Hmq.o (fun h => h))
      have c30q := (Hmq.o.cell (p := ⟨b, o + 30, none⟩) (wbc _ _ c30') (fun h => h)).trans c30'
      have x0q := HBq.o.cell 0 rfl
      have x1q := HBq.o.cell 1 rfl
      have Hiq := hd' (fun w' (h : Gou.Mod (fun _ => False) (wr.drewN nq) w') => Hik.o w' (Hmq.o.trans' h))
      clear c30' x0 x1 k0 k1 Hid0
      generalize wr.drewN nq = wq at *
      go_upto_region 6 with fail
      go_region_held3 (fun w' => (Gou.Mod (fun _ => False) wq w' ∧ w'.cell? ⟨b, o + 30, none⟩ = some (.slice (some ⟨g, 0, none⟩) ks.length cap) ∧ w'.cell? ⟨N, 0, none⟩ = some (iV x.1) ∧ w'.cell? ⟨N, 1, none⟩ = some (iV x.2)))
          (first | exact ⟨Gou.Mod.drew _ _, c30q, x0q, x1q⟩ | (obtain ⟨g0, g1, g2, g3⟩ := ‹Gou.Mod (fun _ => False) wq _ ∧ _›; exact ⟨g0.trans' hm4.out, (hm4.out.cell (p := ⟨b, o + 30, none⟩) (wbc _ _ g1) (fun h => h)).trans g1, (hm4.out.cell (p := ⟨N, 0, none⟩) (wbc _ _ g2) (fun h => h)).trans g2, (hm4.out.cell (p := ⟨N, 1, none⟩) (wbc _ _ g3) (fun h => h)).trans g3⟩))
          (first | (go_at_call 69; refine (Hiq.o _ (by first | exact (‹Gou.Mod (fun _ => False) wq _ ∧ _›).1 | exact Gou.Mod.drew _ _)).mono ?_; rintro e w4 ⟨hm4', hn4, hs4⟩; obtain rfl := hn4 Hp.o; have hm4 := hd' hm4'; clear hn4 hs4 hm4' ))
      have Hm4 := hd' ((Hm.o.trans' Hmq.o).trans' (‹Gou.Mod (fun _ => False) wq w4 ∧ _›).1)
      have hB4 := hd' (HBq.o.mod (‹Gou.Mod (fun _ => False) wq w4 ∧ _›).1 (fun h => h))
      have hwj : wrap64 ((j : Int) + 1) = ((j + 1 : Nat) : Int) := by have := Hjl.o; unfold maxLen at hcap2; unfold wrap64; omega
      go_wp2_with fail
      go_roundw
      case rel => exact ⟨j + 1, by rw [← hwj], by have := Hjl.o; omega, Hstep.o Hx.o Hp.o, Hm4.o, hB4.out⟩
      case measure => rw [hwj]; have := Hjl.o; simp only [intOf]; omega
     | some q =>
      have Hp := hd' hp
      clear hp
      go_upto_region 4 with fail
      go_quiet (fail)
      have Hmq := hd' (Gou.Mod.drewN (fun _ => False) wr nq)
      have HBq := hd' (HB.o.mod Hmq.o (fun h => h))
      have c30q := (Hmq.o.cell (p := ⟨b, o + 30, none⟩) (wbc _ _ c30') (fun h => h)).trans c30'
      have x0q := HBq.o.cell 0 rfl
      have x1q := HBq.o.cell 1 rfl
      have Hiq := hd' (fun w' (h : Gou.Mod (fun _ => False) (wr.drewN nq) w') => Hik.o w' (Hmq.o.trans' h))
      clear c30' x0 x1 k0 k1 Hid0
      generalize wr.drewN nq = wq at *
      go_upto_region 6 with fail
      go_region_held3 (fun w' => (Gou.Mod (fun _ => False) wq w' ∧ w'.cell? ⟨b, o + 30, none⟩ = some (.slice (some ⟨g, 0, none⟩) ks.length cap) ∧ w'.cell? ⟨N, 0, none⟩ = some (iV x.1) ∧ w'.cell? ⟨N, 1, none⟩ = some (iV x.2)))
          (first | exact ⟨Gou.Mod.drew _ _, c30q, x0q, x1q⟩ | (obtain ⟨g0, g1, g2, g3⟩ := ‹Gou.Mod (fun _ => False) wq _ ∧ _›; exact ⟨g0.trans' hm4.out, (hm4.out.cell (p := ⟨b, o + 30, none⟩) (wbc _ _ g1) (fun h => h)).trans g1, (hm4.out.cell (p := ⟨N, 0, none⟩) (wbc _ _ g2) (fun h => h)).trans g2, (hm4.out.cell (p := ⟨N, 1, none⟩) (wbc _ _ g3) (fun h => h)).trans g3⟩))
          (first | (go_at_call 69; refine (Hiq.o _ (by first | exact (‹Gou.Mod (fun _ => False) wq _ ∧ _›).1 | exact Gou.Mod.drew _ _)).mono ?_; rintro e w4 ⟨hm4', hn4, hs4⟩; obtain ⟨b', o', F', s, rfl, hz4⟩ := hs4 q Hp.o; have Hz4 := hd' hz4; have hm4 := hd' hm4'; clear hn4 hs4 hm4' hz4))
      have Hm4 := hd' ((Hm.o.trans' Hmq.o).trans' (‹Gou.Mod (fun _ => False) wq w4 ∧ _›).1)
      have hB4 := hd' (HBq.o.mod (‹Gou.Mod (fun _ => False) wq w4 ∧ _›).1 (fun h => h))
      have hwj : wrap64 ((j : Int) + 1) = ((j + 1 : Nat) : Int) := by have := Hjl.o; unfold maxLen at hcap2; unfold wrap64; omega
      go_wp2_with fail
      refine bpr (v := .tuple #[.pointer (some ⟨b', o', none⟩), iV ((q.2 : Nat) : Int)]) (by simp [results, Tryz.results69, go_sem]) rfl ?_
      have hpp : Ly.parPath x (.mk i lk ks) = some (j :: q.1, q.2) := by
       rw [Ly.parPath, Ly.parL_in Hall.o Hkj.o Hx.o Hp.o, Nat.zero_add]
      refine ⟨Hm4.o, fun h => ?_, fun π h => ?_⟩
      ·rw [hpp] at h
       cases h
      ·rw [hpp] at h
       cases h
       exact ⟨b', o', F', s, rfl, Hz.o _ Hm4.o _ _ _ _ _ Hz4.o⟩
   ·have hil' : j = ks.length := by omega
    have e1 : decide ((j : Int) < (ks.length : Int)) = false := dqf (by omega)
    go_wp2_with fail
    refine bpr (v := .tuple #[.pointer none, iV 0]) (by simp [results, Tryz.results69, go_sem]) rfl ?_
    rw [hil', List.take_length] at Hall
    have hp : Ly.parPath x (.mk i lk ks) = none := by
     rw [Ly.parPath, Ly.parL_none]
     exact Hall.o
    refine ⟨Hm.o, fun _ => rfl, fun π h => ?_⟩
    rw [hp] at h
    cases h
end Go.Proofs.YtpbmfalokongfaaGreatDoor
