/- Texts of the scenes' proofs, laid together: ScO, ScQ, ScT, ScU, ScV, ScX, ScY. -/
import Derived.Test.YtpbmfalokongfaaZad
import Derived.Deep.Cut
import Derived.Deep.DeepAppendRoom
import Derived.Lib.SliceRun
import Derived.Shelf.Spec.SlicesInsertGrow
set_option linter.unusedSimpArgs false
set_option linter.unusedVariables false
set_option linter.unusedSectionVars false
set_option linter.constructorNameAsVariable false

/- Arenas: the code's Free; heights of trees. -/
namespace Go.Gou
theorem Ly.heightL_take {ks : List Ly} {j : Nat} (h : j < ks.length) : Ly.heightL (ks.take (j + 1)) = max (Ly.heightL (ks.take j)) (1 + ks[j].height) := by
  induction ks generalizing j with
  | nil => simp at h
  | cons k ks ih =>
    cases j with
    | zero => simp [Ly.heightL]
    | succ j =>
      rw [List.take_succ_cons, List.take_succ_cons, Ly.heightL, Ly.heightL, ih (by simpa using h)]
      simp only [List.getElem_cons_succ]
      omega
end Go.Gou
namespace Go.Proofs.Ytpbmfalokongfaa
open Go.RowKit Go.Gou
set_option maxRecDepth 100000
/-- What Free answers. -/
def FreeP (w : World) (b : Ar) (e : Ending) (w' : World) : Prop := Gou.Mod (fun _ => False) w w' ∧ ∃ vg vl q, e = .returned (.tuple #[.agg #[vg, vl], .bool q]) ∧ ArL w.heap.size w' vg vl b

set_option maxHeartbeats 8000000 in
theorem arFree_any (w : World) (vg vl : Value) (a : Ar) (x : Idt) (h : ArR w vg vl a) (hlen : a.gens.length = a.live.length) (hn : a.live.length ≤ 1024) (hg : ∀ g ∈ a.gens, 0 ≤ g ∧ g ≤ 1000000000000) :
    Calls Try.prog 41 #[.agg #[vg, vl], .agg #[.int .i64 x.1, .int .i64 x.2]] w (FreeP w (a.free x)) := by
  obtain ⟨⟨pg, cg, rfl⟩, ⟨pl, cl, rfl⟩⟩ := h.forms
  have Hh := Lib.hid h
  have Hlen := Lib.hid hlen
  have Hn := Lib.hid hn
  have Hg := Lib.hid hg
  clear h hlen hn hg
  obtain ⟨b0, b1, b2, bm⟩ := three_new w 28 30 28 #[.slice pg a.gens.length cg, .slice pl a.live.length cl] #[.int .i64 x.1, .int .i64 x.2] #[.slice none 0 0, .slice none 0 0]
  go_enter Try.func41, Try.ntmps41
  have Hb0 := Lib.hid b0
  have Hb1 := Lib.hid b1
  have Hb2 := Lib.hid b2
  have Hbm := Lib.hid bm
  have c0 := b0.cell 0 rfl
  have c1 := b0.cell 1 rfl
  clear b0 b1 b2 bm
  go_wp2_with fail
  generalize ((w.alloc (.cells #[.slice pg a.gens.length cg, .slice pl a.live.length cl] 28)).alloc (.cells #[.int .i64 x.1, .int .i64 x.2] 30)).alloc (.cells #[.slice none 0 0, .slice none 0 0] 28) = W1 at *
  refine (arCopied_any _ _ _ a (Hh.out.up Hbm.out) (by have := Hlen.out; have := Hn.out; omega) (by have := Hn.out; omega)).mono ?_
  rintro e w2 ⟨vg, vl, rfl, ha, hm2⟩
  obtain ⟨⟨p2, c2, rfl⟩, ⟨q2, d2, rfl⟩⟩ := ha.forms
  have HB5 := Lib.hid (Blk.new w2 28 #[.slice p2 a.gens.length c2, .slice q2 a.live.length d2])
  have HMa := Lib.hid (Gou.Mod.alloc0 w2 (.cells #[.slice p2 a.gens.length c2, .slice q2 a.live.length d2] 28))
  have Ha3 := Lib.hid (ha.up HMa.out)
  have HX0 := Lib.hid ((Hb0.out.up hm2).up HMa.out)
  have HX1 := Lib.hid ((Hb1.out.up hm2).up HMa.out)
  have HR := Lib.hid ((Hb2.out.up hm2).up HMa.out)
  have HM3 := Lib.hid ((Hbm.out.trans' hm2).trans' HMa.out)
  have HRlt := Lib.hid (Blk.lt Hb2.out)
  have HNlt : Hid (W1.heap.size ≤ w2.heap.size) := Lib.hid hm2.size
  clear ha hm2 c0 c1 Hb0 Hb1 Hb2 HMa
  have c0 := HX0.out.cell 0 rfl
  have c1 := HX0.out.cell 1 rfl
  have x0 := HX1.out.cell 0 rfl
  have x1 := HX1.out.cell 1 rfl
  go_wp2_with fail
  generalize w2.alloc (.cells #[.slice p2 a.gens.length c2, .slice q2 a.live.length d2] 28) = W3 at *
  generalize w2.heap.size = N5 at *
  refine (has_any _ pg pl cg cl a x (Hh.out.up HM3.out) Hlen.out).mono ?_
  rintro e w4 ⟨rfl, hm4⟩
  have Ha4 := Lib.hid (Ha3.out.up hm4)
  have HB4 := Lib.hid (HB5.out.up hm4)
  have HX14 := Lib.hid (HX1.out.up hm4)
  have HR4 := Lib.hid (HR.out.up hm4)
  have HM4 := Lib.hid (HM3.out.trans' hm4)
  clear hm4 Ha3 HB5 HX0 HX1 HR HM3 c0 c1 x0 x1
  have x0 : w4.cell? ⟨w.heap.size + 1, 0, none⟩ = some (.int .i64 x.1) := HX14.out.cell 0 rfl
  have c50 : w4.cell? ⟨N5, 0, none⟩ = some (.slice p2 a.gens.length c2) := HB4.out.cell 0 rfl
  have c51 : w4.cell? ⟨N5, 1, none⟩ = some (.slice q2 a.live.length d2) := HB4.out.cell 1 rfl
  have r0 := HR4.out.cell 0 rfl
  have r1 := HR4.out.cell 1 rfl
  have s0 := HR4.out.frozen 0
  have s1 := HR4.out.frozen 1
  have Hfree : Hid (a.free x = a.free x) := Lib.hid rfl
  by_cases hno : a.has x = true ∧ x.1 ≠ 0
  · obtain ⟨i, hi1, hi2, hi3⟩ := Ar.has_iff.1 hno.1
    have e0 : a.has x = true := hno.1
    have e1 : (x.1 == 0) = false := beq_eq_false_iff_ne.2 hno.2
    have hb : a.free x = ⟨a.gens.set i (x.2 + 1), a.live.set i false⟩ := by
      unfold Ar.free
      rw [if_pos hno, hi1, Int.toNat_natCast]
    have Hb := Lib.hid hb
    have Hi3 := Lib.hid hi3
    have Hi2 := Lib.hid hi2
    obtain ⟨u, v⟩ := x
    simp only at hi1 e1 x0 hi3 hno
    subst hi1
    have hilt : i < a.live.length := (List.getElem?_eq_some_iff.1 hi2).1
    have hilg : i < a.gens.length := (List.getElem?_eq_some_iff.1 hi3).1
    have Hv := Lib.hid (Hg.out v (List.mem_of_getElem? hi3))
    rw [e0]
    clear hno e0 hb hi2 hi3
    obtain ⟨gg, rfl, hgg, _⟩ := own1_some Ha4.out.g (by omega)
    obtain ⟨gl, rfl, hgl, _⟩ := own1_some Ha4.out.l (by omega)
    have Hgg := Lib.hid hgg
    have Hgl := Lib.hid hgl
    have hne : gl ≠ gg := fun e => own2_ne Ha4.out.l Ha4.out.g (by decide) gl rfl (by rw [e]; rfl)
    have hNg : N5 ≠ gg := fun e => own_blk_ne Ha4.out.g HB4.out (by decide) (by rw [e]; rfl)
    have hNl : N5 ≠ gl := fun e => own_blk_ne Ha4.out.l HB4.out (by decide) (by rw [e]; rfl)
    have kl : w4.cell? ⟨gl, i, none⟩ = some (.bool (a.live.getD i false)) := own1_cell_b Ha4.out.l hilt
    have kf := (some_set Ha4.out.l hilt).2
    have kg : w4.cell? ⟨gg, i, none⟩ = some (.int .i64 v) := own1_cell Ha4.out.g (by rw [ivs, List.getElem?_map, Hi3.out]; rfl)
    have kgf := (some_set Ha4.out.g hilg).2
    have hw : wrap64 (v + 1) = v + 1 := by have := Hv.out; unfold wrap64; omega
    have hw2 : IntKind.i64.wrap (v + 1) = v + 1 := by rw [IntKind.wrap_i64]; have := Hv.out; omega
    have hxg : w.heap.size + 1 ≠ gl ∧ w.heap.size + 1 ≠ gg ∧ w.heap.size + 1 + 1 ≠ gl ∧ w.heap.size + 1 + 1 ≠ gg := by have := HRlt.out; omega
    obtain ⟨hx1, hx2, hx3, hx4⟩ := hxg
    go_wp2_with fail
    have hq1 := (Gou.Mod.set1 w4 gl i (.bool false)).imp (S' := fun k => k = gl ∨ k = gg) (fun k _ h => .inl h)
    have hq2 := hq1.trans' ((Gou.Mod.set1 (w4.setCell ⟨gl, i, none⟩ (.bool false)) gg i (.int .i64 (v + 1))).imp (S' := fun k => k = gl ∨ k = gg) (fun k _ h => .inr h))
    have hL1 := own_set Ha4.out.l i (.bool false)
    have hG1 := ownsRow_mod Ha4.out.g (Gou.Mod.set1 w4 gl i (.bool false)) (fun k hk e => by simp [Value.ownBlock] at hk; omega)
    have hG2 := own_set hG1 i (.int .i64 (v + 1))
    have hL2 := ownsRow_mod hL1 (Gou.Mod.set1 (w4.setCell ⟨gl, i, none⟩ (.bool false)) gg i (.int .i64 (v + 1))) (fun k hk e => by simp [Value.ownBlock] at hk; omega)
    have hR2 := HR4.out.mod hq2 (by omega)
    have hm := (Gou.Mod.set1 ((w4.setCell ⟨gl, i, none⟩ (.bool false)).setCell ⟨gg, i, none⟩ (.int .i64 (v + 1))) (w.heap.size + 1 + 1) 0 (.slice (some ⟨gg, 0, none⟩) a.gens.length c2)).trans' (Gou.Mod.set1 _ (w.heap.size + 1 + 1) 1 (.slice (some ⟨gl, 0, none⟩) a.live.length d2))
    have hR3 := (hR2.set 0 (.slice (some ⟨gg, 0, none⟩) a.gens.length c2)).set 1 (.slice (some ⟨gl, 0, none⟩) a.live.length d2)
    have hG3 := ownsRow_mod hG2 hm (fun k hk e => by simp [Value.ownBlock] at hk; omega)
    have hL3 := ownsRow_mod hL2 hm (fun k hk e => by simp [Value.ownBlock] at hk; omega)
    have HMf := (HM4.out.trans hq2 (fun k hk h => by have := HRlt.out; have := Hgg.out; have := Hgl.out; omega)).trans hm (fun k hk h => by omega)
    refine bodyPost_ret (results_ct rfl (ResAt.of rfl hR3 Try.underlying28 rfl size_arena)) rfl ?_
    refine ⟨HMf, .slice (some ⟨gg, 0, none⟩) a.gens.length c2, .slice (some ⟨gl, 0, none⟩) a.live.length d2, true, rfl, ?_⟩
    rw [Hb.out]
    refine ⟨?_, ?_⟩
    · have h1 := ownsRow_base hG3 (show w.heap.size ≤ W1.heap.size by have := HRlt.out; omega)
      simp only [List.length_set]
      rw [show ivs (a.gens.set i (v + 1)) = (ivs a.gens).set i (.int .i64 (v + 1)) from by simp [ivs, List.map_set]]
      exact h1
    · have h1 := ownsRow_base hL3 (show w.heap.size ≤ W1.heap.size by have := HRlt.out; omega)
      simp only [List.length_set]
      rw [show bvs (a.live.set i false) = (bvs a.live).set i (.bool false) from by simp [bvs, List.map_set]]
      exact h1
  · have hb : a.free x = a := by
      unfold Ar.free
      rw [if_neg hno]
    have Hb := Lib.hid hb
    clear hb
    have fin : Hid (∀ q : Bool, FreeP w (a.free x) (.returned (.tuple #[.agg #[.slice p2 a.gens.length c2, .slice q2 a.live.length d2], .bool q])) ((w4.setCell ⟨w.heap.size + 1 + 1, 0, none⟩ (.slice p2 a.gens.length c2)).setCell ⟨w.heap.size + 1 + 1, 1, none⟩ (.slice q2 a.live.length d2))) := Lib.hid (fun q => by
      have hm := (Gou.Mod.set1 w4 (w.heap.size + 1 + 1) 0 (.slice p2 a.gens.length c2)).trans' (Gou.Mod.set1 _ (w.heap.size + 1 + 1) 1 (.slice q2 a.live.length d2))
      refine ⟨HM4.out.trans hm (fun k hk e => by omega), _, _, q, rfl, ?_⟩
      rw [Hb.out]
      exact (Ha4.out.mod hm (fun k hk e => by have := own_ge Ha4.out.g k hk; have := HRlt.out; omega) (fun k hk e => by have := own_ge Ha4.out.l k hk; have := HRlt.out; omega)).low (by have := HRlt.out; omega))
    have hR3 := Lib.hid ((HR4.out.set 0 (.slice p2 a.gens.length c2)).set 1 (.slice q2 a.live.length d2))
    cases hh : a.has x with
    | false =>
      clear hno hh
      go_wp2_with fail
      refine bodyPost_ret (results_ct rfl (ResAt.of rfl hR3.out Try.underlying28 rfl size_arena)) rfl ?_
      exact fin.out _
    | true =>
      have e1 : (x.1 == 0) = true := by
        rw [hh] at hno
        simpa using hno
      clear hno hh
      go_wp2_with fail
      refine bodyPost_ret (results_ct rfl (ResAt.of rfl hR3.out Try.underlying28 rfl size_arena)) rfl ?_
      exact fin.out _


end Go.Proofs.Ytpbmfalokongfaa

/- Scenes: heights of trees. -/
namespace Go.Proofs.Ytpbmfalokongfaa
open Go.RowKit Go.Gou
set_option maxRecDepth 100000

set_option maxHeartbeats 8000000 in
theorem height_any : ∀ (T : Ly) (w : World) (vp vf vb vk : Value), LyR (fun _ => True) w (lyA T.id T.look vp vf vb vk).toList T → T.height ≤ 1000 → TFit T →
    Calls Try.prog 42 #[.agg (lyA T.id T.look vp vf vb vk)] w fun e w' => e = .returned (.int .i64 (T.height : Nat)) ∧ Gou.Mod (fun _ => False) w w' := by
  intro T
  induction T using Ly.ind with
  | h i lk ks ih =>
    intro w vp vf vb vk hr hh hft
    obtain ⟨hl, css, hrow, hcl, hk⟩ := hr.parts
    simp only [Ly.id_mk, Ly.look_mk, Ly.kids_mk] at hl hrow hcl hk ⊢
    obtain ⟨pk, ck, rfl⟩ := RowG.slice hrow
    have Hrow := Lib.hid hrow
    have Hcl := Lib.hid hcl
    have Hk := Lib.hid hk
    have Hft := Lib.hid hft
    have Hh := Lib.hid hh
    have Ih := Lib.hid ih
    have hlen := hft.len
    rw [Ly.kids_mk] at hlen
    have Hlen := Lib.hid hlen
    clear hl hrow hcl hk hr hft ih hlen hh
    have HB := Lib.hid (Blk.new w 45 (lyA i lk vp vf vb (.slice pk ks.length ck)))
    have HMa := Lib.hid (Gou.Mod.alloc0 w (.cells (lyA i lk vp vf vb (.slice pk ks.length ck)) 45))
    have c30 : (w.alloc (.cells (lyA i lk vp vf vb (.slice pk ks.length ck)) 45)).cell? ⟨w.heap.size, 30, none⟩ = some (.slice pk ks.length ck) := HB.out.cell 30 rfl
    go_enter Try.func42, Try.ntmps42
    go_wp2_with fail
    generalize w.alloc (.cells (lyA i lk vp vf vb (.slice pk ks.length ck)) 45) = W1 at *
    go_loopw [3, 9] (fun v3 vi wr => ∃ j : Nat, vi = .int .i64 j ∧ j ≤ ks.length ∧ v3 = .int .i64 (Ly.heightL (ks.take j) : Nat) ∧ Gou.Mod (fun _ => False) w wr) (fun _ vi _ => ks.length - (intOf vi).toNat)
    case atStart => exact ⟨0, rfl, Nat.zero_le _, by simp [Ly.heightL], HMa.out⟩
    case round =>
      obtain ⟨j, rfl, hj, rfl, hm⟩ := hrel
      have Hm := Lib.hid hm
      clear hm c30 HB HMa
      by_cases hil : j < ks.length
      · obtain ⟨b, o, kp, kf, kb, kk, rfl, hbl, _, hrg, hkr⟩ := LyR.kidR Hrow.out Hcl.out rfl Hk.out hil
        have Hrg := Lib.hid (range_up hrg Hm.out (fun h => h))
        have Hst : Hid (Ly.heightL (ks.take (j + 1)) = max (Ly.heightL (ks.take j)) (1 + ks[j].height)) := Lib.hid (Ly.heightL_take hil)
        have hkh : 1 + ks[j].height ≤ 1000 := by have := Hh.out; rw [Ly.height] at this; exact (Ly.heightL_le.1 this) _ (List.getElem_mem hil)
        have hk0 : Ly.heightL (ks.take j) ≤ 1000 := by
          have := Hh.out
          rw [Ly.height] at this
          exact Ly.heightL_le.2 (fun k hk => Ly.heightL_le.1 this k (List.mem_of_mem_take hk))
        have Hik : Hid (∀ w', Gou.Mod (fun _ => False) wr w' → Calls Try.prog 42 #[.agg (lyA ks[j].id ks[j].look kp kf kb kk)] w' fun e w'' => e = .returned (.int .i64 (ks[j].height : Nat)) ∧ Gou.Mod (fun _ => False) w' w'') := Lib.hid (fun w' hw' => Ih.out ks[j] (List.getElem_mem hil) w' kp kf kb kk (hkr.up (Hm.out.trans' hw')) (by omega) (Hft.out.kids ks[j] (by rw [Ly.kids_mk]; exact List.getElem_mem hil)))
        have Hkr := Lib.hid (hkr.up Hm.out)
        have Hil := Lib.hid hil
        have Hkh := Lib.hid (And.intro hkh hk0)
        clear hrg hkr hbl hkh hk0
        generalize ks[j] = kd at *
        generalize Ly.heightL (ks.take j) = h0 at *
        go_upto_region 5 with (first | ((with_reducible refine wpList_load_mid ?g1_1 45 ?x1_1 ?o1_1 (b) (o + j * 31) ?h1_1 ((lyA kd.id kd.look kp kf kb kk).toList) ?d1_1 ?c1_1 ?u1_1 ?e1_1 ?i1_1 ?r1_1); (case g1_1 => exact rfl); (case o1_1 => exact rfl); (case h1_1 => exact rfl); (case c1_1 => exact Hrg.out); (case u1_1 => exact Try.underlying45); (case e1_1 => exact rfl); (case i1_1 => exact size_layer)) | ((with_reducible refine wpList_store_mid ?g1_2 45 ?x1_2 ?y1_2 ?o1_2 (wr.heap.size) (0) (lyA kd.id kd.look kp kf kb kk) ?h1_2 ?j1_2 ?t1_2 ?i1_2 ?s1_2 ?r1_2); (case g1_2 => exact rfl); (case o1_2 => exact rfl); (case h1_2 => exact rfl); (case j1_2 => exact rfl); (case t1_2 => exact (Blk.new wr 45 (List.toArray (Value.int .i64 0 :: Value.int .i64 0 :: Value.int .i64 0 :: Value.int .i64 0 :: Value.bool false :: Value.int .i64 0 :: Value.int .i64 0 :: Value.int .i64 0 :: Value.int .i64 0 :: Value.int .i64 0 :: Value.int .i64 0 :: Value.int .i64 0 :: Value.int .i64 0 :: Value.int .i64 0 :: Value.int .i64 0 :: Value.int .i64 0 :: Value.int .u8 0 :: Value.int .u8 0 :: Value.int .u8 0 :: Value.int .u8 0 :: Value.int .i64 0 :: Value.int .i64 0 :: Value.int .i64 0 :: Value.slice none 0 0 :: Value.bool false :: Value.slice none 0 0 :: Value.int .i64 0 :: Value.bool false :: Value.slice none 0 0 :: Value.int .i64 0 :: Value.slice none 0 0 :: []))).there 0 31 (by simp)); (case i1_2 => exact size_layer); (case s1_2 => exact all_one (LyR.one Hkr.out))) | fail)
        have HB5 := Lib.hid ((Blk.new wr 45 (List.toArray (Value.int .i64 0 :: Value.int .i64 0 :: Value.int .i64 0 :: Value.int .i64 0 :: Value.bool false :: Value.int .i64 0 :: Value.int .i64 0 :: Value.int .i64 0 :: Value.int .i64 0 :: Value.int .i64 0 :: Value.int .i64 0 :: Value.int .i64 0 :: Value.int .i64 0 :: Value.int .i64 0 :: Value.int .i64 0 :: Value.int .i64 0 :: Value.int .u8 0 :: Value.int .u8 0 :: Value.int .u8 0 :: Value.int .u8 0 :: Value.int .i64 0 :: Value.int .i64 0 :: Value.int .i64 0 :: Value.slice none 0 0 :: Value.bool false :: Value.slice none 0 0 :: Value.int .i64 0 :: Value.bool false :: Value.slice none 0 0 :: Value.int .i64 0 :: Value.slice none 0 0 :: []))).setAll (lyA kd.id kd.look kp kf kb kk) rfl)
        have HM3 : Hid (Gou.Mod (fun _ => False) wr ((wr.alloc (.cells (List.toArray (Value.int .i64 0 :: Value.int .i64 0 :: Value.int .i64 0 :: Value.int .i64 0 :: Value.bool false :: Value.int .i64 0 :: Value.int .i64 0 :: Value.int .i64 0 :: Value.int .i64 0 :: Value.int .i64 0 :: Value.int .i64 0 :: Value.int .i64 0 :: Value.int .i64 0 :: Value.int .i64 0 :: Value.int .i64 0 :: Value.int .i64 0 :: Value.int .u8 0 :: Value.int .u8 0 :: Value.int .u8 0 :: Value.int .u8 0 :: Value.int .i64 0 :: Value.int .i64 0 :: Value.int .i64 0 :: Value.slice none 0 0 :: Value.bool false :: Value.slice none 0 0 :: Value.int .i64 0 :: Value.bool false :: Value.slice none 0 0 :: Value.int .i64 0 :: Value.slice none 0 0 :: [])) 45)).setCells wr.heap.size 0 (lyA kd.id kd.look kp kf kb kk).toList)) := Lib.hid (Gou.Mod.allocSet _ _ _)
        generalize (wr.alloc (.cells (List.toArray (Value.int .i64 0 :: Value.int .i64 0 :: Value.int .i64 0 :: Value.int .i64 0 :: Value.bool false :: Value.int .i64 0 :: Value.int .i64 0 :: Value.int .i64 0 :: Value.int .i64 0 :: Value.int .i64 0 :: Value.int .i64 0 :: Value.int .i64 0 :: Value.int .i64 0 :: Value.int .i64 0 :: Value.int .i64 0 :: Value.int .i64 0 :: Value.int .u8 0 :: Value.int .u8 0 :: Value.int .u8 0 :: Value.int .u8 0 :: Value.int .i64 0 :: Value.int .i64 0 :: Value.int .i64 0 :: Value.slice none 0 0 :: Value.bool false :: Value.slice none 0 0 :: Value.int .i64 0 :: Value.bool false :: Value.slice none 0 0 :: Value.int .i64 0 :: Value.slice none 0 0 :: [])) 45)).setCells wr.heap.size 0 (lyA kd.id kd.look kp kf kb kk).toList = W3 at *
        have HB5w := Lib.hid HB5.out.whole
        have e9 : IntKind.i64.wrap (1 + ((kd.height : Nat) : Int)) = ((1 + kd.height : Nat) : Int) := by rw [IntKind.wrap_i64]; have := Hkh.out; omega
        go_wp2_with (first | ((with_reducible refine wpList_load_mid ?g1_3 45 ?x1_3 ?o1_3 (wr.heap.size) (0) ?h1_3 ((lyA kd.id kd.look kp kf kb kk).toList) ?d1_3 ?c1_3 ?u1_3 ?e1_3 ?i1_3 ?r1_3); (case g1_3 => exact rfl); (case o1_3 => exact rfl); (case h1_3 => exact rfl); (case c1_3 => exact HB5w.out); (case u1_3 => exact Try.underlying45); (case e1_3 => exact rfl); (case i1_3 => exact size_layer)) | fail)
        refine (Hik.out _ HM3.out).mono ?_
        rintro e w4 ⟨rfl, hm4⟩
        have HM4 := Lib.hid ((Hm.out.trans' HM3.out).trans' hm4)
        clear hm4 HB5w HB5 HM3
        have hwi : wrap64 ((j : Int) + 1) = ((j + 1 : Nat) : Int) := by have := Hil.out; have := Hlen.out; unfold wrap64; omega
        go_wp2_with fail
        go_roundw
        case rel => exact ⟨j + 1, by rw [← hwi], by have := Hil.out; omega, by rw [Hst.out]; congr 1; omega, HM4.out⟩
        case measure => rw [hwi]; have := Hil.out; simp only [intOf]; omega
      · have hil' : j = ks.length := by omega
        subst hil'
        rw [List.take_length] at *
        go_wp2_with fail
        go_ret
        exact ⟨by rw [Ly.height]; rfl, Hm.out⟩

end Go.Proofs.Ytpbmfalokongfaa

/- Scenes: slices.Delete and slices.Insert at layers. -/
namespace Go.Gou
open Go.RowKit

/-- 'copy' at elements of k cells. -/
theorem run_copy_k {P : Program} (w : World) (dT sT ty elem : TypeId) (k b o dLen dCap : Nat) (a : Addr) (sLen sCap : Nat) (cs : List Value)
    (hu : P.underlying dT = some (.slice elem)) (hs : (P.info? elem).map (·.size) = some k) (hn : cs.length = Nat.min sLen dLen * k)
    (hsrc : ∀ j v, cs[j]? = some v → w.cell? (a.add j) = some v) (hc : ∀ j, j < cs.length → (w.cell? ⟨b, o + j, none⟩).isSome = true) (hf : ∀ j, j < cs.length → w.frozen? ⟨b, o + j, none⟩ = false) (h1 : ∀ v ∈ cs, v.oneCell' = true) :
    (Builtin.copy_ #[dT, sT] ty #[.slice (some ⟨b, o, none⟩) dLen dCap, .slice (some a) sLen sCap]).run P w = .ok (goInt (Nat.min sLen dLen)) (w.setCells b o cs) := by
  have hl := run_loadCells_list (P := P) w a cs hsrc
  have hst := run_storeCells_cells (P := P) b o cs 0 w (by simpa using hc) (by simpa using hf) h1
  cases hq : P.info? elem with
  | none => simp [hq] at hs
  | some i =>
    have hi : i.size = k := by simpa [hq] using hs
    simp [Builtin.copy_, run_underlying hu, Builtin.lenOf, Builtin.firstCells, sizeOf, typeInfo, hq, hi, ← hn, hl, hst]

/-- 'clear' of a row of elements of k cells. -/
theorem run_clear_k {P : Program} (w : World) (t e ty : TypeId) (z : Value) (ht : P.underlying t = some (.slice e)) (hv : (zeroValue e).run P w = .ok z w) (b o n c : Nat) (hn : 0 < n)
    (hc : ∀ j, j < n * z.cells.size → (w.cell? ⟨b, o + j, none⟩).isSome = true) (hf : ∀ j, j < n * z.cells.size → w.frozen? ⟨b, o + j, none⟩ = false) (h1 : ∀ v ∈ Builtin.zeroCells z.cells n, v.oneCell' = true) :
    (Builtin.clear_ #[t] ty #[.slice (some ⟨b, o, none⟩) n c]).run P w = .ok (.tuple #[]) (w.setCells b o (Builtin.zeroCells z.cells n).toList) := by
  have hl : (Builtin.zeroCells z.cells n).toList.length = n * z.cells.size := by simp [Builtin.zeroCells]
  have hst := run_storeCells_cells (P := P) b o (Builtin.zeroCells z.cells n).toList 0 w (by simpa [hl] using hc) (by simpa [hl] using hf) (by intro v hv'; exact h1 v (by simpa using hv'))
  simp only [Nat.add_zero] at hst
  obtain ⟨m, rfl⟩ : ∃ m, n = m + 1 := ⟨n - 1, by omega⟩
  simp [Builtin.clear_, run_underlying ht, hv, hst]

/-- 'clear', in a plain region. -/
theorem wpList_clear_k {P : Program} {t e : TypeId} {k bytes : Nat} {z : Value} (T : RowT P t e k bytes z) (hz : ∀ w, (zeroValue e).run P w = .ok z w) {ops : Array Oper} {rest : List Oper} {o : Oper} {a : Act} {w : World} {Q : Exit → Act → World → Prop} (hgd : o.guard = none) (x : Operand) (hop : o.op = .call { callee := .builtin .clear, args := #[x], argTypes := #[t] })
    (b f n c : Nat) (hx : a.eval x = .slice (some ⟨b, f, none⟩) n c) (hn : 0 < n) (hc : w.there b f (n * k)) (h1 : ∀ v ∈ Builtin.zeroCells z.cells n, v.oneCell' = true)
    (h : wpList P ops Q rest (a.put o.dst (.tuple #[])) (w.setCells b f (Builtin.zeroCells z.cells n).toList)) : wpList P ops Q (o :: rest) a w := by
  have hr := run_clear_k w t e o.type z T.und (hz w) b f n c hn (fun j hj => (hc j (by rw [← T.zc]; exact hj)).1) (fun j hj => (hc j (by rw [← T.zc]; exact hj)).2) h1
  refine wpList_plain hgd fun K hK => ?_
  unfold Oper.wp execOp
  simp only [hop, resolve, invoke, builtin, Sem.run_bind, Sem.run_pure, Result.andThen_ok, List.map_toArray, List.map_cons, List.map_nil, hx, hr]
  exact hK _ _ h

/-- 'copy', at one operation. -/
theorem wp_copy_k {P : Program} {t e : TypeId} {k bytes : Nat} {z : Value} (T : RowT P t e k bytes z) {o : Oper} {a : Act} {w : World} {K : Act → World → Prop} {Q : Exit → Act → World → Prop} (d x : Operand) (hop : o.op = .call { callee := .builtin .copy, args := #[d, x], argTypes := #[t, t] })
    (b f dLen dCap : Nat) (ad : Addr) (sLen sCap : Nat) (cs : List Value) (hd : a.eval d = .slice (some ⟨b, f, none⟩) dLen dCap) (hx : a.eval x = .slice (some ad) sLen sCap) (hn : cs.length = Nat.min sLen dLen * k)
    (hsrc : ∀ j v, cs[j]? = some v → w.cell? (ad.add j) = some v) (hc : w.there b f cs.length) (h1 : ∀ v ∈ cs, v.oneCell' = true)
    (h : K (a.put o.dst (goInt (Nat.min sLen dLen))) (w.setCells b f cs)) : o.wp P a w K Q := by
  have hr := run_copy_k (P := P) w t t o.type e k b f dLen dCap ad sLen sCap cs T.und (by have := T.info; cases hq : P.info? e with | none => simp [hq] at this | some i => simp [hq] at this ⊢; exact this.2.1) hn hsrc (fun j hj => (hc j hj).1) (fun j hj => (hc j hj).2) h1
  unfold Oper.wp execOp
  simp only [hop, resolve, invoke, builtin, Sem.run_bind, Sem.run_pure, Result.andThen_ok, List.map_toArray, List.map_cons, List.map_nil, hd, hx, hr]
  exact h

theorem wpList_copy_k {P : Program} {t e : TypeId} {k bytes : Nat} {z : Value} (T : RowT P t e k bytes z) {ops : Array Oper} {rest : List Oper} {o : Oper} {a : Act} {w : World} {Q : Exit → Act → World → Prop} (hgd : o.guard = none) (d x : Operand) (hop : o.op = .call { callee := .builtin .copy, args := #[d, x], argTypes := #[t, t] })
    (b f dLen dCap : Nat) (ad : Addr) (sLen sCap : Nat) (cs : List Value) (hd : a.eval d = .slice (some ⟨b, f, none⟩) dLen dCap) (hx : a.eval x = .slice (some ad) sLen sCap) (hn : cs.length = Nat.min sLen dLen * k)
    (hsrc : ∀ j v, cs[j]? = some v → w.cell? (ad.add j) = some v) (hc : w.there b f cs.length) (h1 : ∀ v ∈ cs, v.oneCell' = true)
    (h : wpList P ops Q rest (a.put o.dst (goInt (Nat.min sLen dLen))) (w.setCells b f cs)) : wpList P ops Q (o :: rest) a w :=
  wpList_plain hgd fun _ hK => wp_copy_k T d x hop b f dLen dCap ad sLen sCap cs hd hx hn hsrc hc h1 (hK _ _ h)

theorem zeroCells_one {z : Array Value} (n : Nat) (h : z.all (·.oneCell') = true) (h0 : 0 < z.size) : ∀ v ∈ Builtin.zeroCells z n, v.oneCell' = true := by
  intro v hv
  simp only [Builtin.zeroCells, Array.mem_map, Array.mem_range] at hv
  obtain ⟨i, _, rfl⟩ := hv
  have hi : i % z.size < z.size := Nat.mod_lt _ h0
  rw [getElem!_pos z _ hi]
  exact Array.all_eq_true.1 h _ hi

theorem own_take {w : World} {B : Nat} {e : TypeId} {k g n cap : Nat} {cs : List Value} (h : w.ownsRow B e k (.slice (some ⟨g, 0, none⟩) n cap) n cs) {i : Nat} (hi : i ≤ n) :
    w.ownsRow B e k (.slice (some ⟨g, 0, none⟩) i cap) i (cs.take (i * k)) := by
  have hik : i * k ≤ n * k := Nat.mul_le_mul_right _ hi
  have hl := h.1
  refine ⟨by rw [List.length_take]; omega, ?_⟩
  rcases h.2 with ⟨h0, _⟩ | ⟨g', cap', cur, hv, hbg, hg, hnc, hcm, hcs, htake⟩
  · cases h0
  · cases hv
    exact .inr ⟨g, cap, cur, rfl, hbg, hg, by omega, hcm, hcs, by rw [← htake, List.take_take, Nat.min_eq_left hik]⟩

theorem own_tail {w : World} {B : Nat} {e : TypeId} {k g n cap : Nat} {cs : List Value} (h : w.ownsRow B e k (.slice (some ⟨g, 0, none⟩) n cap) n cs) (vs : List Value) (o : Nat) (ho : n * k ≤ o) :
    (w.setCells g o vs).ownsRow B e k (.slice (some ⟨g, 0, none⟩) n cap) n cs := by
  induction vs generalizing w o with
  | nil => exact h
  | cons v r ih =>
    have h2 := own_set h o v
    have e : cs.set o v = cs := List.set_eq_of_length_le (by rw [h.1]; exact ho)
    rw [e] at h2
    exact ih h2 (o + 1) (by omega)

theorem own_cells {w : World} {B : Nat} {e : TypeId} {k g n cap : Nat} {cs : List Value} (h : w.ownsRow B e k (.slice (some ⟨g, 0, none⟩) n cap) n cs) :
    ∃ cur, Blk w g e cur ∧ n ≤ cap ∧ cap ≤ maxLen ∧ cur.size = cap * k ∧ cur.toList.take (n * k) = cs := by
  rcases h.2 with ⟨h0, _⟩ | ⟨g', cap', cur, hv, hbg, hg, hnc, hcm, hcs, htake⟩
  · cases h0
  · cases hv
    exact ⟨cur, hg, hnc, hcm, hcs, htake⟩

theorem own_cell {w : World} {B : Nat} {e : TypeId} {k g n cap : Nat} {cs : List Value} (h : w.ownsRow B e k (.slice (some ⟨g, 0, none⟩) n cap) n cs) {j : Nat} {u : Value} (hj : cs[j]? = some u) : w.cell? ⟨g, j, none⟩ = some u := by
  obtain ⟨cur, hb, _, _, hs, ht⟩ := own_cells h
  refine hb.cell j ?_
  rw [← ht, List.getElem?_take] at hj
  split at hj
  · rw [← Array.getElem?_toList]; exact hj
  · cases hj

theorem own_there {w : World} {B : Nat} {e : TypeId} {k g n cap : Nat} {cs : List Value} (h : w.ownsRow B e k (.slice (some ⟨g, 0, none⟩) n cap) n cs) (o m : Nat) (hm : o + m ≤ cap * k) : w.there g o m := by
  obtain ⟨cur, hb, _, _, hs, ht⟩ := own_cells h
  exact hb.there o m (by omega)

/-- The elements ahead of and behind element i. -/
theorem flat_erase {css : List (List Value)} (h : ∀ c ∈ css, c.length = 31) {i : Nat} (hi : i < css.length) : (css.eraseIdx i).flatten = css.flatten.take (i * 31) ++ css.flatten.drop ((i + 1) * 31) := by
  induction css generalizing i with
  | nil => simp at hi
  | cons c css ih =>
    have hc : c.length = 31 := h c (by simp)
    cases i with
    | zero => simp [← hc]
    | succ i =>
      have := ih (fun c hc => h c (by simp [hc])) (i := i) (by simpa using hi)
      rw [List.eraseIdx_cons_succ, List.flatten_cons, this, List.flatten_cons]
      have e1 : (c ++ css.flatten).take ((i + 1) * 31) = c ++ css.flatten.take (i * 31) := by
        rw [List.take_append, List.take_of_length_le (l := c) (by omega), hc]
        congr 2; omega
      have e2 : (c ++ css.flatten).drop ((i + 1 + 1) * 31) = css.flatten.drop ((i + 1) * 31) := by
        rw [List.drop_append, List.drop_of_length_le (l := c) (by omega), hc, List.nil_append]
        congr 1; omega
      rw [e1, e2, List.append_assoc]

theorem own_of_blk {w : World} {B : Nat} {e : TypeId} {k g n cap : Nat} {cur : Array Value} {cs : List Value} (h : Blk w g e cur) (hB : B ≤ g) (hn : n ≤ cap) (hm : cap ≤ maxLen) (hs : cur.size = cap * k) (ht : cur.toList.take (n * k) = cs) :
    w.ownsRow B e k (.slice (some ⟨g, 0, none⟩) n cap) n cs := by
  have hle : n * k ≤ cap * k := Nat.mul_le_mul_right _ hn
  exact ⟨by rw [← ht, List.length_take, Array.length_toList]; omega, .inr ⟨g, cap, cur, rfl, hB, h, hn, hm, hs, ht⟩⟩

theorem setMany_list (vs : List Value) : ∀ (cs : Array Value) (o : Nat), o + vs.length ≤ cs.size → (setMany cs o vs).toList = cs.toList.take o ++ vs ++ cs.toList.drop (o + vs.length) := by
  induction vs with
  | nil => intro cs o h; simp [setMany]
  | cons v r ih =>
    intro cs o h
    rw [List.length_cons] at h
    rw [setMany, ih _ _ (by simp; omega), Array.toList_setIfInBounds]
    have e1 : (cs.toList.set o v).take (o + 1) = cs.toList.take o ++ [v] := by
      rw [List.take_add_one, List.take_set_of_le (Nat.le_refl o), List.getElem?_set_self (by rw [Array.length_toList]; omega)]
      rfl
    rw [e1, List.drop_set_of_lt (by omega), List.length_cons]
    simp [Nat.add_assoc, Nat.add_comm 1]

theorem setMany_size (vs : List Value) : ∀ (cs : Array Value) (o : Nat), (setMany cs o vs).size = cs.size := by
  induction vs with
  | nil => intro cs o; rfl
  | cons v r ih => intro cs o; rw [setMany, ih]; simp

/-- Room first, then the new element. -/
theorem ins_shift {cur : Array Value} {cs c : List Value} {n i : Nat} (hs : (n + 1) * 31 ≤ cur.size) (ht : cur.toList.take (n * 31) = cs) (hi : i ≤ n) (hc : c.length = 31) :
    (setMany (setMany cur ((i + 1) * 31) (cs.drop (i * 31))) (i * 31) c).toList.take ((n + 1) * 31) = cs.take (i * 31) ++ c ++ cs.drop (i * 31) := by
  have hl : cs.length = n * 31 := by rw [← ht, List.length_take, Array.length_toList]; omega
  have hd : (cs.drop (i * 31)).length = n * 31 - i * 31 := by rw [List.length_drop, hl]
  have h1 := setMany_list (cs.drop (i * 31)) cur ((i + 1) * 31) (by omega)
  have h2 := setMany_list c (setMany cur ((i + 1) * 31) (cs.drop (i * 31))) (i * 31) (by rw [setMany_size]; omega)
  rw [h2, h1]
  have hta : (cur.toList.take ((i + 1) * 31)).length = (i + 1) * 31 := by rw [List.length_take, Array.length_toList]; omega
  have e1 : (cur.toList.take ((i + 1) * 31) ++ cs.drop (i * 31) ++ cur.toList.drop ((i + 1) * 31 + (cs.drop (i * 31)).length)).take (i * 31) = cs.take (i * 31) := by
    rw [List.append_assoc, List.take_append_of_le_length (by omega), List.take_take, ← ht, List.take_take]
    congr 1; omega
  have e2 : (cur.toList.take ((i + 1) * 31) ++ cs.drop (i * 31) ++ cur.toList.drop ((i + 1) * 31 + (cs.drop (i * 31)).length)).drop (i * 31 + c.length) = cs.drop (i * 31) ++ cur.toList.drop ((i + 1) * 31 + (cs.drop (i * 31)).length) := by
    rw [List.append_assoc, List.drop_append, List.drop_of_length_le (by omega), List.nil_append, hta, show i * 31 + c.length - (i + 1) * 31 = 0 by omega, List.drop_zero]
  rw [e1, e2, ← List.append_assoc]
  have ht' : (cs.take (i * 31)).length = i * 31 := by rw [List.length_take]; omega
  rw [List.take_append_of_le_length (by simp only [List.length_append]; omega), List.take_of_length_le (by simp only [List.length_append]; omega)]

/-- The new element first, then what stood behind. -/
theorem ins_grow {cur : Array Value} {cs c : List Value} {n i : Nat} (hs : (n + 1) * 31 ≤ cur.size) (hl : cs.length = n * 31) (ht : cur.toList.take (i * 31) = cs.take (i * 31)) (hi : i ≤ n) (hc : c.length = 31) :
    (setMany (setMany cur (i * 31) c) ((i + 1) * 31) (cs.drop (i * 31))).toList.take ((n + 1) * 31) = cs.take (i * 31) ++ c ++ cs.drop (i * 31) := by
  have hd : (cs.drop (i * 31)).length = n * 31 - i * 31 := by rw [List.length_drop, hl]
  have h1 := setMany_list c cur (i * 31) (by omega)
  have h2 := setMany_list (cs.drop (i * 31)) (setMany cur (i * 31) c) ((i + 1) * 31) (by rw [setMany_size]; omega)
  rw [h2, h1, ht]
  have ht' : (cs.take (i * 31)).length = i * 31 := by rw [List.length_take]; omega
  have e1 : (cs.take (i * 31) ++ c ++ cur.toList.drop (i * 31 + c.length)).take ((i + 1) * 31) = cs.take (i * 31) ++ c := by
    rw [List.take_append_of_le_length (by simp only [List.length_append]; omega), List.take_of_length_le (by simp only [List.length_append]; omega)]
  rw [e1, List.take_append_of_le_length (by simp only [List.length_append]; omega), List.take_of_length_le (by simp only [List.length_append]; omega)]

end Go.Gou

/- Scenes: slices.Delete at layers. -/
namespace Go.Proofs.Ytpbmfalokongfaa
open Go.RowKit Go.Gou
set_option maxRecDepth 100000

theorem sl_to (w : World) (g n cap i : Nat) (hi : i ≤ cap) : (Instr.sliceAt 43 (.slice (some ⟨g, 0, none⟩) n cap) none (some (.int .i64 i)) none).run Try.prog w = .ok (.slice (some ⟨g, 0, none⟩) i cap) w := by
  rw [run_sliceAt_slice _ _ _ _ _ _ (by kernel_rfl), run_slice_h _ _ _ _ _ (by kernel_rfl) _ _ (by omega) (by omega)]
  simp only [show (sizeOf (Try.prog.elem 43)).run Try.prog w = .ok 31 w by kernel_rfl, Result.andThen_ok, sliced, Int.toNat_natCast, Nat.sub_zero]
  congr 2
  split <;> simp [Addr.add]

def at31 (cap i : Nat) : Nat := if cap = i then 0 else i * 31

theorem add31 (g i : Nat) : (⟨g, 0, none⟩ : Addr).add (i * 31) = ⟨g, i * 31, none⟩ := by
  rw [Addr.add_mid, Nat.zero_add]

theorem sl_mid (w : World) (g n cap i j : Nat) (hi : i ≤ j) (hj : j ≤ cap) : (Instr.sliceAt 43 (.slice (some ⟨g, 0, none⟩) n cap) (some (.int .i64 i)) (some (.int .i64 j)) none).run Try.prog w = .ok (.slice (some ⟨g, at31 cap i, none⟩) (j - i) (cap - i)) w := by
  rw [run_sliceAt_slice _ _ _ _ _ _ (by kernel_rfl), run_slice_lh _ _ _ _ _ (by kernel_rfl) _ _ _ _ (by omega) (by omega) (by omega)]
  simp only [show (sizeOf (Try.prog.elem 43)).run Try.prog w = .ok 31 w by kernel_rfl, Result.andThen_ok, sliced, Int.toNat_natCast, at31, Option.map_some, add31]
  congr 2
  split <;> rfl

theorem sl_from (w : World) (g n cap i : Nat) (hi : i ≤ n) (hn : n ≤ cap) : (Instr.sliceAt 43 (.slice (some ⟨g, 0, none⟩) n cap) (some (.int .i64 i)) none none).run Try.prog w = .ok (.slice (some ⟨g, at31 cap i, none⟩) (n - i) (cap - i)) w := by
  rw [run_sliceAt_slice _ _ _ _ _ _ (by kernel_rfl), run_slice_l _ _ _ _ _ (by kernel_rfl) _ _ (by omega) (by omega)]
  simp only [show (sizeOf (Try.prog.elem 43)).run Try.prog w = .ok 31 w by kernel_rfl, Result.andThen_ok, sliced, Int.toNat_natCast, at31, Option.map_some, add31]
  congr 2
  split <;> rfl

theorem drop_len {cs : List Value} {n i : Nat} (h : cs.length = n * 31) : (cs.drop ((i + 1) * 31)).length = (n - (i + 1)) * 31 := by
  rw [List.length_drop, h, Nat.sub_mul]

theorem at_cell {w : World} {B : Nat} {e : TypeId} {g n cap i j : Nat} {cs : List Value} {u : Value} (h : w.ownsRow B e 31 (.slice (some ⟨g, 0, none⟩) n cap) n cs) (hn : n ≤ cap) (hi : i < n) (hj : (cs.drop ((i + 1) * 31))[j]? = some u) : w.cell? ((⟨g, at31 cap (i + 1), none⟩ : Addr).add j) = some u := by
  rw [List.getElem?_drop] at hj
  have hl := (List.getElem?_eq_some_iff.1 hj).1
  have h0 := h.1
  have hc : cap ≠ i + 1 := by
    rintro rfl
    omega
  rw [Addr.add_mid, at31, if_neg hc]
  exact own_cell h hj

theorem zero_ly (w : World) : (zeroValue 45).run Try.prog w = .ok (.agg (List.toArray (Value.int .i64 0 :: Value.int .i64 0 :: Value.int .i64 0 :: Value.int .i64 0 :: Value.bool false :: Value.int .i64 0 :: Value.int .i64 0 :: Value.int .i64 0 :: Value.int .i64 0 :: Value.int .i64 0 :: Value.int .i64 0 :: Value.int .i64 0 :: Value.int .i64 0 :: Value.int .i64 0 :: Value.int .i64 0 :: Value.int .i64 0 :: Value.int .u8 0 :: Value.int .u8 0 :: Value.int .u8 0 :: Value.int .u8 0 :: Value.int .i64 0 :: Value.int .i64 0 :: Value.int .i64 0 :: Value.slice none 0 0 :: Value.bool false :: Value.slice none 0 0 :: Value.int .i64 0 :: Value.bool false :: Value.slice none 0 0 :: Value.int .i64 0 :: Value.slice none 0 0 :: []))) w := by kernel_rfl
theorem zero_one : ∀ v ∈ Builtin.zeroCells (Value.agg (List.toArray (Value.int .i64 0 :: Value.int .i64 0 :: Value.int .i64 0 :: Value.int .i64 0 :: Value.bool false :: Value.int .i64 0 :: Value.int .i64 0 :: Value.int .i64 0 :: Value.int .i64 0 :: Value.int .i64 0 :: Value.int .i64 0 :: Value.int .i64 0 :: Value.int .i64 0 :: Value.int .i64 0 :: Value.int .i64 0 :: Value.int .i64 0 :: Value.int .u8 0 :: Value.int .u8 0 :: Value.int .u8 0 :: Value.int .u8 0 :: Value.int .i64 0 :: Value.int .i64 0 :: Value.int .i64 0 :: Value.slice none 0 0 :: Value.bool false :: Value.slice none 0 0 :: Value.int .i64 0 :: Value.bool false :: Value.slice none 0 0 :: Value.int .i64 0 :: Value.slice none 0 0 :: []))).cells 1, v.oneCell' = true := zeroCells_one 1 (by kernel_rfl) (by decide)

set_option maxHeartbeats 8000000 in
theorem delete_any (w : World) (B g n cap i : Nat) (cs : List Value) (h : w.ownsRow B 45 31 (.slice (some ⟨g, 0, none⟩) n cap) n cs) (h1 : ∀ d ∈ cs, d.oneCell' = true) (hi : i < n) :
    Calls Try.prog 54 #[.slice (some ⟨g, 0, none⟩) n cap, .int .i64 i, .int .i64 (i + 1)] w fun e w' =>
      e = .returned (.slice (some ⟨g, 0, none⟩) (n - 1) cap) ∧ w'.ownsRow B 45 31 (.slice (some ⟨g, 0, none⟩) (n - 1) cap) (n - 1) (cs.take (i * 31) ++ cs.drop ((i + 1) * 31)) ∧ Gou.Mod (fun k => k = g) w w' := by
  obtain ⟨cur, hb, hnc, hcm, hcs, htk⟩ := own_cells h
  have Ho := Lib.hid h
  have H1 := Lib.hid h1
  have hcm' : cap ≤ 9223372036854775807 := by unfold maxLen at hcm; omega
  have e1 : ((i : Int) == (i : Int) + 1) = false := beq_eq_false_iff_ne.2 (by omega)
  have Hi := Lib.hid hi
  have Hn := Lib.hid hnc
  have q1 : ∀ (w : World), (Instr.sliceAt 43 (.slice (some ⟨g, 0, none⟩) n cap) none (some (.int .i64 i)) none).run Try.prog w = .ok (.slice (some ⟨g, 0, none⟩) i cap) w := fun w => sl_to w g n cap i (by omega)
  have q2 : ∀ (w : World), (Instr.sliceAt 43 (.slice (some ⟨g, 0, none⟩) n cap) (some (.int .i64 (i + 1))) none none).run Try.prog w = .ok (.slice (some ⟨g, at31 cap (i + 1), none⟩) (n - (i + 1)) (cap - (i + 1))) w := fun w => sl_from w g n cap (i + 1) hi hnc
  have q0 : 0 ≤ (i : Int) := by omega
  have q3 : (i : Int) ≤ (i : Int) + 1 := by omega
  have q4 : (i : Int) + 1 ≤ (n : Int) := by omega
  have q5 : (n : Int) ≤ cap := by omega
  have q6 : (i : Int) ≤ cap := by omega
  clear h h1 hb hcs htk hcm
  go_enter Try.func54, Try.ntmps54
  go_upto_region 6 with fail
  refine wp_region_held_drew (S := fun w' => Gou.Mod (fun k => k = g) w w') (by kernel_rfl) (Gou.Mod.drew _ _) (fun hHeld => ?_)
  refine wpAnyH_take (i := 0) (oi := ({ dst := some 20, op := Op.move (Operand.tmp 0), type := 43, pos := "slices.go:232", after := #[], guard := none } : Oper)) (v := .slice (some ⟨g, 0, none⟩) n cap) rfl (by kernel_rfl) (by kernel_rfl) (by kernel_rfl) (fun _ _ _ h => h) (Or.inl ⟨by rfl, ?_⟩) hHeld ?_
  · (intro w' hSw; (try dsimp only at hSw); clear hSw hHeld; go_simp; (try with_reducible rfl))
  try simp only [Act.put, List.setIfInBounds_toArray, List.set_cons_zero, List.set_cons_succ]
  refine wpAnyH_take (i := 1) (oi := ({ dst := some 21, op := Op.move (Operand.tmp 1), type := 3, pos := "slices.go:232", after := #[], guard := none } : Oper)) (v := .int .i64 i) rfl (by kernel_rfl) (by kernel_rfl) (by kernel_rfl) (fun _ _ _ h => h) (Or.inl ⟨by rfl, ?_⟩) hHeld ?_
  · (intro w' hSw; (try dsimp only at hSw); clear hSw hHeld; go_simp; (try with_reducible rfl))
  try simp only [Act.put, List.setIfInBounds_toArray, List.set_cons_zero, List.set_cons_succ]
  refine wpAnyH_take (i := 3) (oi := ({ dst := some 23, op := Op.move (Operand.tmp 0), type := 43, pos := "slices.go:232", after := #[], guard := none } : Oper)) (v := .slice (some ⟨g, 0, none⟩) n cap) rfl (by kernel_rfl) (by kernel_rfl) (by kernel_rfl) (fun _ _ _ h => h) (Or.inl ⟨by rfl, ?_⟩) hHeld ?_
  · (intro w' hSw; (try dsimp only at hSw); clear hSw hHeld; go_simp; (try with_reducible rfl))
  try simp only [Act.put, List.setIfInBounds_toArray, List.set_cons_zero, List.set_cons_succ]
  refine wpAnyH_take (i := 4) (oi := ({ dst := some 24, op := Op.move (Operand.tmp 2), type := 3, pos := "slices.go:232", after := #[], guard := none } : Oper)) (v := .int .i64 (i + 1)) rfl (by kernel_rfl) (by kernel_rfl) (by kernel_rfl) (fun _ _ _ h => h) (Or.inl ⟨by rfl, ?_⟩) hHeld ?_
  · (intro w' hSw; (try dsimp only at hSw); clear hSw hHeld; go_simp; (try with_reducible rfl))
  try simp only [Act.put, List.setIfInBounds_toArray, List.set_cons_zero, List.set_cons_succ]
  refine wpAnyH_take (i := 2) (oi := ({ dst := some 22, op := Op.slice 43 (Operand.tmp 20) none (some (Operand.tmp 21)) none, type := 43, pos := "slices.go:232", after := #[{ on := 0, ground := Ground.data }, { on := 1, ground := Ground.data }], guard := none } : Oper)) (v := .slice (some ⟨g, 0, none⟩) i cap) rfl (by kernel_rfl) (by kernel_rfl) (by kernel_rfl) (fun _ _ _ h => h) (Or.inl ⟨by rfl, ?_⟩) hHeld ?_
  · (intro w' hSw; (try dsimp only at hSw); clear hSw hHeld; go_simp; (try with_reducible rfl))
  try simp only [Act.put, List.setIfInBounds_toArray, List.set_cons_zero, List.set_cons_succ]
  refine wpAnyH_take (i := 5) (oi := ({ dst := some 25, op := Op.slice 43 (Operand.tmp 23) (some (Operand.tmp 24)) none none, type := 43, pos := "slices.go:232", after := #[{ on := 3, ground := Ground.data }, { on := 4, ground := Ground.data }], guard := none } : Oper)) (v := .slice (some ⟨g, at31 cap (i + 1), none⟩) (n - (i + 1)) (cap - (i + 1))) rfl (by kernel_rfl) (by kernel_rfl) (by kernel_rfl) (fun _ _ _ h => h) (Or.inl ⟨by rfl, ?_⟩) hHeld ?_
  · (intro w' hSw; (try dsimp only at hSw); clear hSw hHeld; go_simp; (try with_reducible rfl))
  try simp only [Act.put, List.setIfInBounds_toArray, List.set_cons_zero, List.set_cons_succ]
  refine wpAnyH_ready (rs := [6]) (by kernel_rfl) (by simp) (AllReadyH.cons (o := ({ dst := some 26, op := Op.call { callee := Callee.builtin Builtin.append, args := #[Operand.tmp 22, Operand.tmp 25], argTypes := #[43, 43] }, type := 43, pos := "slices.go:232", after := #[{ on := 2, ground := Ground.data }, { on := 5, ground := Ground.data }], guard := none } : Oper)) rfl (fun K hK => ?_) AllReadyH.nil)
  rw [if_pos (by rfl)]
  have Hq := Lib.hid (own_take (own_up Ho.out (Gou.Mod.drew (fun _ => False) w)) (Nat.le_of_lt Hi.out))
  obtain ⟨i0, hi0, hz0, hz1, hz2⟩ := info_parts T_ly.info
  have ei : i + (n - (i + 1)) = n - 1 := by have := Hi.out; omega
  refine wp_append_own_spare _ _ _ 43 rfl B 45 i0 31 T_ly.und hi0 hz1 g i cap _ rfl Hq.out ⟨g, at31 cap (i + 1), none⟩ (n - (i + 1)) (cap - (i + 1)) (cs.drop ((i + 1) * 31)) rfl (drop_len Ho.out.1) (fun j u hj => at_cell (own_up Ho.out (Gou.Mod.drew (fun _ => False) w)) Hn.out Hi.out hj) (fun u hu => H1.out u (List.mem_of_mem_drop hu)) (by rw [ei]; have := Hn.out; omega) ?_
  intro w4 ho4 hg4
  rw [ei] at ho4 ⊢
  have Ho4 := Lib.hid ho4
  have M : Hid (Gou.Mod (fun k => k = g) w w4) := Lib.hid ((Gou.Mod.drew _ w).trans' ((Gou.Mod.of_grown hg4).imp (fun k _ h => by simpa using h.symm)))
  clear hHeld ho4 hg4 Hq i0 hi0 hz0 hz1 hz2
  refine hK _ _ M.out (fun hHeld => ?_)
  clear hK K M
  try simp only [Act.put, List.setIfInBounds_toArray, List.set_cons_zero, List.set_cons_succ]
  refine wpAnyH_take (i := 7) (oi := ({ dst := some 0, op := Op.assign (Operand.tmp 26), type := 43, pos := "slices.go:232", after := #[{ on := 6, ground := Ground.data }, { on := 6, ground := Ground.chain }, { on := 0, ground := Ground.phase }, { on := 1, ground := Ground.phase }, { on := 2, ground := Ground.phase }, { on := 3, ground := Ground.phase }, { on := 4, ground := Ground.phase }, { on := 5, ground := Ground.phase }, { on := 6, ground := Ground.phase }], guard := none } : Oper)) (v := .slice (some ⟨g, 0, none⟩) (n - 1) cap) rfl (by kernel_rfl) (by kernel_rfl) (by kernel_rfl) (fun _ _ _ h => h) (Or.inl ⟨by rfl, ?_⟩) hHeld ?_
  · (intro w' hSw; (try dsimp only at hSw); clear hSw hHeld; go_simp; (try with_reducible rfl))
  try simp only [Act.put, List.setIfInBounds_toArray, List.set_cons_zero, List.set_cons_succ]
  have MS := Lib.hid hHeld
  refine wpAnyH_done (by kernel_rfl) ?_ _
  clear hHeld
  try simp only [Act.put]
  obtain ⟨m, hm⟩ : ∃ m, m = n - 1 := ⟨_, rfl⟩
  have q7 : ∀ (w : World), (Instr.sliceAt 43 (.slice (some ⟨g, 0, none⟩) m cap) (some (.int .i64 m)) (some (.int .i64 n)) none).run Try.prog w = .ok (.slice (some ⟨g, m * 31, none⟩) 1 (cap - m)) w := fun w => by
    rw [sl_mid w g m cap m n (by omega) hnc, at31, if_neg (by omega), show n - m = 1 by omega]
  rw [← hm] at Ho4 ⊢
  have Hm := Lib.hid hm
  have q8 : (m : Int) ≤ n := by omega
  have q9 : 0 ≤ (m : Int) := by omega
  clear q1 q2 q0 q3 q4 q6 hi hnc ei hm
  go_wp2_with (first | ((with_reducible show wpList _ _ _ (⟨_, Op.call ⟨.builtin .clear, _, _⟩, _, _, _, _⟩ :: _) _ _); refine halt ?_) | fail)
  refine wpList_clear_k T_ly zero_ly rfl _ rfl g (m * 31) 1 (cap - m) rfl (by omega) (own_there Ho4.out (m * 31) (1 * 31) (by have := Hi.out; have := Hn.out; have := Hm.out; omega)) zero_one ?_
  have Hx := Lib.hid (own_tail Ho4.out (Builtin.zeroCells (Value.agg (List.toArray (Value.int .i64 0 :: Value.int .i64 0 :: Value.int .i64 0 :: Value.int .i64 0 :: Value.bool false :: Value.int .i64 0 :: Value.int .i64 0 :: Value.int .i64 0 :: Value.int .i64 0 :: Value.int .i64 0 :: Value.int .i64 0 :: Value.int .i64 0 :: Value.int .i64 0 :: Value.int .i64 0 :: Value.int .i64 0 :: Value.int .i64 0 :: Value.int .u8 0 :: Value.int .u8 0 :: Value.int .u8 0 :: Value.int .u8 0 :: Value.int .i64 0 :: Value.int .i64 0 :: Value.int .i64 0 :: Value.slice none 0 0 :: Value.bool false :: Value.slice none 0 0 :: Value.int .i64 0 :: Value.bool false :: Value.slice none 0 0 :: Value.int .i64 0 :: Value.slice none 0 0 :: []))).cells 1).toList (m * 31) (Nat.le_refl _))
  have HM := Lib.hid (MS.out.trans' (Gou.Blk.setMod w4 g (m * 31) (Builtin.zeroCells (Value.agg (List.toArray (Value.int .i64 0 :: Value.int .i64 0 :: Value.int .i64 0 :: Value.int .i64 0 :: Value.bool false :: Value.int .i64 0 :: Value.int .i64 0 :: Value.int .i64 0 :: Value.int .i64 0 :: Value.int .i64 0 :: Value.int .i64 0 :: Value.int .i64 0 :: Value.int .i64 0 :: Value.int .i64 0 :: Value.int .i64 0 :: Value.int .i64 0 :: Value.int .u8 0 :: Value.int .u8 0 :: Value.int .u8 0 :: Value.int .u8 0 :: Value.int .i64 0 :: Value.int .i64 0 :: Value.int .i64 0 :: Value.slice none 0 0 :: Value.bool false :: Value.slice none 0 0 :: Value.int .i64 0 :: Value.bool false :: Value.slice none 0 0 :: Value.int .i64 0 :: Value.slice none 0 0 :: []))).cells 1).toList))
  generalize w4.setCells g (m * 31) (Builtin.zeroCells (Value.agg (List.toArray (Value.int .i64 0 :: Value.int .i64 0 :: Value.int .i64 0 :: Value.int .i64 0 :: Value.bool false :: Value.int .i64 0 :: Value.int .i64 0 :: Value.int .i64 0 :: Value.int .i64 0 :: Value.int .i64 0 :: Value.int .i64 0 :: Value.int .i64 0 :: Value.int .i64 0 :: Value.int .i64 0 :: Value.int .i64 0 :: Value.int .i64 0 :: Value.int .u8 0 :: Value.int .u8 0 :: Value.int .u8 0 :: Value.int .u8 0 :: Value.int .i64 0 :: Value.int .i64 0 :: Value.int .i64 0 :: Value.slice none 0 0 :: Value.bool false :: Value.slice none 0 0 :: Value.int .i64 0 :: Value.bool false :: Value.slice none 0 0 :: Value.int .i64 0 :: Value.slice none 0 0 :: []))).cells 1).toList = w5 at *
  clear Ho4 MS q7
  go_wp2_with fail
  go_ret
  rw [← Hm.out]
  exact ⟨rfl, Hx.out, HM.out⟩

end Go.Proofs.Ytpbmfalokongfaa

/- Scenes: slices.Insert at layers. -/
namespace Go.Proofs.Ytpbmfalokongfaa
open Go.RowKit Go.Gou
set_option maxRecDepth 100000

theorem sl_some (p : Option Addr) (n cap i : Nat) (hi : i ≤ n) : ∃ X, ∀ (w : World), (Instr.sliceAt 43 (.slice p n cap) (some (.int .i64 i)) none none).run Try.prog w = .ok X w := by
  refine ⟨sliced p i n cap 31, fun w => ?_⟩
  rw [run_sliceAt_slice _ _ _ _ _ _ (by kernel_rfl), run_slice_l _ _ _ _ _ (by kernel_rfl) _ _ (by omega) (by omega)]
  simp only [show (sizeOf (Try.prog.elem 43)).run Try.prog w = .ok 31 w by kernel_rfl, Result.andThen_ok, Int.toNat_natCast]

set_option maxHeartbeats 8000000 in
theorem insert_end (w : World) (B vb n cap i : Nat) (p : Option Addr) (cs c : List Value) (hB : B ≤ w.heap.size) (h : w.ownsRow B 45 31 (.slice p n cap) n cs) (hc : Blk w vb 45 c.toArray) (hcl : c.length = 31) (h1 : ∀ d ∈ c, d.oneCell' = true) (hi : i = n) (hn : n ≤ 1000000) :
    Calls Try.prog 48 #[.slice p n cap, .int .i64 i, .slice (some ⟨vb, 0, none⟩) 1 1] w fun e w' => ∃ q c', e = .returned (.slice q (n + 1) c') ∧ Grown w B 45 31 (.slice p n cap) (n + 1) (cs.take (i * 31) ++ c ++ cs.drop (i * 31)) (.slice q (n + 1) c') w' := by
  subst hi
  obtain ⟨X, hX⟩ := sl_some p i cap i (Nat.le_refl i)
  have hwh : RowG (fun _ => True) w 31 (.slice (some ⟨vb, 0, none⟩) 1 1) 1 c := by
    have := RowG.of_blk hc 31 1 (by simpa using hcl) (fun _ => True) trivial
    simpa using this
  have hl := h.1
  have Ho := Lib.hid h
  have Hw := Lib.hid hwh
  have H1 := Lib.hid h1
  have Hn := Lib.hid hn
  have HB := Lib.hid hB
  have Hl := Lib.hid hl
  have Hcl := Lib.hid hcl
  clear h hwh h1 hn hB hl hcl hc
  go_enter Try.func48, Try.ntmps48
  go_wp2_with (first | ((with_reducible show wpList _ _ _ (⟨_, Op.call ⟨.builtin .append, _, _⟩, _, _, _, _⟩ :: _) _ _); refine halt ?_) | fail)
  refine wpList_append_row T_ly rfl _ _ rfl B (.slice p i cap) i cs (fun _ => True) (.slice (some ⟨vb, 0, none⟩) 1 1) 1 c rfl rfl HB.out Ho.out Hw.out H1.out (by have := Hn.out; unfold maxLen; omega) (by have := Hn.out; omega) ?_
  intro v5 w5 G5
  obtain ⟨p5, c5, rfl⟩ := Gou.ownsRow_form G5.own
  have HG := Lib.hid G5
  clear G5
  go_wp2_with fail
  go_ret
  have := HG.out
  refine ⟨p5, c5, rfl, ?_⟩
  rw [List.take_of_length_le (by rw [Hl.out]; exact Nat.le_refl _), List.drop_of_length_le (by rw [Hl.out]; exact Nat.le_refl _), List.append_nil]
  exact this

set_option maxHeartbeats 8000000 in
theorem append_zeros (w : World) (B g n i : Nat) (cs : List Value) (h : w.ownsRow B 45 31 (.slice (some ⟨g, 0, none⟩) n n) n cs) (hi : i < n) (hn : n ≤ 1000000) :
    ∃ (G : Nat) (ROW : Array Value), n + 1 ≤ G ∧ G ≤ maxLen ∧ ROW.size = G * 31 ∧ ROW.toList.take (i * 31) = cs.take (i * 31) ∧ ∀ ty, (Builtin.append_ #[43, 3] ty #[.slice (some ⟨g, 0, none⟩) i n, .int .i64 ((n : Int) + 1 - (i : Int))]).run Try.prog w =
      .ok (.slice (some ⟨w.heap.size, 0, none⟩) (n + 1) G) (w.drew.alloc (.cells ROW 45)) := by
  obtain ⟨i0, hi0, hz0, hzs, hzb⟩ := info_parts T_ly.info
  have hik : i + (n + 1 - i) = n + 1 := by omega
  have hl := h.1
  have hold : (Builtin.firstCells i0.size i (.slice (some ⟨g, 0, none⟩) i n)).run Try.prog w.drew = .ok (cs.take (i * 31)).toArray w.drew := by
    rw [hzs]
    exact run_firstCells_some w.drew 31 i ⟨g, 0, none⟩ i n (cs.take (i * 31)) (by rw [List.length_take]; omega) (fun j v hj => by
      rw [Addr.add_mid, Nat.zero_add]
      rw [List.getElem?_take] at hj
      split at hj
      · exact own_cell (own_up h (Gou.Mod.drew (fun _ => False) w)) hj
      · cases hj)
  have hz31 : (Value.agg (List.toArray (Value.int .i64 0 :: Value.int .i64 0 :: Value.int .i64 0 :: Value.int .i64 0 :: Value.bool false :: Value.int .i64 0 :: Value.int .i64 0 :: Value.int .i64 0 :: Value.int .i64 0 :: Value.int .i64 0 :: Value.int .i64 0 :: Value.int .i64 0 :: Value.int .i64 0 :: Value.int .i64 0 :: Value.int .i64 0 :: Value.int .i64 0 :: Value.int .u8 0 :: Value.int .u8 0 :: Value.int .u8 0 :: Value.int .u8 0 :: Value.int .i64 0 :: Value.int .i64 0 :: Value.int .i64 0 :: Value.slice none 0 0 :: Value.bool false :: Value.slice none 0 0 :: Value.int .i64 0 :: Value.bool false :: Value.slice none 0 0 :: Value.int .i64 0 :: Value.slice none 0 0 :: []))).cells.size = 31 := rfl
  refine ⟨grownCap w (n + 1) n 45, (cs.take (i * 31)).toArray ++ Builtin.zeroCells (Value.agg (List.toArray (Value.int .i64 0 :: Value.int .i64 0 :: Value.int .i64 0 :: Value.int .i64 0 :: Value.bool false :: Value.int .i64 0 :: Value.int .i64 0 :: Value.int .i64 0 :: Value.int .i64 0 :: Value.int .i64 0 :: Value.int .i64 0 :: Value.int .i64 0 :: Value.int .i64 0 :: Value.int .i64 0 :: Value.int .i64 0 :: Value.int .i64 0 :: Value.int .u8 0 :: Value.int .u8 0 :: Value.int .u8 0 :: Value.int .u8 0 :: Value.int .i64 0 :: Value.int .i64 0 :: Value.int .i64 0 :: Value.slice none 0 0 :: Value.bool false :: Value.slice none 0 0 :: Value.int .i64 0 :: Value.bool false :: Value.slice none 0 0 :: Value.int .i64 0 :: Value.slice none 0 0 :: []))).cells (n + 1 - i) ++ Builtin.zeroCells (Value.agg (List.toArray (Value.int .i64 0 :: Value.int .i64 0 :: Value.int .i64 0 :: Value.int .i64 0 :: Value.bool false :: Value.int .i64 0 :: Value.int .i64 0 :: Value.int .i64 0 :: Value.int .i64 0 :: Value.int .i64 0 :: Value.int .i64 0 :: Value.int .i64 0 :: Value.int .i64 0 :: Value.int .i64 0 :: Value.int .i64 0 :: Value.int .i64 0 :: Value.int .u8 0 :: Value.int .u8 0 :: Value.int .u8 0 :: Value.int .u8 0 :: Value.int .i64 0 :: Value.int .i64 0 :: Value.int .i64 0 :: Value.slice none 0 0 :: Value.bool false :: Value.slice none 0 0 :: Value.int .i64 0 :: Value.bool false :: Value.slice none 0 0 :: Value.int .i64 0 :: Value.slice none 0 0 :: []))).cells (grownCap w (n + 1) n 45 - (n + 1)), grownCap_ge w _ _ _, grownCap_le_maxLen w _ _ _ (by unfold maxLen; omega), ?_, ?_, fun ty => ?_⟩
  · have hge := grownCap_ge w (n + 1) n 45
    simp only [Array.size_append, Builtin.zeroCells, Array.size_map, Array.size_range, hz31, List.size_toArray, List.length_take]
    omega
  · rw [Array.append_assoc, Array.toList_append, List.take_append_of_le_length (by rw [List.length_take]; omega), List.take_take, Nat.min_self]
  · have h2 := Lib.run_append_grow_zeros w 43 3 ty 45 i0 _ .i64 .i64 T_ly.und (by kernel_rfl) hi0 hz0 (some ⟨g, 0, none⟩) i n (cs.take (i * 31)) hold (n + 1 - i) (by omega) (by omega) (by omega) (by omega) (by rw [hzb]; omega) (by rw [hzb, hik]; exact growslice_fits (by omega) (by omega))
    rw [hik] at h2
    rw [show (n : Int) + 1 - (i : Int) = ((n + 1 - i : Nat) : Int) by omega]
    exact h2

set_option maxHeartbeats 8000000 in
theorem insert_grow (w : World) (B vb g n i : Nat) (cs c : List Value) (hB : B ≤ w.heap.size) (h : w.ownsRow B 45 31 (.slice (some ⟨g, 0, none⟩) n n) n cs) (hc : Blk w vb 45 c.toArray) (hcl : c.length = 31) (h1 : ∀ d ∈ c, d.oneCell' = true) (h2 : ∀ d ∈ cs, d.oneCell' = true) (hi : i < n) (hn : n ≤ 1000000) :
    Calls Try.prog 48 #[.slice (some ⟨g, 0, none⟩) n n, .int .i64 i, .slice (some ⟨vb, 0, none⟩) 1 1] w fun e w' => ∃ q c', e = .returned (.slice q (n + 1) c') ∧ Grown w B 45 31 (.slice (some ⟨g, 0, none⟩) n n) (n + 1) (cs.take (i * 31) ++ c ++ cs.drop (i * 31)) (.slice q (n + 1) c') w' := by
  obtain ⟨G, ROW, hG1, hG2, hR1, hR2, hrz⟩ := append_zeros w B g n i cs h hi hn
  have q1 : ∀ (w : World), (Instr.sliceAt 43 (.slice (some ⟨g, 0, none⟩) n n) none (some (.int .i64 i)) none).run Try.prog w = .ok (.slice (some ⟨g, 0, none⟩) i n) w := fun w => sl_to w g n n i (by omega)
  have q2 : ∀ (w : World), (Instr.sliceAt 43 (.slice (some ⟨g, 0, none⟩) n n) (some (.int .i64 i)) none none).run Try.prog w = .ok (.slice (some ⟨g, i * 31, none⟩) (n - i) (n - i)) w := fun w' => by
    rw [sl_from w' g n n i (by omega) (by omega), at31, if_neg (by omega)]
  have q3 : ∀ (w' : World), (Instr.sliceAt 43 (.slice (some ⟨w.heap.size, 0, none⟩) (n + 1) G) (some (.int .i64 i)) none none).run Try.prog w' = .ok (.slice (some ⟨w.heap.size, i * 31, none⟩) (n + 1 - i) (G - i)) w' := fun w' => by
    rw [sl_from w' w.heap.size (n + 1) G i (by omega) (by omega), at31, if_neg (by omega)]
  have q4 : ∀ (w' : World), (Instr.sliceAt 43 (.slice (some ⟨w.heap.size, 0, none⟩) (n + 1) G) (some (.int .i64 (i + 1))) none none).run Try.prog w' = .ok (.slice (some ⟨w.heap.size, (i + 1) * 31, none⟩) (n - i) (G - (i + 1))) w' := fun w' => by
    have := sl_from w' w.heap.size (n + 1) G (i + 1) (by omega) (by omega)
    rw [at31, if_neg (by omega), show n + 1 - (i + 1) = n - i by omega] at this
    exact this
  have e1 : ((1 : Int) == 0) = false := by decide
  have e2 : ((i : Int) == (n : Int)) = false := beq_eq_false_iff_ne.2 (by omega)
  have e3 : IntKind.i64.wrap ((n : Int) + 1) = (n : Int) + 1 := by rw [IntKind.wrap_i64]; omega
  have e4 : IntKind.i64.wrap ((n : Int) + 1 - (i : Int)) = (n : Int) + 1 - (i : Int) := by rw [IntKind.wrap_i64]; omega
  have e5 : IntKind.i64.wrap ((i : Int) + 1) = (i : Int) + 1 := by rw [IntKind.wrap_i64]; omega
  have e6 : (n : Int) < (n : Int) + 1 := by omega
  have Ho := Lib.hid h
  have HC := Lib.hid hc
  have H1 := Lib.hid h1
  have H2 := Lib.hid h2
  have Hn := Lib.hid hn
  have Hi := Lib.hid hi
  have HB := Lib.hid hB
  have Hcl := Lib.hid hcl
  have HG := Lib.hid (And.intro hG1 hG2)
  have HR := Lib.hid (And.intro hR1 hR2)
  have Hq2 := Lib.hid q2
  have Hq4 := Lib.hid q4
  clear h hc h1 h2 hn hi hB hcl hG1 hG2 hR1 hR2
  go_enter Try.func48, Try.ntmps48
  go_upto_region 11 with (first | (at_builtin; refine Lib.wpList_append_run _ rfl _ _ _ _ rfl _ _ rfl rfl _ _ (hrz _) ?_) | ((with_reducible show wpList _ _ _ (⟨_, Op.call ⟨.builtin .copy, _, _⟩, _, _, _, _⟩ :: _) _ _); refine halt ?_) | fail)
  have HB1 := Lib.hid ((Blk.new w 45 ROW).up (Gou.Mod.drew (fun _ => False) _))
  have HM1 := Lib.hid ((Gou.Mod.alloc0 w (.cells ROW 45)).trans' (Gou.Mod.drew (fun _ => False) (w.alloc (.cells ROW 45))))
  generalize (w.alloc (.cells ROW 45)).drew = W1 at *
  have hmin : Nat.min 1 (n + 1 - i) = 1 := by have := Hi.out; show min 1 (n + 1 - i) = 1; omega
  refine wpList_copy_k T_ly rfl _ _ rfl w.heap.size (i * 31) (n + 1 - i) (G - i) ⟨vb, 0, none⟩ 1 1 c rfl rfl (by rw [hmin, Hcl.out]) (fun j v hj => by rw [Addr.add_mid, Nat.zero_add]; exact (HC.out.up HM1.out).cell j (by simpa using hj)) (HB1.out.there (i * 31) c.length (by have := Hcl.out; have := Hi.out; have := HR.out.1; have := HG.out.1; omega)) H1.out ?_
  rw [hmin]
  have HB2 := Lib.hid (HB1.out.sets (i * 31) c)
  have HM2 := Lib.hid (Gou.Blk.setMod W1 w.heap.size (i * 31) c)
  have HMM := Lib.hid (HM1.out.trans HM2.out (fun k hk e => by omega))
  generalize W1.setCells w.heap.size (i * 31) c = W2 at *
  clear HB1 HM1 HM2 hmin hrz q1 q2 q3 q4 e6
  go_upto_region 12 with fail
  have q2 := Hq2.out
  have q4 := Hq4.out
  refine wp_region_held_drew (S := fun w' => Gou.Mod (fun k => k = w.heap.size) W2 w') (by kernel_rfl) (Gou.Mod.drew _ _) (fun hHeld => ?_)
  refine wpAnyH_take (i := 0) (oi := ({ dst := some 46, op := Op.move (Operand.tmp 9), type := 43, pos := "slices.go:154", after := #[], guard := none } : Oper)) (v := .slice (some ⟨w.heap.size, 0, none⟩) (n + 1) G) rfl (by kernel_rfl) (by kernel_rfl) (by kernel_rfl) (fun _ _ _ h => h) (Or.inl ⟨by rfl, ?_⟩) hHeld ?_
  · (intro w' hSw; (try dsimp only at hSw); clear hSw hHeld; go_simp; (try with_reducible rfl))
  try simp only [Act.put, List.setIfInBounds_toArray, List.set_cons_zero, List.set_cons_succ]
  refine wpAnyH_take (i := 1) (oi := ({ dst := some 47, op := Op.move (Operand.tmp 1), type := 3, pos := "slices.go:154", after := #[], guard := none } : Oper)) (v := .int .i64 i) rfl (by kernel_rfl) (by kernel_rfl) (by kernel_rfl) (fun _ _ _ h => h) (Or.inl ⟨by rfl, ?_⟩) hHeld ?_
  · (intro w' hSw; (try dsimp only at hSw); clear hSw hHeld; go_simp; (try with_reducible rfl))
  try simp only [Act.put, List.setIfInBounds_toArray, List.set_cons_zero, List.set_cons_succ]
  refine wpAnyH_take (i := 2) (oi := ({ dst := some 48, op := Op.move (Operand.tmp 7), type := 3, pos := "slices.go:154", after := #[], guard := none } : Oper)) (v := .int .i64 1) rfl (by kernel_rfl) (by kernel_rfl) (by kernel_rfl) (fun _ _ _ h => h) (Or.inl ⟨by rfl, ?_⟩) hHeld ?_
  · (intro w' hSw; (try dsimp only at hSw); clear hSw hHeld; go_simp; (try with_reducible rfl))
  try simp only [Act.put, List.setIfInBounds_toArray, List.set_cons_zero, List.set_cons_succ]
  refine wpAnyH_take (i := 3) (oi := ({ dst := some 49, op := Op.binOp BinOp.add 3 (Operand.tmp 47) (Operand.tmp 48) 3, type := 3, pos := "slices.go:154", after := #[{ on := 1, ground := Ground.data }, { on := 2, ground := Ground.data }], guard := none } : Oper)) (v := .int .i64 (i + 1)) rfl (by kernel_rfl) (by kernel_rfl) (by kernel_rfl) (fun _ _ _ h => h) (Or.inl ⟨by rfl, ?_⟩) hHeld ?_
  · (intro w' hSw; (try dsimp only at hSw); clear hSw hHeld; go_simp; (try with_reducible rfl))
  try simp only [Act.put, List.setIfInBounds_toArray, List.set_cons_zero, List.set_cons_succ]
  refine wpAnyH_take (i := 4) (oi := ({ dst := some 50, op := Op.slice 43 (Operand.tmp 46) (some (Operand.tmp 49)) none none, type := 43, pos := "slices.go:154", after := #[{ on := 0, ground := Ground.data }, { on := 3, ground := Ground.data }], guard := none } : Oper)) (v := .slice (some ⟨w.heap.size, (i + 1) * 31, none⟩) (n - i) (G - (i + 1))) rfl (by kernel_rfl) (by kernel_rfl) (by kernel_rfl) (fun _ _ _ h => h) (Or.inl ⟨by rfl, ?_⟩) hHeld ?_
  · (intro w' hSw; (try dsimp only at hSw); clear hSw hHeld; go_simp; (try with_reducible rfl))
  try simp only [Act.put, List.setIfInBounds_toArray, List.set_cons_zero, List.set_cons_succ]
  refine wpAnyH_take (i := 5) (oi := ({ dst := some 51, op := Op.move (Operand.tmp 0), type := 43, pos := "slices.go:154", after := #[], guard := none } : Oper)) (v := .slice (some ⟨g, 0, none⟩) n n) rfl (by kernel_rfl) (by kernel_rfl) (by kernel_rfl) (fun _ _ _ h => h) (Or.inl ⟨by rfl, ?_⟩) hHeld ?_
  · (intro w' hSw; (try dsimp only at hSw); clear hSw hHeld; go_simp; (try with_reducible rfl))
  try simp only [Act.put, List.setIfInBounds_toArray, List.set_cons_zero, List.set_cons_succ]
  refine wpAnyH_take (i := 6) (oi := ({ dst := some 52, op := Op.move (Operand.tmp 1), type := 3, pos := "slices.go:154", after := #[], guard := none } : Oper)) (v := .int .i64 i) rfl (by kernel_rfl) (by kernel_rfl) (by kernel_rfl) (fun _ _ _ h => h) (Or.inl ⟨by rfl, ?_⟩) hHeld ?_
  · (intro w' hSw; (try dsimp only at hSw); clear hSw hHeld; go_simp; (try with_reducible rfl))
  try simp only [Act.put, List.setIfInBounds_toArray, List.set_cons_zero, List.set_cons_succ]
  refine wpAnyH_take (i := 7) (oi := ({ dst := some 53, op := Op.slice 43 (Operand.tmp 51) (some (Operand.tmp 52)) none none, type := 43, pos := "slices.go:154", after := #[{ on := 5, ground := Ground.data }, { on := 6, ground := Ground.data }], guard := none } : Oper)) (v := .slice (some ⟨g, i * 31, none⟩) (n - i) (n - i)) rfl (by kernel_rfl) (by kernel_rfl) (by kernel_rfl) (fun _ _ _ h => h) (Or.inl ⟨by rfl, ?_⟩) hHeld ?_
  · (intro w' hSw; (try dsimp only at hSw); clear hSw hHeld; go_simp; (try with_reducible rfl))
  try simp only [Act.put, List.setIfInBounds_toArray, List.set_cons_zero, List.set_cons_succ]
  refine wpAnyH_ready (rs := [8]) (by kernel_rfl) (by simp) (AllReadyH.cons (o := ({ dst := some 54, op := Op.call { callee := Callee.builtin Builtin.copy, args := #[Operand.tmp 50, Operand.tmp 53], argTypes := #[43, 43] }, type := 3, pos := "slices.go:154", after := #[{ on := 4, ground := Ground.data }, { on := 7, ground := Ground.data }], guard := none } : Oper)) rfl (fun K hK => ?_) AllReadyH.nil)
  rw [if_pos (by rfl)]
  have hmin : Nat.min (n - i) (n - i) = n - i := Nat.min_self _
  refine wp_copy_k T_ly _ _ rfl w.heap.size ((i + 1) * 31) (n - i) (G - (i + 1)) ⟨g, i * 31, none⟩ (n - i) (n - i) (cs.drop (i * 31)) rfl rfl (by rw [hmin, List.length_drop, Ho.out.1, Nat.sub_mul]) (fun j v hj => by rw [Addr.add_mid]; rw [List.getElem?_drop] at hj; exact own_cell (own_up (own_up Ho.out HMM.out) (Gou.Mod.drew (fun _ => False) W2)) hj) ((HB2.out.up (Gou.Mod.drew (fun _ => False) W2)).there _ _ (by rw [setMany_size, List.length_drop]; have := Ho.out.1; have := Hi.out; have := HR.out.1; have := HG.out.1; omega)) (fun v hv => H2.out v (List.mem_of_mem_drop hv)) ?_
  rw [hmin]
  have HB3 := Lib.hid ((HB2.out.up (Gou.Mod.drew (fun _ => False) W2)).sets ((i + 1) * 31) (cs.drop (i * 31)))
  have M := Lib.hid (hHeld.trans' (Gou.Blk.setMod W2.drew w.heap.size ((i + 1) * 31) (cs.drop (i * 31))))
  generalize W2.drew.setCells w.heap.size ((i + 1) * 31) (cs.drop (i * 31)) = W3 at *
  clear hHeld HB2 hmin
  refine hK _ _ M.out (fun hHeld => ?_)
  clear hK K M
  try simp only [Act.put, List.setIfInBounds_toArray, List.set_cons_zero, List.set_cons_succ]
  have MS := Lib.hid hHeld
  refine wpAnyH_done (by kernel_rfl) ?_ _
  clear hHeld
  try simp only [Act.put]
  have HX : Hid (Grown w B 45 31 (.slice (some ⟨g, 0, none⟩) n n) (n + 1) (cs.take (i * 31) ++ c ++ cs.drop (i * 31)) (.slice (some ⟨w.heap.size, 0, none⟩) (n + 1) G) W3) := Lib.hid ⟨own_of_blk HB3.out HB.out HG.out.1 HG.out.2 (by rw [setMany_size, setMany_size]; exact HR.out.1) (ins_grow (by have := HR.out.1; have := HG.out.1; omega) Ho.out.1 HR.out.2 (Nat.le_of_lt Hi.out) Hcl.out), (HMM.out.trans MS.out (fun k hk e => by omega)).imp (fun _ _ h => h.elim), fun b hb => .inr (by simp only [Value.ownBlock, Option.some.injEq] at hb; omega)⟩
  clear HB3 MS HMM
  go_wp2_with fail
  go_ret
  exact ⟨_, _, rfl, HX.out⟩

set_option maxHeartbeats 8000000 in
theorem overlaps_no (w : World) (vb g o lb cb : Nat) (a c : Array Value) (ta tb : TypeId) (ha : Blk w vb ta a) (hc : Blk w g tb c) (hne : vb ≠ g) (h0 : c.size ≠ 0) :
    (callFunc 55 #[.slice (some ⟨vb, 0, none⟩) 1 1, .slice (some ⟨g, o, none⟩) lb cb]).run Try.prog w = .ok (.value (.bool false)) w := by
  have hsa : w.shape? vb = some (ta, a.size) := by unfold World.shape?; rw [ha]
  have hsb : w.shape? g = some (tb, c.size) := by unfold World.shape?; rw [hc]
  rw [run_callFunc_extern Try.func55 (by kernel_rfl) (by kernel_rfl) (by kernel_rfl) (e := Extern.SlicesOverlaps.overlaps #[43, 43] #[4]) (by kernel_rfl),
    Lib.run_overlaps_apart w 43 4 45 T_ly.und 31 (fun w => by kernel_rfl) ⟨vb, 0, none⟩ ⟨g, o, none⟩ 1 1 lb cb hne ta tb a.size c.size hsa hsb h0 (ha.frozen 0) (ha.frozen a.size)]
  rfl

set_option maxHeartbeats 8000000 in
theorem insert_shift (w : World) (B vb g n cap i : Nat) (cs c : List Value) (h : w.ownsRow B 45 31 (.slice (some ⟨g, 0, none⟩) n cap) n cs) (hc : Blk w vb 45 c.toArray) (hne : vb ≠ g) (hcl : c.length = 31) (h1 : ∀ d ∈ c, d.oneCell' = true) (h2 : ∀ d ∈ cs, d.oneCell' = true) (hi : i < n) (hn : n ≤ 1000000) (hr : n + 1 ≤ cap) :
    Calls Try.prog 48 #[.slice (some ⟨g, 0, none⟩) n cap, .int .i64 i, .slice (some ⟨vb, 0, none⟩) 1 1] w fun e w' => ∃ q c', e = .returned (.slice q (n + 1) c') ∧ Grown w B 45 31 (.slice (some ⟨g, 0, none⟩) n cap) (n + 1) (cs.take (i * 31) ++ c ++ cs.drop (i * 31)) (.slice q (n + 1) c') w' := by
  obtain ⟨cur, hb, hnc, hcm, hcs, htk⟩ := own_cells h
  have hB := (own_ge h g rfl)
  have q1 : ∀ (w : World), (Instr.sliceAt 43 (.slice (some ⟨g, 0, none⟩) n cap) none (some (.int .i64 (n + 1))) none).run Try.prog w = .ok (.slice (some ⟨g, 0, none⟩) (n + 1) cap) w := fun w => sl_to w g n cap (n + 1) hr
  have q2 : ∀ (w : World), (Instr.sliceAt 43 (.slice (some ⟨g, 0, none⟩) n cap) (some (.int .i64 i)) none none).run Try.prog w = .ok (.slice (some ⟨g, i * 31, none⟩) (n - i) (cap - i)) w := fun w' => by
    rw [sl_from w' g n cap i (by omega) (by omega), at31, if_neg (by omega)]
  have q3 : ∀ (w : World), (Instr.sliceAt 43 (.slice (some ⟨g, 0, none⟩) (n + 1) cap) (some (.int .i64 i)) none none).run Try.prog w = .ok (.slice (some ⟨g, i * 31, none⟩) (n + 1 - i) (cap - i)) w := fun w' => by
    rw [sl_from w' g (n + 1) cap i (by omega) (by omega), at31, if_neg (by omega)]
  have q4 : ∀ (w' : World), (Instr.sliceAt 43 (.slice (some ⟨g, 0, none⟩) (n + 1) cap) (some (.int .i64 (i + 1))) none none).run Try.prog w' = .ok (.slice (some ⟨g, (i + 1) * 31, none⟩) (n - i) (cap - (i + 1))) w' := fun w' => by
    have := sl_from w' g (n + 1) cap (i + 1) (by omega) (by omega)
    rw [at31, if_neg (by omega), show n + 1 - (i + 1) = n - i by omega] at this
    exact this
  have q5 : ∀ lb cb o, (callFunc 55 #[.slice (some ⟨vb, 0, none⟩) 1 1, .slice (some ⟨g, o, none⟩) lb cb]).run Try.prog w = .ok (.value (.bool false)) w := fun lb cb o => overlaps_no w vb g o lb cb _ _ _ _ hc hb hne (by omega)
  have e1 : ((1 : Int) == 0) = false := by decide
  have e2 : ((i : Int) == (n : Int)) = false := beq_eq_false_iff_ne.2 (by omega)
  have e3 : IntKind.i64.wrap ((n : Int) + 1) = (n : Int) + 1 := by rw [IntKind.wrap_i64]; omega
  have e5 : IntKind.i64.wrap ((i : Int) + 1) = (i : Int) + 1 := by rw [IntKind.wrap_i64]; omega
  have e6 : ¬ (cap : Int) < (n : Int) + 1 := by omega
  have Ho := Lib.hid h
  have HC := Lib.hid hc
  have H1 := Lib.hid h1
  have H2 := Lib.hid h2
  have Hn := Lib.hid hn
  have Hi := Lib.hid hi
  have HB := Lib.hid hB
  have Hr := Lib.hid hr
  have Hcl := Lib.hid hcl
  have Hne := Lib.hid hne
  have Hcur := Lib.hid hb
  have HR := Lib.hid (And.intro hcs htk)
  have Hcm := Lib.hid hcm
  have Hq3 := Lib.hid q3
  have Hq4 := Lib.hid q4
  clear h hc h1 h2 hn hi hB hcl hb hcs htk hr hnc hcm hne
  go_enter Try.func48, Try.ntmps48
  go_upto_region 15 with (simp only [q5])
  clear q1 q2 q3 q4 q5 e6
  have q3 := Hq3.out
  have q4 := Hq4.out
  refine wp_region_held_drew (S := fun w' => Gou.Mod (fun k => k = g) w w') (by kernel_rfl) (Gou.Mod.drew _ _) (fun hHeld => ?_)
  refine wpAnyH_take (i := 0) (oi := ({ dst := some 69, op := Op.move (Operand.tmp 0), type := 43, pos := "slices.go:178", after := #[], guard := none } : Oper)) (v := .slice (some ⟨g, 0, none⟩) (n + 1) cap) rfl (by kernel_rfl) (by kernel_rfl) (by kernel_rfl) (fun _ _ _ h => h) (Or.inl ⟨by rfl, ?_⟩) hHeld ?_
  · (intro w' hSw; (try dsimp only at hSw); clear hSw hHeld; go_simp; (try with_reducible rfl))
  try simp only [Act.put, List.setIfInBounds_toArray, List.set_cons_zero, List.set_cons_succ]
  refine wpAnyH_take (i := 1) (oi := ({ dst := some 70, op := Op.move (Operand.tmp 1), type := 3, pos := "slices.go:178", after := #[], guard := none } : Oper)) (v := .int .i64 i) rfl (by kernel_rfl) (by kernel_rfl) (by kernel_rfl) (fun _ _ _ h => h) (Or.inl ⟨by rfl, ?_⟩) hHeld ?_
  · (intro w' hSw; (try dsimp only at hSw); clear hSw hHeld; go_simp; (try with_reducible rfl))
  try simp only [Act.put, List.setIfInBounds_toArray, List.set_cons_zero, List.set_cons_succ]
  refine wpAnyH_take (i := 2) (oi := ({ dst := some 71, op := Op.move (Operand.tmp 7), type := 3, pos := "slices.go:178", after := #[], guard := none } : Oper)) (v := .int .i64 1) rfl (by kernel_rfl) (by kernel_rfl) (by kernel_rfl) (fun _ _ _ h => h) (Or.inl ⟨by rfl, ?_⟩) hHeld ?_
  · (intro w' hSw; (try dsimp only at hSw); clear hSw hHeld; go_simp; (try with_reducible rfl))
  try simp only [Act.put, List.setIfInBounds_toArray, List.set_cons_zero, List.set_cons_succ]
  refine wpAnyH_take (i := 3) (oi := ({ dst := some 72, op := Op.binOp BinOp.add 3 (Operand.tmp 70) (Operand.tmp 71) 3, type := 3, pos := "slices.go:178", after := #[{ on := 1, ground := Ground.data }, { on := 2, ground := Ground.data }], guard := none } : Oper)) (v := .int .i64 (i + 1)) rfl (by kernel_rfl) (by kernel_rfl) (by kernel_rfl) (fun _ _ _ h => h) (Or.inl ⟨by rfl, ?_⟩) hHeld ?_
  · (intro w' hSw; (try dsimp only at hSw); clear hSw hHeld; go_simp; (try with_reducible rfl))
  try simp only [Act.put, List.setIfInBounds_toArray, List.set_cons_zero, List.set_cons_succ]
  refine wpAnyH_take (i := 4) (oi := ({ dst := some 73, op := Op.slice 43 (Operand.tmp 69) (some (Operand.tmp 72)) none none, type := 43, pos := "slices.go:178", after := #[{ on := 0, ground := Ground.data }, { on := 3, ground := Ground.data }], guard := none } : Oper)) (v := .slice (some ⟨g, (i + 1) * 31, none⟩) (n - i) (cap - (i + 1))) rfl (by kernel_rfl) (by kernel_rfl) (by kernel_rfl) (fun _ _ _ h => h) (Or.inl ⟨by rfl, ?_⟩) hHeld ?_
  · (intro w' hSw; (try dsimp only at hSw); clear hSw hHeld; go_simp; (try with_reducible rfl))
  try simp only [Act.put, List.setIfInBounds_toArray, List.set_cons_zero, List.set_cons_succ]
  refine wpAnyH_take (i := 5) (oi := ({ dst := some 74, op := Op.move (Operand.tmp 0), type := 43, pos := "slices.go:178", after := #[], guard := none } : Oper)) (v := .slice (some ⟨g, 0, none⟩) (n + 1) cap) rfl (by kernel_rfl) (by kernel_rfl) (by kernel_rfl) (fun _ _ _ h => h) (Or.inl ⟨by rfl, ?_⟩) hHeld ?_
  · (intro w' hSw; (try dsimp only at hSw); clear hSw hHeld; go_simp; (try with_reducible rfl))
  try simp only [Act.put, List.setIfInBounds_toArray, List.set_cons_zero, List.set_cons_succ]
  refine wpAnyH_take (i := 6) (oi := ({ dst := some 75, op := Op.move (Operand.tmp 1), type := 3, pos := "slices.go:178", after := #[], guard := none } : Oper)) (v := .int .i64 i) rfl (by kernel_rfl) (by kernel_rfl) (by kernel_rfl) (fun _ _ _ h => h) (Or.inl ⟨by rfl, ?_⟩) hHeld ?_
  · (intro w' hSw; (try dsimp only at hSw); clear hSw hHeld; go_simp; (try with_reducible rfl))
  try simp only [Act.put, List.setIfInBounds_toArray, List.set_cons_zero, List.set_cons_succ]
  refine wpAnyH_take (i := 7) (oi := ({ dst := some 76, op := Op.slice 43 (Operand.tmp 74) (some (Operand.tmp 75)) none none, type := 43, pos := "slices.go:178", after := #[{ on := 5, ground := Ground.data }, { on := 6, ground := Ground.data }], guard := none } : Oper)) (v := .slice (some ⟨g, i * 31, none⟩) (n + 1 - i) (cap - i)) rfl (by kernel_rfl) (by kernel_rfl) (by kernel_rfl) (fun _ _ _ h => h) (Or.inl ⟨by rfl, ?_⟩) hHeld ?_
  · (intro w' hSw; (try dsimp only at hSw); clear hSw hHeld; go_simp; (try with_reducible rfl))
  try simp only [Act.put, List.setIfInBounds_toArray, List.set_cons_zero, List.set_cons_succ]
  refine wpAnyH_ready (rs := [8]) (by kernel_rfl) (by simp) (AllReadyH.cons (o := ({ dst := some 77, op := Op.call { callee := Callee.builtin Builtin.copy, args := #[Operand.tmp 73, Operand.tmp 76], argTypes := #[43, 43] }, type := 3, pos := "slices.go:178", after := #[{ on := 4, ground := Ground.data }, { on := 7, ground := Ground.data }], guard := none } : Oper)) rfl (fun K hK => ?_) AllReadyH.nil)
  rw [if_pos (by rfl)]
  have hmin : Nat.min (n + 1 - i) (n - i) = n - i := by show min _ _ = _; omega
  refine wp_copy_k T_ly _ _ rfl g ((i + 1) * 31) (n - i) (cap - (i + 1)) ⟨g, i * 31, none⟩ (n + 1 - i) (cap - i) (cs.drop (i * 31)) rfl rfl (by rw [hmin, List.length_drop, Ho.out.1, Nat.sub_mul]) (fun j v hj => by rw [Addr.add_mid]; rw [List.getElem?_drop] at hj; exact own_cell (own_up Ho.out (Gou.Mod.drew (fun _ => False) w)) hj) ((Hcur.out.up (Gou.Mod.drew (fun _ => False) w)).there _ _ (by rw [List.length_drop]; have := Ho.out.1; have := Hi.out; have := HR.out.1; have := Hr.out; omega)) (fun v hv => H2.out v (List.mem_of_mem_drop hv)) ?_
  rw [hmin]
  have HB3 := Lib.hid ((Hcur.out.up (Gou.Mod.drew (fun _ => False) w)).sets ((i + 1) * 31) (cs.drop (i * 31)))
  have M := Lib.hid (hHeld.trans' (Gou.Blk.setMod w.drew g ((i + 1) * 31) (cs.drop (i * 31))))
  generalize w.drew.setCells g ((i + 1) * 31) (cs.drop (i * 31)) = W3 at *
  clear hHeld hmin q3 q4
  refine hK _ _ M.out (fun hHeld => ?_)
  clear hK K M
  try simp only [Act.put, List.setIfInBounds_toArray, List.set_cons_zero, List.set_cons_succ]
  have MS := Lib.hid hHeld
  refine wpAnyH_done (by kernel_rfl) ?_ _
  clear hHeld
  try simp only [Act.put]
  have q3 := Hq3.out
  have hmin : Nat.min 1 (n + 1 - i) = 1 := by have := Hi.out; show min 1 (n + 1 - i) = 1; omega
  go_wp2_with (first | ((with_reducible show wpList _ _ _ (⟨_, Op.call ⟨.builtin .copy, _, _⟩, _, _, _, _⟩ :: _) _ _); refine halt ?_) | fail)
  refine wpList_copy_k T_ly rfl _ _ rfl g (i * 31) (n + 1 - i) (cap - i) ⟨vb, 0, none⟩ 1 1 c rfl rfl (by rw [hmin, Hcl.out]) (fun j v hj => by rw [Addr.add_mid, Nat.zero_add]; exact (Blk.mod HC.out MS.out Hne.out).cell j (by simpa using hj)) (HB3.out.there (i * 31) c.length (by rw [setMany_size]; have := Hcl.out; have := Hi.out; have := HR.out.1; have := Hr.out; omega)) H1.out ?_
  rw [hmin]
  have HB4 := Lib.hid (HB3.out.sets (i * 31) c)
  have HM4 := Lib.hid (MS.out.trans' (Gou.Blk.setMod W3 g (i * 31) c))
  generalize W3.setCells g (i * 31) c = W4 at *
  have HX : Hid (Grown w B 45 31 (.slice (some ⟨g, 0, none⟩) n cap) (n + 1) (cs.take (i * 31) ++ c ++ cs.drop (i * 31)) (.slice (some ⟨g, 0, none⟩) (n + 1) cap) W4) := Lib.hid ⟨own_of_blk HB4.out HB.out Hr.out Hcm.out (by rw [setMany_size, setMany_size]; exact HR.out.1) (ins_shift (by have := HR.out.1; have := Hr.out; omega) HR.out.2 (Nat.le_of_lt Hi.out) Hcl.out), HM4.out.imp (fun k _ h => by rw [h]; rfl), fun b hb => .inl hb⟩
  clear HB3 HB4 MS HM4 q3 hmin
  go_wp2_with fail
  go_ret
  exact ⟨_, _, rfl, HX.out⟩

set_option maxHeartbeats 8000000 in
/-- slices.Insert(s, i, x) at layers. -/
theorem insert_any (w : World) (B vb n cap i : Nat) (p : Option Addr) (cs c : List Value) (hB : B ≤ w.heap.size) (h : w.ownsRow B 45 31 (.slice p n cap) n cs) (hc : Blk w vb 45 c.toArray) (hne : ∀ g, (Value.slice p n cap).ownBlock = some g → vb ≠ g) (hcl : c.length = 31) (h1 : ∀ d ∈ c, d.oneCell' = true) (h2 : ∀ d ∈ cs, d.oneCell' = true) (hi : i ≤ n) (hn : n ≤ 1000000) :
    Calls Try.prog 48 #[.slice p n cap, .int .i64 i, .slice (some ⟨vb, 0, none⟩) 1 1] w fun e w' => ∃ q c', e = .returned (.slice q (n + 1) c') ∧ Grown w B 45 31 (.slice p n cap) (n + 1) (cs.take (i * 31) ++ c ++ cs.drop (i * 31)) (.slice q (n + 1) c') w' := by
  by_cases he : i = n
  · exact insert_end w B vb n cap i p cs c hB h hc hcl h1 he hn
  · have hp : ∃ g, p = some ⟨g, 0, none⟩ := by
      rcases h.2 with ⟨h0, _⟩ | ⟨g', cap', cur, hv, _⟩
      · simp only [Value.slice.injEq] at h0
        omega
      · simp only [Value.slice.injEq] at hv
        exact ⟨g', hv.1⟩
    obtain ⟨g, rfl⟩ := hp
    obtain ⟨cur, _, hnc, _⟩ := own_cells h
    by_cases hr : n + 1 ≤ cap
    · exact insert_shift w B vb g n cap i cs c h hc (hne g rfl) hcl h1 h2 (by omega) hn hr
    · obtain rfl : cap = n := by omega
      exact insert_grow w B vb g cap i cs c hB h hc hcl h1 h2 (by omega) hn

end Go.Proofs.Ytpbmfalokongfaa

/- Scenes in memory: a kid put in, a kid cut out. -/
namespace Go.Gou
open Go.RowKit
variable {TL TD : TypeId} {base : Nat}

theorem LyO.one {w : World} {c : List Value} {T : Ly} {F : List Nat} (h : LyO TL TD base w c T F) : ∀ d ∈ c, d.oneCell' = true := by
  have h2 := h.reads
  obtain ⟨vp, vf, vb, vk, css, e, _⟩ := h2.form
  subst e
  exact LyR.one h2

theorem ins_at {α : Type} (l : List α) (x : α) {i : Nat} (hi : i ≤ l.length) (j : Nat) : (l.take i ++ x :: l.drop i)[j]? = if j < i then l[j]? else if j = i then some x else l[j - 1]? := by
  have ht : (l.take i).length = i := by rw [List.length_take]; omega
  by_cases h1 : j < i
  · rw [List.getElem?_append_left (by omega), List.getElem?_take, if_pos h1, if_pos h1]
  · rw [if_neg h1, List.getElem?_append_right (by omega), ht]
    by_cases h2 : j = i
    · subst h2
      rw [if_pos rfl, Nat.sub_self, List.getElem?_cons_zero]
    · rw [if_neg h2]
      obtain ⟨d, rfl⟩ : ∃ d, j = i + d + 1 := ⟨j - i - 1, by omega⟩
      rw [show i + d + 1 - i = d + 1 by omega, List.getElem?_cons_succ, List.getElem?_drop]
      rfl

theorem flat_ins {css : List (List Value)} (h : ∀ c ∈ css, c.length = 31) (c : List Value) {i : Nat} (hi : i ≤ css.length) : (css.take i ++ c :: css.drop i).flatten = css.flatten.take (i * 31) ++ c ++ css.flatten.drop (i * 31) := by
  induction css generalizing i with
  | nil => simp at hi; subst hi; simp
  | cons a css ih =>
    have ha : a.length = 31 := h a (by simp)
    cases i with
    | zero => simp
    | succ i =>
      have := ih (fun c hc => h c (by simp [hc])) (i := i) (by simpa using hi)
      rw [List.take_succ_cons, List.drop_succ_cons, List.cons_append, List.flatten_cons, this, List.flatten_cons]
      have e1 : (a ++ css.flatten).take ((i + 1) * 31) = a ++ css.flatten.take (i * 31) := by
        rw [List.take_append, List.take_of_length_le (l := a) (by omega), ha]
        congr 2; omega
      have e2 : (a ++ css.flatten).drop ((i + 1) * 31) = css.flatten.drop (i * 31) := by
        rw [List.drop_append, List.drop_of_length_le (l := a) (by omega), ha, List.nil_append]
        congr 1; omega
      rw [e1, e2]
      simp only [List.append_assoc]

theorem lyA_ne (i : Idt) (l : Lk) (vp vf vb vk v7 : Value) {j : Nat} (hj : j < 31) (h30 : j ≠ 30) : (lyA i l vp vf vb vk)[j]? = (lyA i l vp vf vb v7)[j]? := by
  rw [← Array.getElem?_toList, ← Array.getElem?_toList, lyA_look, lyA_look]
  have e : ∀ v, Value.int .i64 i.1 :: Value.int .i64 i.2 :: ((lookC l vp vf vb).toList ++ [v]) = (Value.int .i64 i.1 :: Value.int .i64 i.2 :: (lookC l vp vf vb).toList) ++ [v] := fun _ => rfl
  have hl : (Value.int .i64 i.1 :: Value.int .i64 i.2 :: (lookC l vp vf vb).toList).length = 30 := rfl
  rw [e, e, List.getElem?_append_left (by rw [hl]; omega), List.getElem?_append_left (by rw [hl]; omega)]

/-- The row of kids takes one more; the place is told. -/
theorem TreeD.insert {w w5 w7 : World} {b o : Nat} {T : Ly} {F : List Nat} {vp vf vb vk v7 : Value} {css : List (List Value)} {fs : List (List Nat)} {cur : Array Value} {TT : TypeId} (h : TreeD TL TD base w b o T F vp vf vb vk css fs cur TT) (hm : Mod (fun _ => False) w w5)
    {c : List Value} {k : Ly} {f : List Nat} (hc : LyO TL TD base w5 c k f) (hf : ∀ x ∈ f, x ∉ F ∧ x ≠ b) {i : Nat} (hi : i ≤ T.kids.length)
    (hg : Grown w5 base TL 31 vk (T.kids.length + 1) (css.flatten.take (i * 31) ++ c ++ css.flatten.drop (i * 31)) v7 w7) :
    ∃ F2, TreeAt TL TD base (w7.setCell ⟨b, o + 30, none⟩ v7) b o (.mk T.id T.look (T.kids.take i ++ k :: T.kids.drop i)) F2 ∧ Frm w (w7.setCell ⟨b, o + 30, none⟩ v7) b o F (fun _ => False) ∧ ∀ x ∈ F2, x ∈ F ∨ x ∈ f ∨ w.heap.size ≤ x := by
  have hd := h.up hm
  have hlt := h.tree.lt
  obtain ⟨h1, h2, h3, h4, h5, h6, h7, h8, h9, h10, h11, h12⟩ := hd
  have hvF : ∀ x, vk.ownBlock = some x → x ∈ F := fun x hx => by rw [h9, hx]; simp
  have hfF : ∀ x ∈ fs.flatten, x ∈ F := fun x hx => by rw [h9]; exact List.mem_append_right _ hx
  have h31 := LyO.lens h6 h7 h8
  have hvlook : ∀ x, vk.ownBlock = some x → ¬ LookBlk TL TD w5 x := fun x hx => by
    obtain ⟨_, _, cu, cp, g3, _⟩ := ownsRow_blk h5 hx
    rintro ⟨cur', T', g1, g2, _⟩
    unfold Blk at g3
    rw [g3] at g1
    simp only [Option.some.injEq, Obj.cells.injEq] at g1
    exact g2 g1.2.1.symm
  have hblook : ¬ LookBlk TL TD w5 b := (h.up hm).tree.notLook
  have hmS : Mod (fun x => vk.ownBlock = some x ∨ x = b) w5 (w7.setCell ⟨b, o + 30, none⟩ v7) :=
    (hg.mod.imp (fun _ _ h => .inl h)).trans' ((Mod.setCell w7 ⟨b, o + 30, none⟩ v7).imp (fun _ _ h => .inr h))
  have hbv : vk.ownBlock ≠ some b := fun e => h12 (hvF b e)
  have hlook : ∀ x, base ≤ x → LookBlk TL TD w5 x → ¬ (vk.ownBlock = some x ∨ x = b) := fun x _ hl hx => by
    rcases hx with hx | rfl
    · exact hvlook x hx hl
    · exact hblook hl
  have hB7 : Blk w7 b TT cur := Blk.mod h1 hg.mod hbv
  have hnd0 := List.nodup_append.1 (h9 ▸ h10)
  have hlyo : ∀ (j : Nat) (c' : List Value) (k' : Ly) (f' : List Nat), css[j]? = some c' → T.kids[j]? = some k' → fs[j]? = some f' → LyO TL TD base (w7.setCell ⟨b, o + 30, none⟩ v7) c' k' f' := fun j c' k' f' a1 a2 a3 =>
    (h8 j c' k' f' a1 a2 a3).mod hmS (fun x hx hx' => by
      have hxf : x ∈ fs.flatten := List.mem_flatten.2 ⟨f', List.mem_of_getElem? a3, hx⟩
      rcases hx' with hx' | rfl
      · exact hnd0.2.2 x (by rw [hx']; simp) x hxf rfl
      · exact h12 (hfF _ hxf)) hlook
  have hcn : LyO TL TD base (w7.setCell ⟨b, o + 30, none⟩ v7) c k f := hc.mod hmS (fun x hx hx' => by
      rcases hx' with hx' | rfl
      · exact (hf x hx).1 (hvF x hx')
      · exact (hf _ hx).2 rfl) hlook
  have hv7 : ∀ x, v7.ownBlock = some x → (vk.ownBlock = some x ∨ w5.heap.size ≤ x) := hg.blk
  have hv7b : v7.ownBlock ≠ some b := fun e => by
    rcases hv7 b e with e | e
    · exact hbv e
    · have := hm.size; omega
  have hown8 : (w7.setCell ⟨b, o + 30, none⟩ v7).ownsRow base TL 31 v7 (T.kids.length + 1) (css.take i ++ c :: css.drop i).flatten := by
    rw [flat_ins h31 c (by omega)]
    exact ownsRow_mod hg.own (Mod.setCell w7 ⟨b, o + 30, none⟩ v7) (fun x hx e => hv7b (by rw [hx, e]))
  have hfl : (fs.take i ++ f :: fs.drop i).flatten = (fs.take i).flatten ++ (f ++ (fs.drop i).flatten) := by rw [List.flatten_append, List.flatten_cons]
  have hsplit : fs.flatten = (fs.take i).flatten ++ (fs.drop i).flatten := by rw [← List.flatten_append, List.take_append_drop]
  have hmem : ∀ x, x ∈ (fs.take i ++ f :: fs.drop i).flatten → x ∈ f ∨ x ∈ fs.flatten := fun x hx => by
    rw [hfl, List.mem_append, List.mem_append] at hx
    rw [hsplit, List.mem_append]
    rcases hx with hx | hx | hx
    · exact .inr (.inl hx)
    · exact .inl hx
    · exact .inr (.inr hx)
  have hnd : (v7.ownBlock.toList ++ (fs.take i ++ f :: fs.drop i).flatten).Nodup := by
    rw [List.nodup_append]
    refine ⟨by cases v7.ownBlock <;> simp, ?_, fun x hx y hy e => ?_⟩
    · have hdd := hnd0.2.1
      rw [hsplit, List.nodup_append] at hdd
      rw [hfl, List.nodup_append, List.nodup_append]
      refine ⟨hdd.1, ⟨hc.nodup, hdd.2.1, fun x hx y hy e => ?_⟩, fun x hx y hy e => ?_⟩
      · subst e
        exact (hf x hx).1 (hfF x (by rw [hsplit]; exact List.mem_append_right _ hy))
      · subst e
        rw [List.mem_append] at hy
        rcases hy with hy | hy
        · exact (hf x hy).1 (hfF x (by rw [hsplit]; exact List.mem_append_left _ hx))
        · exact hdd.2.2 x hx x hy rfl
    · subst e
      have hx' : v7.ownBlock = some x := by
        cases ho : v7.ownBlock with
        | none => rw [ho] at hx; simp at hx
        | some g => rw [ho] at hx; simp at hx; rw [hx]
      rcases hv7 x hx' with e | e
      · rcases hmem x hy with hy | hy
        · exact (hf x hy).1 (hvF x e)
        · exact hnd0.2.2 x (by rw [e]; simp) x hy rfl
      · rcases hmem x hy with hy | hy
        · have := (hc.rows x hy).2.1; omega
        · obtain ⟨l, hl1, hl2⟩ := List.mem_flatten.1 hy
          obtain ⟨j, hj⟩ := List.mem_iff_getElem?.1 hl1
          have hj' := (List.getElem?_eq_some_iff.1 hj).1
          have := ((h8 j _ _ l (List.getElem?_eq_getElem (by omega)) (List.getElem?_eq_getElem (by omega)) hj).rows x hl2).2.1
          omega
  have hc30 : cur[o + 30]? = some vk := by rw [h3 30 (by omega)]; rfl
  have ho30 : o + 30 < cur.size := (Array.getElem?_eq_some_iff.1 hc30).1
  refine ⟨v7.ownBlock.toList ++ (fs.take i ++ f :: fs.drop i).flatten, ⟨⟨_, cur.setIfInBounds (o + 30) v7, TT, LyO.mk T.id T.look (T.kids.take i ++ k :: T.kids.drop i) vp vf vb v7 (css.take i ++ c :: css.drop i) (fs.take i ++ f :: fs.drop i) (h4.look_mod hmS hlook) ?_ ?_ ?_ ?_ hnd, hB7.set (o + 30) v7, h2, ?_⟩, h11, ?_⟩, ⟨?_, cur, cur.setIfInBounds (o + 30) v7, TT, h.h1, hB7.set (o + 30) v7, by simp, ?_⟩, ?_⟩
  · have : (T.kids.take i ++ k :: T.kids.drop i).length = T.kids.length + 1 := by simp; omega
    rw [this]
    exact hown8
  · simp; omega
  · simp; omega
  · intro j c' k' f' a1 a2 a3
    rw [ins_at css c (by omega)] at a1
    rw [ins_at T.kids k hi] at a2
    rw [ins_at fs f (by omega)] at a3
    split at a1
    · rename_i hj
      rw [if_pos hj] at a2 a3
      exact hlyo j c' k' f' a1 a2 a3
    · rename_i hj
      rw [if_neg hj] at a2 a3
      split at a1
      · rename_i hj2
        rw [if_pos hj2] at a2 a3
        cases a1; cases a2; cases a3
        exact hcn
      · rename_i hj2
        rw [if_neg hj2] at a2 a3
        exact hlyo (j - 1) c' k' f' a1 a2 a3
  · intro j hj
    by_cases hj30 : j = 30
    · subst hj30
      rw [Array.getElem?_setIfInBounds_self_of_lt ho30]
      rfl
    · rw [Array.getElem?_setIfInBounds_ne (by omega), h3 j hj, Array.getElem?_toList]
      exact lyA_ne T.id T.look vp vf vb vk v7 hj hj30
  · rw [List.mem_append, not_or]
    refine ⟨fun hx => hv7b ?_, fun hx => ?_⟩
    · cases ho : v7.ownBlock with
      | none => rw [ho] at hx; simp at hx
      | some g => rw [ho] at hx; simp at hx; rw [hx]
    · rcases hmem b hx with hx | hx
      · exact (hf b hx).2 rfl
      · exact h12 (hfF b hx)
  · exact (hm.imp (fun _ _ h => h.elim)).trans' (hmS.imp (fun x _ hx => by
      rcases hx with hx | hx
      · exact .inr (.inl (hvF x hx))
      · exact .inl hx))
  · intro j hj
    exact Array.getElem?_setIfInBounds_ne (by omega)
  · intro x hx
    rw [List.mem_append] at hx
    rcases hx with hx | hx
    · have hx' : v7.ownBlock = some x := by
        cases ho : v7.ownBlock with
        | none => rw [ho] at hx; simp at hx
        | some g => rw [ho] at hx; simp at hx; rw [hx]
      rcases hv7 x hx' with e | e
      · exact .inl (hvF x e)
      · exact .inr (.inr (Nat.le_trans hm.size e))
    · rcases hmem x hx with hx | hx
      · exact .inr (.inl hx)
      · exact .inl (hfF x hx)
/-- The row of kids loses one; the place is told. -/
theorem TreeD.delete {w w5 w7 : World} {b o : Nat} {T : Ly} {F : List Nat} {vp vf vb : Value} {g cap : Nat} {css : List (List Value)} {fs : List (List Nat)} {cur : Array Value} {TT : TypeId} (h : TreeD TL TD base w b o T F vp vf vb (.slice (some ⟨g, 0, none⟩) T.kids.length cap) css fs cur TT) (hm : Mod (fun _ => False) w w5)
    {i : Nat} {k : Ly} (hk : T.kids[i]? = some k) (hown : w7.ownsRow base TL 31 (.slice (some ⟨g, 0, none⟩) (T.kids.length - 1) cap) (T.kids.length - 1) (css.flatten.take (i * 31) ++ css.flatten.drop ((i + 1) * 31))) (hm7 : Mod (fun k => k = g) w5 w7) :
    ∃ c f F2, css[i]? = some c ∧ LyO TL TD base (w7.setCell ⟨b, o + 30, none⟩ (.slice (some ⟨g, 0, none⟩) (T.kids.length - 1) cap)) c k f ∧ TreeAt TL TD base (w7.setCell ⟨b, o + 30, none⟩ (.slice (some ⟨g, 0, none⟩) (T.kids.length - 1) cap)) b o (.mk T.id T.look (T.kids.eraseIdx i)) F2 ∧
      Frm w (w7.setCell ⟨b, o + 30, none⟩ (.slice (some ⟨g, 0, none⟩) (T.kids.length - 1) cap)) b o F (fun _ => False) ∧ (∀ x ∈ F2, x ∈ F ∧ x ∉ f) ∧ ∀ x ∈ f, x ∈ F := by
  have hd := h.up hm
  have hil := (List.getElem?_eq_some_iff.1 hk).1
  generalize hv7 : Value.slice (some ⟨g, 0, none⟩) (T.kids.length - 1) cap = v7 at *
  have ho7 : v7.ownBlock = some g := by rw [← hv7]; rfl
  obtain ⟨h1, h2, h3, h4, h5, h6, h7, h8, h9, h10, h11, h12⟩ := hd
  have h9' : F = g :: fs.flatten := h9
  have hgF : g ∈ F := by rw [h9']; simp
  have hfF : ∀ x ∈ fs.flatten, x ∈ F := fun x hx => by rw [h9']; exact List.mem_cons_of_mem _ hx
  have h31 := LyO.lens h6 h7 h8
  have hbg : b ≠ g := fun e => h12 (e ▸ hgF)
  have hglook : ¬ LookBlk TL TD w5 g := by
    obtain ⟨_, _, cu, cp, g3, _⟩ := ownsRow_blk h5 (b := g) rfl
    rintro ⟨cur', T', g1, g2, _⟩
    unfold Blk at g3
    rw [g3] at g1
    simp only [Option.some.injEq, Obj.cells.injEq] at g1
    exact g2 g1.2.1.symm
  have hblook : ¬ LookBlk TL TD w5 b := (h.up hm).tree.notLook
  have hmS : Mod (fun x => x = g ∨ x = b) w5 (w7.setCell ⟨b, o + 30, none⟩ v7) :=
    (hm7.imp (fun _ _ h => .inl h)).trans' ((Mod.setCell w7 ⟨b, o + 30, none⟩ v7).imp (fun _ _ h => .inr h))
  have hlook : ∀ x, base ≤ x → LookBlk TL TD w5 x → ¬ (x = g ∨ x = b) := fun x _ hl hx => by
    rcases hx with rfl | rfl
    · exact hglook hl
    · exact hblook hl
  have hB7 : Blk w7 b TT cur := Blk.mod h1 hm7 hbg
  have hnd0 : (g :: fs.flatten).Nodup := h9' ▸ h10
  rw [List.nodup_cons] at hnd0
  have hlyo : ∀ (j : Nat) (c' : List Value) (k' : Ly) (f' : List Nat), css[j]? = some c' → T.kids[j]? = some k' → fs[j]? = some f' → LyO TL TD base (w7.setCell ⟨b, o + 30, none⟩ v7) c' k' f' := fun j c' k' f' a1 a2 a3 =>
    (h8 j c' k' f' a1 a2 a3).mod hmS (fun x hx hx' => by
      have hxf : x ∈ fs.flatten := List.mem_flatten.2 ⟨f', List.mem_of_getElem? a3, hx⟩
      rcases hx' with rfl | rfl
      · exact hnd0.1 hxf
      · exact h12 (hfF _ hxf)) hlook
  have hci : css[i]? = some css[i] := List.getElem?_eq_getElem (by omega)
  have hfi : fs[i]? = some fs[i] := List.getElem?_eq_getElem (by omega)
  have hfl : (fs.eraseIdx i).flatten = (fs.take i).flatten ++ (fs.drop (i + 1)).flatten := by rw [List.eraseIdx_eq_take_drop_succ, List.flatten_append]
  have hsplit : fs.flatten = (fs.take i).flatten ++ (fs[i] ++ (fs.drop (i + 1)).flatten) := by
    have e : fs = fs.take i ++ fs[i] :: fs.drop (i + 1) := by rw [List.getElem_cons_drop, List.take_append_drop]
    conv => lhs; rw [e]
    rw [List.flatten_append, List.flatten_cons]
  have hdd := hnd0.2
  rw [hsplit, List.nodup_append, List.nodup_append] at hdd
  have hmem : ∀ x, x ∈ (fs.eraseIdx i).flatten → x ∈ fs.flatten ∧ x ∉ fs[i] := fun x hx => by
    rw [hfl, List.mem_append] at hx
    rw [hsplit, List.mem_append, List.mem_append]
    rcases hx with hx | hx
    · exact ⟨.inl hx, fun hh => hdd.2.2 x hx x (List.mem_append_left _ hh) rfl⟩
    · exact ⟨.inr (.inr hx), fun hh => hdd.2.1.2.2 x hh x hx rfl⟩
  have hnd : (v7.ownBlock.toList ++ (fs.eraseIdx i).flatten).Nodup := by
    rw [ho7, Option.toList_some, List.singleton_append, List.nodup_cons]
    refine ⟨fun hx => hnd0.1 (hmem g hx).1, ?_⟩
    rw [hfl, List.nodup_append]
    exact ⟨hdd.1, hdd.2.1.2.1, fun x hx y hy e => hdd.2.2 x hx y (List.mem_append_right _ hy) e⟩
  have hown8 : (w7.setCell ⟨b, o + 30, none⟩ v7).ownsRow base TL 31 v7 (T.kids.length - 1) (css.eraseIdx i).flatten := by
    rw [flat_erase h31 (by omega)]
    exact ownsRow_mod hown (Mod.setCell w7 ⟨b, o + 30, none⟩ v7) (fun x hx e => hbg (by rw [ho7] at hx; cases hx; exact e.symm))
  have hc30 : cur[o + 30]? = some (.slice (some ⟨g, 0, none⟩) T.kids.length cap) := by rw [h3 30 (by omega)]; rfl
  have ho30 : o + 30 < cur.size := (Array.getElem?_eq_some_iff.1 hc30).1
  have hgf : g ∉ fs[i] := fun hh => hnd0.1 (List.mem_flatten.2 ⟨_, List.getElem_mem _, hh⟩)
  refine ⟨css[i], fs[i], v7.ownBlock.toList ++ (fs.eraseIdx i).flatten, hci, hlyo i _ _ _ hci hk hfi, ⟨⟨_, cur.setIfInBounds (o + 30) v7, TT, LyO.mk T.id T.look (T.kids.eraseIdx i) vp vf vb v7 (css.eraseIdx i) (fs.eraseIdx i) (h4.look_mod hmS hlook) ?_ ?_ ?_ ?_ hnd, hB7.set (o + 30) v7, h2, ?_⟩, h11, ?_⟩, ⟨?_, cur, cur.setIfInBounds (o + 30) v7, TT, h.h1, hB7.set (o + 30) v7, by simp, ?_⟩, ?_, ?_⟩
  · rw [List.length_eraseIdx, if_pos hil]
    exact hown8
  · rw [List.length_eraseIdx, List.length_eraseIdx, if_pos hil, if_pos (by omega)]; omega
  · rw [List.length_eraseIdx, List.length_eraseIdx, if_pos hil, if_pos (by omega)]; omega
  · intro j c' k' f' a1 a2 a3
    rw [List.getElem?_eraseIdx] at a1 a2 a3
    split at a1
    · rename_i hj
      rw [if_pos hj] at a2 a3
      exact hlyo j c' k' f' a1 a2 a3
    · rename_i hj
      rw [if_neg hj] at a2 a3
      exact hlyo (j + 1) c' k' f' a1 a2 a3
  · intro j hj
    by_cases hj30 : j = 30
    · subst hj30
      rw [Array.getElem?_setIfInBounds_self_of_lt ho30]
      rfl
    · rw [Array.getElem?_setIfInBounds_ne (by omega), h3 j hj, Array.getElem?_toList]
      exact lyA_ne T.id T.look vp vf vb _ v7 hj hj30
  · rw [ho7, Option.toList_some, List.singleton_append, List.mem_cons, not_or]
    exact ⟨hbg, fun hx => h12 (hfF b (hmem b hx).1)⟩
  · exact (hm.imp (fun _ _ h => h.elim)).trans' (hmS.imp (fun x _ hx => by
      rcases hx with rfl | hx
      · exact .inr (.inl hgF)
      · exact .inl hx))
  · intro j hj
    exact Array.getElem?_setIfInBounds_ne (by omega)
  · intro x hx
    rw [ho7, Option.toList_some, List.singleton_append, List.mem_cons] at hx
    rcases hx with rfl | hx
    · exact ⟨hgF, hgf⟩
    · exact ⟨hfF x (hmem x hx).1, (hmem x hx).2⟩
  · exact fun x hx => hfF x (List.mem_flatten.2 ⟨_, List.getElem_mem _, hx⟩)
end Go.Gou

/- Scenes: the code's put. -/
namespace Go.Proofs.Ytpbmfalokongfaa
open Go.RowKit Go.Gou
set_option maxRecDepth 100000

/-- What put leaves. -/
def PutP (base : Nat) (s : Ly) (F : List Nat) (i : Nat) (k : Ly) (f : List Nat) (w : World) (b o : Nat) (e : Ending) (w' : World) : Prop := e = .returned (.tuple #[]) ∧
  ∃ F2, TreeL base w' b o (.mk s.id s.look (s.kids.take i ++ k :: s.kids.drop i)) F2 ∧ Frm w w' b o F (fun _ => False) ∧ ∀ x ∈ F2, x ∈ F ∨ x ∈ f ∨ w.heap.size ≤ x

set_option maxHeartbeats 8000000 in
theorem put_any (base : Nat) (w : World) (b o i : Nat) (s : Ly) (F : List Nat) (k : Ly) (f : List Nat) (kp kf kb kk : Value) (hT : TreeL base w b o s F) (hk : LyO 45 67 base w (lyA k.id k.look kp kf kb kk).toList k f) (hf : ∀ x ∈ f, x ∉ F ∧ x ≠ b) (hi : i ≤ s.kids.length) (hn : s.kids.length ≤ 1000000) :
    Calls Try.prog 34 #[.pointer (some ⟨b, o, none⟩), .int .i64 i, .agg (lyA k.id k.look kp kf kb kk)] w (PutP base s F i k f w b o) := by
  obtain ⟨vp, vf, vb, vk, css, fs, cur, TT, hd⟩ := hT.open
  obtain ⟨p, cap, rfl⟩ := Gou.ownsRow_form hd.h5
  have hlt := hT.lt
  have hnb : (Value.slice p s.kids.length cap).ownBlock ≠ some b := fun e => hd.out (by rw [hd.h9, e]; simp)
  have c30 : w.cell? ⟨b, o + 30, none⟩ = some (.slice p s.kids.length cap) := by rw [cell_of_row w b (o + 30) cur TT _ hd.h1, hd.h3 30 (by omega)]; rfl
  have hvlt : ∀ x, (Value.slice p s.kids.length cap).ownBlock = some x → x < w.heap.size ∧ base ≤ x := fun x hx => by
    obtain ⟨h1, h2, _⟩ := ownsRow_blk hd.h5 hx
    exact ⟨h2, h1⟩
  have hone := LyR.one hk.reads
  have h31c := LyO.lens hd.h6 hd.h7 hd.h8
  have hones : ∀ d ∈ css.flatten, d.oneCell' = true := fun d hdd => by
    obtain ⟨l, hl1, hl2⟩ := List.mem_flatten.1 hdd
    obtain ⟨j, hj⟩ := List.mem_iff_getElem?.1 hl1
    have hj' := (List.getElem?_eq_some_iff.1 hj).1
    have h6 := hd.h6
    have h7 := hd.h7
    have := hd.h8 j l _ _ hj (List.getElem?_eq_getElem (by omega)) (List.getElem?_eq_getElem (by omega))
    exact LyO.one this d hl2
  have Hc := Lib.hid c30
  have Hd := Lib.hid hd
  have Hk := Lib.hid hk
  have Hf := Lib.hid hf
  have Hi := Lib.hid hi
  have Hn := Lib.hid hn
  have Hlt := Lib.hid hlt
  have Hnb := Lib.hid hnb
  have Hvlt := Lib.hid hvlt
  have Hone := Lib.hid hone
  have Hones := Lib.hid hones
  have HB := Lib.hid (Blk.new w 45 (lyA k.id k.look kp kf kb kk))
  have HMa := Lib.hid (Gou.Mod.alloc0 w (.cells (lyA k.id k.look kp kf kb kk) 45))
  clear hT hk hf hi hn hd hlt hnb hvlt hone hones h31c c30
  go_enter Try.func34, Try.ntmps34
  go_wp2_with fail
  generalize w.alloc (.cells (lyA k.id k.look kp kf kb kk) 45) = W1 at *
  have Hrg : Hid (W1.rangeAt w.heap.size 0 (lyA k.id k.look kp kf kb kk).toList) := Lib.hid (Blk.range (pre := []) (post := []) HB.out (by simp) rfl)
  have HNv : Hid (¬ ((Value.slice p s.kids.length cap).ownBlock = some w.heap.size ∨ w.heap.size = b)) := Lib.hid (fun e => e.elim (fun e => absurd (Hvlt.out _ e).1 (Nat.lt_irrefl _)) (fun e => by have := Hlt.out; omega))
  have HMq := Lib.hid (HMa.out.trans' (Gou.Mod.drew (fun _ => False) W1))
  refine wp_region_held_drew (S := fun w' => Gou.Mod (fun k => (Value.slice p s.kids.length cap).ownBlock = some k ∨ k = b) W1 w') (by kernel_rfl) (Gou.Mod.drew _ _) (fun hHeld => ?_)
  refine wpAnyH_take (i := 0) (oi := ({ dst := some 6, op := Op.move (Operand.tmp 0), type := 71, pos := "scene.go:138", after := #[], guard := none } : Oper)) (v := .pointer (some ⟨b, o, none⟩)) rfl (by kernel_rfl) (by kernel_rfl) (by kernel_rfl) (fun _ _ _ h => h) (Or.inl ⟨by rfl, ?_⟩) hHeld ?_
  · (intro w' hSw; (try dsimp only at hSw); clear hSw hHeld; go_simp; (try with_reducible rfl))
  try simp only [Act.put, List.setIfInBounds_toArray, List.set_cons_zero, List.set_cons_succ]
  refine wpAnyH_take (i := 1) (oi := ({ dst := some 7, op := Op.move (Operand.tmp 0), type := 71, pos := "scene.go:138", after := #[], guard := none } : Oper)) (v := .pointer (some ⟨b, o, none⟩)) rfl (by kernel_rfl) (by kernel_rfl) (by kernel_rfl) (fun _ _ _ h => h) (Or.inl ⟨by rfl, ?_⟩) hHeld ?_
  · (intro w' hSw; (try dsimp only at hSw); clear hSw hHeld; go_simp; (try with_reducible rfl))
  try simp only [Act.put, List.setIfInBounds_toArray, List.set_cons_zero, List.set_cons_succ]
  refine wpAnyH_take (i := 2) (oi := ({ dst := some 8, op := Op.nilCheck (Operand.tmp 7), type := 0, pos := "scene.go:138", after := #[{ on := 1, ground := Ground.data }], guard := none } : Oper)) (v := .pointer (some ⟨b, o, none⟩)) rfl (by kernel_rfl) (by kernel_rfl) (by kernel_rfl) (fun _ _ _ h => h) (Or.inl ⟨by rfl, ?_⟩) hHeld ?_
  · (intro w' hSw; (try dsimp only at hSw); clear hSw hHeld; go_simp; (try with_reducible rfl))
  try simp only [Act.put, List.setIfInBounds_toArray, List.set_cons_zero, List.set_cons_succ]
  refine wpAnyH_take (i := 3) (oi := ({ dst := some 9, op := Op.fieldAddr 45 (Operand.tmp 8) 2, type := 0, pos := "scene.go:138", after := #[{ on := 2, ground := Ground.data }], guard := none } : Oper)) (v := .pointer (some ⟨b, o + 30, none⟩)) rfl (by kernel_rfl) (by kernel_rfl) (by kernel_rfl) (fun _ _ _ h => h) (Or.inl ⟨by rfl, ?_⟩) hHeld ?_
  · (intro w' hSw; (try dsimp only at hSw); clear hSw hHeld; go_simp; (try with_reducible rfl))
  try simp only [Act.put, List.setIfInBounds_toArray, List.set_cons_zero, List.set_cons_succ]
  refine wpAnyH_take (i := 5) (oi := ({ dst := some 11, op := Op.move (Operand.tmp 1), type := 3, pos := "scene.go:138", after := #[], guard := none } : Oper)) (v := .int .i64 i) rfl (by kernel_rfl) (by kernel_rfl) (by kernel_rfl) (fun _ _ _ h => h) (Or.inl ⟨by rfl, ?_⟩) hHeld ?_
  · (intro w' hSw; (try dsimp only at hSw); clear hSw hHeld; go_simp; (try with_reducible rfl))
  try simp only [Act.put, List.setIfInBounds_toArray, List.set_cons_zero, List.set_cons_succ]
  refine wpAnyH_take (i := 6) (oi := ({ dst := some 12, op := Op.load 45 (Operand.tmp 5), type := 45, pos := "scene.go:138", after := #[], guard := none } : Oper)) (v := .agg (lyA k.id k.look kp kf kb kk)) rfl (by kernel_rfl) (by kernel_rfl) (by kernel_rfl) (fun _ _ _ h => h) (yieldsIf_load_mid (by rfl) 45 _ rfl w.heap.size (0) rfl ((lyA k.id k.look kp kf kb kk).toList) _ (fun w' hSw => range_up Hrg.out hSw (HNv.out)) Try.underlying45 rfl size_layer) hHeld ?_
  try simp only [Act.put, List.setIfInBounds_toArray, List.set_cons_zero, List.set_cons_succ]
  refine wpAnyH_ready (rs := [4, 7]) (by kernel_rfl) (by simp) (AllReadyH.cons (o := ({ dst := some 10, op := Op.load 43 (Operand.tmp 9), type := 43, pos := "scene.go:138", after := #[{ on := 3, ground := Ground.data }], guard := none } : Oper)) rfl (fun K11 hK => ?_) (AllReadyH.cons (o := ({ dst := some 13, op := Op.buildSlice 43 1 #[(0, Operand.tmp 12)], type := 43, pos := "scene.go:138", after := #[{ on := 6, ground := Ground.data }], guard := none } : Oper)) rfl (fun K11 hK => ?_) AllReadyH.nil))
  · skip
    have g0 := (HMq.out.cell (p := ⟨b, o + 30, none⟩) Hlt.out (fun h => h)).trans Hc.out
    go_simp
    clear g0
    have M := Lib.hid hHeld
    clear hHeld
    refine hK _ _ M.out (fun hHeld => ?_)
    clear hK K11 M
    try simp only [Act.put, List.setIfInBounds_toArray, List.set_cons_zero, List.set_cons_succ]
    refine wpAnyH_ready (rs := [7]) (by kernel_rfl) (by simp) (AllReadyH.cons (o := ({ dst := some 13, op := Op.buildSlice 43 1 #[(0, Operand.tmp 12)], type := 43, pos := "scene.go:138", after := #[{ on := 6, ground := Ground.data }], guard := none } : Oper)) rfl (fun K hK => ?_) AllReadyH.nil)
    rw [if_pos (by rfl)]
    refine wp_buildRow T_ly _ rfl (lyA k.id k.look kp kf kb kk) rfl rfl (by decide) ?_
    have HB5 := Lib.hid (Blk.new W1.drew 45 (lyA k.id k.look kp kf kb kk))
    have M := Lib.hid (hHeld.trans' (Gou.Mod.alloc (fun k => (Value.slice p s.kids.length cap).ownBlock = some k ∨ k = b) W1.drew (.cells (lyA k.id k.look kp kf kb kk) 45)))
    have HN5 : Hid (w.heap.size ≤ W1.drew.heap.size) := Lib.hid HMa.out.size
    replace HMq := Lib.hid (HMq.out.trans' (Gou.Mod.alloc0 W1.drew (.cells (lyA k.id k.look kp kf kb kk) 45)))
    clear hHeld
    generalize W1.drew.alloc (.cells (lyA k.id k.look kp kf kb kk) 45) = w5 at *
    generalize W1.drew.heap.size = N5 at *
    refine hK _ _ M.out (fun hHeld => ?_)
    clear hK K M
    try simp only [Act.put, List.setIfInBounds_toArray, List.set_cons_zero, List.set_cons_succ]
    refine wpAnyH_ready (rs := [8]) (by kernel_rfl) (by simp) (AllReadyH.cons (o := ({ dst := some 14, op := Op.call { callee := Callee.value (Operand.func 48), args := #[Operand.tmp 10, Operand.tmp 11, Operand.tmp 13], argTypes := #[43, 3, 43] }, type := 43, pos := "scene.go:138", after := #[{ on := 4, ground := Ground.data }, { on := 5, ground := Ground.data }, { on := 7, ground := Ground.data }], guard := none } : Oper)) rfl (fun K hK => ?_) AllReadyH.nil)
    go_simp
    refine (insert_any w5 base N5 s.kids.length cap i p css.flatten (lyA k.id k.look kp kf kb kk).toList (by have := Hd.out.ge; have := Hlt.out; have := HMq.out.size; omega) (own_up Hd.out.h5 HMq.out) (by rw [Array.toArray_toList]; exact HB5.out) (fun g hg e => by have := (Hvlt.out g hg).1; have := HN5.out; omega) rfl Hone.out Hones.out Hi.out Hn.out).mono ?_
    rintro e w7 ⟨q7, c7, rfl, hg7⟩
    have M := Lib.hid (hHeld.trans' (hg7.mod.imp (fun _ _ h => .inl h)))
    have HG7 := Lib.hid hg7
    have HB7 := Lib.hid (Blk.mod (Hd.out.up HMq.out).h1 hg7.mod Hnb.out)
    clear hHeld hg7
    refine hK _ _ M.out (fun hHeld => ?_)
    clear hK K M
    try simp only [Act.put, List.setIfInBounds_toArray, List.set_cons_zero, List.set_cons_succ]
    refine wpAnyH_take (i := 9) (oi := ({ dst := some 15, op := Op.nilCheck (Operand.tmp 6), type := 0, pos := "scene.go:138", after := #[{ on := 0, ground := Ground.data }, { on := 0, ground := Ground.phase }, { on := 1, ground := Ground.phase }, { on := 2, ground := Ground.phase }, { on := 3, ground := Ground.phase }, { on := 4, ground := Ground.phase }, { on := 5, ground := Ground.phase }, { on := 6, ground := Ground.phase }, { on := 7, ground := Ground.phase }, { on := 8, ground := Ground.phase }], guard := none } : Oper)) (v := .pointer (some ⟨b, o, none⟩)) rfl (by kernel_rfl) (by kernel_rfl) (by kernel_rfl) (fun _ _ _ h => h) (Or.inl ⟨by rfl, ?_⟩) hHeld ?_
    · (intro w' hSw; (try dsimp only at hSw); clear hSw hHeld; go_simp; (try with_reducible rfl))
    try simp only [Act.put, List.setIfInBounds_toArray, List.set_cons_zero, List.set_cons_succ]
    refine wpAnyH_take (i := 10) (oi := ({ dst := some 16, op := Op.fieldAddr 45 (Operand.tmp 15) 2, type := 0, pos := "scene.go:138", after := #[{ on := 9, ground := Ground.data }, { on := 0, ground := Ground.phase }, { on := 1, ground := Ground.phase }, { on := 2, ground := Ground.phase }, { on := 3, ground := Ground.phase }, { on := 4, ground := Ground.phase }, { on := 5, ground := Ground.phase }, { on := 6, ground := Ground.phase }, { on := 7, ground := Ground.phase }, { on := 8, ground := Ground.phase }], guard := none } : Oper)) (v := .pointer (some ⟨b, o + 30, none⟩)) rfl (by kernel_rfl) (by kernel_rfl) (by kernel_rfl) (fun _ _ _ h => h) (Or.inl ⟨by rfl, ?_⟩) hHeld ?_
    · (intro w' hSw; (try dsimp only at hSw); clear hSw hHeld; go_simp; (try with_reducible rfl))
    try simp only [Act.put, List.setIfInBounds_toArray, List.set_cons_zero, List.set_cons_succ]
    refine wpAnyH_ready (rs := [11]) (by kernel_rfl) (by simp) (AllReadyH.cons (o := ({ dst := none, op := Op.store 43 (Operand.tmp 16) (Operand.tmp 14), type := 0, pos := "scene.go:138", after := #[{ on := 10, ground := Ground.data }, { on := 8, ground := Ground.data }, { on := 8, ground := Ground.chain }, { on := 0, ground := Ground.phase }, { on := 1, ground := Ground.phase }, { on := 2, ground := Ground.phase }, { on := 3, ground := Ground.phase }, { on := 4, ground := Ground.phase }, { on := 5, ground := Ground.phase }, { on := 6, ground := Ground.phase }, { on := 7, ground := Ground.phase }, { on := 8, ground := Ground.phase }], guard := none } : Oper)) rfl (fun K hK => ?_) AllReadyH.nil)
    have f7 := HB7.out.frozen (o + 30)
    have o7 : ∃ u, w7.cell? ⟨b, o + 30, none⟩ = some u := ⟨_, HB7.out.cell (o + 30) (by rw [Hd.out.h3 30 (by omega)]; rfl)⟩
    obtain ⟨u7, o7⟩ := o7
    go_simp
    clear f7 o7
    have M := Lib.hid (hHeld.trans' ((Gou.Mod.set1 w7 b (o + 30) (.slice q7 (s.kids.length + 1) c7)).imp (fun _ _ h => .inr h)))
    clear hHeld
    refine hK _ _ M.out (fun hHeld => ?_)
    clear hK K M
    try simp only [Act.put, List.setIfInBounds_toArray, List.set_cons_zero, List.set_cons_succ]
    have MS := Lib.hid hHeld
    refine wpAnyH_done (by kernel_rfl) ?_ _
    clear hHeld
    try simp only [Act.put]
    obtain ⟨F2, hT2, hF2, hx2⟩ := Hd.out.insert HMq.out (Hk.out.up HMq.out) Hf.out Hi.out HG7.out
    have HT2 := Lib.hid hT2
    have HF2 := Lib.hid hF2
    have HX2 := Lib.hid hx2
    clear hT2 hF2 hx2 Hd Hk HG7 MS
    go_wp2_with fail
    go_end0
    exact ⟨rfl, F2, HT2.out, HF2.out, HX2.out⟩
  · skip
    rw [if_pos (by rfl)]
    refine wp_buildRow T_ly _ rfl (lyA k.id k.look kp kf kb kk) rfl rfl (by decide) ?_
    have HB5 := Lib.hid (Blk.new W1.drew 45 (lyA k.id k.look kp kf kb kk))
    have M := Lib.hid (hHeld.trans' (Gou.Mod.alloc (fun k => (Value.slice p s.kids.length cap).ownBlock = some k ∨ k = b) W1.drew (.cells (lyA k.id k.look kp kf kb kk) 45)))
    have HN5 : Hid (w.heap.size ≤ W1.drew.heap.size) := Lib.hid HMa.out.size
    replace HMq := Lib.hid (HMq.out.trans' (Gou.Mod.alloc0 W1.drew (.cells (lyA k.id k.look kp kf kb kk) 45)))
    clear hHeld
    generalize W1.drew.alloc (.cells (lyA k.id k.look kp kf kb kk) 45) = w5 at *
    generalize W1.drew.heap.size = N5 at *
    refine hK _ _ M.out (fun hHeld => ?_)
    clear hK K11 M
    try simp only [Act.put, List.setIfInBounds_toArray, List.set_cons_zero, List.set_cons_succ]
    refine wpAnyH_ready (rs := [4]) (by kernel_rfl) (by simp) (AllReadyH.cons (o := ({ dst := some 10, op := Op.load 43 (Operand.tmp 9), type := 43, pos := "scene.go:138", after := #[{ on := 3, ground := Ground.data }], guard := none } : Oper)) rfl (fun K hK => ?_) AllReadyH.nil)
    have g0 := (HMq.out.cell (p := ⟨b, o + 30, none⟩) Hlt.out (fun h => h)).trans Hc.out
    go_simp
    clear g0
    have M := Lib.hid hHeld
    clear hHeld
    refine hK _ _ M.out (fun hHeld => ?_)
    clear hK K M
    try simp only [Act.put, List.setIfInBounds_toArray, List.set_cons_zero, List.set_cons_succ]
    refine wpAnyH_ready (rs := [8]) (by kernel_rfl) (by simp) (AllReadyH.cons (o := ({ dst := some 14, op := Op.call { callee := Callee.value (Operand.func 48), args := #[Operand.tmp 10, Operand.tmp 11, Operand.tmp 13], argTypes := #[43, 3, 43] }, type := 43, pos := "scene.go:138", after := #[{ on := 4, ground := Ground.data }, { on := 5, ground := Ground.data }, { on := 7, ground := Ground.data }], guard := none } : Oper)) rfl (fun K hK => ?_) AllReadyH.nil)
    go_simp
    refine (insert_any w5 base N5 s.kids.length cap i p css.flatten (lyA k.id k.look kp kf kb kk).toList (by have := Hd.out.ge; have := Hlt.out; have := HMq.out.size; omega) (own_up Hd.out.h5 HMq.out) (by rw [Array.toArray_toList]; exact HB5.out) (fun g hg e => by have := (Hvlt.out g hg).1; have := HN5.out; omega) rfl Hone.out Hones.out Hi.out Hn.out).mono ?_
    rintro e w7 ⟨q7, c7, rfl, hg7⟩
    have M := Lib.hid (hHeld.trans' (hg7.mod.imp (fun _ _ h => .inl h)))
    have HG7 := Lib.hid hg7
    have HB7 := Lib.hid (Blk.mod (Hd.out.up HMq.out).h1 hg7.mod Hnb.out)
    clear hHeld hg7
    refine hK _ _ M.out (fun hHeld => ?_)
    clear hK K M
    try simp only [Act.put, List.setIfInBounds_toArray, List.set_cons_zero, List.set_cons_succ]
    refine wpAnyH_take (i := 9) (oi := ({ dst := some 15, op := Op.nilCheck (Operand.tmp 6), type := 0, pos := "scene.go:138", after := #[{ on := 0, ground := Ground.data }, { on := 0, ground := Ground.phase }, { on := 1, ground := Ground.phase }, { on := 2, ground := Ground.phase }, { on := 3, ground := Ground.phase }, { on := 4, ground := Ground.phase }, { on := 5, ground := Ground.phase }, { on := 6, ground := Ground.phase }, { on := 7, ground := Ground.phase }, { on := 8, ground := Ground.phase }], guard := none } : Oper)) (v := .pointer (some ⟨b, o, none⟩)) rfl (by kernel_rfl) (by kernel_rfl) (by kernel_rfl) (fun _ _ _ h => h) (Or.inl ⟨by rfl, ?_⟩) hHeld ?_
    · (intro w' hSw; (try dsimp only at hSw); clear hSw hHeld; go_simp; (try with_reducible rfl))
    try simp only [Act.put, List.setIfInBounds_toArray, List.set_cons_zero, List.set_cons_succ]
    refine wpAnyH_take (i := 10) (oi := ({ dst := some 16, op := Op.fieldAddr 45 (Operand.tmp 15) 2, type := 0, pos := "scene.go:138", after := #[{ on := 9, ground := Ground.data }, { on := 0, ground := Ground.phase }, { on := 1, ground := Ground.phase }, { on := 2, ground := Ground.phase }, { on := 3, ground := Ground.phase }, { on := 4, ground := Ground.phase }, { on := 5, ground := Ground.phase }, { on := 6, ground := Ground.phase }, { on := 7, ground := Ground.phase }, { on := 8, ground := Ground.phase }], guard := none } : Oper)) (v := .pointer (some ⟨b, o + 30, none⟩)) rfl (by kernel_rfl) (by kernel_rfl) (by kernel_rfl) (fun _ _ _ h => h) (Or.inl ⟨by rfl, ?_⟩) hHeld ?_
    · (intro w' hSw; (try dsimp only at hSw); clear hSw hHeld; go_simp; (try with_reducible rfl))
    try simp only [Act.put, List.setIfInBounds_toArray, List.set_cons_zero, List.set_cons_succ]
    refine wpAnyH_ready (rs := [11]) (by kernel_rfl) (by simp) (AllReadyH.cons (o := ({ dst := none, op := Op.store 43 (Operand.tmp 16) (Operand.tmp 14), type := 0, pos := "scene.go:138", after := #[{ on := 10, ground := Ground.data }, { on := 8, ground := Ground.data }, { on := 8, ground := Ground.chain }, { on := 0, ground := Ground.phase }, { on := 1, ground := Ground.phase }, { on := 2, ground := Ground.phase }, { on := 3, ground := Ground.phase }, { on := 4, ground := Ground.phase }, { on := 5, ground := Ground.phase }, { on := 6, ground := Ground.phase }, { on := 7, ground := Ground.phase }, { on := 8, ground := Ground.phase }], guard := none } : Oper)) rfl (fun K hK => ?_) AllReadyH.nil)
    have f7 := HB7.out.frozen (o + 30)
    have o7 : ∃ u, w7.cell? ⟨b, o + 30, none⟩ = some u := ⟨_, HB7.out.cell (o + 30) (by rw [Hd.out.h3 30 (by omega)]; rfl)⟩
    obtain ⟨u7, o7⟩ := o7
    go_simp
    clear f7 o7
    have M := Lib.hid (hHeld.trans' ((Gou.Mod.set1 w7 b (o + 30) (.slice q7 (s.kids.length + 1) c7)).imp (fun _ _ h => .inr h)))
    clear hHeld
    refine hK _ _ M.out (fun hHeld => ?_)
    clear hK K M
    try simp only [Act.put, List.setIfInBounds_toArray, List.set_cons_zero, List.set_cons_succ]
    have MS := Lib.hid hHeld
    refine wpAnyH_done (by kernel_rfl) ?_ _
    clear hHeld
    try simp only [Act.put]
    obtain ⟨F2, hT2, hF2, hx2⟩ := Hd.out.insert HMq.out (Hk.out.up HMq.out) Hf.out Hi.out HG7.out
    have HT2 := Lib.hid hT2
    have HF2 := Lib.hid hF2
    have HX2 := Lib.hid hx2
    clear hT2 hF2 hx2 Hd Hk HG7 MS
    go_wp2_with fail
    go_end0
    exact ⟨rfl, F2, HT2.out, HF2.out, HX2.out⟩

end Go.Proofs.Ytpbmfalokongfaa

