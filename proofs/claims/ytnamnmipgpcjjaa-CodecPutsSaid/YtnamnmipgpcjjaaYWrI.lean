/- Texts of the codec's proofs, laid together: WrI. -/
import Derived.Test.YtnamnmipgpcjjaaYWrH
import Derived.RegionDies
set_option linter.unusedSimpArgs false
set_option linter.unusedVariables false
set_option linter.unusedSectionVars false
set_option linter.constructorNameAsVariable false

/- Acts as bytes: an act of kind 13 is written. -/
namespace Go.Proofs.Ytnamnmipgpcjjaa
open Go.RowKit Go.Gou

set_option linter.constructorNameAsVariable false
set_option maxRecDepth 100000

set_option maxHeartbeats 2000000 in
theorem wact_13 (w : World) (W : Nat) (bs : List Nat) (vs : Value) (p1 : Option Addr) (k1 : Nat) (p2 : Option Addr) (k2 : Nat) (p3 : Option Addr) (k3 : Nat) (a : Ac) (hk : a.kind = (13 : Nat)) (h : Wr w W bs vs) (hx : LookR (fun b => b < W) w a.op.look (.slice p1 a.op.look.content.pix.length k1) (.slice p2 a.op.look.filt.nodes.length k2) (.slice p3 a.op.look.back.nodes.length k3)) (hl : bs.length ≤ 600000000) :
    Calls Try.prog 21 #[.pointer (some ⟨W, 0, none⟩), .agg (AcA a p1 p2 p3 k1 k2 k3)] w (WrP w W bs vs (encAct a)) := by
  have H := Lib.hid h
  have HB0 : Hid (Blk (w.alloc (.cells (AcA a p1 p2 p3 k1 k2 k3) 41)) w.heap.size 41 (AcA a p1 p2 p3 k1 k2 k3)) := Lib.hid (heap_alloc_new w _)
  have HW0 : Hid (Wr (w.alloc (.cells (AcA a p1 p2 p3 k1 k2 k3) 41)) W bs vs) := Lib.hid (h.alloc _)
  have HT0 : Hid (WTo W w vs (w.alloc (.cells (AcA a p1 p2 p3 k1 k2 k3) 41)) vs) := Lib.hid (WTo.other (Gou.Mod.alloc _ _ _) vs)
  have HR0 : Hid (LookR (fun b => b < W) (w.alloc (.cells (AcA a p1 p2 p3 k1 k2 k3) 41)) a.op.look (.slice p1 a.op.look.content.pix.length k1) (.slice p2 a.op.look.filt.nodes.length k2) (.slice p3 a.op.look.back.nodes.length k3)) := Lib.hid (hx.mod (Gou.Mod.alloc (fun _ => False) _ _) (fun _ _ _ h => h))
  have HS0 : Hid (((w.alloc (.cells (AcA a p1 p2 p3 k1 k2 k3) 41))).heap.size = w.heap.size + 1) := Lib.hid (by simp)
  have hWlt := Blk.lt h.box
  have hvs := fun k hk => (H.out.own.lt k hk).2
  have Hvs := Lib.hid hvs
  clear h hx hvs
  have HK := Lib.hid hk
  clear hk
  have kc : ((w.alloc (.cells (AcA a p1 p2 p3 k1 k2 k3) 41))).cell? ⟨w.heap.size, 0, none⟩ = some (.int .i64 (13 : Nat)) := by rw [← HK.out]; exact HB0.out.cell 0 rfl
  have e1 : decide (1 ≤ ((13 : Nat) : Int)) = true := by simp <;> omega
  have e2 : decide (((13 : Nat) : Int) ≤ 14) = true := by simp <;> omega
  have eu : IntKind.u8.wrap ((13 : Nat) : Int) = 13 := IntWalk.u8_in _ (by omega)
  obtain ⟨i0, hi0, hz0, hz1, hz2⟩ := info_parts info_u8
  obtain ⟨pv, cv, rfl⟩ := ownsRow_form H.out.own
  go_enter Try.func21, Try.ntmps21
  go_wp2_with fail
  generalize hW0 : (w.alloc (.cells (AcA a p1 p2 p3 k1 k2 k3) 41)) = w0 at *
  clear hW0
  refine (must_true _).mono ?_
  rintro e w' ⟨rfl, hww⟩
  obtain rfl : w0 = w' := hww.symm
  clear hww
  have cW := HW0.out.box.cell 0 rfl
  have fW := HW0.out.box.frozen 0
  have hWl0 := Blk.lt HW0.out.box
  have HM : Hid (Gou.Mod (fun _ => False) w0 (w0.drew.alloc (.cells #[.int .u8 (13 : Nat)] 5))) := Lib.hid ((Gou.Mod.drew _ _).trans' (Gou.Mod.alloc (fun _ => False) _ _))
  have Hown : Hid (((w0.drew.alloc (.cells #[.int .u8 (13 : Nat)] 5))).ownsRow (W + 1) 5 1 (.slice pv bs.length cv) bs.length (u8s bs)) := Lib.hid (ownsRow_mod HW0.out.own HM.out (fun _ _ h => h))
  go_wp2_with fail
  go_region_law (first | (refine step_append_lies _ (by rfl) _ _ _ (by rfl) (W + 1) 5 i0 (.int .u8 0) 1 1 Try.underlying44 hi0 hz0 hz1 hz2 rfl (by omega) (.slice pv bs.length cv) bs.length (u8s bs) (by rfl) Hown.out ⟨_, 0, none⟩ 1 _ [.int .u8 (13 : Nat)] (by rfl) (by rfl) (news_at (cs := #[.int .u8 (13 : Nat)]) (t := 5) (fr := (0, 0)) (heap_at rfl) rfl) (by simp [Value.oneCell']) (by omega) (by unfold maxLen; omega) (by omega) (by simp; omega) _ rfl ?_; intro gg cp w4 hown4 hgrow4 hat4 hlt4; have hcf4 := HW0.out.mids HM.out hgrow4; obtain ⟨c4, f4⟩ := hcf4) | fail)
  · have hP := HW0.out.pushes (ys := [13]) rfl HM.out hown4 hgrow4 hat4
    have HW4 : Hid (Wr (w4.setCell ⟨W, 0, none⟩ (.slice (some ⟨gg, 0, none⟩) (bs.length + 1) cp)) W (bs ++ [13]) (.slice (some ⟨gg, 0, none⟩) (bs.length + 1) cp)) := Lib.hid hP.1
    have T4 : Hid (WTo W w (.slice pv bs.length cv) (w4.setCell ⟨W, 0, none⟩ (.slice (some ⟨gg, 0, none⟩) (bs.length + 1) cp)) (.slice (some ⟨gg, 0, none⟩) (bs.length + 1) cp)) := Lib.hid (HT0.out.trans hP.2)
    have HB4 : Hid (Blk (w4.setCell ⟨W, 0, none⟩ (.slice (some ⟨gg, 0, none⟩) (bs.length + 1) cp)) w.heap.size 41 (AcA a p1 p2 p3 k1 k2 k3)) := Lib.hid (HB0.out.mod hP.2.mod (fun e => by
      rcases e with e | e
      · omega
      · have := Hvs.out _ e; omega))
    have HR4 : Hid (LookR (fun b => b < W) (w4.setCell ⟨W, 0, none⟩ (.slice (some ⟨gg, 0, none⟩) (bs.length + 1) cp)) a.op.look (.slice p1 a.op.look.content.pix.length k1) (.slice p2 a.op.look.filt.nodes.length k2) (.slice p3 a.op.look.back.nodes.length k3)) := Lib.hid (HR0.out.mod (WTo.far hP.2 HW0.out) (fun k _ hG hk => by omega))
    have HS4 : Hid (((w4.setCell ⟨W, 0, none⟩ (.slice (some ⟨gg, 0, none⟩) (bs.length + 1) cp))).heap.size = w4.heap.size) := Lib.hid (by simp)
    have kd : ((w4.setCell ⟨W, 0, none⟩ (.slice (some ⟨gg, 0, none⟩) (bs.length + 1) cp))).cell? ⟨w.heap.size, 0, none⟩ = some (.int .i64 (13 : Nat)) := by rw [← HK.out]; exact HB4.out.cell 0 rfl
    have q37 : ((w4.setCell ⟨W, 0, none⟩ (.slice (some ⟨gg, 0, none⟩) (bs.length + 1) cp))).cell? ⟨w.heap.size, 37, none⟩ = some (.bool a.conf.fuse) := HB4.out.cell 37 rfl
    have q38 : ((w4.setCell ⟨W, 0, none⟩ (.slice (some ⟨gg, 0, none⟩) (bs.length + 1) cp))).cell? ⟨w.heap.size, 38, none⟩ = some (.bool a.conf.alias) := HB4.out.cell 38 rfl
    have q39 : ((w4.setCell ⟨W, 0, none⟩ (.slice (some ⟨gg, 0, none⟩) (bs.length + 1) cp))).cell? ⟨w.heap.size, 39, none⟩ = some (.bool a.conf.roi) := HB4.out.cell 39 rfl
    have q40 : ((w4.setCell ⟨W, 0, none⟩ (.slice (some ⟨gg, 0, none⟩) (bs.length + 1) cp))).cell? ⟨w.heap.size, 40, none⟩ = some (.bool a.conf.damage) := HB4.out.cell 40 rfl
    have q41 : ((w4.setCell ⟨W, 0, none⟩ (.slice (some ⟨gg, 0, none⟩) (bs.length + 1) cp))).cell? ⟨w.heap.size, 41, none⟩ = some (.int .i64 a.conf.room) := HB4.out.cell 41 rfl
    clear hP hown4 hgrow4 hat4 hlt4 c4 f4 kc cW fW
    go_wp2_with fail
    generalize hW4 : (w4.setCell ⟨W, 0, none⟩ (.slice (some ⟨gg, 0, none⟩) (bs.length + 1) cp)) = wq at *
    clear hW4
    have hBq := Blk.lt HB4.out
    have HBd : Hid (Blk wq.drew w.heap.size 41 (AcA a p1 p2 p3 k1 k2 k3)) := Lib.hid (HB4.out.mod (Gou.Mod.drew (fun _ => False) wq) (fun h => h))
    have hfl : ∀ w1 : World, Calls Try.prog 31 #[.agg #[.bool a.conf.fuse, .bool a.conf.alias, .bool a.conf.roi, .bool a.conf.damage, .int .i64 a.conf.room]] w1 fun e w' => e = .returned (.int .i64 (flagsOf a.conf)) ∧ Gou.Mod (fun _ => False) w1 w' := fun w1 => wflags_any w1 a.conf
    have Hfl := Lib.hid hfl
    clear hfl
    go_region_dies
    · refine (Hfl.out _).mono ?_
      rintro e w5 ⟨rfl, hm5⟩
      have hmq : Gou.Mod (fun _ => False) wq w5 := (Gou.Mod.drew _ _).trans' hm5
      have HW5 : Hid (Wr w5 W _ (.slice (some ⟨gg, 0, none⟩) (bs.length + 1) cp)) := Lib.hid (HW4.out.other hmq (fun h => h) (fun _ _ h => h))
      have T5 := Lib.hid (T4.out.trans (WTo.other hmq (.slice (some ⟨gg, 0, none⟩) (bs.length + 1) cp)))
      have q41 : w5.cell? ⟨w.heap.size, 41, none⟩ = some (.int .i64 a.conf.room) := (HBd.out.mod hm5 (fun h => h)).cell 41 rfl
      rename_i K1 hK1
      refine hK1 _ _ ?_
      clear hK1 K1
      refine wpAny_ready (rs := [6]) (by kernel_rfl) (by simp) ?_
      refine AllReady.cons rfl (fun K4 hK4 => ?_) AllReady.nil
      go_simp
      refine hK4 _ _ ?_
      clear hK4 K4
      refine wpAny_ready (rs := [7]) (by kernel_rfl) (by simp) ?_
      refine AllReady.cons rfl (fun K2 hK2 => ?_) AllReady.nil
      go_simp
      refine hK2 _ _ ?_
      clear hK2 K2
      refine wpAny_ready (rs := [8]) (by kernel_rfl) (by simp) ?_
      refine AllReady.cons rfl (fun K3 hK3 => ?_) AllReady.nil
      go_simp
      refine (numbers_any _ W _ (.slice (some ⟨gg, 0, none⟩) (bs.length + 1) cp) _ [flagsOf a.conf, a.conf.room] (HW5.out.alloc _) (HW5.out.lit [flagsOf a.conf, a.conf.room] _ rfl 2 rfl _ (by first | rfl | simp)) (by (try simp only [List.length_append, List.length_cons, List.length_nil] at *); omega)).mono ?_
      rintro e w6 ⟨v6, t6, h6⟩
      have T6 := Lib.hid ((T5.out.trans (WTo.other (Gou.Mod.alloc _ _ _) (.slice (some ⟨gg, 0, none⟩) (bs.length + 1) cp))).trans t6)
      rcases hen : encNums [flagsOf a.conf, a.conf.room] with _ | es
      · rw [hen] at h6
        subst h6
        exact ⟨rfl, v6, T6.out, by have hk := HK.out; simp [encAct, hk, hen]⟩
      rw [hen] at h6
      obtain ⟨rfl, hw6⟩ := h6
      have Hen := Lib.hid hen
      have Hw6 := Lib.hid hw6
      clear hen hw6
      refine hK3 _ _ ?_
      clear hK3 K3
      refine wpAny_done (by kernel_rfl) ?_ _
      go_wp2_with fail
      go_end0
      exact ⟨v6, T6.out, by
        have hk := HK.out
        have hen := Hen.out
        simp [encAct, hk, hen]
        simpa using Hw6.out⟩
    · refine (Hfl.out _).mono ?_
      rintro e w5 ⟨rfl, hm5⟩
      have hmq : Gou.Mod (fun _ => False) wq w5 := (Gou.Mod.drew _ _).trans' hm5
      have HW5 : Hid (Wr w5 W _ (.slice (some ⟨gg, 0, none⟩) (bs.length + 1) cp)) := Lib.hid (HW4.out.other hmq (fun h => h) (fun _ _ h => h))
      have T5 := Lib.hid (T4.out.trans (WTo.other hmq (.slice (some ⟨gg, 0, none⟩) (bs.length + 1) cp)))
      have q41 : w5.cell? ⟨w.heap.size, 41, none⟩ = some (.int .i64 a.conf.room) := (HBd.out.mod hm5 (fun h => h)).cell 41 rfl
      rename_i K1 hK1
      refine hK1 _ _ ?_
      clear hK1 K1
      refine wpAny_ready (rs := [7]) (by kernel_rfl) (by simp) ?_
      refine AllReady.cons rfl (fun K2 hK2 => ?_) AllReady.nil
      go_simp
      refine hK2 _ _ ?_
      clear hK2 K2
      refine wpAny_ready (rs := [8]) (by kernel_rfl) (by simp) ?_
      refine AllReady.cons rfl (fun K3 hK3 => ?_) AllReady.nil
      go_simp
      refine (numbers_any _ W _ (.slice (some ⟨gg, 0, none⟩) (bs.length + 1) cp) _ [flagsOf a.conf, a.conf.room] (HW5.out.alloc _) (HW5.out.lit [flagsOf a.conf, a.conf.room] _ rfl 2 rfl _ (by first | rfl | simp)) (by (try simp only [List.length_append, List.length_cons, List.length_nil] at *); omega)).mono ?_
      rintro e w6 ⟨v6, t6, h6⟩
      have T6 := Lib.hid ((T5.out.trans (WTo.other (Gou.Mod.alloc _ _ _) (.slice (some ⟨gg, 0, none⟩) (bs.length + 1) cp))).trans t6)
      rcases hen : encNums [flagsOf a.conf, a.conf.room] with _ | es
      · rw [hen] at h6
        subst h6
        exact ⟨rfl, v6, T6.out, by have hk := HK.out; simp [encAct, hk, hen]⟩
      rw [hen] at h6
      obtain ⟨rfl, hw6⟩ := h6
      have Hen := Lib.hid hen
      have Hw6 := Lib.hid hw6
      clear hen hw6
      refine hK3 _ _ ?_
      clear hK3 K3
      refine wpAny_done (by kernel_rfl) ?_ _
      go_wp2_with fail
      go_end0
      exact ⟨v6, T6.out, by
        have hk := HK.out
        have hen := Hen.out
        simp [encAct, hk, hen]
        simpa using Hw6.out⟩
    · refine (Hfl.out _).mono ?_
      rintro e w5 ⟨rfl, hm5⟩
      have hmq : Gou.Mod (fun _ => False) wq w5 := (Gou.Mod.drew _ _).trans' hm5
      have HW5 : Hid (Wr w5 W _ (.slice (some ⟨gg, 0, none⟩) (bs.length + 1) cp)) := Lib.hid (HW4.out.other hmq (fun h => h) (fun _ _ h => h))
      have T5 := Lib.hid (T4.out.trans (WTo.other hmq (.slice (some ⟨gg, 0, none⟩) (bs.length + 1) cp)))
      have q41 : w5.cell? ⟨w.heap.size, 41, none⟩ = some (.int .i64 a.conf.room) := (HBd.out.mod hm5 (fun h => h)).cell 41 rfl
      rename_i K1 hK1
      refine hK1 _ _ ?_
      clear hK1 K1
      refine wpAny_ready (rs := [7]) (by kernel_rfl) (by simp) ?_
      refine AllReady.cons rfl (fun K2 hK2 => ?_) AllReady.nil
      go_simp
      refine hK2 _ _ ?_
      clear hK2 K2
      refine wpAny_ready (rs := [8]) (by kernel_rfl) (by simp) ?_
      refine AllReady.cons rfl (fun K3 hK3 => ?_) AllReady.nil
      go_simp
      refine (numbers_any _ W _ (.slice (some ⟨gg, 0, none⟩) (bs.length + 1) cp) _ [flagsOf a.conf, a.conf.room] (HW5.out.alloc _) (HW5.out.lit [flagsOf a.conf, a.conf.room] _ rfl 2 rfl _ (by first | rfl | simp)) (by (try simp only [List.length_append, List.length_cons, List.length_nil] at *); omega)).mono ?_
      rintro e w6 ⟨v6, t6, h6⟩
      have T6 := Lib.hid ((T5.out.trans (WTo.other (Gou.Mod.alloc _ _ _) (.slice (some ⟨gg, 0, none⟩) (bs.length + 1) cp))).trans t6)
      rcases hen : encNums [flagsOf a.conf, a.conf.room] with _ | es
      · rw [hen] at h6
        subst h6
        exact ⟨rfl, v6, T6.out, by have hk := HK.out; simp [encAct, hk, hen]⟩
      rw [hen] at h6
      obtain ⟨rfl, hw6⟩ := h6
      have Hen := Lib.hid hen
      have Hw6 := Lib.hid hw6
      clear hen hw6
      refine hK3 _ _ ?_
      clear hK3 K3
      refine wpAny_done (by kernel_rfl) ?_ _
      go_wp2_with fail
      go_end0
      exact ⟨v6, T6.out, by
        have hk := HK.out
        have hen := Hen.out
        simp [encAct, hk, hen]
        simpa using Hw6.out⟩
  · have hP := HW0.out.pushes (ys := [13]) rfl HM.out hown4 hgrow4 hat4
    have HW4 : Hid (Wr (w4.setCell ⟨W, 0, none⟩ (.slice (some ⟨gg, 0, none⟩) (bs.length + 1) cp)) W (bs ++ [13]) (.slice (some ⟨gg, 0, none⟩) (bs.length + 1) cp)) := Lib.hid hP.1
    have T4 : Hid (WTo W w (.slice pv bs.length cv) (w4.setCell ⟨W, 0, none⟩ (.slice (some ⟨gg, 0, none⟩) (bs.length + 1) cp)) (.slice (some ⟨gg, 0, none⟩) (bs.length + 1) cp)) := Lib.hid (HT0.out.trans hP.2)
    have HB4 : Hid (Blk (w4.setCell ⟨W, 0, none⟩ (.slice (some ⟨gg, 0, none⟩) (bs.length + 1) cp)) w.heap.size 41 (AcA a p1 p2 p3 k1 k2 k3)) := Lib.hid (HB0.out.mod hP.2.mod (fun e => by
      rcases e with e | e
      · omega
      · have := Hvs.out _ e; omega))
    have HR4 : Hid (LookR (fun b => b < W) (w4.setCell ⟨W, 0, none⟩ (.slice (some ⟨gg, 0, none⟩) (bs.length + 1) cp)) a.op.look (.slice p1 a.op.look.content.pix.length k1) (.slice p2 a.op.look.filt.nodes.length k2) (.slice p3 a.op.look.back.nodes.length k3)) := Lib.hid (HR0.out.mod (WTo.far hP.2 HW0.out) (fun k _ hG hk => by omega))
    have HS4 : Hid (((w4.setCell ⟨W, 0, none⟩ (.slice (some ⟨gg, 0, none⟩) (bs.length + 1) cp))).heap.size = w4.heap.size) := Lib.hid (by simp)
    have kd : ((w4.setCell ⟨W, 0, none⟩ (.slice (some ⟨gg, 0, none⟩) (bs.length + 1) cp))).cell? ⟨w.heap.size, 0, none⟩ = some (.int .i64 (13 : Nat)) := by rw [← HK.out]; exact HB4.out.cell 0 rfl
    have q37 : ((w4.setCell ⟨W, 0, none⟩ (.slice (some ⟨gg, 0, none⟩) (bs.length + 1) cp))).cell? ⟨w.heap.size, 37, none⟩ = some (.bool a.conf.fuse) := HB4.out.cell 37 rfl
    have q38 : ((w4.setCell ⟨W, 0, none⟩ (.slice (some ⟨gg, 0, none⟩) (bs.length + 1) cp))).cell? ⟨w.heap.size, 38, none⟩ = some (.bool a.conf.alias) := HB4.out.cell 38 rfl
    have q39 : ((w4.setCell ⟨W, 0, none⟩ (.slice (some ⟨gg, 0, none⟩) (bs.length + 1) cp))).cell? ⟨w.heap.size, 39, none⟩ = some (.bool a.conf.roi) := HB4.out.cell 39 rfl
    have q40 : ((w4.setCell ⟨W, 0, none⟩ (.slice (some ⟨gg, 0, none⟩) (bs.length + 1) cp))).cell? ⟨w.heap.size, 40, none⟩ = some (.bool a.conf.damage) := HB4.out.cell 40 rfl
    have q41 : ((w4.setCell ⟨W, 0, none⟩ (.slice (some ⟨gg, 0, none⟩) (bs.length + 1) cp))).cell? ⟨w.heap.size, 41, none⟩ = some (.int .i64 a.conf.room) := HB4.out.cell 41 rfl
    clear hP hown4 hgrow4 hat4 hlt4 c4 f4 kc cW fW
    go_wp2_with fail
    generalize hW4 : (w4.setCell ⟨W, 0, none⟩ (.slice (some ⟨gg, 0, none⟩) (bs.length + 1) cp)) = wq at *
    clear hW4
    have hBq := Blk.lt HB4.out
    have HBd : Hid (Blk wq.drew w.heap.size 41 (AcA a p1 p2 p3 k1 k2 k3)) := Lib.hid (HB4.out.mod (Gou.Mod.drew (fun _ => False) wq) (fun h => h))
    have hfl : ∀ w1 : World, Calls Try.prog 31 #[.agg #[.bool a.conf.fuse, .bool a.conf.alias, .bool a.conf.roi, .bool a.conf.damage, .int .i64 a.conf.room]] w1 fun e w' => e = .returned (.int .i64 (flagsOf a.conf)) ∧ Gou.Mod (fun _ => False) w1 w' := fun w1 => wflags_any w1 a.conf
    have Hfl := Lib.hid hfl
    clear hfl
    go_region_dies
    · refine (Hfl.out _).mono ?_
      rintro e w5 ⟨rfl, hm5⟩
      have hmq : Gou.Mod (fun _ => False) wq w5 := (Gou.Mod.drew _ _).trans' hm5
      have HW5 : Hid (Wr w5 W _ (.slice (some ⟨gg, 0, none⟩) (bs.length + 1) cp)) := Lib.hid (HW4.out.other hmq (fun h => h) (fun _ _ h => h))
      have T5 := Lib.hid (T4.out.trans (WTo.other hmq (.slice (some ⟨gg, 0, none⟩) (bs.length + 1) cp)))
      have q41 : w5.cell? ⟨w.heap.size, 41, none⟩ = some (.int .i64 a.conf.room) := (HBd.out.mod hm5 (fun h => h)).cell 41 rfl
      rename_i K1 hK1
      refine hK1 _ _ ?_
      clear hK1 K1
      refine wpAny_ready (rs := [6]) (by kernel_rfl) (by simp) ?_
      refine AllReady.cons rfl (fun K4 hK4 => ?_) AllReady.nil
      go_simp
      refine hK4 _ _ ?_
      clear hK4 K4
      refine wpAny_ready (rs := [7]) (by kernel_rfl) (by simp) ?_
      refine AllReady.cons rfl (fun K2 hK2 => ?_) AllReady.nil
      go_simp
      refine hK2 _ _ ?_
      clear hK2 K2
      refine wpAny_ready (rs := [8]) (by kernel_rfl) (by simp) ?_
      refine AllReady.cons rfl (fun K3 hK3 => ?_) AllReady.nil
      go_simp
      refine (numbers_any _ W _ (.slice (some ⟨gg, 0, none⟩) (bs.length + 1) cp) _ [flagsOf a.conf, a.conf.room] (HW5.out.alloc _) (HW5.out.lit [flagsOf a.conf, a.conf.room] _ rfl 2 rfl _ (by first | rfl | simp)) (by (try simp only [List.length_append, List.length_cons, List.length_nil] at *); omega)).mono ?_
      rintro e w6 ⟨v6, t6, h6⟩
      have T6 := Lib.hid ((T5.out.trans (WTo.other (Gou.Mod.alloc _ _ _) (.slice (some ⟨gg, 0, none⟩) (bs.length + 1) cp))).trans t6)
      rcases hen : encNums [flagsOf a.conf, a.conf.room] with _ | es
      · rw [hen] at h6
        subst h6
        exact ⟨rfl, v6, T6.out, by have hk := HK.out; simp [encAct, hk, hen]⟩
      rw [hen] at h6
      obtain ⟨rfl, hw6⟩ := h6
      have Hen := Lib.hid hen
      have Hw6 := Lib.hid hw6
      clear hen hw6
      refine hK3 _ _ ?_
      clear hK3 K3
      refine wpAny_done (by kernel_rfl) ?_ _
      go_wp2_with fail
      go_end0
      exact ⟨v6, T6.out, by
        have hk := HK.out
        have hen := Hen.out
        simp [encAct, hk, hen]
        simpa using Hw6.out⟩
    · refine (Hfl.out _).mono ?_
      rintro e w5 ⟨rfl, hm5⟩
      have hmq : Gou.Mod (fun _ => False) wq w5 := (Gou.Mod.drew _ _).trans' hm5
      have HW5 : Hid (Wr w5 W _ (.slice (some ⟨gg, 0, none⟩) (bs.length + 1) cp)) := Lib.hid (HW4.out.other hmq (fun h => h) (fun _ _ h => h))
      have T5 := Lib.hid (T4.out.trans (WTo.other hmq (.slice (some ⟨gg, 0, none⟩) (bs.length + 1) cp)))
      have q41 : w5.cell? ⟨w.heap.size, 41, none⟩ = some (.int .i64 a.conf.room) := (HBd.out.mod hm5 (fun h => h)).cell 41 rfl
      rename_i K1 hK1
      refine hK1 _ _ ?_
      clear hK1 K1
      refine wpAny_ready (rs := [7]) (by kernel_rfl) (by simp) ?_
      refine AllReady.cons rfl (fun K2 hK2 => ?_) AllReady.nil
      go_simp
      refine hK2 _ _ ?_
      clear hK2 K2
      refine wpAny_ready (rs := [8]) (by kernel_rfl) (by simp) ?_
      refine AllReady.cons rfl (fun K3 hK3 => ?_) AllReady.nil
      go_simp
      refine (numbers_any _ W _ (.slice (some ⟨gg, 0, none⟩) (bs.length + 1) cp) _ [flagsOf a.conf, a.conf.room] (HW5.out.alloc _) (HW5.out.lit [flagsOf a.conf, a.conf.room] _ rfl 2 rfl _ (by first | rfl | simp)) (by (try simp only [List.length_append, List.length_cons, List.length_nil] at *); omega)).mono ?_
      rintro e w6 ⟨v6, t6, h6⟩
      have T6 := Lib.hid ((T5.out.trans (WTo.other (Gou.Mod.alloc _ _ _) (.slice (some ⟨gg, 0, none⟩) (bs.length + 1) cp))).trans t6)
      rcases hen : encNums [flagsOf a.conf, a.conf.room] with _ | es
      · rw [hen] at h6
        subst h6
        exact ⟨rfl, v6, T6.out, by have hk := HK.out; simp [encAct, hk, hen]⟩
      rw [hen] at h6
      obtain ⟨rfl, hw6⟩ := h6
      have Hen := Lib.hid hen
      have Hw6 := Lib.hid hw6
      clear hen hw6
      refine hK3 _ _ ?_
      clear hK3 K3
      refine wpAny_done (by kernel_rfl) ?_ _
      go_wp2_with fail
      go_end0
      exact ⟨v6, T6.out, by
        have hk := HK.out
        have hen := Hen.out
        simp [encAct, hk, hen]
        simpa using Hw6.out⟩
    · refine (Hfl.out _).mono ?_
      rintro e w5 ⟨rfl, hm5⟩
      have hmq : Gou.Mod (fun _ => False) wq w5 := (Gou.Mod.drew _ _).trans' hm5
      have HW5 : Hid (Wr w5 W _ (.slice (some ⟨gg, 0, none⟩) (bs.length + 1) cp)) := Lib.hid (HW4.out.other hmq (fun h => h) (fun _ _ h => h))
      have T5 := Lib.hid (T4.out.trans (WTo.other hmq (.slice (some ⟨gg, 0, none⟩) (bs.length + 1) cp)))
      have q41 : w5.cell? ⟨w.heap.size, 41, none⟩ = some (.int .i64 a.conf.room) := (HBd.out.mod hm5 (fun h => h)).cell 41 rfl
      rename_i K1 hK1
      refine hK1 _ _ ?_
      clear hK1 K1
      refine wpAny_ready (rs := [7]) (by kernel_rfl) (by simp) ?_
      refine AllReady.cons rfl (fun K2 hK2 => ?_) AllReady.nil
      go_simp
      refine hK2 _ _ ?_
      clear hK2 K2
      refine wpAny_ready (rs := [8]) (by kernel_rfl) (by simp) ?_
      refine AllReady.cons rfl (fun K3 hK3 => ?_) AllReady.nil
      go_simp
      refine (numbers_any _ W _ (.slice (some ⟨gg, 0, none⟩) (bs.length + 1) cp) _ [flagsOf a.conf, a.conf.room] (HW5.out.alloc _) (HW5.out.lit [flagsOf a.conf, a.conf.room] _ rfl 2 rfl _ (by first | rfl | simp)) (by (try simp only [List.length_append, List.length_cons, List.length_nil] at *); omega)).mono ?_
      rintro e w6 ⟨v6, t6, h6⟩
      have T6 := Lib.hid ((T5.out.trans (WTo.other (Gou.Mod.alloc _ _ _) (.slice (some ⟨gg, 0, none⟩) (bs.length + 1) cp))).trans t6)
      rcases hen : encNums [flagsOf a.conf, a.conf.room] with _ | es
      · rw [hen] at h6
        subst h6
        exact ⟨rfl, v6, T6.out, by have hk := HK.out; simp [encAct, hk, hen]⟩
      rw [hen] at h6
      obtain ⟨rfl, hw6⟩ := h6
      have Hen := Lib.hid hen
      have Hw6 := Lib.hid hw6
      clear hen hw6
      refine hK3 _ _ ?_
      clear hK3 K3
      refine wpAny_done (by kernel_rfl) ?_ _
      go_wp2_with fail
      go_end0
      exact ⟨v6, T6.out, by
        have hk := HK.out
        have hen := Hen.out
        simp [encAct, hk, hen]
        simpa using Hw6.out⟩
  · have hP := HW0.out.pushes (ys := [13]) rfl HM.out hown4 hgrow4 hat4
    have HW4 : Hid (Wr (w4.setCell ⟨W, 0, none⟩ (.slice (some ⟨gg, 0, none⟩) (bs.length + 1) cp)) W (bs ++ [13]) (.slice (some ⟨gg, 0, none⟩) (bs.length + 1) cp)) := Lib.hid hP.1
    have T4 : Hid (WTo W w (.slice pv bs.length cv) (w4.setCell ⟨W, 0, none⟩ (.slice (some ⟨gg, 0, none⟩) (bs.length + 1) cp)) (.slice (some ⟨gg, 0, none⟩) (bs.length + 1) cp)) := Lib.hid (HT0.out.trans hP.2)
    have HB4 : Hid (Blk (w4.setCell ⟨W, 0, none⟩ (.slice (some ⟨gg, 0, none⟩) (bs.length + 1) cp)) w.heap.size 41 (AcA a p1 p2 p3 k1 k2 k3)) := Lib.hid (HB0.out.mod hP.2.mod (fun e => by
      rcases e with e | e
      · omega
      · have := Hvs.out _ e; omega))
    have HR4 : Hid (LookR (fun b => b < W) (w4.setCell ⟨W, 0, none⟩ (.slice (some ⟨gg, 0, none⟩) (bs.length + 1) cp)) a.op.look (.slice p1 a.op.look.content.pix.length k1) (.slice p2 a.op.look.filt.nodes.length k2) (.slice p3 a.op.look.back.nodes.length k3)) := Lib.hid (HR0.out.mod (WTo.far hP.2 HW0.out) (fun k _ hG hk => by omega))
    have HS4 : Hid (((w4.setCell ⟨W, 0, none⟩ (.slice (some ⟨gg, 0, none⟩) (bs.length + 1) cp))).heap.size = w4.heap.size) := Lib.hid (by simp)
    have kd : ((w4.setCell ⟨W, 0, none⟩ (.slice (some ⟨gg, 0, none⟩) (bs.length + 1) cp))).cell? ⟨w.heap.size, 0, none⟩ = some (.int .i64 (13 : Nat)) := by rw [← HK.out]; exact HB4.out.cell 0 rfl
    have q37 : ((w4.setCell ⟨W, 0, none⟩ (.slice (some ⟨gg, 0, none⟩) (bs.length + 1) cp))).cell? ⟨w.heap.size, 37, none⟩ = some (.bool a.conf.fuse) := HB4.out.cell 37 rfl
    have q38 : ((w4.setCell ⟨W, 0, none⟩ (.slice (some ⟨gg, 0, none⟩) (bs.length + 1) cp))).cell? ⟨w.heap.size, 38, none⟩ = some (.bool a.conf.alias) := HB4.out.cell 38 rfl
    have q39 : ((w4.setCell ⟨W, 0, none⟩ (.slice (some ⟨gg, 0, none⟩) (bs.length + 1) cp))).cell? ⟨w.heap.size, 39, none⟩ = some (.bool a.conf.roi) := HB4.out.cell 39 rfl
    have q40 : ((w4.setCell ⟨W, 0, none⟩ (.slice (some ⟨gg, 0, none⟩) (bs.length + 1) cp))).cell? ⟨w.heap.size, 40, none⟩ = some (.bool a.conf.damage) := HB4.out.cell 40 rfl
    have q41 : ((w4.setCell ⟨W, 0, none⟩ (.slice (some ⟨gg, 0, none⟩) (bs.length + 1) cp))).cell? ⟨w.heap.size, 41, none⟩ = some (.int .i64 a.conf.room) := HB4.out.cell 41 rfl
    clear hP hown4 hgrow4 hat4 hlt4 c4 f4 kc cW fW
    go_wp2_with fail
    generalize hW4 : (w4.setCell ⟨W, 0, none⟩ (.slice (some ⟨gg, 0, none⟩) (bs.length + 1) cp)) = wq at *
    clear hW4
    have hBq := Blk.lt HB4.out
    have HBd : Hid (Blk wq.drew w.heap.size 41 (AcA a p1 p2 p3 k1 k2 k3)) := Lib.hid (HB4.out.mod (Gou.Mod.drew (fun _ => False) wq) (fun h => h))
    have hfl : ∀ w1 : World, Calls Try.prog 31 #[.agg #[.bool a.conf.fuse, .bool a.conf.alias, .bool a.conf.roi, .bool a.conf.damage, .int .i64 a.conf.room]] w1 fun e w' => e = .returned (.int .i64 (flagsOf a.conf)) ∧ Gou.Mod (fun _ => False) w1 w' := fun w1 => wflags_any w1 a.conf
    have Hfl := Lib.hid hfl
    clear hfl
    go_region_dies
    · refine (Hfl.out _).mono ?_
      rintro e w5 ⟨rfl, hm5⟩
      have hmq : Gou.Mod (fun _ => False) wq w5 := (Gou.Mod.drew _ _).trans' hm5
      have HW5 : Hid (Wr w5 W _ (.slice (some ⟨gg, 0, none⟩) (bs.length + 1) cp)) := Lib.hid (HW4.out.other hmq (fun h => h) (fun _ _ h => h))
      have T5 := Lib.hid (T4.out.trans (WTo.other hmq (.slice (some ⟨gg, 0, none⟩) (bs.length + 1) cp)))
      have q41 : w5.cell? ⟨w.heap.size, 41, none⟩ = some (.int .i64 a.conf.room) := (HBd.out.mod hm5 (fun h => h)).cell 41 rfl
      rename_i K1 hK1
      refine hK1 _ _ ?_
      clear hK1 K1
      refine wpAny_ready (rs := [6]) (by kernel_rfl) (by simp) ?_
      refine AllReady.cons rfl (fun K4 hK4 => ?_) AllReady.nil
      go_simp
      refine hK4 _ _ ?_
      clear hK4 K4
      refine wpAny_ready (rs := [7]) (by kernel_rfl) (by simp) ?_
      refine AllReady.cons rfl (fun K2 hK2 => ?_) AllReady.nil
      go_simp
      refine hK2 _ _ ?_
      clear hK2 K2
      refine wpAny_ready (rs := [8]) (by kernel_rfl) (by simp) ?_
      refine AllReady.cons rfl (fun K3 hK3 => ?_) AllReady.nil
      go_simp
      refine (numbers_any _ W _ (.slice (some ⟨gg, 0, none⟩) (bs.length + 1) cp) _ [flagsOf a.conf, a.conf.room] (HW5.out.alloc _) (HW5.out.lit [flagsOf a.conf, a.conf.room] _ rfl 2 rfl _ (by first | rfl | simp)) (by (try simp only [List.length_append, List.length_cons, List.length_nil] at *); omega)).mono ?_
      rintro e w6 ⟨v6, t6, h6⟩
      have T6 := Lib.hid ((T5.out.trans (WTo.other (Gou.Mod.alloc _ _ _) (.slice (some ⟨gg, 0, none⟩) (bs.length + 1) cp))).trans t6)
      rcases hen : encNums [flagsOf a.conf, a.conf.room] with _ | es
      · rw [hen] at h6
        subst h6
        exact ⟨rfl, v6, T6.out, by have hk := HK.out; simp [encAct, hk, hen]⟩
      rw [hen] at h6
      obtain ⟨rfl, hw6⟩ := h6
      have Hen := Lib.hid hen
      have Hw6 := Lib.hid hw6
      clear hen hw6
      refine hK3 _ _ ?_
      clear hK3 K3
      refine wpAny_done (by kernel_rfl) ?_ _
      go_wp2_with fail
      go_end0
      exact ⟨v6, T6.out, by
        have hk := HK.out
        have hen := Hen.out
        simp [encAct, hk, hen]
        simpa using Hw6.out⟩
    · refine (Hfl.out _).mono ?_
      rintro e w5 ⟨rfl, hm5⟩
      have hmq : Gou.Mod (fun _ => False) wq w5 := (Gou.Mod.drew _ _).trans' hm5
      have HW5 : Hid (Wr w5 W _ (.slice (some ⟨gg, 0, none⟩) (bs.length + 1) cp)) := Lib.hid (HW4.out.other hmq (fun h => h) (fun _ _ h => h))
      have T5 := Lib.hid (T4.out.trans (WTo.other hmq (.slice (some ⟨gg, 0, none⟩) (bs.length + 1) cp)))
      have q41 : w5.cell? ⟨w.heap.size, 41, none⟩ = some (.int .i64 a.conf.room) := (HBd.out.mod hm5 (fun h => h)).cell 41 rfl
      rename_i K1 hK1
      refine hK1 _ _ ?_
      clear hK1 K1
      refine wpAny_ready (rs := [7]) (by kernel_rfl) (by simp) ?_
      refine AllReady.cons rfl (fun K2 hK2 => ?_) AllReady.nil
      go_simp
      refine hK2 _ _ ?_
      clear hK2 K2
      refine wpAny_ready (rs := [8]) (by kernel_rfl) (by simp) ?_
      refine AllReady.cons rfl (fun K3 hK3 => ?_) AllReady.nil
      go_simp
      refine (numbers_any _ W _ (.slice (some ⟨gg, 0, none⟩) (bs.length + 1) cp) _ [flagsOf a.conf, a.conf.room] (HW5.out.alloc _) (HW5.out.lit [flagsOf a.conf, a.conf.room] _ rfl 2 rfl _ (by first | rfl | simp)) (by (try simp only [List.length_append, List.length_cons, List.length_nil] at *); omega)).mono ?_
      rintro e w6 ⟨v6, t6, h6⟩
      have T6 := Lib.hid ((T5.out.trans (WTo.other (Gou.Mod.alloc _ _ _) (.slice (some ⟨gg, 0, none⟩) (bs.length + 1) cp))).trans t6)
      rcases hen : encNums [flagsOf a.conf, a.conf.room] with _ | es
      · rw [hen] at h6
        subst h6
        exact ⟨rfl, v6, T6.out, by have hk := HK.out; simp [encAct, hk, hen]⟩
      rw [hen] at h6
      obtain ⟨rfl, hw6⟩ := h6
      have Hen := Lib.hid hen
      have Hw6 := Lib.hid hw6
      clear hen hw6
      refine hK3 _ _ ?_
      clear hK3 K3
      refine wpAny_done (by kernel_rfl) ?_ _
      go_wp2_with fail
      go_end0
      exact ⟨v6, T6.out, by
        have hk := HK.out
        have hen := Hen.out
        simp [encAct, hk, hen]
        simpa using Hw6.out⟩
    · refine (Hfl.out _).mono ?_
      rintro e w5 ⟨rfl, hm5⟩
      have hmq : Gou.Mod (fun _ => False) wq w5 := (Gou.Mod.drew _ _).trans' hm5
      have HW5 : Hid (Wr w5 W _ (.slice (some ⟨gg, 0, none⟩) (bs.length + 1) cp)) := Lib.hid (HW4.out.other hmq (fun h => h) (fun _ _ h => h))
      have T5 := Lib.hid (T4.out.trans (WTo.other hmq (.slice (some ⟨gg, 0, none⟩) (bs.length + 1) cp)))
      have q41 : w5.cell? ⟨w.heap.size, 41, none⟩ = some (.int .i64 a.conf.room) := (HBd.out.mod hm5 (fun h => h)).cell 41 rfl
      rename_i K1 hK1
      refine hK1 _ _ ?_
      clear hK1 K1
      refine wpAny_ready (rs := [7]) (by kernel_rfl) (by simp) ?_
      refine AllReady.cons rfl (fun K2 hK2 => ?_) AllReady.nil
      go_simp
      refine hK2 _ _ ?_
      clear hK2 K2
      refine wpAny_ready (rs := [8]) (by kernel_rfl) (by simp) ?_
      refine AllReady.cons rfl (fun K3 hK3 => ?_) AllReady.nil
      go_simp
      refine (numbers_any _ W _ (.slice (some ⟨gg, 0, none⟩) (bs.length + 1) cp) _ [flagsOf a.conf, a.conf.room] (HW5.out.alloc _) (HW5.out.lit [flagsOf a.conf, a.conf.room] _ rfl 2 rfl _ (by first | rfl | simp)) (by (try simp only [List.length_append, List.length_cons, List.length_nil] at *); omega)).mono ?_
      rintro e w6 ⟨v6, t6, h6⟩
      have T6 := Lib.hid ((T5.out.trans (WTo.other (Gou.Mod.alloc _ _ _) (.slice (some ⟨gg, 0, none⟩) (bs.length + 1) cp))).trans t6)
      rcases hen : encNums [flagsOf a.conf, a.conf.room] with _ | es
      · rw [hen] at h6
        subst h6
        exact ⟨rfl, v6, T6.out, by have hk := HK.out; simp [encAct, hk, hen]⟩
      rw [hen] at h6
      obtain ⟨rfl, hw6⟩ := h6
      have Hen := Lib.hid hen
      have Hw6 := Lib.hid hw6
      clear hen hw6
      refine hK3 _ _ ?_
      clear hK3 K3
      refine wpAny_done (by kernel_rfl) ?_ _
      go_wp2_with fail
      go_end0
      exact ⟨v6, T6.out, by
        have hk := HK.out
        have hen := Hen.out
        simp [encAct, hk, hen]
        simpa using Hw6.out⟩

end Go.Proofs.Ytnamnmipgpcjjaa

