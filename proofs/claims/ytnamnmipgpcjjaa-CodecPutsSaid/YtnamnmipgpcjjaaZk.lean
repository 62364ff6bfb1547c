/- Texts of the codec's proofs, laid together: RfD, RfE. -/
import Derived.Test.YtnamnmipgpcjjaaZj
set_option linter.unusedSimpArgs false
set_option linter.unusedVariables false
set_option linter.unusedSectionVars false
set_option linter.constructorNameAsVariable false

/- Acts as bytes: the document's sameness of looks. -/
namespace Go.Proofs.Ytnamnmipgpcjjaa
open Go.RowKit Go.Gou

set_option linter.constructorNameAsVariable false
set_option maxRecDepth 100000

set_option maxHeartbeats 4000000 in
theorem lookR_any (w : World) (G1 G2 : Nat → Prop) (p1 p2 p3 q1 q2 q3 : Option Addr) (k1 k2 k3 j1 j2 j3 : Nat) (c e : Lk) (hx : LookR G1 w c (.slice p1 c.content.pix.length k1) (.slice p2 c.filt.nodes.length k2) (.slice p3 c.back.nodes.length k3)) (hy : LookR G2 w e (.slice q1 e.content.pix.length j1) (.slice q2 e.filt.nodes.length j2) (.slice q3 e.back.nodes.length j3)) (l1 : LookBorne c) (l2 : LookBorne e) :
    Calls Try.prog 29 #[.agg (LkA c p1 p2 p3 k1 k2 k3), .agg (LkA e q1 q2 q3 j1 j2 j3)] w fun r w' => r = .returned (.bool (decide (c = e))) ∧ Gou.Mod (fun _ => False) w w' := by
  have HM0 : Hid (Gou.Mod (fun _ => False) w ((w.alloc (.cells (LkA c p1 p2 p3 k1 k2 k3) 35)).alloc (.cells (LkA e q1 q2 q3 j1 j2 j3) 35))) := Lib.hid ((Gou.Mod.alloc _ _ _).trans' (Gou.Mod.alloc _ _ _))
  have Hx0 := Lib.hid (LookR.mod hx HM0.out (fun _ _ _ h => h))
  have Hy0 := Lib.hid (LookR.mod hy HM0.out (fun _ _ _ h => h))
  have L1 := Lib.hid l1
  have L2 := Lib.hid l2
  have HA0 : Hid (Blk ((w.alloc (.cells (LkA c p1 p2 p3 k1 k2 k3) 35)).alloc (.cells (LkA e q1 q2 q3 j1 j2 j3) 35)) w.heap.size 35 (LkA c p1 p2 p3 k1 k2 k3)) := Lib.hid ((show Blk (w.alloc (.cells (LkA c p1 p2 p3 k1 k2 k3) 35)) w.heap.size 35 _ from heap_alloc_new w _).mod (Gou.Mod.alloc (fun _ => False) _ _) (fun h => h))
  have HB0 : Hid (Blk ((w.alloc (.cells (LkA c p1 p2 p3 k1 k2 k3) 35)).alloc (.cells (LkA e q1 q2 q3 j1 j2 j3) 35)) (w.heap.size + 1) 35 (LkA e q1 q2 q3 j1 j2 j3)) := Lib.hid (by
    have := heap_alloc_new (w.alloc (.cells (LkA c p1 p2 p3 k1 k2 k3) 35)) (.cells (LkA e q1 q2 q3 j1 j2 j3) 35)
    rw [World.size_alloc] at this
    exact this)
  have Hra : Hid ((((w.alloc (.cells (LkA c p1 p2 p3 k1 k2 k3) 35)).alloc (.cells (LkA e q1 q2 q3 j1 j2 j3) 35))).rangeAt w.heap.size 9 (contC c.content (.slice p1 c.content.pix.length k1)).toList) := Lib.hid (Blk.range HA0.out (look_cont c _ _ _) rfl)
  have Hrb : Hid ((((w.alloc (.cells (LkA c p1 p2 p3 k1 k2 k3) 35)).alloc (.cells (LkA e q1 q2 q3 j1 j2 j3) 35))).rangeAt (w.heap.size + 1) 9 (contC e.content (.slice q1 e.content.pix.length j1)).toList) := Lib.hid (Blk.range HB0.out (look_cont e _ _ _) rfl)
  have HiA : Hid ((Try.prog.info? 30).map (·.size) = some (contC c.content (.slice p1 c.content.pix.length k1)).toList.length) := Lib.hid (size_content.trans (by simp [contC]))
  have HiB : Hid ((Try.prog.info? 30).map (·.size) = some (contC e.content (.slice q1 e.content.pix.length j1)).toList.length) := Lib.hid (size_content.trans (by simp [contC]))
  clear hx hy l1 l2
  have a0_0 : (((w.alloc (.cells (LkA c p1 p2 p3 k1 k2 k3) 35)).alloc (.cells (LkA e q1 q2 q3 j1 j2 j3) 35))).cell? ⟨w.heap.size, 0, none⟩ = some (.int .i64 c.dx) := HA0.out.cell 0 rfl
  have b0_0 : (((w.alloc (.cells (LkA c p1 p2 p3 k1 k2 k3) 35)).alloc (.cells (LkA e q1 q2 q3 j1 j2 j3) 35))).cell? ⟨w.heap.size + 1, 0, none⟩ = some (.int .i64 e.dx) := HB0.out.cell 0 rfl
  have a1_0 : (((w.alloc (.cells (LkA c p1 p2 p3 k1 k2 k3) 35)).alloc (.cells (LkA e q1 q2 q3 j1 j2 j3) 35))).cell? ⟨w.heap.size, 1, none⟩ = some (.int .i64 c.dy) := HA0.out.cell 1 rfl
  have b1_0 : (((w.alloc (.cells (LkA c p1 p2 p3 k1 k2 k3) 35)).alloc (.cells (LkA e q1 q2 q3 j1 j2 j3) 35))).cell? ⟨w.heap.size + 1, 1, none⟩ = some (.int .i64 e.dy) := HB0.out.cell 1 rfl
  have a2_0 : (((w.alloc (.cells (LkA c p1 p2 p3 k1 k2 k3) 35)).alloc (.cells (LkA e q1 q2 q3 j1 j2 j3) 35))).cell? ⟨w.heap.size, 2, none⟩ = some (.bool c.hasClip) := HA0.out.cell 2 rfl
  have b2_0 : (((w.alloc (.cells (LkA c p1 p2 p3 k1 k2 k3) 35)).alloc (.cells (LkA e q1 q2 q3 j1 j2 j3) 35))).cell? ⟨w.heap.size + 1, 2, none⟩ = some (.bool e.hasClip) := HB0.out.cell 2 rfl
  have a3_0 : (((w.alloc (.cells (LkA c p1 p2 p3 k1 k2 k3) 35)).alloc (.cells (LkA e q1 q2 q3 j1 j2 j3) 35))).cell? ⟨w.heap.size, 3, none⟩ = some (.int .i64 c.clip.x0) := HA0.out.cell 3 rfl
  have b3_0 : (((w.alloc (.cells (LkA c p1 p2 p3 k1 k2 k3) 35)).alloc (.cells (LkA e q1 q2 q3 j1 j2 j3) 35))).cell? ⟨w.heap.size + 1, 3, none⟩ = some (.int .i64 e.clip.x0) := HB0.out.cell 3 rfl
  have a4_0 : (((w.alloc (.cells (LkA c p1 p2 p3 k1 k2 k3) 35)).alloc (.cells (LkA e q1 q2 q3 j1 j2 j3) 35))).cell? ⟨w.heap.size, 4, none⟩ = some (.int .i64 c.clip.y0) := HA0.out.cell 4 rfl
  have b4_0 : (((w.alloc (.cells (LkA c p1 p2 p3 k1 k2 k3) 35)).alloc (.cells (LkA e q1 q2 q3 j1 j2 j3) 35))).cell? ⟨w.heap.size + 1, 4, none⟩ = some (.int .i64 e.clip.y0) := HB0.out.cell 4 rfl
  have a5_0 : (((w.alloc (.cells (LkA c p1 p2 p3 k1 k2 k3) 35)).alloc (.cells (LkA e q1 q2 q3 j1 j2 j3) 35))).cell? ⟨w.heap.size, 5, none⟩ = some (.int .i64 c.clip.x1) := HA0.out.cell 5 rfl
  have b5_0 : (((w.alloc (.cells (LkA c p1 p2 p3 k1 k2 k3) 35)).alloc (.cells (LkA e q1 q2 q3 j1 j2 j3) 35))).cell? ⟨w.heap.size + 1, 5, none⟩ = some (.int .i64 e.clip.x1) := HB0.out.cell 5 rfl
  have a6_0 : (((w.alloc (.cells (LkA c p1 p2 p3 k1 k2 k3) 35)).alloc (.cells (LkA e q1 q2 q3 j1 j2 j3) 35))).cell? ⟨w.heap.size, 6, none⟩ = some (.int .i64 c.clip.y1) := HA0.out.cell 6 rfl
  have b6_0 : (((w.alloc (.cells (LkA c p1 p2 p3 k1 k2 k3) 35)).alloc (.cells (LkA e q1 q2 q3 j1 j2 j3) 35))).cell? ⟨w.heap.size + 1, 6, none⟩ = some (.int .i64 e.clip.y1) := HB0.out.cell 6 rfl
  have a7_0 : (((w.alloc (.cells (LkA c p1 p2 p3 k1 k2 k3) 35)).alloc (.cells (LkA e q1 q2 q3 j1 j2 j3) 35))).cell? ⟨w.heap.size, 7, none⟩ = some (.int .i64 c.opacity) := HA0.out.cell 7 rfl
  have b7_0 : (((w.alloc (.cells (LkA c p1 p2 p3 k1 k2 k3) 35)).alloc (.cells (LkA e q1 q2 q3 j1 j2 j3) 35))).cell? ⟨w.heap.size + 1, 7, none⟩ = some (.int .i64 e.opacity) := HB0.out.cell 7 rfl
  have a8_0 : (((w.alloc (.cells (LkA c p1 p2 p3 k1 k2 k3) 35)).alloc (.cells (LkA e q1 q2 q3 j1 j2 j3) 35))).cell? ⟨w.heap.size, 8, none⟩ = some (.int .i64 c.mode) := HA0.out.cell 8 rfl
  have b8_0 : (((w.alloc (.cells (LkA c p1 p2 p3 k1 k2 k3) 35)).alloc (.cells (LkA e q1 q2 q3 j1 j2 j3) 35))).cell? ⟨w.heap.size + 1, 8, none⟩ = some (.int .i64 e.mode) := HB0.out.cell 8 rfl
  have a22_0 : (((w.alloc (.cells (LkA c p1 p2 p3 k1 k2 k3) 35)).alloc (.cells (LkA e q1 q2 q3 j1 j2 j3) 35))).cell? ⟨w.heap.size, 22, none⟩ = some (.bool c.hasFilt) := HA0.out.cell 22 rfl
  have b22_0 : (((w.alloc (.cells (LkA c p1 p2 p3 k1 k2 k3) 35)).alloc (.cells (LkA e q1 q2 q3 j1 j2 j3) 35))).cell? ⟨w.heap.size + 1, 22, none⟩ = some (.bool e.hasFilt) := HB0.out.cell 22 rfl
  have a23_0 : (((w.alloc (.cells (LkA c p1 p2 p3 k1 k2 k3) 35)).alloc (.cells (LkA e q1 q2 q3 j1 j2 j3) 35))).cell? ⟨w.heap.size, 23, none⟩ = some (.slice p2 c.filt.nodes.length k2) := HA0.out.cell 23 rfl
  have b23_0 : (((w.alloc (.cells (LkA c p1 p2 p3 k1 k2 k3) 35)).alloc (.cells (LkA e q1 q2 q3 j1 j2 j3) 35))).cell? ⟨w.heap.size + 1, 23, none⟩ = some (.slice q2 e.filt.nodes.length j2) := HB0.out.cell 23 rfl
  have a24_0 : (((w.alloc (.cells (LkA c p1 p2 p3 k1 k2 k3) 35)).alloc (.cells (LkA e q1 q2 q3 j1 j2 j3) 35))).cell? ⟨w.heap.size, 24, none⟩ = some (.int .i64 c.filt.out) := HA0.out.cell 24 rfl
  have b24_0 : (((w.alloc (.cells (LkA c p1 p2 p3 k1 k2 k3) 35)).alloc (.cells (LkA e q1 q2 q3 j1 j2 j3) 35))).cell? ⟨w.heap.size + 1, 24, none⟩ = some (.int .i64 e.filt.out) := HB0.out.cell 24 rfl
  have a25_0 : (((w.alloc (.cells (LkA c p1 p2 p3 k1 k2 k3) 35)).alloc (.cells (LkA e q1 q2 q3 j1 j2 j3) 35))).cell? ⟨w.heap.size, 25, none⟩ = some (.bool c.hasBack) := HA0.out.cell 25 rfl
  have b25_0 : (((w.alloc (.cells (LkA c p1 p2 p3 k1 k2 k3) 35)).alloc (.cells (LkA e q1 q2 q3 j1 j2 j3) 35))).cell? ⟨w.heap.size + 1, 25, none⟩ = some (.bool e.hasBack) := HB0.out.cell 25 rfl
  have a26_0 : (((w.alloc (.cells (LkA c p1 p2 p3 k1 k2 k3) 35)).alloc (.cells (LkA e q1 q2 q3 j1 j2 j3) 35))).cell? ⟨w.heap.size, 26, none⟩ = some (.slice p3 c.back.nodes.length k3) := HA0.out.cell 26 rfl
  have b26_0 : (((w.alloc (.cells (LkA c p1 p2 p3 k1 k2 k3) 35)).alloc (.cells (LkA e q1 q2 q3 j1 j2 j3) 35))).cell? ⟨w.heap.size + 1, 26, none⟩ = some (.slice q3 e.back.nodes.length j3) := HB0.out.cell 26 rfl
  have a27_0 : (((w.alloc (.cells (LkA c p1 p2 p3 k1 k2 k3) 35)).alloc (.cells (LkA e q1 q2 q3 j1 j2 j3) 35))).cell? ⟨w.heap.size, 27, none⟩ = some (.int .i64 c.back.out) := HA0.out.cell 27 rfl
  have b27_0 : (((w.alloc (.cells (LkA c p1 p2 p3 k1 k2 k3) 35)).alloc (.cells (LkA e q1 q2 q3 j1 j2 j3) 35))).cell? ⟨w.heap.size + 1, 27, none⟩ = some (.int .i64 e.back.out) := HB0.out.cell 27 rfl
  have Hr := Lib.hid (rect_op c.clip e.clip)
  have HRc := Hr.out
  go_enter Try.func29, Try.ntmps29
  by_cases h_dx : c.dx = e.dx
  case neg =>
    have q_dx : (c.dx == e.dx) = false := by simp [h_dx]
    have Hq : Hid (decide (c = e) = false) := Lib.hid (by simp [lk_eq, h_dx])
    clear h_dx
    go_wp2_with fail
    go_ret
    exact ⟨by rw [Hq.out]; rfl, HM0.out⟩
  have q_dx : (c.dx == e.dx) = true := by simp [h_dx]
  have I_dx := Lib.hid h_dx
  clear h_dx
  by_cases h_dy : c.dy = e.dy
  case neg =>
    have q_dy : (c.dy == e.dy) = false := by simp [h_dy]
    have Hq : Hid (decide (c = e) = false) := Lib.hid (by simp [lk_eq, h_dy])
    clear h_dy
    go_wp2_with fail
    go_ret
    exact ⟨by rw [Hq.out]; rfl, HM0.out⟩
  have q_dy : (c.dy == e.dy) = true := by simp [h_dy]
  have I_dy := Lib.hid h_dy
  clear h_dy
  by_cases h_hasClip : c.hasClip = e.hasClip
  case neg =>
    have q_hasClip : (c.hasClip == e.hasClip) = false := by simp [h_hasClip]
    have Hq : Hid (decide (c = e) = false) := Lib.hid (by simp [lk_eq, h_hasClip])
    clear h_hasClip
    go_wp2_with fail
    go_ret
    exact ⟨by rw [Hq.out]; rfl, HM0.out⟩
  have q_hasClip : (c.hasClip == e.hasClip) = true := by simp [h_hasClip]
  have I_hasClip := Lib.hid h_hasClip
  clear h_hasClip
  by_cases h_clip : c.clip = e.clip
  case neg =>
    have q_clip : decide (c.clip = e.clip) = false := by simp [h_clip]
    have Hq : Hid (decide (c = e) = false) := Lib.hid (by simp [lk_eq, h_clip])
    clear h_clip
    go_wp2_with fail
    go_ret
    exact ⟨by rw [Hq.out]; rfl, HM0.out⟩
  have q_clip : decide (c.clip = e.clip) = true := by simp [h_clip]
  have I_clip := Lib.hid h_clip
  clear h_clip
  by_cases h_opacity : c.opacity = e.opacity
  case neg =>
    have q_opacity : (c.opacity == e.opacity) = false := by simp [h_opacity]
    have Hq : Hid (decide (c = e) = false) := Lib.hid (by simp [lk_eq, h_opacity])
    clear h_opacity
    go_wp2_with fail
    go_ret
    exact ⟨by rw [Hq.out]; rfl, HM0.out⟩
  have q_opacity : (c.opacity == e.opacity) = true := by simp [h_opacity]
  have I_opacity := Lib.hid h_opacity
  clear h_opacity
  by_cases h_mode : c.mode = e.mode
  case neg =>
    have q_mode : (c.mode == e.mode) = false := by simp [h_mode]
    have Hq : Hid (decide (c = e) = false) := Lib.hid (by simp [lk_eq, h_mode])
    clear h_mode
    go_wp2_with fail
    go_ret
    exact ⟨by rw [Hq.out]; rfl, HM0.out⟩
  have q_mode : (c.mode == e.mode) = true := by simp [h_mode]
  have I_mode := Lib.hid h_mode
  clear h_mode
  go_wp2_with (first | ((with_reducible refine wpList_load_midG ?g_1 30 ?x_1 ?o_1 w.heap.size 9 ?h_1 (contC c.content (.slice p1 c.content.pix.length k1)).toList ?d_1 ?c_1 ?u_1 ?s_1 ?i_1 ?r_1); (case g_1 | o_1 | h_1 => exact rfl); (case c_1 => exact Hra.out); (case u_1 => exact Try.underlying30); (case s_1 => exact rfl); (case i_1 => exact HiA.out)) | ((with_reducible refine wpList_load_midG ?g_2 30 ?x_2 ?o_2 (w.heap.size + 1) 9 ?h_2 (contC e.content (.slice q1 e.content.pix.length j1)).toList ?d_2 ?c_2 ?u_2 ?s_2 ?i_2 ?r_2); (case g_2 | o_2 | h_2 => exact rfl); (case c_2 => exact Hrb.out); (case u_2 => exact Try.underlying30); (case s_2 => exact rfl); (case i_2 => exact HiB.out)) | fail)
  refine (contR_any _ G1 G2 p1 q1 k1 j1 c.content e.content Hx0.out.pix Hy0.out.pix L1.out.pix L2.out.pix).mono ?_
  rintro r w1 ⟨rfl, hm1⟩
  have HM1 := Lib.hid (HM0.out.trans' hm1)
  have Hx1 := Lib.hid (LookR.mod Hx0.out hm1 (fun _ _ _ h => h))
  have Hy1 := Lib.hid (LookR.mod Hy0.out hm1 (fun _ _ _ h => h))
  have HA1 := Lib.hid (HA0.out.mod hm1 (fun h => h))
  have HB1 := Lib.hid (HB0.out.mod hm1 (fun h => h))
  clear hm1
  have a22_1 : w1.cell? ⟨w.heap.size, 22, none⟩ = some (.bool c.hasFilt) := HA1.out.cell 22 rfl
  have b22_1 : w1.cell? ⟨w.heap.size + 1, 22, none⟩ = some (.bool e.hasFilt) := HB1.out.cell 22 rfl
  have a23_1 : w1.cell? ⟨w.heap.size, 23, none⟩ = some (.slice p2 c.filt.nodes.length k2) := HA1.out.cell 23 rfl
  have b23_1 : w1.cell? ⟨w.heap.size + 1, 23, none⟩ = some (.slice q2 e.filt.nodes.length j2) := HB1.out.cell 23 rfl
  have a24_1 : w1.cell? ⟨w.heap.size, 24, none⟩ = some (.int .i64 c.filt.out) := HA1.out.cell 24 rfl
  have b24_1 : w1.cell? ⟨w.heap.size + 1, 24, none⟩ = some (.int .i64 e.filt.out) := HB1.out.cell 24 rfl
  have a25_1 : w1.cell? ⟨w.heap.size, 25, none⟩ = some (.bool c.hasBack) := HA1.out.cell 25 rfl
  have b25_1 : w1.cell? ⟨w.heap.size + 1, 25, none⟩ = some (.bool e.hasBack) := HB1.out.cell 25 rfl
  have a26_1 : w1.cell? ⟨w.heap.size, 26, none⟩ = some (.slice p3 c.back.nodes.length k3) := HA1.out.cell 26 rfl
  have b26_1 : w1.cell? ⟨w.heap.size + 1, 26, none⟩ = some (.slice q3 e.back.nodes.length j3) := HB1.out.cell 26 rfl
  have a27_1 : w1.cell? ⟨w.heap.size, 27, none⟩ = some (.int .i64 c.back.out) := HA1.out.cell 27 rfl
  have b27_1 : w1.cell? ⟨w.heap.size + 1, 27, none⟩ = some (.int .i64 e.back.out) := HB1.out.cell 27 rfl
  by_cases h_content : c.content = e.content
  case neg =>
    have q_content : decide (c.content = e.content) = false := by simp [h_content]
    have Hq : Hid (decide (c = e) = false) := Lib.hid (by simp [lk_eq, h_content])
    clear h_content
    generalize decide (c.content = e.content) = q at *
    subst q_content
    go_wp2_with fail
    go_ret
    exact ⟨by rw [Hq.out]; rfl, HM1.out⟩
  have q_content : decide (c.content = e.content) = true := by simp [h_content]
  have I_content := Lib.hid h_content
  clear h_content
  generalize decide (c.content = e.content) = q at *
  subst q_content
  by_cases h_hasFilt : c.hasFilt = e.hasFilt
  case neg =>
    have q_hasFilt : (c.hasFilt == e.hasFilt) = false := by simp [h_hasFilt]
    have Hq : Hid (decide (c = e) = false) := Lib.hid (by simp [lk_eq, h_hasFilt])
    clear h_hasFilt
    go_wp2_with fail
    go_ret
    exact ⟨by rw [Hq.out]; rfl, HM1.out⟩
  have q_hasFilt : (c.hasFilt == e.hasFilt) = true := by simp [h_hasFilt]
  have I_hasFilt := Lib.hid h_hasFilt
  clear h_hasFilt
  go_wp2_with fail
  refine (grR_any _ G1 G2 p2 q2 k2 j2 c.filt e.filt Hx1.out.filt Hy1.out.filt L1.out.filt L2.out.filt).mono ?_
  rintro r w2 ⟨rfl, hm2⟩
  have HM2 := Lib.hid (HM1.out.trans' hm2)
  have Hx2 := Lib.hid (LookR.mod Hx1.out hm2 (fun _ _ _ h => h))
  have Hy2 := Lib.hid (LookR.mod Hy1.out hm2 (fun _ _ _ h => h))
  have HA2 := Lib.hid (HA1.out.mod hm2 (fun h => h))
  have HB2 := Lib.hid (HB1.out.mod hm2 (fun h => h))
  clear hm2
  have a25_2 : w2.cell? ⟨w.heap.size, 25, none⟩ = some (.bool c.hasBack) := HA2.out.cell 25 rfl
  have b25_2 : w2.cell? ⟨w.heap.size + 1, 25, none⟩ = some (.bool e.hasBack) := HB2.out.cell 25 rfl
  have a26_2 : w2.cell? ⟨w.heap.size, 26, none⟩ = some (.slice p3 c.back.nodes.length k3) := HA2.out.cell 26 rfl
  have b26_2 : w2.cell? ⟨w.heap.size + 1, 26, none⟩ = some (.slice q3 e.back.nodes.length j3) := HB2.out.cell 26 rfl
  have a27_2 : w2.cell? ⟨w.heap.size, 27, none⟩ = some (.int .i64 c.back.out) := HA2.out.cell 27 rfl
  have b27_2 : w2.cell? ⟨w.heap.size + 1, 27, none⟩ = some (.int .i64 e.back.out) := HB2.out.cell 27 rfl
  by_cases h_filt : c.filt = e.filt
  case neg =>
    have q_filt : decide (c.filt = e.filt) = false := by simp [h_filt]
    have Hq : Hid (decide (c = e) = false) := Lib.hid (by simp [lk_eq, h_filt])
    clear h_filt
    generalize decide (c.filt = e.filt) = q at *
    subst q_filt
    go_wp2_with fail
    go_ret
    exact ⟨by rw [Hq.out]; rfl, HM2.out⟩
  have q_filt : decide (c.filt = e.filt) = true := by simp [h_filt]
  have I_filt := Lib.hid h_filt
  clear h_filt
  generalize decide (c.filt = e.filt) = q at *
  subst q_filt
  by_cases h_hasBack : c.hasBack = e.hasBack
  case neg =>
    have q_hasBack : (c.hasBack == e.hasBack) = false := by simp [h_hasBack]
    have Hq : Hid (decide (c = e) = false) := Lib.hid (by simp [lk_eq, h_hasBack])
    clear h_hasBack
    go_wp2_with fail
    go_ret
    exact ⟨by rw [Hq.out]; rfl, HM2.out⟩
  have q_hasBack : (c.hasBack == e.hasBack) = true := by simp [h_hasBack]
  have I_hasBack := Lib.hid h_hasBack
  clear h_hasBack
  go_wp2_with fail
  refine (grR_any _ G1 G2 p3 q3 k3 j3 c.back e.back Hx2.out.back Hy2.out.back L1.out.back L2.out.back).mono ?_
  rintro r w3 ⟨rfl, hm3⟩
  have HM3 := Lib.hid (HM2.out.trans' hm3)
  clear hm3
  have Hq : Hid (decide (c.back = e.back) = decide (c = e)) := Lib.hid (by simp [lk_eq, I_dx.out, I_dy.out, I_hasClip.out, I_clip.out, I_opacity.out, I_mode.out, I_content.out, I_hasFilt.out, I_filt.out, I_hasBack.out])
  generalize decide (c.back = e.back) = q at *
  cases q with
  | true =>
    go_wp2_with fail
    go_ret
    exact ⟨by rw [← Hq.out]; rfl, HM3.out⟩
  | false =>
    go_wp2_with fail
    go_ret
    exact ⟨by rw [← Hq.out]; rfl, HM3.out⟩


end Go.Proofs.Ytnamnmipgpcjjaa

/- Acts as bytes: the document's sameness of acts. -/
namespace Go.Gou
open Go.RowKit
theorem act_conf (a : Ac) (vp vf vb : Value) : (actC a vp vf vb).toList = ([Value.int IntKind.i64 a.kind] ++ ((oprC a.op vp vf vb).toList ++ [Value.int IntKind.i64 a.w, Value.int IntKind.i64 a.h])) ++ ([Value.bool a.conf.fuse, Value.bool a.conf.alias, Value.bool a.conf.roi, Value.bool a.conf.damage, Value.int IntKind.i64 a.conf.room] ++ []) := rfl
end Go.Gou
namespace Go.Proofs.Ytnamnmipgpcjjaa
open Go.RowKit Go.Gou

set_option linter.constructorNameAsVariable false
set_option maxRecDepth 100000

set_option maxHeartbeats 4000000 in
theorem actR_any (w : World) (G1 G2 : Nat → Prop) (p1 p2 p3 q1 q2 q3 : Option Addr) (k1 k2 k3 j1 j2 j3 : Nat) (c e : Ac) (hx : LookR G1 w c.op.look (.slice p1 c.op.look.content.pix.length k1) (.slice p2 c.op.look.filt.nodes.length k2) (.slice p3 c.op.look.back.nodes.length k3)) (hy : LookR G2 w e.op.look (.slice q1 e.op.look.content.pix.length j1) (.slice q2 e.op.look.filt.nodes.length j2) (.slice q3 e.op.look.back.nodes.length j3)) (l1 : LookBorne c.op.look) (l2 : LookBorne e.op.look) :
    Calls Try.prog 17 #[.agg (AcA c p1 p2 p3 k1 k2 k3), .agg (AcA e q1 q2 q3 j1 j2 j3)] w fun r w' => r = .returned (.bool (decide (c = e))) ∧ Gou.Mod (fun _ => False) w w' := by
  have HM : Hid (Gou.Mod (fun _ => False) w ((w.alloc (.cells (AcA c p1 p2 p3 k1 k2 k3) 41)).alloc (.cells (AcA e q1 q2 q3 j1 j2 j3) 41))) := Lib.hid ((Gou.Mod.alloc _ _ _).trans' (Gou.Mod.alloc _ _ _))
  have Hx := Lib.hid (LookR.mod hx HM.out (fun _ _ _ h => h))
  have Hy := Lib.hid (LookR.mod hy HM.out (fun _ _ _ h => h))
  have L1 := Lib.hid l1
  have L2 := Lib.hid l2
  have HA : Hid (Blk ((w.alloc (.cells (AcA c p1 p2 p3 k1 k2 k3) 41)).alloc (.cells (AcA e q1 q2 q3 j1 j2 j3) 41)) w.heap.size 41 (AcA c p1 p2 p3 k1 k2 k3)) := Lib.hid ((show Blk (w.alloc (.cells (AcA c p1 p2 p3 k1 k2 k3) 41)) w.heap.size 41 _ from heap_alloc_new w _).mod (Gou.Mod.alloc (fun _ => False) _ _) (fun h => h))
  have HB : Hid (Blk ((w.alloc (.cells (AcA c p1 p2 p3 k1 k2 k3) 41)).alloc (.cells (AcA e q1 q2 q3 j1 j2 j3) 41)) (w.heap.size + 1) 41 (AcA e q1 q2 q3 j1 j2 j3)) := Lib.hid (by
    have := heap_alloc_new (w.alloc (.cells (AcA c p1 p2 p3 k1 k2 k3) 41)) (.cells (AcA e q1 q2 q3 j1 j2 j3) 41)
    rw [World.size_alloc] at this
    exact this)
  have Hra : Hid ((((w.alloc (.cells (AcA c p1 p2 p3 k1 k2 k3) 41)).alloc (.cells (AcA e q1 q2 q3 j1 j2 j3) 41))).rangeAt w.heap.size 7 (LkA c.op.look p1 p2 p3 k1 k2 k3).toList) := Lib.hid (Blk.range HA.out (act_look c _ _ _) rfl)
  have Hrb : Hid ((((w.alloc (.cells (AcA c p1 p2 p3 k1 k2 k3) 41)).alloc (.cells (AcA e q1 q2 q3 j1 j2 j3) 41))).rangeAt (w.heap.size + 1) 7 (LkA e.op.look q1 q2 q3 j1 j2 j3).toList) := Lib.hid (Blk.range HB.out (act_look e _ _ _) rfl)
  have HiA : Hid ((Try.prog.info? 35).map (·.size) = some (LkA c.op.look p1 p2 p3 k1 k2 k3).toList.length) := Lib.hid (size_look.trans (by simp [LkA, lookC]))
  have HiB : Hid ((Try.prog.info? 35).map (·.size) = some (LkA e.op.look q1 q2 q3 j1 j2 j3).toList.length) := Lib.hid (size_look.trans (by simp [LkA, lookC]))
  have Hca : Hid ((((w.alloc (.cells (AcA c p1 p2 p3 k1 k2 k3) 41)).alloc (.cells (AcA e q1 q2 q3 j1 j2 j3) 41))).rangeAt w.heap.size 37 [Value.bool c.conf.fuse, Value.bool c.conf.alias, Value.bool c.conf.roi, Value.bool c.conf.damage, Value.int IntKind.i64 c.conf.room]) := Lib.hid (Blk.range (post := []) HA.out (act_conf c _ _ _) rfl)
  have Hcb : Hid ((((w.alloc (.cells (AcA c p1 p2 p3 k1 k2 k3) 41)).alloc (.cells (AcA e q1 q2 q3 j1 j2 j3) 41))).rangeAt (w.heap.size + 1) 37 [Value.bool e.conf.fuse, Value.bool e.conf.alias, Value.bool e.conf.roi, Value.bool e.conf.damage, Value.int IntKind.i64 e.conf.room]) := Lib.hid (Blk.range (post := []) HB.out (act_conf e _ _ _) rfl)
  have Hcs : Hid ((Try.prog.info? 39).map (·.size) = some 5) := Lib.hid (by kernel_rfl)
  clear hx hy l1 l2
  have a1 : (((w.alloc (.cells (AcA c p1 p2 p3 k1 k2 k3) 41)).alloc (.cells (AcA e q1 q2 q3 j1 j2 j3) 41))).cell? ⟨w.heap.size, 1, none⟩ = some (.int .i64 c.op.kind) := HA.out.cell 1 rfl
  have b1 : (((w.alloc (.cells (AcA c p1 p2 p3 k1 k2 k3) 41)).alloc (.cells (AcA e q1 q2 q3 j1 j2 j3) 41))).cell? ⟨w.heap.size + 1, 1, none⟩ = some (.int .i64 e.op.kind) := HB.out.cell 1 rfl
  have a2 : (((w.alloc (.cells (AcA c p1 p2 p3 k1 k2 k3) 41)).alloc (.cells (AcA e q1 q2 q3 j1 j2 j3) 41))).cell? ⟨w.heap.size, 2, none⟩ = some (.int .i64 c.op.id.1) := HA.out.cell 2 rfl
  have b2 : (((w.alloc (.cells (AcA c p1 p2 p3 k1 k2 k3) 41)).alloc (.cells (AcA e q1 q2 q3 j1 j2 j3) 41))).cell? ⟨w.heap.size + 1, 2, none⟩ = some (.int .i64 e.op.id.1) := HB.out.cell 2 rfl
  have a3 : (((w.alloc (.cells (AcA c p1 p2 p3 k1 k2 k3) 41)).alloc (.cells (AcA e q1 q2 q3 j1 j2 j3) 41))).cell? ⟨w.heap.size, 3, none⟩ = some (.int .i64 c.op.id.2) := HA.out.cell 3 rfl
  have b3 : (((w.alloc (.cells (AcA c p1 p2 p3 k1 k2 k3) 41)).alloc (.cells (AcA e q1 q2 q3 j1 j2 j3) 41))).cell? ⟨w.heap.size + 1, 3, none⟩ = some (.int .i64 e.op.id.2) := HB.out.cell 3 rfl
  have a4 : (((w.alloc (.cells (AcA c p1 p2 p3 k1 k2 k3) 41)).alloc (.cells (AcA e q1 q2 q3 j1 j2 j3) 41))).cell? ⟨w.heap.size, 4, none⟩ = some (.int .i64 c.op.to.1) := HA.out.cell 4 rfl
  have b4 : (((w.alloc (.cells (AcA c p1 p2 p3 k1 k2 k3) 41)).alloc (.cells (AcA e q1 q2 q3 j1 j2 j3) 41))).cell? ⟨w.heap.size + 1, 4, none⟩ = some (.int .i64 e.op.to.1) := HB.out.cell 4 rfl
  have a5 : (((w.alloc (.cells (AcA c p1 p2 p3 k1 k2 k3) 41)).alloc (.cells (AcA e q1 q2 q3 j1 j2 j3) 41))).cell? ⟨w.heap.size, 5, none⟩ = some (.int .i64 c.op.to.2) := HA.out.cell 5 rfl
  have b5 : (((w.alloc (.cells (AcA c p1 p2 p3 k1 k2 k3) 41)).alloc (.cells (AcA e q1 q2 q3 j1 j2 j3) 41))).cell? ⟨w.heap.size + 1, 5, none⟩ = some (.int .i64 e.op.to.2) := HB.out.cell 5 rfl
  have a6 : (((w.alloc (.cells (AcA c p1 p2 p3 k1 k2 k3) 41)).alloc (.cells (AcA e q1 q2 q3 j1 j2 j3) 41))).cell? ⟨w.heap.size, 6, none⟩ = some (.int .i64 c.op.at_) := HA.out.cell 6 rfl
  have b6 : (((w.alloc (.cells (AcA c p1 p2 p3 k1 k2 k3) 41)).alloc (.cells (AcA e q1 q2 q3 j1 j2 j3) 41))).cell? ⟨w.heap.size + 1, 6, none⟩ = some (.int .i64 e.op.at_) := HB.out.cell 6 rfl
  have a0 : (((w.alloc (.cells (AcA c p1 p2 p3 k1 k2 k3) 41)).alloc (.cells (AcA e q1 q2 q3 j1 j2 j3) 41))).cell? ⟨w.heap.size, 0, none⟩ = some (.int .i64 c.kind) := HA.out.cell 0 rfl
  have b0 : (((w.alloc (.cells (AcA c p1 p2 p3 k1 k2 k3) 41)).alloc (.cells (AcA e q1 q2 q3 j1 j2 j3) 41))).cell? ⟨w.heap.size + 1, 0, none⟩ = some (.int .i64 e.kind) := HB.out.cell 0 rfl
  have a35 : (((w.alloc (.cells (AcA c p1 p2 p3 k1 k2 k3) 41)).alloc (.cells (AcA e q1 q2 q3 j1 j2 j3) 41))).cell? ⟨w.heap.size, 35, none⟩ = some (.int .i64 c.w) := HA.out.cell 35 rfl
  have b35 : (((w.alloc (.cells (AcA c p1 p2 p3 k1 k2 k3) 41)).alloc (.cells (AcA e q1 q2 q3 j1 j2 j3) 41))).cell? ⟨w.heap.size + 1, 35, none⟩ = some (.int .i64 e.w) := HB.out.cell 35 rfl
  have a36 : (((w.alloc (.cells (AcA c p1 p2 p3 k1 k2 k3) 41)).alloc (.cells (AcA e q1 q2 q3 j1 j2 j3) 41))).cell? ⟨w.heap.size, 36, none⟩ = some (.int .i64 c.h) := HA.out.cell 36 rfl
  have b36 : (((w.alloc (.cells (AcA c p1 p2 p3 k1 k2 k3) 41)).alloc (.cells (AcA e q1 q2 q3 j1 j2 j3) 41))).cell? ⟨w.heap.size + 1, 36, none⟩ = some (.int .i64 e.h) := HB.out.cell 36 rfl
  have Hr1 := Lib.hid (id_op c.op.id e.op.id)
  have Hr2 := Lib.hid (id_op c.op.to e.op.to)
  have Hr3 := Lib.hid (conf_op c.conf e.conf)
  have HRi := Hr1.out
  have HRt := Hr2.out
  have HRc := Hr3.out
  go_enter Try.func17, Try.ntmps17
  iterate 16 (first | go_values | go_skip | go_guarded | go_step | go_upon | go_back)
  simp only [List.append]
  by_cases h_kind : c.kind = e.kind
  case neg =>
    have q_kind : (c.kind == e.kind) = false := by simp [h_kind]
    have Hq : Hid (decide (c = e) = false) := Lib.hid (by simp [ac_eq, h_kind])
    clear h_kind
    go_wp2_with (first | ((with_reducible refine wpList_load_midG ?g_5 39 ?x_5 ?o_5 w.heap.size 37 ?h_5 [Value.bool c.conf.fuse, Value.bool c.conf.alias, Value.bool c.conf.roi, Value.bool c.conf.damage, Value.int IntKind.i64 c.conf.room] ?d_5 ?c_5 ?u_5 ?s_5 ?i_5 ?r_5); (case g_5 | o_5 | h_5 => exact rfl); (case c_5 => exact Hca.out); (case u_5 => exact Try.underlying39); (case s_5 => exact rfl); (case i_5 => exact Hcs.out)) | ((with_reducible refine wpList_load_midG ?g_6 39 ?x_6 ?o_6 (w.heap.size + 1) 37 ?h_6 [Value.bool e.conf.fuse, Value.bool e.conf.alias, Value.bool e.conf.roi, Value.bool e.conf.damage, Value.int IntKind.i64 e.conf.room] ?d_6 ?c_6 ?u_6 ?s_6 ?i_6 ?r_6); (case g_6 | o_6 | h_6 => exact rfl); (case c_6 => exact Hcb.out); (case u_6 => exact Try.underlying39); (case s_6 => exact rfl); (case i_6 => exact Hcs.out)) | fail)
    go_ret
    exact ⟨by rw [Hq.out]; rfl, HM.out⟩
  have q_kind : (c.kind == e.kind) = true := by simp [h_kind]
  have I_kind := Lib.hid h_kind
  clear h_kind
  by_cases h_w : c.w = e.w
  case neg =>
    have q_w : (c.w == e.w) = false := by simp [h_w]
    have Hq : Hid (decide (c = e) = false) := Lib.hid (by simp [ac_eq, h_w])
    clear h_w
    go_wp2_with (first | ((with_reducible refine wpList_load_midG ?g_7 39 ?x_7 ?o_7 w.heap.size 37 ?h_7 [Value.bool c.conf.fuse, Value.bool c.conf.alias, Value.bool c.conf.roi, Value.bool c.conf.damage, Value.int IntKind.i64 c.conf.room] ?d_7 ?c_7 ?u_7 ?s_7 ?i_7 ?r_7); (case g_7 | o_7 | h_7 => exact rfl); (case c_7 => exact Hca.out); (case u_7 => exact Try.underlying39); (case s_7 => exact rfl); (case i_7 => exact Hcs.out)) | ((with_reducible refine wpList_load_midG ?g_8 39 ?x_8 ?o_8 (w.heap.size + 1) 37 ?h_8 [Value.bool e.conf.fuse, Value.bool e.conf.alias, Value.bool e.conf.roi, Value.bool e.conf.damage, Value.int IntKind.i64 e.conf.room] ?d_8 ?c_8 ?u_8 ?s_8 ?i_8 ?r_8); (case g_8 | o_8 | h_8 => exact rfl); (case c_8 => exact Hcb.out); (case u_8 => exact Try.underlying39); (case s_8 => exact rfl); (case i_8 => exact Hcs.out)) | fail)
    go_ret
    exact ⟨by rw [Hq.out]; rfl, HM.out⟩
  have q_w : (c.w == e.w) = true := by simp [h_w]
  have I_w := Lib.hid h_w
  clear h_w
  by_cases h_h : c.h = e.h
  case neg =>
    have q_h : (c.h == e.h) = false := by simp [h_h]
    have Hq : Hid (decide (c = e) = false) := Lib.hid (by simp [ac_eq, h_h])
    clear h_h
    go_wp2_with (first | ((with_reducible refine wpList_load_midG ?g_9 39 ?x_9 ?o_9 w.heap.size 37 ?h_9 [Value.bool c.conf.fuse, Value.bool c.conf.alias, Value.bool c.conf.roi, Value.bool c.conf.damage, Value.int IntKind.i64 c.conf.room] ?d_9 ?c_9 ?u_9 ?s_9 ?i_9 ?r_9); (case g_9 | o_9 | h_9 => exact rfl); (case c_9 => exact Hca.out); (case u_9 => exact Try.underlying39); (case s_9 => exact rfl); (case i_9 => exact Hcs.out)) | ((with_reducible refine wpList_load_midG ?g_a 39 ?x_a ?o_a (w.heap.size + 1) 37 ?h_a [Value.bool e.conf.fuse, Value.bool e.conf.alias, Value.bool e.conf.roi, Value.bool e.conf.damage, Value.int IntKind.i64 e.conf.room] ?d_a ?c_a ?u_a ?s_a ?i_a ?r_a); (case g_a | o_a | h_a => exact rfl); (case c_a => exact Hcb.out); (case u_a => exact Try.underlying39); (case s_a => exact rfl); (case i_a => exact Hcs.out)) | fail)
    go_ret
    exact ⟨by rw [Hq.out]; rfl, HM.out⟩
  have q_h : (c.h == e.h) = true := by simp [h_h]
  have I_h := Lib.hid h_h
  clear h_h
  by_cases h_conf : c.conf = e.conf
  case neg =>
    have q_conf : decide (c.conf = e.conf) = false := by simp [h_conf]
    have Hq : Hid (decide (c = e) = false) := Lib.hid (by simp [ac_eq, h_conf])
    clear h_conf
    go_wp2_with (first | ((with_reducible refine wpList_load_midG ?g_b 39 ?x_b ?o_b w.heap.size 37 ?h_b [Value.bool c.conf.fuse, Value.bool c.conf.alias, Value.bool c.conf.roi, Value.bool c.conf.damage, Value.int IntKind.i64 c.conf.room] ?d_b ?c_b ?u_b ?s_b ?i_b ?r_b); (case g_b | o_b | h_b => exact rfl); (case c_b => exact Hca.out); (case u_b => exact Try.underlying39); (case s_b => exact rfl); (case i_b => exact Hcs.out)) | ((with_reducible refine wpList_load_midG ?g_c 39 ?x_c ?o_c (w.heap.size + 1) 37 ?h_c [Value.bool e.conf.fuse, Value.bool e.conf.alias, Value.bool e.conf.roi, Value.bool e.conf.damage, Value.int IntKind.i64 e.conf.room] ?d_c ?c_c ?u_c ?s_c ?i_c ?r_c); (case g_c | o_c | h_c => exact rfl); (case c_c => exact Hcb.out); (case u_c => exact Try.underlying39); (case s_c => exact rfl); (case i_c => exact Hcs.out)) | fail)
    go_ret
    exact ⟨by rw [Hq.out]; rfl, HM.out⟩
  have q_conf : decide (c.conf = e.conf) = true := by simp [h_conf]
  have I_conf := Lib.hid h_conf
  clear h_conf
  by_cases h_op_kind : c.op.kind = e.op.kind
  case neg =>
    have q_op_kind : (c.op.kind == e.op.kind) = false := by simp [h_op_kind]
    have Hq : Hid (decide (c = e) = false) := Lib.hid (by simp [ac_eq, h_op_kind])
    clear h_op_kind
    go_wp2_with (first | ((with_reducible refine wpList_load_midG ?g_d 39 ?x_d ?o_d w.heap.size 37 ?h_d [Value.bool c.conf.fuse, Value.bool c.conf.alias, Value.bool c.conf.roi, Value.bool c.conf.damage, Value.int IntKind.i64 c.conf.room] ?d_d ?c_d ?u_d ?s_d ?i_d ?r_d); (case g_d | o_d | h_d => exact rfl); (case c_d => exact Hca.out); (case u_d => exact Try.underlying39); (case s_d => exact rfl); (case i_d => exact Hcs.out)) | ((with_reducible refine wpList_load_midG ?g_e 39 ?x_e ?o_e (w.heap.size + 1) 37 ?h_e [Value.bool e.conf.fuse, Value.bool e.conf.alias, Value.bool e.conf.roi, Value.bool e.conf.damage, Value.int IntKind.i64 e.conf.room] ?d_e ?c_e ?u_e ?s_e ?i_e ?r_e); (case g_e | o_e | h_e => exact rfl); (case c_e => exact Hcb.out); (case u_e => exact Try.underlying39); (case s_e => exact rfl); (case i_e => exact Hcs.out)) | fail)
    go_ret
    exact ⟨by rw [Hq.out]; rfl, HM.out⟩
  have q_op_kind : (c.op.kind == e.op.kind) = true := by simp [h_op_kind]
  have I_op_kind := Lib.hid h_op_kind
  clear h_op_kind
  by_cases h_op_id : c.op.id = e.op.id
  case neg =>
    have q_op_id : decide (c.op.id = e.op.id) = false := by simp [h_op_id]
    have Hq : Hid (decide (c = e) = false) := Lib.hid (by simp [ac_eq, h_op_id])
    clear h_op_id
    go_wp2_with (first | ((with_reducible refine wpList_load_midG ?g_f 39 ?x_f ?o_f w.heap.size 37 ?h_f [Value.bool c.conf.fuse, Value.bool c.conf.alias, Value.bool c.conf.roi, Value.bool c.conf.damage, Value.int IntKind.i64 c.conf.room] ?d_f ?c_f ?u_f ?s_f ?i_f ?r_f); (case g_f | o_f | h_f => exact rfl); (case c_f => exact Hca.out); (case u_f => exact Try.underlying39); (case s_f => exact rfl); (case i_f => exact Hcs.out)) | ((with_reducible refine wpList_load_midG ?g_g 39 ?x_g ?o_g (w.heap.size + 1) 37 ?h_g [Value.bool e.conf.fuse, Value.bool e.conf.alias, Value.bool e.conf.roi, Value.bool e.conf.damage, Value.int IntKind.i64 e.conf.room] ?d_g ?c_g ?u_g ?s_g ?i_g ?r_g); (case g_g | o_g | h_g => exact rfl); (case c_g => exact Hcb.out); (case u_g => exact Try.underlying39); (case s_g => exact rfl); (case i_g => exact Hcs.out)) | fail)
    go_ret
    exact ⟨by rw [Hq.out]; rfl, HM.out⟩
  have q_op_id : decide (c.op.id = e.op.id) = true := by simp [h_op_id]
  have I_op_id := Lib.hid h_op_id
  clear h_op_id
  by_cases h_op_to : c.op.to = e.op.to
  case neg =>
    have q_op_to : decide (c.op.to = e.op.to) = false := by simp [h_op_to]
    have Hq : Hid (decide (c = e) = false) := Lib.hid (by simp [ac_eq, h_op_to])
    clear h_op_to
    go_wp2_with (first | ((with_reducible refine wpList_load_midG ?g_h 39 ?x_h ?o_h w.heap.size 37 ?h_h [Value.bool c.conf.fuse, Value.bool c.conf.alias, Value.bool c.conf.roi, Value.bool c.conf.damage, Value.int IntKind.i64 c.conf.room] ?d_h ?c_h ?u_h ?s_h ?i_h ?r_h); (case g_h | o_h | h_h => exact rfl); (case c_h => exact Hca.out); (case u_h => exact Try.underlying39); (case s_h => exact rfl); (case i_h => exact Hcs.out)) | ((with_reducible refine wpList_load_midG ?g_i 39 ?x_i ?o_i (w.heap.size + 1) 37 ?h_i [Value.bool e.conf.fuse, Value.bool e.conf.alias, Value.bool e.conf.roi, Value.bool e.conf.damage, Value.int IntKind.i64 e.conf.room] ?d_i ?c_i ?u_i ?s_i ?i_i ?r_i); (case g_i | o_i | h_i => exact rfl); (case c_i => exact Hcb.out); (case u_i => exact Try.underlying39); (case s_i => exact rfl); (case i_i => exact Hcs.out)) | fail)
    go_ret
    exact ⟨by rw [Hq.out]; rfl, HM.out⟩
  have q_op_to : decide (c.op.to = e.op.to) = true := by simp [h_op_to]
  have I_op_to := Lib.hid h_op_to
  clear h_op_to
  by_cases h_op_at_ : c.op.at_ = e.op.at_
  case neg =>
    have q_op_at_ : (c.op.at_ == e.op.at_) = false := by simp [h_op_at_]
    have Hq : Hid (decide (c = e) = false) := Lib.hid (by simp [ac_eq, h_op_at_])
    clear h_op_at_
    go_wp2_with (first | ((with_reducible refine wpList_load_midG ?g_j 39 ?x_j ?o_j w.heap.size 37 ?h_j [Value.bool c.conf.fuse, Value.bool c.conf.alias, Value.bool c.conf.roi, Value.bool c.conf.damage, Value.int IntKind.i64 c.conf.room] ?d_j ?c_j ?u_j ?s_j ?i_j ?r_j); (case g_j | o_j | h_j => exact rfl); (case c_j => exact Hca.out); (case u_j => exact Try.underlying39); (case s_j => exact rfl); (case i_j => exact Hcs.out)) | ((with_reducible refine wpList_load_midG ?g_k 39 ?x_k ?o_k (w.heap.size + 1) 37 ?h_k [Value.bool e.conf.fuse, Value.bool e.conf.alias, Value.bool e.conf.roi, Value.bool e.conf.damage, Value.int IntKind.i64 e.conf.room] ?d_k ?c_k ?u_k ?s_k ?i_k ?r_k); (case g_k | o_k | h_k => exact rfl); (case c_k => exact Hcb.out); (case u_k => exact Try.underlying39); (case s_k => exact rfl); (case i_k => exact Hcs.out)) | fail)
    go_ret
    exact ⟨by rw [Hq.out]; rfl, HM.out⟩
  have q_op_at_ : (c.op.at_ == e.op.at_) = true := by simp [h_op_at_]
  have I_op_at_ := Lib.hid h_op_at_
  clear h_op_at_
  go_wp2_with (first | ((with_reducible refine wpList_load_midG ?g_l 39 ?x_l ?o_l w.heap.size 37 ?h_l [Value.bool c.conf.fuse, Value.bool c.conf.alias, Value.bool c.conf.roi, Value.bool c.conf.damage, Value.int IntKind.i64 c.conf.room] ?d_l ?c_l ?u_l ?s_l ?i_l ?r_l); (case g_l | o_l | h_l => exact rfl); (case c_l => exact Hca.out); (case u_l => exact Try.underlying39); (case s_l => exact rfl); (case i_l => exact Hcs.out)) | ((with_reducible refine wpList_load_midG ?g_m 39 ?x_m ?o_m (w.heap.size + 1) 37 ?h_m [Value.bool e.conf.fuse, Value.bool e.conf.alias, Value.bool e.conf.roi, Value.bool e.conf.damage, Value.int IntKind.i64 e.conf.room] ?d_m ?c_m ?u_m ?s_m ?i_m ?r_m); (case g_m | o_m | h_m => exact rfl); (case c_m => exact Hcb.out); (case u_m => exact Try.underlying39); (case s_m => exact rfl); (case i_m => exact Hcs.out)) | ((with_reducible refine wpList_load_midG ?g_n 35 ?x_n ?o_n w.heap.size 7 ?h_n (LkA c.op.look p1 p2 p3 k1 k2 k3).toList ?d_n ?c_n ?u_n ?s_n ?i_n ?r_n); (case g_n | o_n | h_n => exact rfl); (case c_n => exact Hra.out); (case u_n => exact Try.underlying35); (case s_n => exact rfl); (case i_n => exact HiA.out)) | ((with_reducible refine wpList_load_midG ?g_o 35 ?x_o ?o_o (w.heap.size + 1) 7 ?h_o (LkA e.op.look q1 q2 q3 j1 j2 j3).toList ?d_o ?c_o ?u_o ?s_o ?i_o ?r_o); (case g_o | o_o | h_o => exact rfl); (case c_o => exact Hrb.out); (case u_o => exact Try.underlying35); (case s_o => exact rfl); (case i_o => exact HiB.out)) | fail)
  refine (lookR_any _ G1 G2 p1 p2 p3 q1 q2 q3 k1 k2 k3 j1 j2 j3 c.op.look e.op.look Hx.out Hy.out L1.out L2.out).mono ?_
  rintro r w1 ⟨rfl, hm1⟩
  have HM1 := Lib.hid (HM.out.trans' hm1)
  clear hm1
  have Hq : Hid (decide (c.op.look = e.op.look) = decide (c = e)) := Lib.hid (by simp [ac_eq, I_op_kind.out, I_op_id.out, I_op_to.out, I_op_at_.out, I_kind.out, I_w.out, I_h.out, I_conf.out])
  generalize decide (c.op.look = e.op.look) = q at *
  cases q with
  | true =>
    go_wp2_with fail
    go_ret
    exact ⟨by rw [← Hq.out]; rfl, HM1.out⟩
  | false =>
    go_wp2_with fail
    go_ret
    exact ⟨by rw [← Hq.out]; rfl, HM1.out⟩

end Go.Proofs.Ytnamnmipgpcjjaa

