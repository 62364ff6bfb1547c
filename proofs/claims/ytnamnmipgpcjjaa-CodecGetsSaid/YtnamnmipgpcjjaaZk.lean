/- Texts of the codec's proofs, laid together: RfD, RfE. -/
import Derived.Test.YtnamnmipgpcjjaaZj
set_option linter.unusedSimpArgs false
set_option linter.unusedVariables false
set_option linter.unusedSectionVars false
set_option linter.constructorNameAsVariable false

/- Acts as bytes: the document's sameness of looks. -/
namespace Go.Proofs.Ytnamnmipgpcjjaa
open Go.RowKit Go.Gou

set_option linter.constructorNameAsVariable false
set_option maxRecDepth 100000

set_option maxHeartbeats 4000000 in
theorem lookR_any (w : World) (G1 G2 : Nat → Prop) (p1 p2 p3 q1 q2 q3 : Option Addr) (k1 k2 k3 j1 j2 j3 : Nat) (c e : Lk) (hx : LookR G1 w c (.slice p1 c.content.pix.length k1) (.slice p2 c.filt.nodes.length k2) (.slice p3 c.back.nodes.length k3)) (hy : LookR G2 w e (.slice q1 e.content.pix.length j1) (.slice q2 e.filt.nodes.length j2) (.slice q3 e.back.nodes.length j3)) (l1 : LookBorne c) (l2 : LookBorne e) :
    Calls Try.prog 29 #[.agg (lookC c (.slice p1 c.content.pix.length k1) (.slice p2 c.filt.nodes.length k2) (.slice p3 c.back.nodes.length k3)), .agg (lookC e (.slice q1 e.content.pix.length j1) (.slice q2 e.filt.nodes.length j2) (.slice q3 e.back.nodes.length j3))] w fun r w' => r = .returned (.bool (decide (c = e))) ∧ Gou.Mod (fun _ => False) w w' := by
  have HM0 : Hid (Gou.Mod (fun _ => False) w ((w.alloc (.cells (lookC c (.slice p1 c.content.pix.length k1) (.slice p2 c.filt.nodes.length k2) (.slice p3 c.back.nodes.length k3)) 35)).alloc (.cells (lookC e (.slice q1 e.content.pix.length j1) (.slice q2 e.filt.nodes.length j2) (.slice q3 e.back.nodes.length j3)) 35))) := Lib.hid ((Gou.Mod.alloc _ _ _).trans' (Gou.Mod.alloc _ _ _))
  have Hx0 := Lib.hid (LookR.mod hx HM0.out (fun _ _ _ h => h))
  have Hy0 := Lib.hid (LookR.mod hy HM0.out (fun _ _ _ h => h))
  have L1 := Lib.hid l1
  have L2 := Lib.hid l2
  have HA0 : Hid (Blk ((w.alloc (.cells (lookC c (.slice p1 c.content.pix.length k1) (.slice p2 c.filt.nodes.length k2) (.slice p3 c.back.nodes.length k3)) 35)).alloc (.cells (lookC e (.slice q1 e.content.pix.length j1) (.slice q2 e.filt.nodes.length j2) (.slice q3 e.back.nodes.length j3)) 35)) w.heap.size 35 (lookC c (.slice p1 c.content.pix.length k1) (.slice p2 c.filt.nodes.length k2) (.slice p3 c.back.nodes.length k3))) := Lib.hid ((show Blk (w.alloc (.cells (lookC c (.slice p1 c.content.pix.length k1) (.slice p2 c.filt.nodes.length k2) (.slice p3 c.back.nodes.length k3)) 35)) w.heap.size 35 _ from heap_alloc_new w _).mod (Gou.Mod.alloc (fun _ => False) _ _) (fun h => h))
  have HB0 : Hid (Blk ((w.alloc (.cells (lookC c (.slice p1 c.content.pix.length k1) (.slice p2 c.filt.nodes.length k2) (.slice p3 c.back.nodes.length k3)) 35)).alloc (.cells (lookC e (.slice q1 e.content.pix.length j1) (.slice q2 e.filt.nodes.length j2) (.slice q3 e.back.nodes.length j3)) 35)) (w.heap.size + 1) 35 (lookC e (.slice q1 e.content.pix.length j1) (.slice q2 e.filt.nodes.length j2) (.slice q3 e.back.nodes.length j3))) := Lib.hid (by
    have := heap_alloc_new (w.alloc (.cells (lookC c (.slice p1 c.content.pix.length k1) (.slice p2 c.filt.nodes.length k2) (.slice p3 c.back.nodes.length k3)) 35)) (.cells (lookC e (.slice q1 e.content.pix.length j1) (.slice q2 e.filt.nodes.length j2) (.slice q3 e.back.nodes.length j3)) 35)
    rw [World.size_alloc] at this
    exact this)
  have Hra : Hid ((((w.alloc (.cells (lookC c (.slice p1 c.content.pix.length k1) (.slice p2 c.filt.nodes.length k2) (.slice p3 c.back.nodes.length k3)) 35)).alloc (.cells (lookC e (.slice q1 e.content.pix.length j1) (.slice q2 e.filt.nodes.length j2) (.slice q3 e.back.nodes.length j3)) 35))).rangeAt w.heap.size 9 (contC c.content (.slice p1 c.content.pix.length k1)).toList) := Lib.hid (Blk.range HA0.out (look_cont c _ _ _) rfl)
  have Hrb : Hid ((((w.alloc (.cells (lookC c (.slice p1 c.content.pix.length k1) (.slice p2 c.filt.nodes.length k2) (.slice p3 c.back.nodes.length k3)) 35)).alloc (.cells (lookC e (.slice q1 e.content.pix.length j1) (.slice q2 e.filt.nodes.length j2) (.slice q3 e.back.nodes.length j3)) 35))).rangeAt (w.heap.size + 1) 9 (contC e.content (.slice q1 e.content.pix.length j1)).toList) := Lib.hid (Blk.range HB0.out (look_cont e _ _ _) rfl)
  have HiA : Hid ((Try.prog.info? 30).map (·.size) = some (contC c.content (.slice p1 c.content.pix.length k1)).toList.length) := Lib.hid (size_content.trans (by simp [contC]))
  have HiB : Hid ((Try.prog.info? 30).map (·.size) = some (contC e.content (.slice q1 e.content.pix.length j1)).toList.length) := Lib.hid (size_content.trans (by simp [contC]))
  clear hx hy l1 l2
  have a0_0 : (((w.alloc (.cells (lookC c (.slice p1 c.content.pix.length k1) (.slice p2 c.filt.nodes.length k2) (.slice p3 c.back.nodes.length k3)) 35)).alloc (.cells (lookC e (.slice q1 e.content.pix.length j1) (.slice q2 e.filt.nodes.length j2) (.slice q3 e.back.nodes.length j3)) 35))).cell? ⟨w.heap.size, 0, none⟩ = some (.int .i64 c.dx) := HA0.out.cell 0 rfl
  have b0_0 : (((w.alloc (.cells (lookC c (.slice p1 c.content.pix.length k1) (.slice p2 c.filt.nodes.length k2) (.slice p3 c.back.nodes.length k3)) 35)).alloc (.cells (lookC e (.slice q1 e.content.pix.length j1) (.slice q2 e.filt.nodes.length j2) (.slice q3 e.back.nodes.length j3)) 35))).cell? ⟨w.heap.size + 1, 0, none⟩ = some (.int .i64 e.dx) := HB0.out.cell 0 rfl
  have a1_0 : (((w.alloc (.cells (lookC c (.slice p1 c.content.pix.length k1) (.slice p2 c.filt.nodes.length k2) (.slice p3 c.back.nodes.length k3)) 35)).alloc (.cells (lookC e (.slice q1 e.content.pix.length j1) (.slice q2 e.filt.nodes.length j2) (.slice q3 e.back.nodes.length j3)) 35))).cell? ⟨w.heap.size, 1, none⟩ = some (.int .i64 c.dy) := HA0.out.cell 1 rfl
  have b1_0 : (((w.alloc (.cells (lookC c (.slice p1 c.content.pix.length k1) (.slice p2 c.filt.nodes.length k2) (.slice p3 c.back.nodes.length k3)) 35)).alloc (.cells (lookC e (.slice q1 e.content.pix.length j1) (.slice q2 e.filt.nodes.length j2) (.slice q3 e.back.nodes.length j3)) 35))).cell? ⟨w.heap.size + 1, 1, none⟩ = some (.int .i64 e.dy) := HB0.out.cell 1 rfl
  have a2_0 : (((w.alloc (.cells (lookC c (.slice p1 c.content.pix.length k1) (.slice p2 c.filt.nodes.length k2) (.slice p3 c.back.nodes.length k3)) 35)).alloc (.cells (lookC e (.slice q1 e.content.pix.length j1) (.slice q2 e.filt.nodes.length j2) (.slice q3 e.back.nodes.length j3)) 35))).cell? ⟨w.heap.size, 2, none⟩ = some (.bool c.hasClip) := HA0.out.cell 2 rfl
  have b2_0 : (((w.alloc (.cells (lookC c (.slice p1 c.content.pix.length k1) (.slice p2 c.filt.nodes.length k2) (.slice p3 c.back.nodes.length k3)) 35)).alloc (.cells (lookC e (.slice q1 e.content.pix.length j1) (.slice q2 e.filt.nodes.length j2) (.slice q3 e.back.nodes.length j3)) 35))).cell? ⟨w.heap.size + 1, 2, none⟩ = some (.bool e.hasClip) := HB0.out.cell 2 rfl
  have a3_0 : (((w.alloc (.cells (lookC c (.slice p1 c.content.pix.length k1) (.slice p2 c.filt.nodes.length k2) (.slice p3 c.back.nodes.length k3)) 35)).alloc (.cells (lookC e (.slice q1 e.content.pix.length j1) (.slice q2 e.filt.nodes.length j2) (.slice q3 e.back.nodes.length j3)) 35))).cell? ⟨w.heap.size, 3, none⟩ = some (.int .i64 c.clip.x0) := HA0.out.cell 3 rfl
  have b3_0 : (((w.alloc (.cells (lookC c (.slice p1 c.content.pix.length k1) (.slice p2 c.filt.nodes.length k2) (.slice p3 c.back.nodes.length k3)) 35)).alloc (.cells (lookC e (.slice q1 e.content.pix.length j1) (.slice q2 e.filt.nodes.length j2) (.slice q3 e.back.nodes.length j3)) 35))).cell? ⟨w.heap.size + 1, 3, none⟩ = some (.int .i64 e.clip.x0) := HB0.out.cell 3 rfl
  have a4_0 : (((w.alloc (.cells (lookC c (.slice p1 c.content.pix.length k1) (.slice p2 c.filt.nodes.length k2) (.slice p3 c.back.nodes.length k3)) 35)).alloc (.cells (lookC e (.slice q1 e.content.pix.length j1) (.slice q2 e.filt.nodes.length j2) (.slice q3 e.back.nodes.length j3)) 35))).cell? ⟨w.heap.size, 4, none⟩ = some (.int .i64 c.clip.y0) := HA0.out.cell 4 rfl
  have b4_0 : (((w.alloc (.cells (lookC c (.slice p1 c.content.pix.length k1) (.slice p2 c.filt.nodes.length k2) (.slice p3 c.back.nodes.length k3)) 35)).alloc (.cells (lookC e (.slice q1 e.content.pix.length j1) (.slice q2 e.filt.nodes.length j2) (.slice q3 e.back.nodes.length j3)) 35))).cell? ⟨w.heap.size + 1, 4, none⟩ = some (.int .i64 e.clip.y0) := HB0.out.cell 4 rfl
  have a5_0 : (((w.alloc (.cells (lookC c (.slice p1 c.content.pix.length k1) (.slice p2 c.filt.nodes.length k2) (.slice p3 c.back.nodes.length k3)) 35)).alloc (.cells (lookC e (.slice q1 e.content.pix.length j1) (.slice q2 e.filt.nodes.length j2) (.slice q3 e.back.nodes.length j3)) 35))).cell? ⟨w.heap.size, 5, none⟩ = some (.int .i64 c.clip.x1) := HA0.out.cell 5 rfl
  have b5_0 : (((w.alloc (.cells (lookC c (.slice p1 c.content.pix.length k1) (.slice p2 c.filt.nodes.length k2) (.slice p3 c.back.nodes.length k3)) 35)).alloc (.cells (lookC e (.slice q1 e.content.pix.length j1) (.slice q2 e.filt.nodes.length j2) (.slice q3 e.back.nodes.length j3)) 35))).cell? ⟨w.heap.size + 1, 5, none⟩ = some (.int .i64 e.clip.x1) := HB0.out.cell 5 rfl
  have a6_0 : (((w.alloc (.cells (lookC c (.slice p1 c.content.pix.length k1) (.slice p2 c.filt.nodes.length k2) (.slice p3 c.back.nodes.length k3)) 35)).alloc (.cells (lookC e (.slice q1 e.content.pix.length j1) (.slice q2 e.filt.nodes.length j2) (.slice q3 e.back.nodes.length j3)) 35))).cell? ⟨w.heap.size, 6, none⟩ = some (.int .i64 c.clip.y1) := HA0.out.cell 6 rfl
  have b6_0 : (((w.alloc (.cells (lookC c (.slice p1 c.content.pix.length k1) (.slice p2 c.filt.nodes.length k2) (.slice p3 c.back.nodes.length k3)) 35)).alloc (.cells (lookC e (.slice q1 e.content.pix.length j1) (.slice q2 e.filt.nodes.length j2) (.slice q3 e.back.nodes.length j3)) 35))).cell? ⟨w.heap.size + 1, 6, none⟩ = some (.int .i64 e.clip.y1) := HB0.out.cell 6 rfl
  have a7_0 : (((w.alloc (.cells (lookC c (.slice p1 c.content.pix.length k1) (.slice p2 c.filt.nodes.length k2) (.slice p3 c.back.nodes.length k3)) 35)).alloc (.cells (lookC e (.slice q1 e.content.pix.length j1) (.slice q2 e.filt.nodes.length j2) (.slice q3 e.back.nodes.length j3)) 35))).cell? ⟨w.heap.size, 7, none⟩ = some (.int .i64 c.opacity) := HA0.out.cell 7 rfl
  have b7_0 : (((w.alloc (.cells (lookC c (.slice p1 c.content.pix.length k1) (.slice p2 c.filt.nodes.length k2) (.slice p3 c.back.nodes.length k3)) 35)).alloc (.cells (lookC e (.slice q1 e.content.pix.length j1) (.slice q2 e.filt.nodes.length j2) (.slice q3 e.back.nodes.length j3)) 35))).cell? ⟨w.heap.size + 1, 7, none⟩ = some (.int .i64 e.opacity) := HB0.out.cell 7 rfl
  have a8_0 : (((w.alloc (.cells (lookC c (.slice p1 c.content.pix.length k1) (.slice p2 c.filt.nodes.length k2) (.slice p3 c.back.nodes.length k3)) 35)).alloc (.cells (lookC e (.slice q1 e.content.pix.length j1) (.slice q2 e.filt.nodes.length j2) (.slice q3 e.back.nodes.length j3)) 35))).cell? ⟨w.heap.size, 8, none⟩ = some (.int .i64 c.mode) := HA0.out.cell 8 rfl
  have b8_0 : (((w.alloc (.cells (lookC c (.slice p1 c.content.pix.length k1) (.slice p2 c.filt.nodes.length k2) (.slice p3 c.back.nodes.length k3)) 35)).alloc (.cells (lookC e (.slice q1 e.content.pix.length j1) (.slice q2 e.filt.nodes.length j2) (.slice q3 e.back.nodes.length j3)) 35))).cell? ⟨w.heap.size + 1, 8, none⟩ = some (.int .i64 e.mode) := HB0.out.cell 8 rfl
  have a22_0 : (((w.alloc (.cells (lookC c (.slice p1 c.content.pix.length k1) (.slice p2 c.filt.nodes.length k2) (.slice p3 c.back.nodes.length k3)) 35)).alloc (.cells (lookC e (.slice q1 e.content.pix.length j1) (.slice q2 e.filt.nodes.length j2) (.slice q3 e.back.nodes.length j3)) 35))).cell? ⟨w.heap.size, 22, none⟩ = some (.bool c.hasFilt) := HA0.out.cell 22 rfl
  have b22_0 : (((w.alloc (.cells (lookC c (.slice p1 c.content.pix.length k1) (.slice p2 c.filt.nodes.length k2) (.slice p3 c.back.nodes.length k3)) 35)).alloc (.cells (lookC e (.slice q1 e.content.pix.length j1) (.slice q2 e.filt.nodes.length j2) (.slice q3 e.back.nodes.length j3)) 35))).cell? ⟨w.heap.size + 1, 22, none⟩ = some (.bool e.hasFilt) := HB0.out.cell 22 rfl
  have a23_0 : (((w.alloc (.cells (lookC c (.slice p1 c.content.pix.length k1) (.slice p2 c.filt.nodes.length k2) (.slice p3 c.back.nodes.length k3)) 35)).alloc (.cells (lookC e (.slice q1 e.content.pix.length j1) (.slice q2 e.filt.nodes.length j2) (.slice q3 e.back.nodes.length j3)) 35))).cell? ⟨w.heap.size, 23, none⟩ = some (.slice p2 c.filt.nodes.length k2) := HA0.out.cell 23 rfl
  have b23_0 : (((w.alloc (.cells (lookC c (.slice p1 c.content.pix.length k1) (.slice p2 c.filt.nodes.length k2) (.slice p3 c.back.nodes.length k3)) 35)).alloc (.cells (lookC e (.slice q1 e.content.pix.length j1) (.slice q2 e.filt.nodes.length j2) (.slice q3 e.back.nodes.length j3)) 35))).cell? ⟨w.heap.size + 1, 23, none⟩ = some (.slice q2 e.filt.nodes.length j2) := HB0.out.cell 23 rfl
  have a24_0 : (((w.alloc (.cells (lookC c (.slice p1 c.content.pix.length k1) (.slice p2 c.filt.nodes.length k2) (.slice p3 c.back.nodes.length k3)) 35)).alloc (.cells (lookC e (.slice q1 e.content.pix.length j1) (.slice q2 e.filt.nodes.length j2) (.slice q3 e.back.nodes.length j3)) 35))).cell? ⟨w.heap.size, 24, none⟩ = some (.int .i64 c.filt.out) := HA0.out.cell 24 rfl
  have b24_0 : (((w.alloc (.cells (lookC c (.slice p1 c.content.pix.length k1) (.slice p2 c.filt.nodes.length k2) (.slice p3 c.back.nodes.length k3)) 35)).alloc (.cells (lookC e (.slice q1 e.content.pix.length j1) (.slice q2 e.filt.nodes.length j2) (.slice q3 e.back.nodes.length j3)) 35))).cell? ⟨w.heap.size + 1, 24, none⟩ = some (.int .i64 e.filt.out) := HB0.out.cell 24 rfl
  have a25_0 : (((w.alloc (.cells (lookC c (.slice p1 c.content.pix.length k1) (.slice p2 c.filt.nodes.length k2) (.slice p3 c.back.nodes.length k3)) 35)).alloc (.cells (lookC e (.slice q1 e.content.pix.length j1) (.slice q2 e.filt.nodes.length j2) (.slice q3 e.back.nodes.length j3)) 35))).cell? ⟨w.heap.size, 25, none⟩ = some (.bool c.hasBack) := HA0.out.cell 25 rfl
  have b25_0 : (((w.alloc (.cells (lookC c (.slice p1 c.content.pix.length k1) (.slice p2 c.filt.nodes.length k2) (.slice p3 c.back.nodes.length k3)) 35)).alloc (.cells (lookC e (.slice q1 e.content.pix.length j1) (.slice q2 e.filt.nodes.length j2) (.slice q3 e.back.nodes.length j3)) 35))).cell? ⟨w.heap.size + 1, 25, none⟩ = some (.bool e.hasBack) := HB0.out.cell 25 rfl
  have a26_0 : (((w.alloc (.cells (lookC c (.slice p1 c.content.pix.length k1) (.slice p2 c.filt.nodes.length k2) (.slice p3 c.back.nodes.length k3)) 35)).alloc (.cells (lookC e (.slice q1 e.content.pix.length j1) (.slice q2 e.filt.nodes.length j2) (.slice q3 e.back.nodes.length j3)) 35))).cell? ⟨w.heap.size, 26, none⟩ = some (.slice p3 c.back.nodes.length k3) := HA0.out.cell 26 rfl
  have b26_0 : (((w.alloc (.cells (lookC c (.slice p1 c.content.pix.length k1) (.slice p2 c.filt.nodes.length k2) (.slice p3 c.back.nodes.length k3)) 35)).alloc (.cells (lookC e (.slice q1 e.content.pix.length j1) (.slice q2 e.filt.nodes.length j2) (.slice q3 e.back.nodes.length j3)) 35))).cell? ⟨w.heap.size + 1, 26, none⟩ = some (.slice q3 e.back.nodes.length j3) := HB0.out.cell 26 rfl
  have a27_0 : (((w.alloc (.cells (lookC c (.slice p1 c.content.pix.length k1) (.slice p2 c.filt.nodes.length k2) (.slice p3 c.back.nodes.length k3)) 35)).alloc (.cells (lookC e (.slice q1 e.content.pix.length j1) (.slice q2 e.filt.nodes.length j2) (.slice q3 e.back.nodes.length j3)) 35))).cell? ⟨w.heap.size, 27, none⟩ = some (.int .i64 c.back.out) := HA0.out.cell 27 rfl
  have b27_0 : (((w.alloc (.cells (lookC c (.slice p1 c.content.pix.length k1) (.slice p2 c.filt.nodes.length k2) (.slice p3 c.back.nodes.length k3)) 35)).alloc (.cells (lookC e (.slice q1 e.content.pix.length j1) (.slice q2 e.filt.nodes.length j2) (.slice q3 e.back.nodes.length j3)) 35))).cell? ⟨w.heap.size + 1, 27, none⟩ = some (.int .i64 e.back.out) := HB0.out.cell 27 rfl
  have Hr := Lib.hid (rect_op c.clip e.clip)
  have HRc := Hr.out
  go_enter Try.func29, Try.ntmps29
  by_cases h_dx : c.dx = e.dx
  case neg =>
    have q_dx : (c.dx == e.dx) = false := by simp [h_dx]
    have Hq : Hid (decide (c = e) = false) := Lib.hid (by simp [lk_eq, h_dx])
    clear h_dx
    go_wp2_with fail
    go_ret
    exact ⟨by rw [Hq.out]; rfl, HM0.out⟩
  have q_dx : (c.dx == e.dx) = true := by simp [h_dx]
  have I_dx := Lib.hid h_dx
  clear h_dx
  by_cases h_dy : c.dy = e.dy
  case neg =>
    have q_dy : (c.dy == e.dy) = false := by simp [h_dy]
    have Hq : Hid (decide (c = e) = false) := Lib.hid (by simp [lk_eq, h_dy])
    clear h_dy
    go_wp2_with fail
    go_ret
    exact ⟨by rw [Hq.out]; rfl, HM0.out⟩
  have q_dy : (c.dy == e.dy) = true := by simp [h_dy]
  have I_dy := Lib.hid h_dy
  clear h_dy
  by_cases h_hasClip : c.hasClip = e.hasClip
  case neg =>
    have q_hasClip : (c.hasClip == e.hasClip) = false := by simp [h_hasClip]
    have Hq : Hid (decide (c = e) = false) := Lib.hid (by simp [lk_eq, h_hasClip])
    clear h_hasClip
    go_wp2_with fail
    go_ret
    exact ⟨by rw [Hq.out]; rfl, HM0.out⟩
  have q_hasClip : (c.hasClip == e.hasClip) = true := by simp [h_hasClip]
  have I_hasClip := Lib.hid h_hasClip
  clear h_hasClip
  by_cases h_clip : c.clip = e.clip
  case neg =>
    have q_clip : decide (c.clip = e.clip) = false := by simp [h_clip]
    have Hq : Hid (decide (c = e) = false) := Lib.hid (by simp [lk_eq, h_clip])
    clear h_clip
    go_wp2_with fail
    go_ret
    exact ⟨by rw [Hq.out]; rfl, HM0.out⟩
  have q_clip : decide (c.clip = e.clip) = true := by simp [h_clip]
  have I_clip := Lib.hid h_clip
  clear h_clip
  by_cases h_opacity : c.opacity = e.opacity
  case neg =>
    have q_opacity : (c.opacity == e.opacity) = false := by simp [h_opacity]
    have Hq : Hid (decide (c = e) = false) := Lib.hid (by simp [lk_eq, h_opacity])
    clear h_opacity
    go_wp2_with fail
    go_ret
    exact ⟨by rw [Hq.out]; rfl, HM0.out⟩
  have q_opacity : (c.opacity == e.opacity) = true := by simp [h_opacity]
  have I_opacity := Lib.hid h_opacity
  clear h_opacity
  by_cases h_mode : c.mode = e.mode
  case neg =>
    have q_mode : (c.mode == e.mode) = false := by simp [h_mode]
    have Hq : Hid (decide (c = e) = false) := Lib.hid (by simp [lk_eq, h_mode])
    clear h_mode
    go_wp2_with fail
    go_ret
    exact ⟨by rw [Hq.out]; rfl, HM0.out⟩
  have q_mode : (c.mode == e.mode) = true := by simp [h_mode]
  have I_mode := Lib.hid h_mode
  clear h_mode
  go_wp2_with (first | ((with_reducible refine wpList_load_midG ?g1_1 30 ?x1_1 ?o1_1 w.heap.size 9 ?h1_1 (contC c.content (.slice p1 c.content.pix.length k1)).toList ?d1_1 ?c1_1 ?u1_1 ?s1_1 ?i1_1 ?r1_1); (case g1_1 => exact rfl); (case o1_1 => exact rfl); (case h1_1 => exact rfl); (case c1_1 => exact Hra.out); (case u1_1 => exact Try.underlying30); (case s1_1 => exact rfl); (case i1_1 => exact HiA.out)) | ((with_reducible refine wpList_load_midG ?g1_2 30 ?x1_2 ?o1_2 (w.heap.size + 1) 9 ?h1_2 (contC e.content (.slice q1 e.content.pix.length j1)).toList ?d1_2 ?c1_2 ?u1_2 ?s1_2 ?i1_2 ?r1_2); (case g1_2 => exact rfl); (case o1_2 => exact rfl); (case h1_2 => exact rfl); (case c1_2 => exact Hrb.out); (case u1_2 => exact Try.underlying30); (case s1_2 => exact rfl); (case i1_2 => exact HiB.out)) | fail)
  refine (contR_any _ G1 G2 p1 q1 k1 j1 c.content e.content Hx0.out.pix Hy0.out.pix L1.out.pix L2.out.pix).mono ?_
  rintro r w1 ⟨rfl, hm1⟩
  have HM1 := Lib.hid (HM0.out.trans' hm1)
  have Hx1 := Lib.hid (LookR.mod Hx0.out hm1 (fun _ _ _ h => h))
  have Hy1 := Lib.hid (LookR.mod Hy0.out hm1 (fun _ _ _ h => h))
  have HA1 := Lib.hid (HA0.out.mod hm1 (fun h => h))
  have HB1 := Lib.hid (HB0.out.mod hm1 (fun h => h))
  clear hm1
  have a22_1 : w1.cell? ⟨w.heap.size, 22, none⟩ = some (.bool c.hasFilt) := HA1.out.cell 22 rfl
  have b22_1 : w1.cell? ⟨w.heap.size + 1, 22, none⟩ = some (.bool e.hasFilt) := HB1.out.cell 22 rfl
  have a23_1 : w1.cell? ⟨w.heap.size, 23, none⟩ = some (.slice p2 c.filt.nodes.length k2) := HA1.out.cell 23 rfl
  have b23_1 : w1.cell? ⟨w.heap.size + 1, 23, none⟩ = some (.slice q2 e.filt.nodes.length j2) := HB1.out.cell 23 rfl
  have a24_1 : w1.cell? ⟨w.heap.size, 24, none⟩ = some (.int .i64 c.filt.out) := HA1.out.cell 24 rfl
  have b24_1 : w1.cell? ⟨w.heap.size + 1, 24, none⟩ = some (.int .i64 e.filt.out) := HB1.out.cell 24 rfl
  have a25_1 : w1.cell? ⟨w.heap.size, 25, none⟩ = some (.bool c.hasBack) := HA1.out.cell 25 rfl
  have b25_1 : w1.cell? ⟨w.heap.size + 1, 25, none⟩ = some (.bool e.hasBack) := HB1.out.cell 25 rfl
  have a26_1 : w1.cell? ⟨w.heap.size, 26, none⟩ = some (.slice p3 c.back.nodes.length k3) := HA1.out.cell 26 rfl
  have b26_1 : w1.cell? ⟨w.heap.size + 1, 26, none⟩ = some (.slice q3 e.back.nodes.length j3) := HB1.out.cell 26 rfl
  have a27_1 : w1.cell? ⟨w.heap.size, 27, none⟩ = some (.int .i64 c.back.out) := HA1.out.cell 27 rfl
  have b27_1 : w1.cell? ⟨w.heap.size + 1, 27, none⟩ = some (.int .i64 e.back.out) := HB1.out.cell 27 rfl
  by_cases h_content : c.content = e.content
  case neg =>
    have q_content : decide (c.content = e.content) = false := by simp [h_content]
    have Hq : Hid (decide (c = e) = false) := Lib.hid (by simp [lk_eq, h_content])
    clear h_content
    generalize decide (c.content = e.content) = q at *
    subst q_content
    go_wp2_with fail
    go_ret
    exact ⟨by rw [Hq.out]; rfl, HM1.out⟩
  have q_content : decide (c.content = e.content) = true := by simp [h_content]
  have I_content := Lib.hid h_content
  clear h_content
  generalize decide (c.content = e.content) = q at *
  subst q_content
  by_cases h_hasFilt : c.hasFilt = e.hasFilt
  case neg =>
    have q_hasFilt : (c.hasFilt == e.hasFilt) = false := by simp [h_hasFilt]
    have Hq : Hid (decide (c = e) = false) := Lib.hid (by simp [lk_eq, h_hasFilt])
    clear h_hasFilt
    go_wp2_with fail
    go_ret
    exact ⟨by rw [Hq.out]; rfl, HM1.out⟩
  have q_hasFilt : (c.hasFilt == e.hasFilt) = true := by simp [h_hasFilt]
  have I_hasFilt := Lib.hid h_hasFilt
  clear h_hasFilt
  go_wp2_with fail
  refine (grR_any _ G1 G2 p2 q2 k2 j2 c.filt e.filt Hx1.out.filt Hy1.out.filt L1.out.filt L2.out.filt).mono ?_
  rintro r w2 ⟨rfl, hm2⟩
  have HM2 := Lib.hid (HM1.out.trans' hm2)
  have Hx2 := Lib.hid (LookR.mod Hx1.out hm2 (fun _ _ _ h => h))
  have Hy2 := Lib.hid (LookR.mod Hy1.out hm2 (fun _ _ _ h => h))
  have HA2 := Lib.hid (HA1.out.mod hm2 (fun h => h))
  have HB2 := Lib.hid (HB1.out.mod hm2 (fun h => h))
  clear hm2
  have a25_2 : w2.cell? ⟨w.heap.size, 25, none⟩ = some (.bool c.hasBack) := HA2.out.cell 25 rfl
  have b25_2 : w2.cell? ⟨w.heap.size + 1, 25, none⟩ = some (.bool e.hasBack) := HB2.out.cell 25 rfl
  have a26_2 : w2.cell? ⟨w.heap.size, 26, none⟩ = some (.slice p3 c.back.nodes.length k3) := HA2.out.cell 26 rfl
  have b26_2 : w2.cell? ⟨w.heap.size + 1, 26, none⟩ = some (.slice q3 e.back.nodes.length j3) := HB2.out.cell 26 rfl
  have a27_2 : w2.cell? ⟨w.heap.size, 27, none⟩ = some (.int .i64 c.back.out) := HA2.out.cell 27 rfl
  have b27_2 : w2.cell? ⟨w.heap.size + 1, 27, none⟩ = some (.int .i64 e.back.out) := HB2.out.cell 27 rfl
  by_cases h_filt : c.filt = e.filt
  case neg =>
    have q_filt : decide (c.filt = e.filt) = false := by simp [h_filt]
    have Hq : Hid (decide (c = e) = false) := Lib.hid (by simp [lk_eq, h_filt])
    clear h_filt
    generalize decide (c.filt = e.filt) = q at *
    subst q_filt
    go_wp2_with fail
    go_ret
    exact ⟨by rw [Hq.out]; rfl, HM2.out⟩
  have q_filt : decide (c.filt = e.filt) = true := by simp [h_filt]
  have I_filt := Lib.hid h_filt
  clear h_filt
  generalize decide (c.filt = e.filt) = q at *
  subst q_filt
  by_cases h_hasBack : c.hasBack = e.hasBack
  case neg =>
    have q_hasBack : (c.hasBack == e.hasBack) = false := by simp [h_hasBack]
    have Hq : Hid (decide (c = e) = false) := Lib.hid (by simp [lk_eq, h_hasBack])
    clear h_hasBack
    go_wp2_with fail
    go_ret
    exact ⟨by rw [Hq.out]; rfl, HM2.out⟩
  have q_hasBack : (c.hasBack == e.hasBack) = true := by simp [h_hasBack]
  have I_hasBack := Lib.hid h_hasBack
  clear h_hasBack
  go_wp2_with fail
  refine (grR_any _ G1 G2 p3 q3 k3 j3 c.back e.back Hx2.out.back Hy2.out.back L1.out.back L2.out.back).mono ?_
  rintro r w3 ⟨rfl, hm3⟩
  have HM3 := Lib.hid (HM2.out.trans' hm3)
  clear hm3
  have Hq : Hid (decide (c.back = e.back) = decide (c = e)) := Lib.hid (by simp [lk_eq, I_dx.out, I_dy.out, I_hasClip.out, I_clip.out, I_opacity.out, I_mode.out, I_content.out, I_hasFilt.out, I_filt.out, I_hasBack.out])
  generalize decide (c.back = e.back) = q at *
  cases q with
  | true =>
    go_wp2_with fail
    go_ret
    exact ⟨by rw [← Hq.out]; rfl, HM3.out⟩
  | false =>
    go_wp2_with fail
    go_ret
    exact ⟨by rw [← Hq.out]; rfl, HM3.out⟩


end Go.Proofs.Ytnamnmipgpcjjaa

/- Acts as bytes: the document's sameness of acts. -/
namespace Go.Gou
open Go.RowKit
theorem act_conf (a : Ac) (vp vf vb : Value) : (actC a vp vf vb).toList = ([Value.int IntKind.i64 a.kind] ++ ((oprC a.op vp vf vb).toList ++ [Value.int IntKind.i64 a.w, Value.int IntKind.i64 a.h])) ++ ([Value.bool a.conf.fuse, Value.bool a.conf.alias, Value.bool a.conf.roi, Value.bool a.conf.damage, Value.int IntKind.i64 a.conf.room] ++ []) := rfl
end Go.Gou
namespace Go.Proofs.Ytnamnmipgpcjjaa
open Go.RowKit Go.Gou

set_option linter.constructorNameAsVariable false
set_option maxRecDepth 100000

set_option maxHeartbeats 4000000 in
theorem actR_any (w : World) (G1 G2 : Nat → Prop) (p1 p2 p3 q1 q2 q3 : Option Addr) (k1 k2 k3 j1 j2 j3 : Nat) (c e : Ac) (hx : LookR G1 w c.op.look (.slice p1 c.op.look.content.pix.length k1) (.slice p2 c.op.look.filt.nodes.length k2) (.slice p3 c.op.look.back.nodes.length k3)) (hy : LookR G2 w e.op.look (.slice q1 e.op.look.content.pix.length j1) (.slice q2 e.op.look.filt.nodes.length j2) (.slice q3 e.op.look.back.nodes.length j3)) (l1 : LookBorne c.op.look) (l2 : LookBorne e.op.look) :
    Calls Try.prog 17 #[.agg (actC c (.slice p1 c.op.look.content.pix.length k1) (.slice p2 c.op.look.filt.nodes.length k2) (.slice p3 c.op.look.back.nodes.length k3)), .agg (actC e (.slice q1 e.op.look.content.pix.length j1) (.slice q2 e.op.look.filt.nodes.length j2) (.slice q3 e.op.look.back.nodes.length j3))] w fun r w' => r = .returned (.bool (decide (c = e))) ∧ Gou.Mod (fun _ => False) w w' := by
  have HM : Hid (Gou.Mod (fun _ => False) w ((w.alloc (.cells (actC c (.slice p1 c.op.look.content.pix.length k1) (.slice p2 c.op.look.filt.nodes.length k2) (.slice p3 c.op.look.back.nodes.length k3)) 41)).alloc (.cells (actC e (.slice q1 e.op.look.content.pix.length j1) (.slice q2 e.op.look.filt.nodes.length j2) (.slice q3 e.op.look.back.nodes.length j3)) 41))) := Lib.hid ((Gou.Mod.alloc _ _ _).trans' (Gou.Mod.alloc _ _ _))
  have Hx := Lib.hid (LookR.mod hx HM.out (fun _ _ _ h => h))
  have Hy := Lib.hid (LookR.mod hy HM.out (fun _ _ _ h => h))
  have L1 := Lib.hid l1
  have L2 := Lib.hid l2
  have HA : Hid (Blk ((w.alloc (.cells (actC c (.slice p1 c.op.look.content.pix.length k1) (.slice p2 c.op.look.filt.nodes.length k2) (.slice p3 c.op.look.back.nodes.length k3)) 41)).alloc (.cells (actC e (.slice q1 e.op.look.content.pix.length j1) (.slice q2 e.op.look.filt.nodes.length j2) (.slice q3 e.op.look.back.nodes.length j3)) 41)) w.heap.size 41 (actC c (.slice p1 c.op.look.content.pix.length k1) (.slice p2 c.op.look.filt.nodes.length k2) (.slice p3 c.op.look.back.nodes.length k3))) := Lib.hid ((show Blk (w.alloc (.cells (actC c (.slice p1 c.op.look.content.pix.length k1) (.slice p2 c.op.look.filt.nodes.length k2) (.slice p3 c.op.look.back.nodes.length k3)) 41)) w.heap.size 41 _ from heap_alloc_new w _).mod (Gou.Mod.alloc (fun _ => False) _ _) (fun h => h))
  have HB : Hid (Blk ((w.alloc (.cells (actC c (.slice p1 c.op.look.content.pix.length k1) (.slice p2 c.op.look.filt.nodes.length k2) (.slice p3 c.op.look.back.nodes.length k3)) 41)).alloc (.cells (actC e (.slice q1 e.op.look.content.pix.length j1) (.slice q2 e.op.look.filt.nodes.length j2) (.slice q3 e.op.look.back.nodes.length j3)) 41)) (w.heap.size + 1) 41 (actC e (.slice q1 e.op.look.content.pix.length j1) (.slice q2 e.op.look.filt.nodes.length j2) (.slice q3 e.op.look.back.nodes.length j3))) := Lib.hid (by
    have := heap_alloc_new (w.alloc (.cells (actC c (.slice p1 c.op.look.content.pix.length k1) (.slice p2 c.op.look.filt.nodes.length k2) (.slice p3 c.op.look.back.nodes.length k3)) 41)) (.cells (actC e (.slice q1 e.op.look.content.pix.length j1) (.slice q2 e.op.look.filt.nodes.length j2) (.slice q3 e.op.look.back.nodes.length j3)) 41)
    rw [World.size_alloc] at this
    exact this)
  have Hra : Hid ((((w.alloc (.cells (actC c (.slice p1 c.op.look.content.pix.length k1) (.slice p2 c.op.look.filt.nodes.length k2) (.slice p3 c.op.look.back.nodes.length k3)) 41)).alloc (.cells (actC e (.slice q1 e.op.look.content.pix.length j1) (.slice q2 e.op.look.filt.nodes.length j2) (.slice q3 e.op.look.back.nodes.length j3)) 41))).rangeAt w.heap.size 7 (lookC c.op.look (.slice p1 c.op.look.content.pix.length k1) (.slice p2 c.op.look.filt.nodes.length k2) (.slice p3 c.op.look.back.nodes.length k3)).toList) := Lib.hid (Blk.range HA.out (act_look c _ _ _) rfl)
  have Hrb : Hid ((((w.alloc (.cells (actC c (.slice p1 c.op.look.content.pix.length k1) (.slice p2 c.op.look.filt.nodes.length k2) (.slice p3 c.op.look.back.nodes.length k3)) 41)).alloc (.cells (actC e (.slice q1 e.op.look.content.pix.length j1) (.slice q2 e.op.look.filt.nodes.length j2) (.slice q3 e.op.look.back.nodes.length j3)) 41))).rangeAt (w.heap.size + 1) 7 (lookC e.op.look (.slice q1 e.op.look.content.pix.length j1) (.slice q2 e.op.look.filt.nodes.length j2) (.slice q3 e.op.look.back.nodes.length j3)).toList) := Lib.hid (Blk.range HB.out (act_look e _ _ _) rfl)
  have HiA : Hid ((Try.prog.info? 35).map (·.size) = some (lookC c.op.look (.slice p1 c.op.look.content.pix.length k1) (.slice p2 c.op.look.filt.nodes.length k2) (.slice p3 c.op.look.back.nodes.length k3)).toList.length) := Lib.hid (size_look.trans (by simp [lookC]))
  have HiB : Hid ((Try.prog.info? 35).map (·.size) = some (lookC e.op.look (.slice q1 e.op.look.content.pix.length j1) (.slice q2 e.op.look.filt.nodes.length j2) (.slice q3 e.op.look.back.nodes.length j3)).toList.length) := Lib.hid (size_look.trans (by simp [lookC]))
  have Hca : Hid ((((w.alloc (.cells (actC c (.slice p1 c.op.look.content.pix.length k1) (.slice p2 c.op.look.filt.nodes.length k2) (.slice p3 c.op.look.back.nodes.length k3)) 41)).alloc (.cells (actC e (.slice q1 e.op.look.content.pix.length j1) (.slice q2 e.op.look.filt.nodes.length j2) (.slice q3 e.op.look.back.nodes.length j3)) 41))).rangeAt w.heap.size 37 [Value.bool c.conf.fuse, Value.bool c.conf.alias, Value.bool c.conf.roi, Value.bool c.conf.damage, Value.int IntKind.i64 c.conf.room]) := Lib.hid (Blk.range (post := []) HA.out (act_conf c _ _ _) rfl)
  have Hcb : Hid ((((w.alloc (.cells (actC c (.slice p1 c.op.look.content.pix.length k1) (.slice p2 c.op.look.filt.nodes.length k2) (.slice p3 c.op.look.back.nodes.length k3)) 41)).alloc (.cells (actC e (.slice q1 e.op.look.content.pix.length j1) (.slice q2 e.op.look.filt.nodes.length j2) (.slice q3 e.op.look.back.nodes.length j3)) 41))).rangeAt (w.heap.size + 1) 37 [Value.bool e.conf.fuse, Value.bool e.conf.alias, Value.bool e.conf.roi, Value.bool e.conf.damage, Value.int IntKind.i64 e.conf.room]) := Lib.hid (Blk.range (post := []) HB.out (act_conf e _ _ _) rfl)
  have Hcs : Hid ((Try.prog.info? 39).map (·.size) = some 5) := Lib.hid (by kernel_rfl)
  clear hx hy l1 l2
  have a1 : (((w.alloc (.cells (actC c (.slice p1 c.op.look.content.pix.length k1) (.slice p2 c.op.look.filt.nodes.length k2) (.slice p3 c.op.look.back.nodes.length k3)) 41)).alloc (.cells (actC e (.slice q1 e.op.look.content.pix.length j1) (.slice q2 e.op.look.filt.nodes.length j2) (.slice q3 e.op.look.back.nodes.length j3)) 41))).cell? ⟨w.heap.size, 1, none⟩ = some (.int .i64 c.op.kind) := HA.out.cell 1 rfl
  have b1 : (((w.alloc (.cells (actC c (.slice p1 c.op.look.content.pix.length k1) (.slice p2 c.op.look.filt.nodes.length k2) (.slice p3 c.op.look.back.nodes.length k3)) 41)).alloc (.cells (actC e (.slice q1 e.op.look.content.pix.length j1) (.slice q2 e.op.look.filt.nodes.length j2) (.slice q3 e.op.look.back.nodes.length j3)) 41))).cell? ⟨w.heap.size + 1, 1, none⟩ = some (.int .i64 e.op.kind) := HB.out.cell 1 rfl
  have a2 : (((w.alloc (.cells (actC c (.slice p1 c.op.look.content.pix.length k1) (.slice p2 c.op.look.filt.nodes.length k2) (.slice p3 c.op.look.back.nodes.length k3)) 41)).alloc (.cells (actC e (.slice q1 e.op.look.content.pix.length j1) (.slice q2 e.op.look.filt.nodes.length j2) (.slice q3 e.op.look.back.nodes.length j3)) 41))).cell? ⟨w.heap.size, 2, none⟩ = some (.int .i64 c.op.id.1) := HA.out.cell 2 rfl
  have b2 : (((w.alloc (.cells (actC c (.slice p1 c.op.look.content.pix.length k1) (.slice p2 c.op.look.filt.nodes.length k2) (.slice p3 c.op.look.back.nodes.length k3)) 41)).alloc (.cells (actC e (.slice q1 e.op.look.content.pix.length j1) (.slice q2 e.op.look.filt.nodes.length j2) (.slice q3 e.op.look.back.nodes.length j3)) 41))).cell? ⟨w.heap.size + 1, 2, none⟩ = some (.int .i64 e.op.id.1) := HB.out.cell 2 rfl
  have a3 : (((w.alloc (.cells (actC c (.slice p1 c.op.look.content.pix.length k1) (.slice p2 c.op.look.filt.nodes.length k2) (.slice p3 c.op.look.back.nodes.length k3)) 41)).alloc (.cells (actC e (.slice q1 e.op.look.content.pix.length j1) (.slice q2 e.op.look.filt.nodes.length j2) (.slice q3 e.op.look.back.nodes.length j3)) 41))).cell? ⟨w.heap.size, 3, none⟩ = some (.int .i64 c.op.id.2) := HA.out.cell 3 rfl
  have b3 : (((w.alloc (.cells (actC c (.slice p1 c.op.look.content.pix.length k1) (.slice p2 c.op.look.filt.nodes.length k2) (.slice p3 c.op.look.back.nodes.length k3)) 41)).alloc (.cells (actC e (.slice q1 e.op.look.content.pix.length j1) (.slice q2 e.op.look.filt.nodes.length j2) (.slice q3 e.op.look.back.nodes.length j3)) 41))).cell? ⟨w.heap.size + 1, 3, none⟩ = some (.int .i64 e.op.id.2) := HB.out.cell 3 rfl
  have a4 : (((w.alloc (.cells (actC c (.slice p1 c.op.look.content.pix.length k1) (.slice p2 c.op.look.filt.nodes.length k2) (.slice p3 c.op.look.back.nodes.length k3)) 41)).alloc (.cells (actC e (.slice q1 e.op.look.content.pix.length j1) (.slice q2 e.op.look.filt.nodes.length j2) (.slice q3 e.op.look.back.nodes.length j3)) 41))).cell? ⟨w.heap.size, 4, none⟩ = some (.int .i64 c.op.to.1) := HA.out.cell 4 rfl
  have b4 : (((w.alloc (.cells (actC c (.slice p1 c.op.look.content.pix.length k1) (.slice p2 c.op.look.filt.nodes.length k2) (.slice p3 c.op.look.back.nodes.length k3)) 41)).alloc (.cells (actC e (.slice q1 e.op.look.content.pix.length j1) (.slice q2 e.op.look.filt.nodes.length j2) (.slice q3 e.op.look.back.nodes.length j3)) 41))).cell? ⟨w.heap.size + 1, 4, none⟩ = some (.int .i64 e.op.to.1) := HB.out.cell 4 rfl
  have a5 : (((w.alloc (.cells (actC c (.slice p1 c.op.look.content.pix.length k1) (.slice p2 c.op.look.filt.nodes.length k2) (.slice p3 c.op.look.back.nodes.length k3)) 41)).alloc (.cells (actC e (.slice q1 e.op.look.content.pix.length j1) (.slice q2 e.op.look.filt.nodes.length j2) (.slice q3 e.op.look.back.nodes.length j3)) 41))).cell? ⟨w.heap.size, 5, none⟩ = some (.int .i64 c.op.to.2) := HA.out.cell 5 rfl
  have b5 : (((w.alloc (.cells (actC c (.slice p1 c.op.look.content.pix.length k1) (.slice p2 c.op.look.filt.nodes.length k2) (.slice p3 c.op.look.back.nodes.length k3)) 41)).alloc (.cells (actC e (.slice q1 e.op.look.content.pix.length j1) (.slice q2 e.op.look.filt.nodes.length j2) (.slice q3 e.op.look.back.nodes.length j3)) 41))).cell? ⟨w.heap.size + 1, 5, none⟩ = some (.int .i64 e.op.to.2) := HB.out.cell 5 rfl
  have a6 : (((w.alloc (.cells (actC c (.slice p1 c.op.look.content.pix.length k1) (.slice p2 c.op.look.filt.nodes.length k2) (.slice p3 c.op.look.back.nodes.length k3)) 41)).alloc (.cells (actC e (.slice q1 e.op.look.content.pix.length j1) (.slice q2 e.op.look.filt.nodes.length j2) (.slice q3 e.op.look.back.nodes.length j3)) 41))).cell? ⟨w.heap.size, 6, none⟩ = some (.int .i64 c.op.at_) := HA.out.cell 6 rfl
  have b6 : (((w.alloc (.cells (actC c (.slice p1 c.op.look.content.pix.length k1) (.slice p2 c.op.look.filt.nodes.length k2) (.slice p3 c.op.look.back.nodes.length k3)) 41)).alloc (.cells (actC e (.slice q1 e.op.look.content.pix.length j1) (.slice q2 e.op.look.filt.nodes.length j2) (.slice q3 e.op.look.back.nodes.length j3)) 41))).cell? ⟨w.heap.size + 1, 6, none⟩ = some (.int .i64 e.op.at_) := HB.out.cell 6 rfl
  have a0 : (((w.alloc (.cells (actC c (.slice p1 c.op.look.content.pix.length k1) (.slice p2 c.op.look.filt.nodes.length k2) (.slice p3 c.op.look.back.nodes.length k3)) 41)).alloc (.cells (actC e (.slice q1 e.op.look.content.pix.length j1) (.slice q2 e.op.look.filt.nodes.length j2) (.slice q3 e.op.look.back.nodes.length j3)) 41))).cell? ⟨w.heap.size, 0, none⟩ = some (.int .i64 c.kind) := HA.out.cell 0 rfl
  have b0 : (((w.alloc (.cells (actC c (.slice p1 c.op.look.content.pix.length k1) (.slice p2 c.op.look.filt.nodes.length k2) (.slice p3 c.op.look.back.nodes.length k3)) 41)).alloc (.cells (actC e (.slice q1 e.op.look.content.pix.length j1) (.slice q2 e.op.look.filt.nodes.length j2) (.slice q3 e.op.look.back.nodes.length j3)) 41))).cell? ⟨w.heap.size + 1, 0, none⟩ = some (.int .i64 e.kind) := HB.out.cell 0 rfl
  have a35 : (((w.alloc (.cells (actC c (.slice p1 c.op.look.content.pix.length k1) (.slice p2 c.op.look.filt.nodes.length k2) (.slice p3 c.op.look.back.nodes.length k3)) 41)).alloc (.cells (actC e (.slice q1 e.op.look.content.pix.length j1) (.slice q2 e.op.look.filt.nodes.length j2) (.slice q3 e.op.look.back.nodes.length j3)) 41))).cell? ⟨w.heap.size, 35, none⟩ = some (.int .i64 c.w) := HA.out.cell 35 rfl
  have b35 : (((w.alloc (.cells (actC c (.slice p1 c.op.look.content.pix.length k1) (.slice p2 c.op.look.filt.nodes.length k2) (.slice p3 c.op.look.back.nodes.length k3)) 41)).alloc (.cells (actC e (.slice q1 e.op.look.content.pix.length j1) (.slice q2 e.op.look.filt.nodes.length j2) (.slice q3 e.op.look.back.nodes.length j3)) 41))).cell? ⟨w.heap.size + 1, 35, none⟩ = some (.int .i64 e.w) := HB.out.cell 35 rfl
  have a36 : (((w.alloc (.cells (actC c (.slice p1 c.op.look.content.pix.length k1) (.slice p2 c.op.look.filt.nodes.length k2) (.slice p3 c.op.look.back.nodes.length k3)) 41)).alloc (.cells (actC e (.slice q1 e.op.look.content.pix.length j1) (.slice q2 e.op.look.filt.nodes.length j2) (.slice q3 e.op.look.back.nodes.length j3)) 41))).cell? ⟨w.heap.size, 36, none⟩ = some (.int .i64 c.h) := HA.out.cell 36 rfl
  have b36 : (((w.alloc (.cells (actC c (.slice p1 c.op.look.content.pix.length k1) (.slice p2 c.op.look.filt.nodes.length k2) (.slice p3 c.op.look.back.nodes.length k3)) 41)).alloc (.cells (actC e (.slice q1 e.op.look.content.pix.length j1) (.slice q2 e.op.look.filt.nodes.length j2) (.slice q3 e.op.look.back.nodes.length j3)) 41))).cell? ⟨w.heap.size + 1, 36, none⟩ = some (.int .i64 e.h) := HB.out.cell 36 rfl
  have Hr1 := Lib.hid (id_op c.op.id e.op.id)
  have Hr2 := Lib.hid (id_op c.op.to e.op.to)
  have Hr3 := Lib.hid (conf_op c.conf e.conf)
  have HRi := Hr1.out
  have HRt := Hr2.out
  have HRc := Hr3.out
  go_enter Try.func17, Try.ntmps17
  iterate 16 (first | go_values | go_skip | go_guarded | go_step | go_upon | go_back)
  simp only [List.append]
  by_cases h_kind : c.kind = e.kind
  case neg =>
    have q_kind : (c.kind == e.kind) = false := by simp [h_kind]
    have Hq : Hid (decide (c = e) = false) := Lib.hid (by simp [ac_eq, h_kind])
    clear h_kind
    go_wp2_with (first | ((with_reducible refine wpList_load_midG ?g1_5 39 ?x1_5 ?o1_5 w.heap.size 37 ?h1_5 [Value.bool c.conf.fuse, Value.bool c.conf.alias, Value.bool c.conf.roi, Value.bool c.conf.damage, Value.int IntKind.i64 c.conf.room] ?d1_5 ?c1_5 ?u1_5 ?s1_5 ?i1_5 ?r1_5); (case g1_5 => exact rfl); (case o1_5 => exact rfl); (case h1_5 => exact rfl); (case c1_5 => exact Hca.out); (case u1_5 => exact Try.underlying39); (case s1_5 => exact rfl); (case i1_5 => exact Hcs.out)) | ((with_reducible refine wpList_load_midG ?g1_6 39 ?x1_6 ?o1_6 (w.heap.size + 1) 37 ?h1_6 [Value.bool e.conf.fuse, Value.bool e.conf.alias, Value.bool e.conf.roi, Value.bool e.conf.damage, Value.int IntKind.i64 e.conf.room] ?d1_6 ?c1_6 ?u1_6 ?s1_6 ?i1_6 ?r1_6); (case g1_6 => exact rfl); (case o1_6 => exact rfl); (case h1_6 => exact rfl); (case c1_6 => exact Hcb.out); (case u1_6 => exact Try.underlying39); (case s1_6 => exact rfl); (case i1_6 => exact Hcs.out)) | fail)
    go_ret
    exact ⟨by rw [Hq.out]; rfl, HM.out⟩
  have q_kind : (c.kind == e.kind) = true := by simp [h_kind]
  have I_kind := Lib.hid h_kind
  clear h_kind
  by_cases h_w : c.w = e.w
  case neg =>
    have q_w : (c.w == e.w) = false := by simp [h_w]
    have Hq : Hid (decide (c = e) = false) := Lib.hid (by simp [ac_eq, h_w])
    clear h_w
    go_wp2_with (first | ((with_reducible refine wpList_load_midG ?g1_7 39 ?x1_7 ?o1_7 w.heap.size 37 ?h1_7 [Value.bool c.conf.fuse, Value.bool c.conf.alias, Value.bool c.conf.roi, Value.bool c.conf.damage, Value.int IntKind.i64 c.conf.room] ?d1_7 ?c1_7 ?u1_7 ?s1_7 ?i1_7 ?r1_7); (case g1_7 => exact rfl); (case o1_7 => exact rfl); (case h1_7 => exact rfl); (case c1_7 => exact Hca.out); (case u1_7 => exact Try.underlying39); (case s1_7 => exact rfl); (case i1_7 => exact Hcs.out)) | ((with_reducible refine wpList_load_midG ?g1_8 39 ?x1_8 ?o1_8 (w.heap.size + 1) 37 ?h1_8 [Value.bool e.conf.fuse, Value.bool e.conf.alias, Value.bool e.conf.roi, Value.bool e.conf.damage, Value.int IntKind.i64 e.conf.room] ?d1_8 ?c1_8 ?u1_8 ?s1_8 ?i1_8 ?r1_8); (case g1_8 => exact rfl); (case o1_8 => exact rfl); (case h1_8 => exact rfl); (case c1_8 => exact Hcb.out); (case u1_8 => exact Try.underlying39); (case s1_8 => exact rfl); (case i1_8 => exact Hcs.out)) | fail)
    go_ret
    exact ⟨by rw [Hq.out]; rfl, HM.out⟩
  have q_w : (c.w == e.w) = true := by simp [h_w]
  have I_w := Lib.hid h_w
  clear h_w
  by_cases h_h : c.h = e.h
  case neg =>
    have q_h : (c.h == e.h) = false := by simp [h_h]
    have Hq : Hid (decide (c = e) = false) := Lib.hid (by simp [ac_eq, h_h])
    clear h_h
    go_wp2_with (first | ((with_reducible refine wpList_load_midG ?g1_9 39 ?x1_9 ?o1_9 w.heap.size 37 ?h1_9 [Value.bool c.conf.fuse, Value.bool c.conf.alias, Value.bool c.conf.roi, Value.bool c.conf.damage, Value.int IntKind.i64 c.conf.room] ?d1_9 ?c1_9 ?u1_9 ?s1_9 ?i1_9 ?r1_9); (case g1_9 => exact rfl); (case o1_9 => exact rfl); (case h1_9 => exact rfl); (case c1_9 => exact Hca.out); (case u1_9 => exact Try.underlying39); (case s1_9 => exact rfl); (case i1_9 => exact Hcs.out)) | ((with_reducible refine wpList_load_midG ?g1_10 39 ?x1_10 ?o1_10 (w.heap.size + 1) 37 ?h1_10 [Value.bool e.conf.fuse, Value.bool e.conf.alias, Value.bool e.conf.roi, Value.bool e.conf.damage, Value.int IntKind.i64 e.conf.room] ?d1_10 ?c1_10 ?u1_10 ?s1_10 ?i1_10 ?r1_10); (case g1_10 => exact rfl); (case o1_10 => exact rfl); (case h1_10 => exact rfl); (case c1_10 => exact Hcb.out); (case u1_10 => exact Try.underlying39); (case s1_10 => exact rfl); (case i1_10 => exact Hcs.out)) | fail)
    go_ret
    exact ⟨by rw [Hq.out]; rfl, HM.out⟩
  have q_h : (c.h == e.h) = true := by simp [h_h]
  have I_h := Lib.hid h_h
  clear h_h
  by_cases h_conf : c.conf = e.conf
  case neg =>
    have q_conf : decide (c.conf = e.conf) = false := by simp [h_conf]
    have Hq : Hid (decide (c = e) = false) := Lib.hid (by simp [ac_eq, h_conf])
    clear h_conf
    go_wp2_with (first | ((with_reducible refine wpList_load_midG ?g1_11 39 ?x1_11 ?o1_11 w.heap.size 37 ?h1_11 [Value.bool c.conf.fuse, Value.bool c.conf.alias, Value.bool c.conf.roi, Value.bool c.conf.damage, Value.int IntKind.i64 c.conf.room] ?d1_11 ?c1_11 ?u1_11 ?s1_11 ?i1_11 ?r1_11); (case g1_11 => exact rfl); (case o1_11 => exact rfl); (case h1_11 => exact rfl); (case c1_11 => exact Hca.out); (case u1_11 => exact Try.underlying39); (case s1_11 => exact rfl); (case i1_11 => exact Hcs.out)) | ((with_reducible refine wpList_load_midG ?g1_12 39 ?x1_12 ?o1_12 (w.heap.size + 1) 37 ?h1_12 [Value.bool e.conf.fuse, Value.bool e.conf.alias, Value.bool e.conf.roi, Value.bool e.conf.damage, Value.int IntKind.i64 e.conf.room] ?d1_12 ?c1_12 ?u1_12 ?s1_12 ?i1_12 ?r1_12); (case g1_12 => exact rfl); (case o1_12 => exact rfl); (case h1_12 => exact rfl); (case c1_12 => exact Hcb.out); (case u1_12 => exact Try.underlying39); (case s1_12 => exact rfl); (case i1_12 => exact Hcs.out)) | fail)
    go_ret
    exact ⟨by rw [Hq.out]; rfl, HM.out⟩
  have q_conf : decide (c.conf = e.conf) = true := by simp [h_conf]
  have I_conf := Lib.hid h_conf
  clear h_conf
  by_cases h_op_kind : c.op.kind = e.op.kind
  case neg =>
    have q_op_kind : (c.op.kind == e.op.kind) = false := by simp [h_op_kind]
    have Hq : Hid (decide (c = e) = false) := Lib.hid (by simp [ac_eq, h_op_kind])
    clear h_op_kind
    go_wp2_with (first | ((with_reducible refine wpList_load_midG ?g1_13 39 ?x1_13 ?o1_13 w.heap.size 37 ?h1_13 [Value.bool c.conf.fuse, Value.bool c.conf.alias, Value.bool c.conf.roi, Value.bool c.conf.damage, Value.int IntKind.i64 c.conf.room] ?d1_13 ?c1_13 ?u1_13 ?s1_13 ?i1_13 ?r1_13); (case g1_13 => exact rfl); (case o1_13 => exact rfl); (case h1_13 => exact rfl); (case c1_13 => exact Hca.out); (case u1_13 => exact Try.underlying39); (case s1_13 => exact rfl); (case i1_13 => exact Hcs.out)) | ((with_reducible refine wpList_load_midG ?g1_14 39 ?x1_14 ?o1_14 (w.heap.size + 1) 37 ?h1_14 [Value.bool e.conf.fuse, Value.bool e.conf.alias, Value.bool e.conf.roi, Value.bool e.conf.damage, Value.int IntKind.i64 e.conf.room] ?d1_14 ?c1_14 ?u1_14 ?s1_14 ?i1_14 ?r1_14); (case g1_14 => exact rfl); (case o1_14 => exact rfl); (case h1_14 => exact rfl); (case c1_14 => exact Hcb.out); (case u1_14 => exact Try.underlying39); (case s1_14 => exact rfl); (case i1_14 => exact Hcs.out)) | fail)
    go_ret
    exact ⟨by rw [Hq.out]; rfl, HM.out⟩
  have q_op_kind : (c.op.kind == e.op.kind) = true := by simp [h_op_kind]
  have I_op_kind := Lib.hid h_op_kind
  clear h_op_kind
  by_cases h_op_id : c.op.id = e.op.id
  case neg =>
    have q_op_id : decide (c.op.id = e.op.id) = false := by simp [h_op_id]
    have Hq : Hid (decide (c = e) = false) := Lib.hid (by simp [ac_eq, h_op_id])
    clear h_op_id
    go_wp2_with (first | ((with_reducible refine wpList_load_midG ?g1_15 39 ?x1_15 ?o1_15 w.heap.size 37 ?h1_15 [Value.bool c.conf.fuse, Value.bool c.conf.alias, Value.bool c.conf.roi, Value.bool c.conf.damage, Value.int IntKind.i64 c.conf.room] ?d1_15 ?c1_15 ?u1_15 ?s1_15 ?i1_15 ?r1_15); (case g1_15 => exact rfl); (case o1_15 => exact rfl); (case h1_15 => exact rfl); (case c1_15 => exact Hca.out); (case u1_15 => exact Try.underlying39); (case s1_15 => exact rfl); (case i1_15 => exact Hcs.out)) | ((with_reducible refine wpList_load_midG ?g1_16 39 ?x1_16 ?o1_16 (w.heap.size + 1) 37 ?h1_16 [Value.bool e.conf.fuse, Value.bool e.conf.alias, Value.bool e.conf.roi, Value.bool e.conf.damage, Value.int IntKind.i64 e.conf.room] ?d1_16 ?c1_16 ?u1_16 ?s1_16 ?i1_16 ?r1_16); (case g1_16 => exact rfl); (case o1_16 => exact rfl); (case h1_16 => exact rfl); (case c1_16 => exact Hcb.out); (case u1_16 => exact Try.underlying39); (case s1_16 => exact rfl); (case i1_16 => exact Hcs.out)) | fail)
    go_ret
    exact ⟨by rw [Hq.out]; rfl, HM.out⟩
  have q_op_id : decide (c.op.id = e.op.id) = true := by simp [h_op_id]
  have I_op_id := Lib.hid h_op_id
  clear h_op_id
  by_cases h_op_to : c.op.to = e.op.to
  case neg =>
    have q_op_to : decide (c.op.to = e.op.to) = false := by simp [h_op_to]
    have Hq : Hid (decide (c = e) = false) := Lib.hid (by simp [ac_eq, h_op_to])
    clear h_op_to
    go_wp2_with (first | ((with_reducible refine wpList_load_midG ?g1_17 39 ?x1_17 ?o1_17 w.heap.size 37 ?h1_17 [Value.bool c.conf.fuse, Value.bool c.conf.alias, Value.bool c.conf.roi, Value.bool c.conf.damage, Value.int IntKind.i64 c.conf.room] ?d1_17 ?c1_17 ?u1_17 ?s1_17 ?i1_17 ?r1_17); (case g1_17 => exact rfl); (case o1_17 => exact rfl); (case h1_17 => exact rfl); (case c1_17 => exact Hca.out); (case u1_17 => exact Try.underlying39); (case s1_17 => exact rfl); (case i1_17 => exact Hcs.out)) | ((with_reducible refine wpList_load_midG ?g1_18 39 ?x1_18 ?o1_18 (w.heap.size + 1) 37 ?h1_18 [Value.bool e.conf.fuse, Value.bool e.conf.alias, Value.bool e.conf.roi, Value.bool e.conf.damage, Value.int IntKind.i64 e.conf.room] ?d1_18 ?c1_18 ?u1_18 ?s1_18 ?i1_18 ?r1_18); (case g1_18 => exact rfl); (case o1_18 => exact rfl); (case h1_18 => exact rfl); (case c1_18 => exact Hcb.out); (case u1_18 => exact Try.underlying39); (case s1_18 => exact rfl); (case i1_18 => exact Hcs.out)) | fail)
    go_ret
    exact ⟨by rw [Hq.out]; rfl, HM.out⟩
  have q_op_to : decide (c.op.to = e.op.to) = true := by simp [h_op_to]
  have I_op_to := Lib.hid h_op_to
  clear h_op_to
  by_cases h_op_at_ : c.op.at_ = e.op.at_
  case neg =>
    have q_op_at_ : (c.op.at_ == e.op.at_) = false := by simp [h_op_at_]
    have Hq : Hid (decide (c = e) = false) := Lib.hid (by simp [ac_eq, h_op_at_])
    clear h_op_at_
    go_wp2_with (first | ((with_reducible refine wpList_load_midG ?g1_19 39 ?x1_19 ?o1_19 w.heap.size 37 ?h1_19 [Value.bool c.conf.fuse, Value.bool c.conf.alias, Value.bool c.conf.roi, Value.bool c.conf.damage, Value.int IntKind.i64 c.conf.room] ?d1_19 ?c1_19 ?u1_19 ?s1_19 ?i1_19 ?r1_19); (case g1_19 => exact rfl); (case o1_19 => exact rfl); (case h1_19 => exact rfl); (case c1_19 => exact Hca.out); (case u1_19 => exact Try.underlying39); (case s1_19 => exact rfl); (case i1_19 => exact Hcs.out)) | ((with_reducible refine wpList_load_midG ?g1_20 39 ?x1_20 ?o1_20 (w.heap.size + 1) 37 ?h1_20 [Value.bool e.conf.fuse, Value.bool e.conf.alias, Value.bool e.conf.roi, Value.bool e.conf.damage, Value.int IntKind.i64 e.conf.room] ?d1_20 ?c1_20 ?u1_20 ?s1_20 ?i1_20 ?r1_20); (case g1_20 => exact rfl); (case o1_20 => exact rfl); (case h1_20 => exact rfl); (case c1_20 => exact Hcb.out); (case u1_20 => exact Try.underlying39); (case s1_20 => exact rfl); (case i1_20 => exact Hcs.out)) | fail)
    go_ret
    exact ⟨by rw [Hq.out]; rfl, HM.out⟩
  have q_op_at_ : (c.op.at_ == e.op.at_) = true := by simp [h_op_at_]
  have I_op_at_ := Lib.hid h_op_at_
  clear h_op_at_
  go_wp2_with (first | ((with_reducible refine wpList_load_midG ?g1_21 39 ?x1_21 ?o1_21 w.heap.size 37 ?h1_21 [Value.bool c.conf.fuse, Value.bool c.conf.alias, Value.bool c.conf.roi, Value.bool c.conf.damage, Value.int IntKind.i64 c.conf.room] ?d1_21 ?c1_21 ?u1_21 ?s1_21 ?i1_21 ?r1_21); (case g1_21 => exact rfl); (case o1_21 => exact rfl); (case h1_21 => exact rfl); (case c1_21 => exact Hca.out); (case u1_21 => exact Try.underlying39); (case s1_21 => exact rfl); (case i1_21 => exact Hcs.out)) | ((with_reducible refine wpList_load_midG ?g1_22 39 ?x1_22 ?o1_22 (w.heap.size + 1) 37 ?h1_22 [Value.bool e.conf.fuse, Value.bool e.conf.alias, Value.bool e.conf.roi, Value.bool e.conf.damage, Value.int IntKind.i64 e.conf.room] ?d1_22 ?c1_22 ?u1_22 ?s1_22 ?i1_22 ?r1_22); (case g1_22 => exact rfl); (case o1_22 => exact rfl); (case h1_22 => exact rfl); (case c1_22 => exact Hcb.out); (case u1_22 => exact Try.underlying39); (case s1_22 => exact rfl); (case i1_22 => exact Hcs.out)) | ((with_reducible refine wpList_load_midG ?g1_23 35 ?x1_23 ?o1_23 w.heap.size 7 ?h1_23 (lookC c.op.look (.slice p1 c.op.look.content.pix.length k1) (.slice p2 c.op.look.filt.nodes.length k2) (.slice p3 c.op.look.back.nodes.length k3)).toList ?d1_23 ?c1_23 ?u1_23 ?s1_23 ?i1_23 ?r1_23); (case g1_23 => exact rfl); (case o1_23 => exact rfl); (case h1_23 => exact rfl); (case c1_23 => exact Hra.out); (case u1_23 => exact Try.underlying35); (case s1_23 => exact rfl); (case i1_23 => exact HiA.out)) | ((with_reducible refine wpList_load_midG ?g1_24 35 ?x1_24 ?o1_24 (w.heap.size + 1) 7 ?h1_24 (lookC e.op.look (.slice q1 e.op.look.content.pix.length j1) (.slice q2 e.op.look.filt.nodes.length j2) (.slice q3 e.op.look.back.nodes.length j3)).toList ?d1_24 ?c1_24 ?u1_24 ?s1_24 ?i1_24 ?r1_24); (case g1_24 => exact rfl); (case o1_24 => exact rfl); (case h1_24 => exact rfl); (case c1_24 => exact Hrb.out); (case u1_24 => exact Try.underlying35); (case s1_24 => exact rfl); (case i1_24 => exact HiB.out)) | fail)
  refine (lookR_any _ G1 G2 p1 p2 p3 q1 q2 q3 k1 k2 k3 j1 j2 j3 c.op.look e.op.look Hx.out Hy.out L1.out L2.out).mono ?_
  rintro r w1 ⟨rfl, hm1⟩
  have HM1 := Lib.hid (HM.out.trans' hm1)
  clear hm1
  have Hq : Hid (decide (c.op.look = e.op.look) = decide (c = e)) := Lib.hid (by simp [ac_eq, I_op_kind.out, I_op_id.out, I_op_to.out, I_op_at_.out, I_kind.out, I_w.out, I_h.out, I_conf.out])
  generalize decide (c.op.look = e.op.look) = q at *
  cases q with
  | true =>
    go_wp2_with fail
    go_ret
    exact ⟨by rw [← Hq.out]; rfl, HM1.out⟩
  | false =>
    go_wp2_with fail
    go_ret
    exact ⟨by rw [← Hq.out]; rfl, HM1.out⟩

end Go.Proofs.Ytnamnmipgpcjjaa

