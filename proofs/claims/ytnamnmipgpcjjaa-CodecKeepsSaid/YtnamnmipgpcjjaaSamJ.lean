/- Acts as bytes: two acts are held against each other. -/
import Derived.Test.YtnamnmipgpcjjaaSamI
namespace Go.Gou
open Go.RowKit

theorem ac_eq (c e : Ac) : c = e ↔ c.op.kind = e.op.kind ∧ c.op.id = e.op.id ∧ c.op.to = e.op.to ∧ c.op.at_ = e.op.at_ ∧ c.op.look = e.op.look ∧ c.kind = e.kind ∧ c.w = e.w ∧ c.h = e.h ∧ c.conf = e.conf := by
  obtain ⟨a1, ⟨a2, a3, a4, a5, a6⟩, a7, a8, a9⟩ := c
  obtain ⟨b1, ⟨b2, b3, b4, b5, b6⟩, b7, b8, b9⟩ := e
  constructor
  · intro h; cases h; simp
  · rintro ⟨h1, h2, h3, h4, h5, h6, h7, h8, h9⟩
    simp only at h1 h2 h3 h4 h5 h6 h7 h8 h9
    subst h1 h2 h3 h4 h5 h6 h7 h8 h9
    rfl

theorem act_look (a : Ac) (vp vf vb : Value) : (actC a vp vf vb).toList = [.int .i64 a.kind, .int .i64 a.op.kind, .int .i64 a.op.id.1, .int .i64 a.op.id.2, .int .i64 a.op.to.1, .int .i64 a.op.to.2, .int .i64 a.op.at_] ++ ((lookC a.op.look vp vf vb).toList ++ [.int .i64 a.w, .int .i64 a.h, .bool a.conf.fuse, .bool a.conf.alias, .bool a.conf.roi, .bool a.conf.damage, .int .i64 a.conf.room]) := rfl

end Go.Gou
namespace Go.Proofs.Ytnamnmipgpcjjaa
open Go.RowKit Go.Gou

set_option linter.constructorNameAsVariable false
set_option maxRecDepth 100000

theorem id_op (a b : Int × Int) (w : World) : (binOp .eql 23 (.agg #[.int .i64 a.1, .int .i64 a.2]) (.agg #[.int .i64 b.1, .int .i64 b.2])).run Try.prog w = .ok (.bool (decide (a = b))) w := by
  simp only [binOp, Sem.run_bind, id_eql, Result.andThen_ok, Sem.run_pure, Prod.ext_iff]

theorem conf_op (a b : Cf) (w : World) : (binOp .eql 39 (.agg #[.bool a.fuse, .bool a.alias, .bool a.roi, .bool a.damage, .int .i64 a.room]) (.agg #[.bool b.fuse, .bool b.alias, .bool b.roi, .bool b.damage, .int .i64 b.room])).run Try.prog w = .ok (.bool (decide (a = b))) w := by
  simp only [binOp, Sem.run_bind, conf_eql, Result.andThen_ok, Sem.run_pure]

set_option maxHeartbeats 4000000 in
theorem sameAct_any (w : World) (G1 G2 : Nat → Prop) (p1 p2 p3 q1 q2 q3 : Option Addr) (k1 k2 k3 j1 j2 j3 : Nat) (c e : Ac) (hx : LookR G1 w c.op.look (.slice p1 c.op.look.content.pix.length k1) (.slice p2 c.op.look.filt.nodes.length k2) (.slice p3 c.op.look.back.nodes.length k3)) (hy : LookR G2 w e.op.look (.slice q1 e.op.look.content.pix.length j1) (.slice q2 e.op.look.filt.nodes.length j2) (.slice q3 e.op.look.back.nodes.length j3)) (l1 : LookBorne c.op.look) (l2 : LookBorne e.op.look) :
    Calls Try.prog 23 #[.agg (actC c (.slice p1 c.op.look.content.pix.length k1) (.slice p2 c.op.look.filt.nodes.length k2) (.slice p3 c.op.look.back.nodes.length k3)), .agg (actC e (.slice q1 e.op.look.content.pix.length j1) (.slice q2 e.op.look.filt.nodes.length j2) (.slice q3 e.op.look.back.nodes.length j3))] w fun r w' => r = .returned (.bool (decide (c = e))) ∧ Gou.Mod (fun _ => False) w w' := by
  have HM : Hid (Gou.Mod (fun _ => False) w ((w.alloc (.cells (actC c (.slice p1 c.op.look.content.pix.length k1) (.slice p2 c.op.look.filt.nodes.length k2) (.slice p3 c.op.look.back.nodes.length k3)) 41)).alloc (.cells (actC e (.slice q1 e.op.look.content.pix.length j1) (.slice q2 e.op.look.filt.nodes.length j2) (.slice q3 e.op.look.back.nodes.length j3)) 41))) := Lib.hid ((Gou.Mod.alloc _ _ _).trans' (Gou.Mod.alloc _ _ _))
  have Hx := Lib.hid (LookR.mod hx HM.out (fun _ _ _ h => h))
  have Hy := Lib.hid (LookR.mod hy HM.out (fun _ _ _ h => h))
  have L1 := Lib.hid l1
  have L2 := Lib.hid l2
  have HA : Hid (Blk ((w.alloc (.cells (actC c (.slice p1 c.op.look.content.pix.length k1) (.slice p2 c.op.look.filt.nodes.length k2) (.slice p3 c.op.look.back.nodes.length k3)) 41)).alloc (.cells (actC e (.slice q1 e.op.look.content.pix.length j1) (.slice q2 e.op.look.filt.nodes.length j2) (.slice q3 e.op.look.back.nodes.length j3)) 41)) w.heap.size 41 (actC c (.slice p1 c.op.look.content.pix.length k1) (.slice p2 c.op.look.filt.nodes.length k2) (.slice p3 c.op.look.back.nodes.length k3))) := Lib.hid ((show Blk (w.alloc (.cells (actC c (.slice p1 c.op.look.content.pix.length k1) (.slice p2 c.op.look.filt.nodes.length k2) (.slice p3 c.op.look.back.nodes.length k3)) 41)) w.heap.size 41 _ from heap_alloc_new w _).mod (Gou.Mod.alloc (fun _ => False) _ _) (fun h => h))
  have HB : Hid (Blk ((w.alloc (.cells (actC c (.slice p1 c.op.look.content.pix.length k1) (.slice p2 c.op.look.filt.nodes.length k2) (.slice p3 c.op.look.back.nodes.length k3)) 41)).alloc (.cells (actC e (.slice q1 e.op.look.content.pix.length j1) (.slice q2 e.op.look.filt.nodes.length j2) (.slice q3 e.op.look.back.nodes.length j3)) 41)) (w.heap.size + 1) 41 (actC e (.slice q1 e.op.look.content.pix.length j1) (.slice q2 e.op.look.filt.nodes.length j2) (.slice q3 e.op.look.back.nodes.length j3))) := Lib.hid (by
    have := heap_alloc_new (w.alloc (.cells (actC c (.slice p1 c.op.look.content.pix.length k1) (.slice p2 c.op.look.filt.nodes.length k2) (.slice p3 c.op.look.back.nodes.length k3)) 41)) (.cells (actC e (.slice q1 e.op.look.content.pix.length j1) (.slice q2 e.op.look.filt.nodes.length j2) (.slice q3 e.op.look.back.nodes.length j3)) 41)
    rw [World.size_alloc] at this
    exact this)
  have Hra : Hid ((((w.alloc (.cells (actC c (.slice p1 c.op.look.content.pix.length k1) (.slice p2 c.op.look.filt.nodes.length k2) (.slice p3 c.op.look.back.nodes.length k3)) 41)).alloc (.cells (actC e (.slice q1 e.op.look.content.pix.length j1) (.slice q2 e.op.look.filt.nodes.length j2) (.slice q3 e.op.look.back.nodes.length j3)) 41))).rangeAt w.heap.size 7 (lookC c.op.look (.slice p1 c.op.look.content.pix.length k1) (.slice p2 c.op.look.filt.nodes.length k2) (.slice p3 c.op.look.back.nodes.length k3)).toList) := Lib.hid (Blk.range HA.out (act_look c _ _ _) rfl)
  have Hrb : Hid ((((w.alloc (.cells (actC c (.slice p1 c.op.look.content.pix.length k1) (.slice p2 c.op.look.filt.nodes.length k2) (.slice p3 c.op.look.back.nodes.length k3)) 41)).alloc (.cells (actC e (.slice q1 e.op.look.content.pix.length j1) (.slice q2 e.op.look.filt.nodes.length j2) (.slice q3 e.op.look.back.nodes.length j3)) 41))).rangeAt (w.heap.size + 1) 7 (lookC e.op.look (.slice q1 e.op.look.content.pix.length j1) (.slice q2 e.op.look.filt.nodes.length j2) (.slice q3 e.op.look.back.nodes.length j3)).toList) := Lib.hid (Blk.range HB.out (act_look e _ _ _) rfl)
  have HiA : Hid ((Try.prog.info? 35).map (·.size) = some (lookC c.op.look (.slice p1 c.op.look.content.pix.length k1) (.slice p2 c.op.look.filt.nodes.length k2) (.slice p3 c.op.look.back.nodes.length k3)).toList.length) := Lib.hid (size_look.trans (by simp [lookC]))
  have HiB : Hid ((Try.prog.info? 35).map (·.size) = some (lookC e.op.look (.slice q1 e.op.look.content.pix.length j1) (.slice q2 e.op.look.filt.nodes.length j2) (.slice q3 e.op.look.back.nodes.length j3)).toList.length) := Lib.hid (size_look.trans (by simp [lookC]))
  clear hx hy l1 l2
  have a1 : (((w.alloc (.cells (actC c (.slice p1 c.op.look.content.pix.length k1) (.slice p2 c.op.look.filt.nodes.length k2) (.slice p3 c.op.look.back.nodes.length k3)) 41)).alloc (.cells (actC e (.slice q1 e.op.look.content.pix.length j1) (.slice q2 e.op.look.filt.nodes.length j2) (.slice q3 e.op.look.back.nodes.length j3)) 41))).cell? ⟨w.heap.size, 1, none⟩ = some (.int .i64 c.op.kind) := HA.out.cell 1 rfl
  have b1 : (((w.alloc (.cells (actC c (.slice p1 c.op.look.content.pix.length k1) (.slice p2 c.op.look.filt.nodes.length k2) (.slice p3 c.op.look.back.nodes.length k3)) 41)).alloc (.cells (actC e (.slice q1 e.op.look.content.pix.length j1) (.slice q2 e.op.look.filt.nodes.length j2) (.slice q3 e.op.look.back.nodes.length j3)) 41))).cell? ⟨w.heap.size + 1, 1, none⟩ = some (.int .i64 e.op.kind) := HB.out.cell 1 rfl
  have a2 : (((w.alloc (.cells (actC c (.slice p1 c.op.look.content.pix.length k1) (.slice p2 c.op.look.filt.nodes.length k2) (.slice p3 c.op.look.back.nodes.length k3)) 41)).alloc (.cells (actC e (.slice q1 e.op.look.content.pix.length j1) (.slice q2 e.op.look.filt.nodes.length j2) (.slice q3 e.op.look.back.nodes.length j3)) 41))).cell? ⟨w.heap.size, 2, none⟩ = some (.int .i64 c.op.id.1) := HA.out.cell 2 rfl
  have b2 : (((w.alloc (.cells (actC c (.slice p1 c.op.look.content.pix.length k1) (.slice p2 c.op.look.filt.nodes.length k2) (.slice p3 c.op.look.back.nodes.length k3)) 41)).alloc (.cells (actC e (.slice q1 e.op.look.content.pix.length j1) (.slice q2 e.op.look.filt.nodes.length j2) (.slice q3 e.op.look.back.nodes.length j3)) 41))).cell? ⟨w.heap.size + 1, 2, none⟩ = some (.int .i64 e.op.id.1) := HB.out.cell 2 rfl
  have a3 : (((w.alloc (.cells (actC c (.slice p1 c.op.look.content.pix.length k1) (.slice p2 c.op.look.filt.nodes.length k2) (.slice p3 c.op.look.back.nodes.length k3)) 41)).alloc (.cells (actC e (.slice q1 e.op.look.content.pix.length j1) (.slice q2 e.op.look.filt.nodes.length j2) (.slice q3 e.op.look.back.nodes.length j3)) 41))).cell? ⟨w.heap.size, 3, none⟩ = some (.int .i64 c.op.id.2) := HA.out.cell 3 rfl
  have b3 : (((w.alloc (.cells (actC c (.slice p1 c.op.look.content.pix.length k1) (.slice p2 c.op.look.filt.nodes.length k2) (.slice p3 c.op.look.back.nodes.length k3)) 41)).alloc (.cells (actC e (.slice q1 e.op.look.content.pix.length j1) (.slice q2 e.op.look.filt.nodes.length j2) (.slice q3 e.op.look.back.nodes.length j3)) 41))).cell? ⟨w.heap.size + 1, 3, none⟩ = some (.int .i64 e.op.id.2) := HB.out.cell 3 rfl
  have a4 : (((w.alloc (.cells (actC c (.slice p1 c.op.look.content.pix.length k1) (.slice p2 c.op.look.filt.nodes.length k2) (.slice p3 c.op.look.back.nodes.length k3)) 41)).alloc (.cells (actC e (.slice q1 e.op.look.content.pix.length j1) (.slice q2 e.op.look.filt.nodes.length j2) (.slice q3 e.op.look.back.nodes.length j3)) 41))).cell? ⟨w.heap.size, 4, none⟩ = some (.int .i64 c.op.to.1) := HA.out.cell 4 rfl
  have b4 : (((w.alloc (.cells (actC c (.slice p1 c.op.look.content.pix.length k1) (.slice p2 c.op.look.filt.nodes.length k2) (.slice p3 c.op.look.back.nodes.length k3)) 41)).alloc (.cells (actC e (.slice q1 e.op.look.content.pix.length j1) (.slice q2 e.op.look.filt.nodes.length j2) (.slice q3 e.op.look.back.nodes.length j3)) 41))).cell? ⟨w.heap.size + 1, 4, none⟩ = some (.int .i64 e.op.to.1) := HB.out.cell 4 rfl
  have a5 : (((w.alloc (.cells (actC c (.slice p1 c.op.look.content.pix.length k1) (.slice p2 c.op.look.filt.nodes.length k2) (.slice p3 c.op.look.back.nodes.length k3)) 41)).alloc (.cells (actC e (.slice q1 e.op.look.content.pix.length j1) (.slice q2 e.op.look.filt.nodes.length j2) (.slice q3 e.op.look.back.nodes.length j3)) 41))).cell? ⟨w.heap.size, 5, none⟩ = some (.int .i64 c.op.to.2) := HA.out.cell 5 rfl
  have b5 : (((w.alloc (.cells (actC c (.slice p1 c.op.look.content.pix.length k1) (.slice p2 c.op.look.filt.nodes.length k2) (.slice p3 c.op.look.back.nodes.length k3)) 41)).alloc (.cells (actC e (.slice q1 e.op.look.content.pix.length j1) (.slice q2 e.op.look.filt.nodes.length j2) (.slice q3 e.op.look.back.nodes.length j3)) 41))).cell? ⟨w.heap.size + 1, 5, none⟩ = some (.int .i64 e.op.to.2) := HB.out.cell 5 rfl
  have a6 : (((w.alloc (.cells (actC c (.slice p1 c.op.look.content.pix.length k1) (.slice p2 c.op.look.filt.nodes.length k2) (.slice p3 c.op.look.back.nodes.length k3)) 41)).alloc (.cells (actC e (.slice q1 e.op.look.content.pix.length j1) (.slice q2 e.op.look.filt.nodes.length j2) (.slice q3 e.op.look.back.nodes.length j3)) 41))).cell? ⟨w.heap.size, 6, none⟩ = some (.int .i64 c.op.at_) := HA.out.cell 6 rfl
  have b6 : (((w.alloc (.cells (actC c (.slice p1 c.op.look.content.pix.length k1) (.slice p2 c.op.look.filt.nodes.length k2) (.slice p3 c.op.look.back.nodes.length k3)) 41)).alloc (.cells (actC e (.slice q1 e.op.look.content.pix.length j1) (.slice q2 e.op.look.filt.nodes.length j2) (.slice q3 e.op.look.back.nodes.length j3)) 41))).cell? ⟨w.heap.size + 1, 6, none⟩ = some (.int .i64 e.op.at_) := HB.out.cell 6 rfl
  have Hr1 := Lib.hid (id_op c.op.id e.op.id)
  have Hr2 := Lib.hid (id_op c.op.to e.op.to)
  have Hr3 := Lib.hid (conf_op c.conf e.conf)
  have HRi := Hr1.out
  have HRt := Hr2.out
  have HRc := Hr3.out
  go_enter Try.func23, Try.ntmps23
  by_cases h_op_kind : c.op.kind = e.op.kind
  case neg =>
    have q_op_kind : (c.op.kind == e.op.kind) = false := by simp [h_op_kind]
    have Hq : Hid (decide (c = e) = false) := Lib.hid (by simp [ac_eq, h_op_kind])
    clear h_op_kind
    go_wp2_with fail
    go_ret
    exact ⟨by rw [Hq.out]; rfl, HM.out⟩
  have q_op_kind : (c.op.kind == e.op.kind) = true := by simp [h_op_kind]
  have I_op_kind := Lib.hid h_op_kind
  clear h_op_kind
  by_cases h_op_id : c.op.id = e.op.id
  case neg =>
    have q_op_id : decide (c.op.id = e.op.id) = false := by simp [h_op_id]
    have Hq : Hid (decide (c = e) = false) := Lib.hid (by simp [ac_eq, h_op_id])
    clear h_op_id
    go_wp2_with fail
    go_ret
    exact ⟨by rw [Hq.out]; rfl, HM.out⟩
  have q_op_id : decide (c.op.id = e.op.id) = true := by simp [h_op_id]
  have I_op_id := Lib.hid h_op_id
  clear h_op_id
  by_cases h_op_to : c.op.to = e.op.to
  case neg =>
    have q_op_to : decide (c.op.to = e.op.to) = false := by simp [h_op_to]
    have Hq : Hid (decide (c = e) = false) := Lib.hid (by simp [ac_eq, h_op_to])
    clear h_op_to
    go_wp2_with fail
    go_ret
    exact ⟨by rw [Hq.out]; rfl, HM.out⟩
  have q_op_to : decide (c.op.to = e.op.to) = true := by simp [h_op_to]
  have I_op_to := Lib.hid h_op_to
  clear h_op_to
  by_cases h_op_at_ : c.op.at_ = e.op.at_
  case neg =>
    have q_op_at_ : (c.op.at_ == e.op.at_) = false := by simp [h_op_at_]
    have Hq : Hid (decide (c = e) = false) := Lib.hid (by simp [ac_eq, h_op_at_])
    clear h_op_at_
    go_wp2_with fail
    go_ret
    exact ⟨by rw [Hq.out]; rfl, HM.out⟩
  have q_op_at_ : (c.op.at_ == e.op.at_) = true := by simp [h_op_at_]
  have I_op_at_ := Lib.hid h_op_at_
  clear h_op_at_
  go_wp2_with (first | ((with_reducible refine wpList_load_midG ?g1_1 35 ?x1_1 ?o1_1 w.heap.size 7 ?h1_1 (lookC c.op.look (.slice p1 c.op.look.content.pix.length k1) (.slice p2 c.op.look.filt.nodes.length k2) (.slice p3 c.op.look.back.nodes.length k3)).toList ?d1_1 ?c1_1 ?u1_1 ?s1_1 ?i1_1 ?r1_1); (case g1_1 => exact rfl); (case o1_1 => exact rfl); (case h1_1 => exact rfl); (case c1_1 => exact Hra.out); (case u1_1 => exact Try.underlying35); (case s1_1 => exact rfl); (case i1_1 => exact HiA.out)) | ((with_reducible refine wpList_load_midG ?g1_2 35 ?x1_2 ?o1_2 (w.heap.size + 1) 7 ?h1_2 (lookC e.op.look (.slice q1 e.op.look.content.pix.length j1) (.slice q2 e.op.look.filt.nodes.length j2) (.slice q3 e.op.look.back.nodes.length j3)).toList ?d1_2 ?c1_2 ?u1_2 ?s1_2 ?i1_2 ?r1_2); (case g1_2 => exact rfl); (case o1_2 => exact rfl); (case h1_2 => exact rfl); (case c1_2 => exact Hrb.out); (case u1_2 => exact Try.underlying35); (case s1_2 => exact rfl); (case i1_2 => exact HiB.out)) | fail)
  refine (sameLook_any _ G1 G2 p1 p2 p3 q1 q2 q3 k1 k2 k3 j1 j2 j3 c.op.look e.op.look Hx.out Hy.out L1.out L2.out).mono ?_
  rintro r w1 ⟨rfl, hm1⟩
  have HM1 := Lib.hid (HM.out.trans' hm1)
  have HA1 := Lib.hid (HA.out.mod hm1 (fun h => h))
  have HB1 := Lib.hid (HB.out.mod hm1 (fun h => h))
  clear hm1
  have a0 : w1.cell? ⟨w.heap.size, 0, none⟩ = some (.int .i64 c.kind) := HA1.out.cell 0 rfl
  have b0 : w1.cell? ⟨w.heap.size + 1, 0, none⟩ = some (.int .i64 e.kind) := HB1.out.cell 0 rfl
  have a35 : w1.cell? ⟨w.heap.size, 35, none⟩ = some (.int .i64 c.w) := HA1.out.cell 35 rfl
  have b35 : w1.cell? ⟨w.heap.size + 1, 35, none⟩ = some (.int .i64 e.w) := HB1.out.cell 35 rfl
  have a36 : w1.cell? ⟨w.heap.size, 36, none⟩ = some (.int .i64 c.h) := HA1.out.cell 36 rfl
  have b36 : w1.cell? ⟨w.heap.size + 1, 36, none⟩ = some (.int .i64 e.h) := HB1.out.cell 36 rfl
  have a37 : w1.cell? ⟨w.heap.size, 37, none⟩ = some (.bool c.conf.fuse) := HA1.out.cell 37 rfl
  have b37 : w1.cell? ⟨w.heap.size + 1, 37, none⟩ = some (.bool e.conf.fuse) := HB1.out.cell 37 rfl
  have a38 : w1.cell? ⟨w.heap.size, 38, none⟩ = some (.bool c.conf.alias) := HA1.out.cell 38 rfl
  have b38 : w1.cell? ⟨w.heap.size + 1, 38, none⟩ = some (.bool e.conf.alias) := HB1.out.cell 38 rfl
  have a39 : w1.cell? ⟨w.heap.size, 39, none⟩ = some (.bool c.conf.roi) := HA1.out.cell 39 rfl
  have b39 : w1.cell? ⟨w.heap.size + 1, 39, none⟩ = some (.bool e.conf.roi) := HB1.out.cell 39 rfl
  have a40 : w1.cell? ⟨w.heap.size, 40, none⟩ = some (.bool c.conf.damage) := HA1.out.cell 40 rfl
  have b40 : w1.cell? ⟨w.heap.size + 1, 40, none⟩ = some (.bool e.conf.damage) := HB1.out.cell 40 rfl
  have a41 : w1.cell? ⟨w.heap.size, 41, none⟩ = some (.int .i64 c.conf.room) := HA1.out.cell 41 rfl
  have b41 : w1.cell? ⟨w.heap.size + 1, 41, none⟩ = some (.int .i64 e.conf.room) := HB1.out.cell 41 rfl
  by_cases h_look : c.op.look = e.op.look
  case neg =>
    have q_look : decide (c.op.look = e.op.look) = false := by simp [h_look]
    have Hq : Hid (decide (c = e) = false) := Lib.hid (by simp [ac_eq, h_look])
    clear h_look
    generalize decide (c.op.look = e.op.look) = q at *
    subst q_look
    go_wp2_with fail
    go_ret
    exact ⟨by rw [Hq.out]; rfl, HM1.out⟩
  have q_look : decide (c.op.look = e.op.look) = true := by simp [h_look]
  have I_look := Lib.hid h_look
  clear h_look
  generalize decide (c.op.look = e.op.look) = q at *
  subst q_look
  by_cases h_kind : c.kind = e.kind
  case neg =>
    have q_kind : (c.kind == e.kind) = false := by simp [h_kind]
    have Hq : Hid (decide (c = e) = false) := Lib.hid (by simp [ac_eq, h_kind])
    clear h_kind
    go_wp2_with fail
    go_ret
    exact ⟨by rw [Hq.out]; rfl, HM1.out⟩
  have q_kind : (c.kind == e.kind) = true := by simp [h_kind]
  have I_kind := Lib.hid h_kind
  clear h_kind
  by_cases h_w : c.w = e.w
  case neg =>
    have q_w : (c.w == e.w) = false := by simp [h_w]
    have Hq : Hid (decide (c = e) = false) := Lib.hid (by simp [ac_eq, h_w])
    clear h_w
    go_wp2_with fail
    go_ret
    exact ⟨by rw [Hq.out]; rfl, HM1.out⟩
  have q_w : (c.w == e.w) = true := by simp [h_w]
  have I_w := Lib.hid h_w
  clear h_w
  by_cases h_h : c.h = e.h
  case neg =>
    have q_h : (c.h == e.h) = false := by simp [h_h]
    have Hq : Hid (decide (c = e) = false) := Lib.hid (by simp [ac_eq, h_h])
    clear h_h
    go_wp2_with fail
    go_ret
    exact ⟨by rw [Hq.out]; rfl, HM1.out⟩
  have q_h : (c.h == e.h) = true := by simp [h_h]
  have I_h := Lib.hid h_h
  clear h_h
  by_cases h_conf : c.conf = e.conf
  case neg =>
    have q_conf : decide (c.conf = e.conf) = false := by simp [h_conf]
    have Hq : Hid (decide (c = e) = false) := Lib.hid (by simp [ac_eq, h_conf])
    clear h_conf
    go_wp2_with fail
    go_ret
    exact ⟨by rw [Hq.out]; rfl, HM1.out⟩
  have q_conf : decide (c.conf = e.conf) = true := by simp [h_conf]
  have I_conf := Lib.hid h_conf
  clear h_conf
  have Hq : Hid (decide (c = e) = true) := Lib.hid (by simp [ac_eq, I_op_kind.out, I_op_id.out, I_op_to.out, I_op_at_.out, I_look.out, I_kind.out, I_w.out, I_h.out, I_conf.out])
  go_wp2_with fail
  go_ret
  exact ⟨by rw [Hq.out]; rfl, HM1.out⟩

end Go.Proofs.Ytnamnmipgpcjjaa
