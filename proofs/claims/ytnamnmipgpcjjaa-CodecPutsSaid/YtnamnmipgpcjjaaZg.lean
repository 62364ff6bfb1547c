/- Texts of the codec's proofs, laid together: SamH, SamI. -/
import Derived.Test.YtnamnmipgpcjjaaZf
set_option linter.unusedSimpArgs false
set_option linter.unusedVariables false
set_option linter.unusedSectionVars false
set_option linter.constructorNameAsVariable false

/- Acts as bytes: two contents are held against each other. -/
namespace Go.Gou
open Go.RowKit

theorem ct_eq (c e : Ct) : c = e ↔ c.kind = e.kind ∧ c.box = e.box ∧ c.px = e.px ∧ c.w = e.w ∧ c.h = e.h ∧ c.turn = e.turn ∧ c.pix = e.pix := by
  obtain ⟨a1, a2, a3, a4, a5, a6, a7⟩ := c
  obtain ⟨b1, b2, b3, b4, b5, b6, b7⟩ := e
  simp
theorem rc_eq (a b : Rc) : a = b ↔ a.x0 = b.x0 ∧ a.y0 = b.y0 ∧ a.x1 = b.x1 ∧ a.y1 = b.y1 := by
  obtain ⟨a1, a2, a3, a4⟩ := a
  obtain ⟨b1, b2, b3, b4⟩ := b
  simp
theorem px_eq (a b : Pxl) : a = b ↔ a.p0 = b.p0 ∧ a.p1 = b.p1 ∧ a.p2 = b.p2 ∧ a.p3 = b.p3 := by
  obtain ⟨a1, a2, a3, a4⟩ := a
  obtain ⟨b1, b2, b3, b4⟩ := b
  simp

end Go.Gou
namespace Go.Proofs.Ytnamnmipgpcjjaa
open Go.RowKit Go.Gou

set_option linter.constructorNameAsVariable false
set_option maxRecDepth 100000

theorem rect_op (a b : Rc) (w : World) : (binOp .eql 25 (.agg #[.int .i64 a.x0, .int .i64 a.y0, .int .i64 a.x1, .int .i64 a.y1]) (.agg #[.int .i64 b.x0, .int .i64 b.y0, .int .i64 b.x1, .int .i64 b.y1])).run Try.prog w = .ok (.bool (decide (a = b))) w := by
  simp only [binOp, Sem.run_bind, rect_eql, Result.andThen_ok, Sem.run_pure, rc_eq]

theorem px_op (a b : Pxl) (w : World) : (binOp .eql 27 (.agg #[.int .u8 (a.p0 : Nat), .int .u8 (a.p1 : Nat), .int .u8 (a.p2 : Nat), .int .u8 (a.p3 : Nat)]) (.agg #[.int .u8 (b.p0 : Nat), .int .u8 (b.p1 : Nat), .int .u8 (b.p2 : Nat), .int .u8 (b.p3 : Nat)])).run Try.prog w = .ok (.bool (decide (a = b))) w := by
  have h := px_neq a.p0 a.p1 a.p2 a.p3 b.p0 b.p1 b.p2 b.p3 w
  simp only [binOp, Sem.run_bind] at h ⊢
  generalize (Op.equal 27 _ _).run Try.prog w = r at *
  cases r with
  | ok v w2 =>
    simp only [Result.andThen_ok, Sem.run_pure, Result.ok.injEq, Value.bool.injEq] at h ⊢
    obtain ⟨h1, h2⟩ := h
    exact ⟨by
      have h3 : v = decide (a.p0 = b.p0 ∧ a.p1 = b.p1 ∧ a.p2 = b.p2 ∧ a.p3 = b.p3) := by simpa using h1
      rw [h3]
      simp only [px_eq], h2⟩
  | _ => simp [Result.andThen] at h

set_option maxHeartbeats 2000000 in
theorem sameContent_any (w : World) (G1 G2 : Nat → Prop) (p1 p2 : Option Addr) (k1 k2 : Nat) (c e : Ct) (hx : PixR G1 w (.slice p1 c.pix.length k1) c.pix) (hy : PixR G2 w (.slice p2 e.pix.length k2) e.pix) (l1 : c.pix.length ≤ 1000000000) (l2 : e.pix.length ≤ 1000000000) :
    Calls Try.prog 50 #[.agg (CtA c p1 k1), .agg (CtA e p2 k2)] w fun r w' => r = .returned (.bool (decide (c = e))) ∧ Gou.Mod (fun _ => False) w w' := by
  have HM : Hid (Gou.Mod (fun _ => False) w ((w.alloc (.cells (CtA c p1 k1) 30)).alloc (.cells (CtA e p2 k2) 30))) := Lib.hid ((Gou.Mod.alloc _ _ _).trans' (Gou.Mod.alloc _ _ _))
  have Hx := Lib.hid (RowG.mod hx HM.out (fun _ _ _ h => h))
  have Hy := Lib.hid (RowG.mod hy HM.out (fun _ _ _ h => h))
  have HA : Hid (Blk ((w.alloc (.cells (CtA c p1 k1) 30)).alloc (.cells (CtA e p2 k2) 30)) w.heap.size 30 (CtA c p1 k1)) := Lib.hid ((show Blk (w.alloc (.cells (CtA c p1 k1) 30)) w.heap.size 30 _ from heap_alloc_new w _).mod (Gou.Mod.alloc (fun _ => False) _ _) (fun h => h))
  have HB : Hid (Blk ((w.alloc (.cells (CtA c p1 k1) 30)).alloc (.cells (CtA e p2 k2) 30)) (w.heap.size + 1) 30 (CtA e p2 k2)) := Lib.hid (by
    have := heap_alloc_new (w.alloc (.cells (CtA c p1 k1) 30)) (.cells (CtA e p2 k2) 30)
    rw [World.size_alloc] at this
    exact this)
  clear hx hy
  have a0 : (((w.alloc (.cells (CtA c p1 k1) 30)).alloc (.cells (CtA e p2 k2) 30))).cell? ⟨w.heap.size, 0, none⟩ = some (.int .i64 c.kind) := HA.out.cell 0 rfl
  have b0 : (((w.alloc (.cells (CtA c p1 k1) 30)).alloc (.cells (CtA e p2 k2) 30))).cell? ⟨w.heap.size + 1, 0, none⟩ = some (.int .i64 e.kind) := HB.out.cell 0 rfl
  have a1 : (((w.alloc (.cells (CtA c p1 k1) 30)).alloc (.cells (CtA e p2 k2) 30))).cell? ⟨w.heap.size, 1, none⟩ = some (.int .i64 c.box.x0) := HA.out.cell 1 rfl
  have b1 : (((w.alloc (.cells (CtA c p1 k1) 30)).alloc (.cells (CtA e p2 k2) 30))).cell? ⟨w.heap.size + 1, 1, none⟩ = some (.int .i64 e.box.x0) := HB.out.cell 1 rfl
  have a2 : (((w.alloc (.cells (CtA c p1 k1) 30)).alloc (.cells (CtA e p2 k2) 30))).cell? ⟨w.heap.size, 2, none⟩ = some (.int .i64 c.box.y0) := HA.out.cell 2 rfl
  have b2 : (((w.alloc (.cells (CtA c p1 k1) 30)).alloc (.cells (CtA e p2 k2) 30))).cell? ⟨w.heap.size + 1, 2, none⟩ = some (.int .i64 e.box.y0) := HB.out.cell 2 rfl
  have a3 : (((w.alloc (.cells (CtA c p1 k1) 30)).alloc (.cells (CtA e p2 k2) 30))).cell? ⟨w.heap.size, 3, none⟩ = some (.int .i64 c.box.x1) := HA.out.cell 3 rfl
  have b3 : (((w.alloc (.cells (CtA c p1 k1) 30)).alloc (.cells (CtA e p2 k2) 30))).cell? ⟨w.heap.size + 1, 3, none⟩ = some (.int .i64 e.box.x1) := HB.out.cell 3 rfl
  have a4 : (((w.alloc (.cells (CtA c p1 k1) 30)).alloc (.cells (CtA e p2 k2) 30))).cell? ⟨w.heap.size, 4, none⟩ = some (.int .i64 c.box.y1) := HA.out.cell 4 rfl
  have b4 : (((w.alloc (.cells (CtA c p1 k1) 30)).alloc (.cells (CtA e p2 k2) 30))).cell? ⟨w.heap.size + 1, 4, none⟩ = some (.int .i64 e.box.y1) := HB.out.cell 4 rfl
  have a5 : (((w.alloc (.cells (CtA c p1 k1) 30)).alloc (.cells (CtA e p2 k2) 30))).cell? ⟨w.heap.size, 5, none⟩ = some (.int .u8 (c.px.p0 : Nat)) := HA.out.cell 5 rfl
  have b5 : (((w.alloc (.cells (CtA c p1 k1) 30)).alloc (.cells (CtA e p2 k2) 30))).cell? ⟨w.heap.size + 1, 5, none⟩ = some (.int .u8 (e.px.p0 : Nat)) := HB.out.cell 5 rfl
  have a6 : (((w.alloc (.cells (CtA c p1 k1) 30)).alloc (.cells (CtA e p2 k2) 30))).cell? ⟨w.heap.size, 6, none⟩ = some (.int .u8 (c.px.p1 : Nat)) := HA.out.cell 6 rfl
  have b6 : (((w.alloc (.cells (CtA c p1 k1) 30)).alloc (.cells (CtA e p2 k2) 30))).cell? ⟨w.heap.size + 1, 6, none⟩ = some (.int .u8 (e.px.p1 : Nat)) := HB.out.cell 6 rfl
  have a7 : (((w.alloc (.cells (CtA c p1 k1) 30)).alloc (.cells (CtA e p2 k2) 30))).cell? ⟨w.heap.size, 7, none⟩ = some (.int .u8 (c.px.p2 : Nat)) := HA.out.cell 7 rfl
  have b7 : (((w.alloc (.cells (CtA c p1 k1) 30)).alloc (.cells (CtA e p2 k2) 30))).cell? ⟨w.heap.size + 1, 7, none⟩ = some (.int .u8 (e.px.p2 : Nat)) := HB.out.cell 7 rfl
  have a8 : (((w.alloc (.cells (CtA c p1 k1) 30)).alloc (.cells (CtA e p2 k2) 30))).cell? ⟨w.heap.size, 8, none⟩ = some (.int .u8 (c.px.p3 : Nat)) := HA.out.cell 8 rfl
  have b8 : (((w.alloc (.cells (CtA c p1 k1) 30)).alloc (.cells (CtA e p2 k2) 30))).cell? ⟨w.heap.size + 1, 8, none⟩ = some (.int .u8 (e.px.p3 : Nat)) := HB.out.cell 8 rfl
  have a9 : (((w.alloc (.cells (CtA c p1 k1) 30)).alloc (.cells (CtA e p2 k2) 30))).cell? ⟨w.heap.size, 9, none⟩ = some (.int .i64 c.w) := HA.out.cell 9 rfl
  have b9 : (((w.alloc (.cells (CtA c p1 k1) 30)).alloc (.cells (CtA e p2 k2) 30))).cell? ⟨w.heap.size + 1, 9, none⟩ = some (.int .i64 e.w) := HB.out.cell 9 rfl
  have a10 : (((w.alloc (.cells (CtA c p1 k1) 30)).alloc (.cells (CtA e p2 k2) 30))).cell? ⟨w.heap.size, 10, none⟩ = some (.int .i64 c.h) := HA.out.cell 10 rfl
  have b10 : (((w.alloc (.cells (CtA c p1 k1) 30)).alloc (.cells (CtA e p2 k2) 30))).cell? ⟨w.heap.size + 1, 10, none⟩ = some (.int .i64 e.h) := HB.out.cell 10 rfl
  have a11 : (((w.alloc (.cells (CtA c p1 k1) 30)).alloc (.cells (CtA e p2 k2) 30))).cell? ⟨w.heap.size, 11, none⟩ = some (.int .i64 c.turn) := HA.out.cell 11 rfl
  have b11 : (((w.alloc (.cells (CtA c p1 k1) 30)).alloc (.cells (CtA e p2 k2) 30))).cell? ⟨w.heap.size + 1, 11, none⟩ = some (.int .i64 e.turn) := HB.out.cell 11 rfl
  have a12 : (((w.alloc (.cells (CtA c p1 k1) 30)).alloc (.cells (CtA e p2 k2) 30))).cell? ⟨w.heap.size, 12, none⟩ = some (.slice p1 c.pix.length k1) := HA.out.cell 12 rfl
  have b12 : (((w.alloc (.cells (CtA c p1 k1) 30)).alloc (.cells (CtA e p2 k2) 30))).cell? ⟨w.heap.size + 1, 12, none⟩ = some (.slice p2 e.pix.length k2) := HB.out.cell 12 rfl
  have Hr := Lib.hid (rect_op c.box e.box)
  have Hp := Lib.hid (px_op c.px e.px)
  have HRc := Hr.out
  have HPx := Hp.out
  go_enter Try.func50, Try.ntmps50
  by_cases h_kind : c.kind = e.kind
  case neg =>
    have q_kind : (c.kind == e.kind) = false := by simp [h_kind]
    have Hq : Hid (decide (c = e) = false) := Lib.hid (by simp [ct_eq, h_kind])
    clear h_kind
    go_wp2_with fail
    go_ret
    exact ⟨by rw [Hq.out]; rfl, HM.out⟩
  have q_kind : (c.kind == e.kind) = true := by simp [h_kind]
  have I_kind := Lib.hid h_kind
  clear h_kind
  by_cases h_box : c.box = e.box
  case neg =>
    have q_box : decide (c.box = e.box) = false := by simp [h_box]
    have Hq : Hid (decide (c = e) = false) := Lib.hid (by simp [ct_eq, h_box])
    clear h_box
    go_wp2_with fail
    go_ret
    exact ⟨by rw [Hq.out]; rfl, HM.out⟩
  have q_box : decide (c.box = e.box) = true := by simp [h_box]
  have I_box := Lib.hid h_box
  clear h_box
  by_cases h_px : c.px = e.px
  case neg =>
    have q_px : decide (c.px = e.px) = false := by simp [h_px]
    have Hq : Hid (decide (c = e) = false) := Lib.hid (by simp [ct_eq, h_px])
    clear h_px
    go_wp2_with fail
    go_ret
    exact ⟨by rw [Hq.out]; rfl, HM.out⟩
  have q_px : decide (c.px = e.px) = true := by simp [h_px]
  have I_px := Lib.hid h_px
  clear h_px
  by_cases h_w : c.w = e.w
  case neg =>
    have q_w : (c.w == e.w) = false := by simp [h_w]
    have Hq : Hid (decide (c = e) = false) := Lib.hid (by simp [ct_eq, h_w])
    clear h_w
    go_wp2_with fail
    go_ret
    exact ⟨by rw [Hq.out]; rfl, HM.out⟩
  have q_w : (c.w == e.w) = true := by simp [h_w]
  have I_w := Lib.hid h_w
  clear h_w
  by_cases h_h : c.h = e.h
  case neg =>
    have q_h : (c.h == e.h) = false := by simp [h_h]
    have Hq : Hid (decide (c = e) = false) := Lib.hid (by simp [ct_eq, h_h])
    clear h_h
    go_wp2_with fail
    go_ret
    exact ⟨by rw [Hq.out]; rfl, HM.out⟩
  have q_h : (c.h == e.h) = true := by simp [h_h]
  have I_h := Lib.hid h_h
  clear h_h
  by_cases h_turn : c.turn = e.turn
  case neg =>
    have q_turn : (c.turn == e.turn) = false := by simp [h_turn]
    have Hq : Hid (decide (c = e) = false) := Lib.hid (by simp [ct_eq, h_turn])
    clear h_turn
    go_wp2_with fail
    go_ret
    exact ⟨by rw [Hq.out]; rfl, HM.out⟩
  have q_turn : (c.turn == e.turn) = true := by simp [h_turn]
  have I_turn := Lib.hid h_turn
  clear h_turn
  go_wp2_with fail
  refine (eqPix_any _ G1 G2 p1 p2 k1 k2 c.pix e.pix Hx.out Hy.out l1 l2).mono ?_
  rintro r w1 ⟨rfl, hm1⟩
  have HM1 := Lib.hid (HM.out.trans' hm1)
  have Hq : Hid (decide (c.pix = e.pix) = decide (c = e)) := Lib.hid (by simp [ct_eq, I_kind.out, I_box.out, I_px.out, I_w.out, I_h.out, I_turn.out])
  clear hm1
  generalize decide (c.pix = e.pix) = q at *
  cases q with
  | true =>
    go_wp2_with fail
    go_ret
    exact ⟨by rw [← Hq.out]; rfl, HM1.out⟩
  | false =>
    go_wp2_with fail
    go_ret
    exact ⟨by rw [← Hq.out]; rfl, HM1.out⟩

end Go.Proofs.Ytnamnmipgpcjjaa

/- Acts as bytes: two looks are held against each other. -/
namespace Go.Gou
open Go.RowKit

theorem lk_eq (c e : Lk) : c = e ↔ c.dx = e.dx ∧ c.dy = e.dy ∧ c.opacity = e.opacity ∧ c.mode = e.mode ∧ c.hasClip = e.hasClip ∧ c.clip = e.clip ∧ c.hasFilt = e.hasFilt ∧ c.hasBack = e.hasBack ∧ c.content = e.content ∧ c.filt = e.filt ∧ c.back = e.back := by
  obtain ⟨a1, a2, a3, a4, a5, a6, a7, a8, a9, a10, a11⟩ := c
  obtain ⟨b1, b2, b3, b4, b5, b6, b7, b8, b9, b10, b11⟩ := e
  constructor
  · intro h; cases h; simp
  · rintro ⟨h1, h2, h3, h4, h5, h6, h7, h8, h9, h10, h11⟩
    simp only at h1 h2 h3 h4 h5 h6 h7 h8 h9 h10 h11
    subst h1 h2 h3 h4 h5 h6 h7 h8 h9 h10 h11
    rfl

/-- A look's lists are borne by a machine. -/
structure LookBorne (l : Lk) : Prop where
  pix : l.content.pix.length ≤ 1000000000
  filt : NodesBorne l.filt.nodes
  back : NodesBorne l.back.nodes

end Go.Gou
namespace Go.Proofs.Ytnamnmipgpcjjaa
open Go.RowKit Go.Gou

set_option linter.constructorNameAsVariable false
set_option maxRecDepth 100000

theorem wpList_load_midG {P : Program} {ops : Array Oper} {rest : List Oper} {op : Oper} {a : Act} {w : World} {Q : Exit → Act → World → Prop} (hgd : Region.wanted op (yielded ops a.tmps) = true) (ty : TypeId) (x : Operand) (ho : op.op = .load ty x)
    (b o : Nat) (hx : a.eval x = .pointer (some ⟨b, o, none⟩)) (cs : List Value) (d : TypeDesc) (hc : w.rangeAt b o cs)
    (hu : P.underlying ty = some d) (hd : d.isRow = true) (hi : (P.info? ty).map (·.size) = some cs.length)
    (h : wpList P ops Q rest (a.put op.dst (.agg cs.toArray)) w) : wpList P ops Q (op :: rest) a w :=
  wpList_step fun K hK => by rw [if_pos hgd]; exact wp_load_mid ty x ho b o hx cs d hc hu hd hi (hK _ _ h)

set_option maxHeartbeats 4000000 in
theorem sameLook_any (w : World) (G1 G2 : Nat → Prop) (p1 p2 p3 q1 q2 q3 : Option Addr) (k1 k2 k3 j1 j2 j3 : Nat) (c e : Lk) (hx : LookR G1 w c (.slice p1 c.content.pix.length k1) (.slice p2 c.filt.nodes.length k2) (.slice p3 c.back.nodes.length k3)) (hy : LookR G2 w e (.slice q1 e.content.pix.length j1) (.slice q2 e.filt.nodes.length j2) (.slice q3 e.back.nodes.length j3)) (l1 : LookBorne c) (l2 : LookBorne e) :
    Calls Try.prog 33 #[.agg (LkA c p1 p2 p3 k1 k2 k3), .agg (LkA e q1 q2 q3 j1 j2 j3)] w fun r w' => r = .returned (.bool (decide (c = e))) ∧ Gou.Mod (fun _ => False) w w' := by
  have HM : Hid (Gou.Mod (fun _ => False) w ((w.alloc (.cells (LkA c p1 p2 p3 k1 k2 k3) 35)).alloc (.cells (LkA e q1 q2 q3 j1 j2 j3) 35))) := Lib.hid ((Gou.Mod.alloc _ _ _).trans' (Gou.Mod.alloc _ _ _))
  have Hx := Lib.hid (LookR.mod hx HM.out (fun _ _ _ h => h))
  have Hy := Lib.hid (LookR.mod hy HM.out (fun _ _ _ h => h))
  have L1 := Lib.hid l1
  have L2 := Lib.hid l2
  have HA : Hid (Blk ((w.alloc (.cells (LkA c p1 p2 p3 k1 k2 k3) 35)).alloc (.cells (LkA e q1 q2 q3 j1 j2 j3) 35)) w.heap.size 35 (LkA c p1 p2 p3 k1 k2 k3)) := Lib.hid ((show Blk (w.alloc (.cells (LkA c p1 p2 p3 k1 k2 k3) 35)) w.heap.size 35 _ from heap_alloc_new w _).mod (Gou.Mod.alloc (fun _ => False) _ _) (fun h => h))
  have HB : Hid (Blk ((w.alloc (.cells (LkA c p1 p2 p3 k1 k2 k3) 35)).alloc (.cells (LkA e q1 q2 q3 j1 j2 j3) 35)) (w.heap.size + 1) 35 (LkA e q1 q2 q3 j1 j2 j3)) := Lib.hid (by
    have := heap_alloc_new (w.alloc (.cells (LkA c p1 p2 p3 k1 k2 k3) 35)) (.cells (LkA e q1 q2 q3 j1 j2 j3) 35)
    rw [World.size_alloc] at this
    exact this)
  have Hra : Hid ((((w.alloc (.cells (LkA c p1 p2 p3 k1 k2 k3) 35)).alloc (.cells (LkA e q1 q2 q3 j1 j2 j3) 35))).rangeAt w.heap.size 9 (contC c.content (.slice p1 c.content.pix.length k1)).toList) := Lib.hid (Blk.range HA.out (look_cont c _ _ _) rfl)
  have Hrb : Hid ((((w.alloc (.cells (LkA c p1 p2 p3 k1 k2 k3) 35)).alloc (.cells (LkA e q1 q2 q3 j1 j2 j3) 35))).rangeAt (w.heap.size + 1) 9 (contC e.content (.slice q1 e.content.pix.length j1)).toList) := Lib.hid (Blk.range HB.out (look_cont e _ _ _) rfl)
  have HiA : Hid ((Try.prog.info? 30).map (·.size) = some (contC c.content (.slice p1 c.content.pix.length k1)).toList.length) := Lib.hid (size_content.trans (by simp [contC]))
  have HiB : Hid ((Try.prog.info? 30).map (·.size) = some (contC e.content (.slice q1 e.content.pix.length j1)).toList.length) := Lib.hid (size_content.trans (by simp [contC]))
  clear hx hy l1 l2
  have a0 : (((w.alloc (.cells (LkA c p1 p2 p3 k1 k2 k3) 35)).alloc (.cells (LkA e q1 q2 q3 j1 j2 j3) 35))).cell? ⟨w.heap.size, 0, none⟩ = some (.int .i64 c.dx) := HA.out.cell 0 rfl
  have b0 : (((w.alloc (.cells (LkA c p1 p2 p3 k1 k2 k3) 35)).alloc (.cells (LkA e q1 q2 q3 j1 j2 j3) 35))).cell? ⟨w.heap.size + 1, 0, none⟩ = some (.int .i64 e.dx) := HB.out.cell 0 rfl
  have a1 : (((w.alloc (.cells (LkA c p1 p2 p3 k1 k2 k3) 35)).alloc (.cells (LkA e q1 q2 q3 j1 j2 j3) 35))).cell? ⟨w.heap.size, 1, none⟩ = some (.int .i64 c.dy) := HA.out.cell 1 rfl
  have b1 : (((w.alloc (.cells (LkA c p1 p2 p3 k1 k2 k3) 35)).alloc (.cells (LkA e q1 q2 q3 j1 j2 j3) 35))).cell? ⟨w.heap.size + 1, 1, none⟩ = some (.int .i64 e.dy) := HB.out.cell 1 rfl
  have a2 : (((w.alloc (.cells (LkA c p1 p2 p3 k1 k2 k3) 35)).alloc (.cells (LkA e q1 q2 q3 j1 j2 j3) 35))).cell? ⟨w.heap.size, 2, none⟩ = some (.bool c.hasClip) := HA.out.cell 2 rfl
  have b2 : (((w.alloc (.cells (LkA c p1 p2 p3 k1 k2 k3) 35)).alloc (.cells (LkA e q1 q2 q3 j1 j2 j3) 35))).cell? ⟨w.heap.size + 1, 2, none⟩ = some (.bool e.hasClip) := HB.out.cell 2 rfl
  have a3 : (((w.alloc (.cells (LkA c p1 p2 p3 k1 k2 k3) 35)).alloc (.cells (LkA e q1 q2 q3 j1 j2 j3) 35))).cell? ⟨w.heap.size, 3, none⟩ = some (.int .i64 c.clip.x0) := HA.out.cell 3 rfl
  have b3 : (((w.alloc (.cells (LkA c p1 p2 p3 k1 k2 k3) 35)).alloc (.cells (LkA e q1 q2 q3 j1 j2 j3) 35))).cell? ⟨w.heap.size + 1, 3, none⟩ = some (.int .i64 e.clip.x0) := HB.out.cell 3 rfl
  have a4 : (((w.alloc (.cells (LkA c p1 p2 p3 k1 k2 k3) 35)).alloc (.cells (LkA e q1 q2 q3 j1 j2 j3) 35))).cell? ⟨w.heap.size, 4, none⟩ = some (.int .i64 c.clip.y0) := HA.out.cell 4 rfl
  have b4 : (((w.alloc (.cells (LkA c p1 p2 p3 k1 k2 k3) 35)).alloc (.cells (LkA e q1 q2 q3 j1 j2 j3) 35))).cell? ⟨w.heap.size + 1, 4, none⟩ = some (.int .i64 e.clip.y0) := HB.out.cell 4 rfl
  have a5 : (((w.alloc (.cells (LkA c p1 p2 p3 k1 k2 k3) 35)).alloc (.cells (LkA e q1 q2 q3 j1 j2 j3) 35))).cell? ⟨w.heap.size, 5, none⟩ = some (.int .i64 c.clip.x1) := HA.out.cell 5 rfl
  have b5 : (((w.alloc (.cells (LkA c p1 p2 p3 k1 k2 k3) 35)).alloc (.cells (LkA e q1 q2 q3 j1 j2 j3) 35))).cell? ⟨w.heap.size + 1, 5, none⟩ = some (.int .i64 e.clip.x1) := HB.out.cell 5 rfl
  have a6 : (((w.alloc (.cells (LkA c p1 p2 p3 k1 k2 k3) 35)).alloc (.cells (LkA e q1 q2 q3 j1 j2 j3) 35))).cell? ⟨w.heap.size, 6, none⟩ = some (.int .i64 c.clip.y1) := HA.out.cell 6 rfl
  have b6 : (((w.alloc (.cells (LkA c p1 p2 p3 k1 k2 k3) 35)).alloc (.cells (LkA e q1 q2 q3 j1 j2 j3) 35))).cell? ⟨w.heap.size + 1, 6, none⟩ = some (.int .i64 e.clip.y1) := HB.out.cell 6 rfl
  have a7 : (((w.alloc (.cells (LkA c p1 p2 p3 k1 k2 k3) 35)).alloc (.cells (LkA e q1 q2 q3 j1 j2 j3) 35))).cell? ⟨w.heap.size, 7, none⟩ = some (.int .i64 c.opacity) := HA.out.cell 7 rfl
  have b7 : (((w.alloc (.cells (LkA c p1 p2 p3 k1 k2 k3) 35)).alloc (.cells (LkA e q1 q2 q3 j1 j2 j3) 35))).cell? ⟨w.heap.size + 1, 7, none⟩ = some (.int .i64 e.opacity) := HB.out.cell 7 rfl
  have a8 : (((w.alloc (.cells (LkA c p1 p2 p3 k1 k2 k3) 35)).alloc (.cells (LkA e q1 q2 q3 j1 j2 j3) 35))).cell? ⟨w.heap.size, 8, none⟩ = some (.int .i64 c.mode) := HA.out.cell 8 rfl
  have b8 : (((w.alloc (.cells (LkA c p1 p2 p3 k1 k2 k3) 35)).alloc (.cells (LkA e q1 q2 q3 j1 j2 j3) 35))).cell? ⟨w.heap.size + 1, 8, none⟩ = some (.int .i64 e.mode) := HB.out.cell 8 rfl
  have a22 : (((w.alloc (.cells (LkA c p1 p2 p3 k1 k2 k3) 35)).alloc (.cells (LkA e q1 q2 q3 j1 j2 j3) 35))).cell? ⟨w.heap.size, 22, none⟩ = some (.bool c.hasFilt) := HA.out.cell 22 rfl
  have b22 : (((w.alloc (.cells (LkA c p1 p2 p3 k1 k2 k3) 35)).alloc (.cells (LkA e q1 q2 q3 j1 j2 j3) 35))).cell? ⟨w.heap.size + 1, 22, none⟩ = some (.bool e.hasFilt) := HB.out.cell 22 rfl
  have a23 : (((w.alloc (.cells (LkA c p1 p2 p3 k1 k2 k3) 35)).alloc (.cells (LkA e q1 q2 q3 j1 j2 j3) 35))).cell? ⟨w.heap.size, 23, none⟩ = some (.slice p2 c.filt.nodes.length k2) := HA.out.cell 23 rfl
  have b23 : (((w.alloc (.cells (LkA c p1 p2 p3 k1 k2 k3) 35)).alloc (.cells (LkA e q1 q2 q3 j1 j2 j3) 35))).cell? ⟨w.heap.size + 1, 23, none⟩ = some (.slice q2 e.filt.nodes.length j2) := HB.out.cell 23 rfl
  have a24 : (((w.alloc (.cells (LkA c p1 p2 p3 k1 k2 k3) 35)).alloc (.cells (LkA e q1 q2 q3 j1 j2 j3) 35))).cell? ⟨w.heap.size, 24, none⟩ = some (.int .i64 c.filt.out) := HA.out.cell 24 rfl
  have b24 : (((w.alloc (.cells (LkA c p1 p2 p3 k1 k2 k3) 35)).alloc (.cells (LkA e q1 q2 q3 j1 j2 j3) 35))).cell? ⟨w.heap.size + 1, 24, none⟩ = some (.int .i64 e.filt.out) := HB.out.cell 24 rfl
  have a25 : (((w.alloc (.cells (LkA c p1 p2 p3 k1 k2 k3) 35)).alloc (.cells (LkA e q1 q2 q3 j1 j2 j3) 35))).cell? ⟨w.heap.size, 25, none⟩ = some (.bool c.hasBack) := HA.out.cell 25 rfl
  have b25 : (((w.alloc (.cells (LkA c p1 p2 p3 k1 k2 k3) 35)).alloc (.cells (LkA e q1 q2 q3 j1 j2 j3) 35))).cell? ⟨w.heap.size + 1, 25, none⟩ = some (.bool e.hasBack) := HB.out.cell 25 rfl
  have a26 : (((w.alloc (.cells (LkA c p1 p2 p3 k1 k2 k3) 35)).alloc (.cells (LkA e q1 q2 q3 j1 j2 j3) 35))).cell? ⟨w.heap.size, 26, none⟩ = some (.slice p3 c.back.nodes.length k3) := HA.out.cell 26 rfl
  have b26 : (((w.alloc (.cells (LkA c p1 p2 p3 k1 k2 k3) 35)).alloc (.cells (LkA e q1 q2 q3 j1 j2 j3) 35))).cell? ⟨w.heap.size + 1, 26, none⟩ = some (.slice q3 e.back.nodes.length j3) := HB.out.cell 26 rfl
  have a27 : (((w.alloc (.cells (LkA c p1 p2 p3 k1 k2 k3) 35)).alloc (.cells (LkA e q1 q2 q3 j1 j2 j3) 35))).cell? ⟨w.heap.size, 27, none⟩ = some (.int .i64 c.back.out) := HA.out.cell 27 rfl
  have b27 : (((w.alloc (.cells (LkA c p1 p2 p3 k1 k2 k3) 35)).alloc (.cells (LkA e q1 q2 q3 j1 j2 j3) 35))).cell? ⟨w.heap.size + 1, 27, none⟩ = some (.int .i64 e.back.out) := HB.out.cell 27 rfl
  have Hr := Lib.hid (rect_op c.clip e.clip)
  have HRc := Hr.out
  go_enter Try.func33, Try.ntmps33
  by_cases h_dx : c.dx = e.dx
  case neg =>
    have q_dx : (c.dx == e.dx) = false := by simp [h_dx]
    have Hq : Hid (decide (c = e) = false) := Lib.hid (by simp [lk_eq, h_dx])
    clear h_dx
    by_cases h_hasClip : c.hasClip = e.hasClip
    case neg =>
      have q_hasClip : (c.hasClip == e.hasClip) = false := by simp [h_hasClip]
      clear h_hasClip
      go_wp2_with fail
      go_ret
      exact ⟨by rw [Hq.out]; rfl, HM.out⟩
    have q_hasClip : (c.hasClip == e.hasClip) = true := by simp [h_hasClip]
    clear h_hasClip
    by_cases h_clip : c.clip = e.clip
    case neg =>
      have q_clip : decide (c.clip = e.clip) = false := by simp [h_clip]
      clear h_clip
      go_wp2_with fail
      go_ret
      exact ⟨by rw [Hq.out]; rfl, HM.out⟩
    have q_clip : decide (c.clip = e.clip) = true := by simp [h_clip]
    clear h_clip
    by_cases h_hasFilt : c.hasFilt = e.hasFilt
    case neg =>
      have q_hasFilt : (c.hasFilt == e.hasFilt) = false := by simp [h_hasFilt]
      clear h_hasFilt
      go_wp2_with fail
      go_ret
      exact ⟨by rw [Hq.out]; rfl, HM.out⟩
    have q_hasFilt : (c.hasFilt == e.hasFilt) = true := by simp [h_hasFilt]
    clear h_hasFilt
    by_cases h_hasBack : c.hasBack = e.hasBack
    case neg =>
      have q_hasBack : (c.hasBack == e.hasBack) = false := by simp [h_hasBack]
      clear h_hasBack
      go_wp2_with fail
      go_ret
      exact ⟨by rw [Hq.out]; rfl, HM.out⟩
    have q_hasBack : (c.hasBack == e.hasBack) = true := by simp [h_hasBack]
    clear h_hasBack
    go_wp2_with fail
    go_ret
    exact ⟨by rw [Hq.out]; rfl, HM.out⟩
  have q_dx : (c.dx == e.dx) = true := by simp [h_dx]
  have I_dx := Lib.hid h_dx
  clear h_dx
  by_cases h_dy : c.dy = e.dy
  case neg =>
    have q_dy : (c.dy == e.dy) = false := by simp [h_dy]
    have Hq : Hid (decide (c = e) = false) := Lib.hid (by simp [lk_eq, h_dy])
    clear h_dy
    by_cases h_hasClip : c.hasClip = e.hasClip
    case neg =>
      have q_hasClip : (c.hasClip == e.hasClip) = false := by simp [h_hasClip]
      clear h_hasClip
      go_wp2_with fail
      go_ret
      exact ⟨by rw [Hq.out]; rfl, HM.out⟩
    have q_hasClip : (c.hasClip == e.hasClip) = true := by simp [h_hasClip]
    clear h_hasClip
    by_cases h_clip : c.clip = e.clip
    case neg =>
      have q_clip : decide (c.clip = e.clip) = false := by simp [h_clip]
      clear h_clip
      go_wp2_with fail
      go_ret
      exact ⟨by rw [Hq.out]; rfl, HM.out⟩
    have q_clip : decide (c.clip = e.clip) = true := by simp [h_clip]
    clear h_clip
    by_cases h_hasFilt : c.hasFilt = e.hasFilt
    case neg =>
      have q_hasFilt : (c.hasFilt == e.hasFilt) = false := by simp [h_hasFilt]
      clear h_hasFilt
      go_wp2_with fail
      go_ret
      exact ⟨by rw [Hq.out]; rfl, HM.out⟩
    have q_hasFilt : (c.hasFilt == e.hasFilt) = true := by simp [h_hasFilt]
    clear h_hasFilt
    by_cases h_hasBack : c.hasBack = e.hasBack
    case neg =>
      have q_hasBack : (c.hasBack == e.hasBack) = false := by simp [h_hasBack]
      clear h_hasBack
      go_wp2_with fail
      go_ret
      exact ⟨by rw [Hq.out]; rfl, HM.out⟩
    have q_hasBack : (c.hasBack == e.hasBack) = true := by simp [h_hasBack]
    clear h_hasBack
    go_wp2_with fail
    go_ret
    exact ⟨by rw [Hq.out]; rfl, HM.out⟩
  have q_dy : (c.dy == e.dy) = true := by simp [h_dy]
  have I_dy := Lib.hid h_dy
  clear h_dy
  by_cases h_opacity : c.opacity = e.opacity
  case neg =>
    have q_opacity : (c.opacity == e.opacity) = false := by simp [h_opacity]
    have Hq : Hid (decide (c = e) = false) := Lib.hid (by simp [lk_eq, h_opacity])
    clear h_opacity
    by_cases h_hasClip : c.hasClip = e.hasClip
    case neg =>
      have q_hasClip : (c.hasClip == e.hasClip) = false := by simp [h_hasClip]
      clear h_hasClip
      go_wp2_with fail
      go_ret
      exact ⟨by rw [Hq.out]; rfl, HM.out⟩
    have q_hasClip : (c.hasClip == e.hasClip) = true := by simp [h_hasClip]
    clear h_hasClip
    by_cases h_clip : c.clip = e.clip
    case neg =>
      have q_clip : decide (c.clip = e.clip) = false := by simp [h_clip]
      clear h_clip
      go_wp2_with fail
      go_ret
      exact ⟨by rw [Hq.out]; rfl, HM.out⟩
    have q_clip : decide (c.clip = e.clip) = true := by simp [h_clip]
    clear h_clip
    by_cases h_hasFilt : c.hasFilt = e.hasFilt
    case neg =>
      have q_hasFilt : (c.hasFilt == e.hasFilt) = false := by simp [h_hasFilt]
      clear h_hasFilt
      go_wp2_with fail
      go_ret
      exact ⟨by rw [Hq.out]; rfl, HM.out⟩
    have q_hasFilt : (c.hasFilt == e.hasFilt) = true := by simp [h_hasFilt]
    clear h_hasFilt
    by_cases h_hasBack : c.hasBack = e.hasBack
    case neg =>
      have q_hasBack : (c.hasBack == e.hasBack) = false := by simp [h_hasBack]
      clear h_hasBack
      go_wp2_with fail
      go_ret
      exact ⟨by rw [Hq.out]; rfl, HM.out⟩
    have q_hasBack : (c.hasBack == e.hasBack) = true := by simp [h_hasBack]
    clear h_hasBack
    go_wp2_with fail
    go_ret
    exact ⟨by rw [Hq.out]; rfl, HM.out⟩
  have q_opacity : (c.opacity == e.opacity) = true := by simp [h_opacity]
  have I_opacity := Lib.hid h_opacity
  clear h_opacity
  by_cases h_mode : c.mode = e.mode
  case neg =>
    have q_mode : (c.mode == e.mode) = false := by simp [h_mode]
    have Hq : Hid (decide (c = e) = false) := Lib.hid (by simp [lk_eq, h_mode])
    clear h_mode
    by_cases h_hasClip : c.hasClip = e.hasClip
    case neg =>
      have q_hasClip : (c.hasClip == e.hasClip) = false := by simp [h_hasClip]
      clear h_hasClip
      go_wp2_with fail
      go_ret
      exact ⟨by rw [Hq.out]; rfl, HM.out⟩
    have q_hasClip : (c.hasClip == e.hasClip) = true := by simp [h_hasClip]
    clear h_hasClip
    by_cases h_clip : c.clip = e.clip
    case neg =>
      have q_clip : decide (c.clip = e.clip) = false := by simp [h_clip]
      clear h_clip
      go_wp2_with fail
      go_ret
      exact ⟨by rw [Hq.out]; rfl, HM.out⟩
    have q_clip : decide (c.clip = e.clip) = true := by simp [h_clip]
    clear h_clip
    by_cases h_hasFilt : c.hasFilt = e.hasFilt
    case neg =>
      have q_hasFilt : (c.hasFilt == e.hasFilt) = false := by simp [h_hasFilt]
      clear h_hasFilt
      go_wp2_with fail
      go_ret
      exact ⟨by rw [Hq.out]; rfl, HM.out⟩
    have q_hasFilt : (c.hasFilt == e.hasFilt) = true := by simp [h_hasFilt]
    clear h_hasFilt
    by_cases h_hasBack : c.hasBack = e.hasBack
    case neg =>
      have q_hasBack : (c.hasBack == e.hasBack) = false := by simp [h_hasBack]
      clear h_hasBack
      go_wp2_with fail
      go_ret
      exact ⟨by rw [Hq.out]; rfl, HM.out⟩
    have q_hasBack : (c.hasBack == e.hasBack) = true := by simp [h_hasBack]
    clear h_hasBack
    go_wp2_with fail
    go_ret
    exact ⟨by rw [Hq.out]; rfl, HM.out⟩
  have q_mode : (c.mode == e.mode) = true := by simp [h_mode]
  have I_mode := Lib.hid h_mode
  clear h_mode
  by_cases h_hasClip : c.hasClip = e.hasClip
  case neg =>
    have q_hasClip : (c.hasClip == e.hasClip) = false := by simp [h_hasClip]
    have Hq : Hid (decide (c = e) = false) := Lib.hid (by simp [lk_eq, h_hasClip])
    clear h_hasClip
    go_wp2_with fail
    go_ret
    exact ⟨by rw [Hq.out]; rfl, HM.out⟩
  have q_hasClip : (c.hasClip == e.hasClip) = true := by simp [h_hasClip]
  have I_hasClip := Lib.hid h_hasClip
  clear h_hasClip
  by_cases h_clip : c.clip = e.clip
  case neg =>
    have q_clip : decide (c.clip = e.clip) = false := by simp [h_clip]
    have Hq : Hid (decide (c = e) = false) := Lib.hid (by simp [lk_eq, h_clip])
    clear h_clip
    go_wp2_with fail
    go_ret
    exact ⟨by rw [Hq.out]; rfl, HM.out⟩
  have q_clip : decide (c.clip = e.clip) = true := by simp [h_clip]
  have I_clip := Lib.hid h_clip
  clear h_clip
  by_cases h_hasFilt : c.hasFilt = e.hasFilt
  case neg =>
    have q_hasFilt : (c.hasFilt == e.hasFilt) = false := by simp [h_hasFilt]
    have Hq : Hid (decide (c = e) = false) := Lib.hid (by simp [lk_eq, h_hasFilt])
    clear h_hasFilt
    go_wp2_with fail
    go_ret
    exact ⟨by rw [Hq.out]; rfl, HM.out⟩
  have q_hasFilt : (c.hasFilt == e.hasFilt) = true := by simp [h_hasFilt]
  have I_hasFilt := Lib.hid h_hasFilt
  clear h_hasFilt
  by_cases h_hasBack : c.hasBack = e.hasBack
  case neg =>
    have q_hasBack : (c.hasBack == e.hasBack) = false := by simp [h_hasBack]
    have Hq : Hid (decide (c = e) = false) := Lib.hid (by simp [lk_eq, h_hasBack])
    clear h_hasBack
    go_wp2_with fail
    go_ret
    exact ⟨by rw [Hq.out]; rfl, HM.out⟩
  have q_hasBack : (c.hasBack == e.hasBack) = true := by simp [h_hasBack]
  have I_hasBack := Lib.hid h_hasBack
  clear h_hasBack
  go_wp2_with (first | ((with_reducible refine wpList_load_midG ?g_1 30 ?x_1 ?o_1 w.heap.size 9 ?h_1 (contC c.content (.slice p1 c.content.pix.length k1)).toList ?d_1 ?c_1 ?u_1 ?s_1 ?i_1 ?r_1); (case g_1 | o_1 | h_1 => exact rfl); (case c_1 => exact Hra.out); (case u_1 => exact Try.underlying30); (case s_1 => exact rfl); (case i_1 => exact HiA.out)) | ((with_reducible refine wpList_load_midG ?g_2 30 ?x_2 ?o_2 (w.heap.size + 1) 9 ?h_2 (contC e.content (.slice q1 e.content.pix.length j1)).toList ?d_2 ?c_2 ?u_2 ?s_2 ?i_2 ?r_2); (case g_2 | o_2 | h_2 => exact rfl); (case c_2 => exact Hrb.out); (case u_2 => exact Try.underlying30); (case s_2 => exact rfl); (case i_2 => exact HiB.out)) | fail)
  refine (sameContent_any _ G1 G2 p1 q1 k1 j1 c.content e.content Hx.out.pix Hy.out.pix L1.out.pix L2.out.pix).mono ?_
  rintro r w1 ⟨rfl, hm1⟩
  have HM1 := Lib.hid (HM.out.trans' hm1)
  have Hx1 := Lib.hid (LookR.mod Hx.out hm1 (fun _ _ _ h => h))
  have Hy1 := Lib.hid (LookR.mod Hy.out hm1 (fun _ _ _ h => h))
  have HA1 := Lib.hid (HA.out.mod hm1 (fun h => h))
  have HB1 := Lib.hid (HB.out.mod hm1 (fun h => h))
  have a23_1 : w1.cell? ⟨w.heap.size, 23, none⟩ = some (.slice p2 c.filt.nodes.length k2) := HA1.out.cell 23 rfl
  have b23_1 : w1.cell? ⟨w.heap.size + 1, 23, none⟩ = some (.slice q2 e.filt.nodes.length j2) := HB1.out.cell 23 rfl
  have a24_1 : w1.cell? ⟨w.heap.size, 24, none⟩ = some (.int .i64 c.filt.out) := HA1.out.cell 24 rfl
  have b24_1 : w1.cell? ⟨w.heap.size + 1, 24, none⟩ = some (.int .i64 e.filt.out) := HB1.out.cell 24 rfl
  have a26_1 : w1.cell? ⟨w.heap.size, 26, none⟩ = some (.slice p3 c.back.nodes.length k3) := HA1.out.cell 26 rfl
  have b26_1 : w1.cell? ⟨w.heap.size + 1, 26, none⟩ = some (.slice q3 e.back.nodes.length j3) := HB1.out.cell 26 rfl
  have a27_1 : w1.cell? ⟨w.heap.size, 27, none⟩ = some (.int .i64 c.back.out) := HA1.out.cell 27 rfl
  have b27_1 : w1.cell? ⟨w.heap.size + 1, 27, none⟩ = some (.int .i64 e.back.out) := HB1.out.cell 27 rfl
  clear hm1
  by_cases h_content : c.content = e.content
  case neg =>
    have q_content : decide (c.content = e.content) = false := by simp [h_content]
    have Hq : Hid (decide (c = e) = false) := Lib.hid (by simp [lk_eq, h_content])
    clear h_content
    generalize decide (c.content = e.content) = q at *
    subst q_content
    go_wp2_with fail
    go_ret
    exact ⟨by rw [Hq.out]; rfl, HM1.out⟩
  have q_content : decide (c.content = e.content) = true := by simp [h_content]
  have I_content := Lib.hid h_content
  clear h_content
  generalize decide (c.content = e.content) = q at *
  subst q_content
  go_wp2_with fail
  refine (sameGraph_any _ G1 G2 p2 q2 k2 j2 c.filt e.filt Hx1.out.filt Hy1.out.filt L1.out.filt L2.out.filt).mono ?_
  rintro r w2 ⟨rfl, hm2⟩
  have HM2 := Lib.hid (HM1.out.trans' hm2)
  have Hx2 := Lib.hid (LookR.mod Hx1.out hm2 (fun _ _ _ h => h))
  have Hy2 := Lib.hid (LookR.mod Hy1.out hm2 (fun _ _ _ h => h))
  have HA2 := Lib.hid (HA1.out.mod hm2 (fun h => h))
  have HB2 := Lib.hid (HB1.out.mod hm2 (fun h => h))
  have a26_2 : w2.cell? ⟨w.heap.size, 26, none⟩ = some (.slice p3 c.back.nodes.length k3) := HA2.out.cell 26 rfl
  have b26_2 : w2.cell? ⟨w.heap.size + 1, 26, none⟩ = some (.slice q3 e.back.nodes.length j3) := HB2.out.cell 26 rfl
  have a27_2 : w2.cell? ⟨w.heap.size, 27, none⟩ = some (.int .i64 c.back.out) := HA2.out.cell 27 rfl
  have b27_2 : w2.cell? ⟨w.heap.size + 1, 27, none⟩ = some (.int .i64 e.back.out) := HB2.out.cell 27 rfl
  clear hm2
  by_cases h_filt : c.filt = e.filt
  case neg =>
    have q_filt : decide (c.filt = e.filt) = false := by simp [h_filt]
    have Hq : Hid (decide (c = e) = false) := Lib.hid (by simp [lk_eq, h_filt])
    clear h_filt
    generalize decide (c.filt = e.filt) = q at *
    subst q_filt
    go_wp2_with fail
    go_ret
    exact ⟨by rw [Hq.out]; rfl, HM2.out⟩
  have q_filt : decide (c.filt = e.filt) = true := by simp [h_filt]
  have I_filt := Lib.hid h_filt
  clear h_filt
  generalize decide (c.filt = e.filt) = q at *
  subst q_filt
  go_wp2_with fail
  refine (sameGraph_any _ G1 G2 p3 q3 k3 j3 c.back e.back Hx2.out.back Hy2.out.back L1.out.back L2.out.back).mono ?_
  rintro r w3 ⟨rfl, hm3⟩
  have HM3 := Lib.hid (HM2.out.trans' hm3)
  have Hq : Hid (decide (c.back = e.back) = decide (c = e)) := Lib.hid (by simp [lk_eq, I_dx.out, I_dy.out, I_opacity.out, I_mode.out, I_hasClip.out, I_clip.out, I_hasFilt.out, I_hasBack.out, I_content.out, I_filt.out])
  clear hm3
  generalize decide (c.back = e.back) = q at *
  cases q with
  | true =>
    go_wp2_with fail
    go_ret
    exact ⟨by rw [← Hq.out]; rfl, HM3.out⟩
  | false =>
    go_wp2_with fail
    go_ret
    exact ⟨by rw [← Hq.out]; rfl, HM3.out⟩

end Go.Proofs.Ytnamnmipgpcjjaa

