/- Acts as bytes: two contents are held against each other. -/
import Derived.Test.YtnamnmipgpcjjaaSamG
namespace Go.Gou
open Go.RowKit

theorem ct_eq (c e : Ct) : c = e ↔ c.kind = e.kind ∧ c.box = e.box ∧ c.px = e.px ∧ c.w = e.w ∧ c.h = e.h ∧ c.turn = e.turn ∧ c.pix = e.pix := by
  obtain ⟨a1, a2, a3, a4, a5, a6, a7⟩ := c
  obtain ⟨b1, b2, b3, b4, b5, b6, b7⟩ := e
  simp
theorem rc_eq (a b : Rc) : a = b ↔ a.x0 = b.x0 ∧ a.y0 = b.y0 ∧ a.x1 = b.x1 ∧ a.y1 = b.y1 := by
  obtain ⟨a1, a2, a3, a4⟩ := a
  obtain ⟨b1, b2, b3, b4⟩ := b
  simp
theorem px_eq (a b : Pxl) : a = b ↔ a.p0 = b.p0 ∧ a.p1 = b.p1 ∧ a.p2 = b.p2 ∧ a.p3 = b.p3 := by
  obtain ⟨a1, a2, a3, a4⟩ := a
  obtain ⟨b1, b2, b3, b4⟩ := b
  simp

end Go.Gou
namespace Go.Proofs.Ytnamnmipgpcjjaa
open Go.RowKit Go.Gou

set_option linter.constructorNameAsVariable false
set_option maxRecDepth 100000

theorem rect_op (a b : Rc) (w : World) : (binOp .eql 25 (.agg #[.int .i64 a.x0, .int .i64 a.y0, .int .i64 a.x1, .int .i64 a.y1]) (.agg #[.int .i64 b.x0, .int .i64 b.y0, .int .i64 b.x1, .int .i64 b.y1])).run Try.prog w = .ok (.bool (decide (a = b))) w := by
  simp only [binOp, Sem.run_bind, rect_eql, Result.andThen_ok, Sem.run_pure, rc_eq]

theorem px_op (a b : Pxl) (w : World) : (binOp .eql 27 (.agg #[.int .u8 (a.p0 : Nat), .int .u8 (a.p1 : Nat), .int .u8 (a.p2 : Nat), .int .u8 (a.p3 : Nat)]) (.agg #[.int .u8 (b.p0 : Nat), .int .u8 (b.p1 : Nat), .int .u8 (b.p2 : Nat), .int .u8 (b.p3 : Nat)])).run Try.prog w = .ok (.bool (decide (a = b))) w := by
  have h := px_neq a.p0 a.p1 a.p2 a.p3 b.p0 b.p1 b.p2 b.p3 w
  simp only [binOp, Sem.run_bind] at h ⊢
  generalize (Op.equal 27 _ _).run Try.prog w = r at *
  cases r with
  | ok v w2 =>
    simp only [Result.andThen_ok, Sem.run_pure, Result.ok.injEq, Value.bool.injEq] at h ⊢
    obtain ⟨h1, h2⟩ := h
    exact ⟨by
      have h3 : v = decide (a.p0 = b.p0 ∧ a.p1 = b.p1 ∧ a.p2 = b.p2 ∧ a.p3 = b.p3) := by simpa using h1
      rw [h3]
      simp only [px_eq], h2⟩
  | _ => simp [Result.andThen] at h

set_option maxHeartbeats 2000000 in
theorem sameContent_any (w : World) (G1 G2 : Nat → Prop) (p1 p2 : Option Addr) (k1 k2 : Nat) (c e : Ct) (hx : PixR G1 w (.slice p1 c.pix.length k1) c.pix) (hy : PixR G2 w (.slice p2 e.pix.length k2) e.pix) (l1 : c.pix.length ≤ 1000000000) (l2 : e.pix.length ≤ 1000000000) :
    Calls Try.prog 50 #[.agg (contC c (.slice p1 c.pix.length k1)), .agg (contC e (.slice p2 e.pix.length k2))] w fun r w' => r = .returned (.bool (decide (c = e))) ∧ Gou.Mod (fun _ => False) w w' := by
  have HM : Hid (Gou.Mod (fun _ => False) w ((w.alloc (.cells (contC c (.slice p1 c.pix.length k1)) 30)).alloc (.cells (contC e (.slice p2 e.pix.length k2)) 30))) := Lib.hid ((Gou.Mod.alloc _ _ _).trans' (Gou.Mod.alloc _ _ _))
  have Hx := Lib.hid (RowG.mod hx HM.out (fun _ _ _ h => h))
  have Hy := Lib.hid (RowG.mod hy HM.out (fun _ _ _ h => h))
  have HA : Hid (Blk ((w.alloc (.cells (contC c (.slice p1 c.pix.length k1)) 30)).alloc (.cells (contC e (.slice p2 e.pix.length k2)) 30)) w.heap.size 30 (contC c (.slice p1 c.pix.length k1))) := Lib.hid ((show Blk (w.alloc (.cells (contC c (.slice p1 c.pix.length k1)) 30)) w.heap.size 30 _ from heap_alloc_new w _).mod (Gou.Mod.alloc (fun _ => False) _ _) (fun h => h))
  have HB : Hid (Blk ((w.alloc (.cells (contC c (.slice p1 c.pix.length k1)) 30)).alloc (.cells (contC e (.slice p2 e.pix.length k2)) 30)) (w.heap.size + 1) 30 (contC e (.slice p2 e.pix.length k2))) := Lib.hid (by
    have := heap_alloc_new (w.alloc (.cells (contC c (.slice p1 c.pix.length k1)) 30)) (.cells (contC e (.slice p2 e.pix.length k2)) 30)
    rw [World.size_alloc] at this
    exact this)
  clear hx hy
  have a0 : (((w.alloc (.cells (contC c (.slice p1 c.pix.length k1)) 30)).alloc (.cells (contC e (.slice p2 e.pix.length k2)) 30))).cell? ⟨w.heap.size, 0, none⟩ = some (.int .i64 c.kind) := HA.out.cell 0 rfl
  have b0 : (((w.alloc (.cells (contC c (.slice p1 c.pix.length k1)) 30)).alloc (.cells (contC e (.slice p2 e.pix.length k2)) 30))).cell? ⟨w.heap.size + 1, 0, none⟩ = some (.int .i64 e.kind) := HB.out.cell 0 rfl
  have a1 : (((w.alloc (.cells (contC c (.slice p1 c.pix.length k1)) 30)).alloc (.cells (contC e (.slice p2 e.pix.length k2)) 30))).cell? ⟨w.heap.size, 1, none⟩ = some (.int .i64 c.box.x0) := HA.out.cell 1 rfl
  have b1 : (((w.alloc (.cells (contC c (.slice p1 c.pix.length k1)) 30)).alloc (.cells (contC e (.slice p2 e.pix.length k2)) 30))).cell? ⟨w.heap.size + 1, 1, none⟩ = some (.int .i64 e.box.x0) := HB.out.cell 1 rfl
  have a2 : (((w.alloc (.cells (contC c (.slice p1 c.pix.length k1)) 30)).alloc (.cells (contC e (.slice p2 e.pix.length k2)) 30))).cell? ⟨w.heap.size, 2, none⟩ = some (.int .i64 c.box.y0) := HA.out.cell 2 rfl
  have b2 : (((w.alloc (.cells (contC c (.slice p1 c.pix.length k1)) 30)).alloc (.cells (contC e (.slice p2 e.pix.length k2)) 30))).cell? ⟨w.heap.size + 1, 2, none⟩ = some (.int .i64 e.box.y0) := HB.out.cell 2 rfl
  have a3 : (((w.alloc (.cells (contC c (.slice p1 c.pix.length k1)) 30)).alloc (.cells (contC e (.slice p2 e.pix.length k2)) 30))).cell? ⟨w.heap.size, 3, none⟩ = some (.int .i64 c.box.x1) := HA.out.cell 3 rfl
  have b3 : (((w.alloc (.cells (contC c (.slice p1 c.pix.length k1)) 30)).alloc (.cells (contC e (.slice p2 e.pix.length k2)) 30))).cell? ⟨w.heap.size + 1, 3, none⟩ = some (.int .i64 e.box.x1) := HB.out.cell 3 rfl
  have a4 : (((w.alloc (.cells (contC c (.slice p1 c.pix.length k1)) 30)).alloc (.cells (contC e (.slice p2 e.pix.length k2)) 30))).cell? ⟨w.heap.size, 4, none⟩ = some (.int .i64 c.box.y1) := HA.out.cell 4 rfl
  have b4 : (((w.alloc (.cells (contC c (.slice p1 c.pix.length k1)) 30)).alloc (.cells (contC e (.slice p2 e.pix.length k2)) 30))).cell? ⟨w.heap.size + 1, 4, none⟩ = some (.int .i64 e.box.y1) := HB.out.cell 4 rfl
  have a5 : (((w.alloc (.cells (contC c (.slice p1 c.pix.length k1)) 30)).alloc (.cells (contC e (.slice p2 e.pix.length k2)) 30))).cell? ⟨w.heap.size, 5, none⟩ = some (.int .u8 (c.px.p0 : Nat)) := HA.out.cell 5 rfl
  have b5 : (((w.alloc (.cells (contC c (.slice p1 c.pix.length k1)) 30)).alloc (.cells (contC e (.slice p2 e.pix.length k2)) 30))).cell? ⟨w.heap.size + 1, 5, none⟩ = some (.int .u8 (e.px.p0 : Nat)) := HB.out.cell 5 rfl
  have a6 : (((w.alloc (.cells (contC c (.slice p1 c.pix.length k1)) 30)).alloc (.cells (contC e (.slice p2 e.pix.length k2)) 30))).cell? ⟨w.heap.size, 6, none⟩ = some (.int .u8 (c.px.p1 : Nat)) := HA.out.cell 6 rfl
  have b6 : (((w.alloc (.cells (contC c (.slice p1 c.pix.length k1)) 30)).alloc (.cells (contC e (.slice p2 e.pix.length k2)) 30))).cell? ⟨w.heap.size + 1, 6, none⟩ = some (.int .u8 (e.px.p1 : Nat)) := HB.out.cell 6 rfl
  have a7 : (((w.alloc (.cells (contC c (.slice p1 c.pix.length k1)) 30)).alloc (.cells (contC e (.slice p2 e.pix.length k2)) 30))).cell? ⟨w.heap.size, 7, none⟩ = some (.int .u8 (c.px.p2 : Nat)) := HA.out.cell 7 rfl
  have b7 : (((w.alloc (.cells (contC c (.slice p1 c.pix.length k1)) 30)).alloc (.cells (contC e (.slice p2 e.pix.length k2)) 30))).cell? ⟨w.heap.size + 1, 7, none⟩ = some (.int .u8 (e.px.p2 : Nat)) := HB.out.cell 7 rfl
  have a8 : (((w.alloc (.cells (contC c (.slice p1 c.pix.length k1)) 30)).alloc (.cells (contC e (.slice p2 e.pix.length k2)) 30))).cell? ⟨w.heap.size, 8, none⟩ = some (.int .u8 (c.px.p3 : Nat)) := HA.out.cell 8 rfl
  have b8 : (((w.alloc (.cells (contC c (.slice p1 c.pix.length k1)) 30)).alloc (.cells (contC e (.slice p2 e.pix.length k2)) 30))).cell? ⟨w.heap.size + 1, 8, none⟩ = some (.int .u8 (e.px.p3 : Nat)) := HB.out.cell 8 rfl
  have a9 : (((w.alloc (.cells (contC c (.slice p1 c.pix.length k1)) 30)).alloc (.cells (contC e (.slice p2 e.pix.length k2)) 30))).cell? ⟨w.heap.size, 9, none⟩ = some (.int .i64 c.w) := HA.out.cell 9 rfl
  have b9 : (((w.alloc (.cells (contC c (.slice p1 c.pix.length k1)) 30)).alloc (.cells (contC e (.slice p2 e.pix.length k2)) 30))).cell? ⟨w.heap.size + 1, 9, none⟩ = some (.int .i64 e.w) := HB.out.cell 9 rfl
  have a10 : (((w.alloc (.cells (contC c (.slice p1 c.pix.length k1)) 30)).alloc (.cells (contC e (.slice p2 e.pix.length k2)) 30))).cell? ⟨w.heap.size, 10, none⟩ = some (.int .i64 c.h) := HA.out.cell 10 rfl
  have b10 : (((w.alloc (.cells (contC c (.slice p1 c.pix.length k1)) 30)).alloc (.cells (contC e (.slice p2 e.pix.length k2)) 30))).cell? ⟨w.heap.size + 1, 10, none⟩ = some (.int .i64 e.h) := HB.out.cell 10 rfl
  have a11 : (((w.alloc (.cells (contC c (.slice p1 c.pix.length k1)) 30)).alloc (.cells (contC e (.slice p2 e.pix.length k2)) 30))).cell? ⟨w.heap.size, 11, none⟩ = some (.int .i64 c.turn) := HA.out.cell 11 rfl
  have b11 : (((w.alloc (.cells (contC c (.slice p1 c.pix.length k1)) 30)).alloc (.cells (contC e (.slice p2 e.pix.length k2)) 30))).cell? ⟨w.heap.size + 1, 11, none⟩ = some (.int .i64 e.turn) := HB.out.cell 11 rfl
  have a12 : (((w.alloc (.cells (contC c (.slice p1 c.pix.length k1)) 30)).alloc (.cells (contC e (.slice p2 e.pix.length k2)) 30))).cell? ⟨w.heap.size, 12, none⟩ = some (.slice p1 c.pix.length k1) := HA.out.cell 12 rfl
  have b12 : (((w.alloc (.cells (contC c (.slice p1 c.pix.length k1)) 30)).alloc (.cells (contC e (.slice p2 e.pix.length k2)) 30))).cell? ⟨w.heap.size + 1, 12, none⟩ = some (.slice p2 e.pix.length k2) := HB.out.cell 12 rfl
  have Hr := Lib.hid (rect_op c.box e.box)
  have Hp := Lib.hid (px_op c.px e.px)
  have HRc := Hr.out
  have HPx := Hp.out
  go_enter Try.func50, Try.ntmps50
  by_cases h_kind : c.kind = e.kind
  case neg =>
    have q_kind : (c.kind == e.kind) = false := by simp [h_kind]
    have Hq : Hid (decide (c = e) = false) := Lib.hid (by simp [ct_eq, h_kind])
    clear h_kind
    go_wp2_with fail
    go_ret
    exact ⟨by rw [Hq.out]; rfl, HM.out⟩
  have q_kind : (c.kind == e.kind) = true := by simp [h_kind]
  have I_kind := Lib.hid h_kind
  clear h_kind
  by_cases h_box : c.box = e.box
  case neg =>
    have q_box : decide (c.box = e.box) = false := by simp [h_box]
    have Hq : Hid (decide (c = e) = false) := Lib.hid (by simp [ct_eq, h_box])
    clear h_box
    go_wp2_with fail
    go_ret
    exact ⟨by rw [Hq.out]; rfl, HM.out⟩
  have q_box : decide (c.box = e.box) = true := by simp [h_box]
  have I_box := Lib.hid h_box
  clear h_box
  by_cases h_px : c.px = e.px
  case neg =>
    have q_px : decide (c.px = e.px) = false := by simp [h_px]
    have Hq : Hid (decide (c = e) = false) := Lib.hid (by simp [ct_eq, h_px])
    clear h_px
    go_wp2_with fail
    go_ret
    exact ⟨by rw [Hq.out]; rfl, HM.out⟩
  have q_px : decide (c.px = e.px) = true := by simp [h_px]
  have I_px := Lib.hid h_px
  clear h_px
  by_cases h_w : c.w = e.w
  case neg =>
    have q_w : (c.w == e.w) = false := by simp [h_w]
    have Hq : Hid (decide (c = e) = false) := Lib.hid (by simp [ct_eq, h_w])
    clear h_w
    go_wp2_with fail
    go_ret
    exact ⟨by rw [Hq.out]; rfl, HM.out⟩
  have q_w : (c.w == e.w) = true := by simp [h_w]
  have I_w := Lib.hid h_w
  clear h_w
  by_cases h_h : c.h = e.h
  case neg =>
    have q_h : (c.h == e.h) = false := by simp [h_h]
    have Hq : Hid (decide (c = e) = false) := Lib.hid (by simp [ct_eq, h_h])
    clear h_h
    go_wp2_with fail
    go_ret
    exact ⟨by rw [Hq.out]; rfl, HM.out⟩
  have q_h : (c.h == e.h) = true := by simp [h_h]
  have I_h := Lib.hid h_h
  clear h_h
  by_cases h_turn : c.turn = e.turn
  case neg =>
    have q_turn : (c.turn == e.turn) = false := by simp [h_turn]
    have Hq : Hid (decide (c = e) = false) := Lib.hid (by simp [ct_eq, h_turn])
    clear h_turn
    go_wp2_with fail
    go_ret
    exact ⟨by rw [Hq.out]; rfl, HM.out⟩
  have q_turn : (c.turn == e.turn) = true := by simp [h_turn]
  have I_turn := Lib.hid h_turn
  clear h_turn
  go_wp2_with fail
  refine (eqPix_any _ G1 G2 p1 p2 k1 k2 c.pix e.pix Hx.out Hy.out l1 l2).mono ?_
  rintro r w1 ⟨rfl, hm1⟩
  have HM1 := Lib.hid (HM.out.trans' hm1)
  have Hq : Hid (decide (c.pix = e.pix) = decide (c = e)) := Lib.hid (by simp [ct_eq, I_kind.out, I_box.out, I_px.out, I_w.out, I_h.out, I_turn.out])
  clear hm1
  generalize decide (c.pix = e.pix) = q at *
  cases q with
  | true =>
    go_wp2_with fail
    go_ret
    exact ⟨by rw [← Hq.out]; rfl, HM1.out⟩
  | false =>
    go_wp2_with fail
    go_ret
    exact ⟨by rw [← Hq.out]; rfl, HM1.out⟩

end Go.Proofs.Ytnamnmipgpcjjaa
