/- Texts of the scenes' proofs, laid together: WrF. -/
import Derived.Test.YtgolafbneiffpaaGreatDoorZae
set_option maxHeartbeats 64000000
set_option linter.unusedSimpArgs false
set_option linter.unusedVariables false
set_option linter.unusedSectionVars false
set_option linter.constructorNameAsVariable false
namespace Go.Gou
open Go.RowKit
def uk1 (c : Ct) : Option (List Nat) := (ug4 [c.kind]).bind fun a =>
 if c.kind = 1 then (ug4 [c.box.x0, c.box.y0, c.box.x1, c.box.y1]).bind fun b => some (a ++ (b ++ ulp [c.px]))
 else if c.kind = 2 then (if c.pix.length = ukz c.w c.h then (ug4 [c.box.x0, c.box.y0, c.w, c.h, c.turn]).bind fun b => some (a ++ (b ++ ulp c.pix)) else none)
 else some a
theorem PixR.lit {w : World} {W : Nat} {TW TB T : TypeId} {bs : List Nat} {vs : Value} (h : WrAt w W TW TB bs vs) (p : Pxl) (B : Nat) (hB : B = w.heap.size) :
  PixR (fun b => b ≠ W ∧ vs.ownBlock ≠ some b) (w.alloc (.cells #[.int .u8 (p.p0 : Nat), .int .u8 (p.p1 : Nat), .int .u8 (p.p2 : Nat), .int .u8 (p.p3 : Nat)] T)) (.slice (some ⟨B, 0, none⟩) 1 1) [p] := by
 subst hB
 have hW := Blk.lt h.box
 refine ⟨by simp [pxs, Pxl.cells], _, _, rfl, Nat.le_refl _, .inr ⟨w.heap.size, 0, rfl, by simp, ⟨by omega, fun e => by have := (h.own.lt _ e).2; omega⟩, fun j u hu => ?_⟩⟩
 rw [Nat.zero_add, cell_of_row _ w.heap.size j _ T (0, 0) (heap_alloc_new w _)]
 simpa [pxs, Pxl.cells] using hu
end Go.Gou
namespace Go.Proofs.YtgolafbneiffpaaGreatDoor
open Go.RowKit Go.Gou
set_option maxRecDepth 100000
theorem usb (w : World) (W : Nat) (bs : List Nat) (vs : Value) (p : Option Addr) (cap : Nat) (c : Ct) (h : Wr w W bs vs) (hx : PixR (fun b => b < W) w (.slice p c.pix.length cap) c.pix) (hl : bs.length ≤ 800000000) :
  Calls Tryz.prog 98 #[.pointer (some ⟨W, 0, none⟩), .agg (uak c (.slice p c.pix.length cap))] w (WrP w W bs vs (uk1 c)) := by
 have H := hd' h
 have HB0 : Hid (Blk (w.alloc (.cells (uak c (.slice p c.pix.length cap)) 30)) w.heap.size 30 (uak c (.slice p c.pix.length cap))) := hd' (heap_alloc_new w _)
 have HW0 : Hid (Wr (w.alloc (.cells (uak c (.slice p c.pix.length cap)) 30)) W bs vs) := hd' (h.alloc _)
 have HT0 : Hid (WTo W w vs (w.alloc (.cells (uak c (.slice p c.pix.length cap)) 30)) vs) := hd' (WTo.other (Gou.Mod.alloc _ _ _) vs)
 have HN0 : Hid (PixR (fun b => b < W) (w.alloc (.cells (uak c (.slice p c.pix.length cap)) 30)) (.slice p c.pix.length cap) c.pix) := hd' (RowG.mod hx (Gou.Mod.alloc (fun _ => False) _ _) (fun _ _ _ h => h))
 have HS0 : Hid (((w.alloc (.cells (uak c (.slice p c.pix.length cap)) 30))).heap.size = w.heap.size + 1) := hd' (by simp)
 have hWlt := Blk.lt h.box
 clear h hx
 obtain ⟨kind, ⟨x0, y0, x1, y1⟩, ⟨q0, q1, q2, q3⟩, cw, ch, turn, pix⟩ := c
 simp only [uak] at *
 go_enter Tryz.func98, Tryz.ntmps98
 go_wp2_with fail
 generalize hW0 : (w.alloc (.cells #[iV kind, iV x0, iV y0, iV x1, iV y1, .int .u8 (q0 : Nat), .int .u8 (q1 : Nat), .int .u8 (q2 : Nat), .int .u8 (q3 : Nat), iV cw, iV ch, iV turn, .slice p pix.length cap] 30)) = w0 at *
 clear hW0
 have a00 := HB0.o.cell 0 rfl
 have hB0 := Blk.lt HB0.o
 refine (ukc _ W bs vs _ [kind] (HW0.o.alloc _) (HW0.o.lit [kind] _ rfl 1 rfl _ HS0.o.symm) (by simp; omega)).mono ?_
 rintro e w1 ⟨v1, t1, h1⟩
 have T1 := hd' ((HT0.o.trans (WTo.other (Gou.Mod.alloc _ _ _) vs)).trans t1)
 rcases hr1 : ug4 [kind] with _ | es1
 ·rw [hr1] at h1
  subst h1
  exact ⟨rfl, v1, T1.o, by simp [uk1, hr1]⟩
 rw [hr1] at h1
 obtain ⟨rfl, hw1⟩ := h1
 have Hr1 := hd' hr1
 have Hw1 := hd' hw1
 have Tk1 := hd' t1
 clear hr1 hw1 t1
 have HB1 : Hid (Blk w1 w.heap.size 30 #[iV kind, iV x0, iV y0, iV x1, iV y1, .int .u8 (q0 : Nat), .int .u8 (q1 : Nat), .int .u8 (q2 : Nat), .int .u8 (q3 : Nat), iV cw, iV ch, iV turn, .slice p pix.length cap]) := hd' ((HB0.o.mod (Gou.Mod.alloc (fun _ => False) _ _) (fun h => h)).mod Tk1.o.mod (fun e => by
  rcases e with e | e
  ·omega
  ·have := (H.o.own.lt _ e).2; omega))
 have hE1 := uj9 Hr1.o
 by_cases hk1 : kind = 1
 ·subst hk1
  have a0 := HB1.o.cell 0 rfl
  have a1 := HB1.o.cell 1 rfl
  have a2 := HB1.o.cell 2 rfl
  have a3 := HB1.o.cell 3 rfl
  have a4 := HB1.o.cell 4 rfl
  go_wp2_with fail
  refine (uuu _ W _ v1 x0 y0 x1 y1 Hw1.o (by simp only [List.length_append, List.length_cons, List.length_nil] at *; omega)).mono ?_
  rintro e w2 ⟨v2, t2, h2⟩
  have T2 := hd' (T1.o.trans t2)
  rcases hr2 : ug4 [x0, y0, x1, y1] with _ | es2
  ·rw [hr2] at h2
   subst h2
   exact ⟨rfl, v2, T2.o, by simp [uk1, hr2, Hr1.o]⟩
  rw [hr2] at h2
  obtain ⟨rfl, hw2⟩ := h2
  have Hr2 := hd' hr2
  have Hw2 := hd' hw2
  have Tk2 := hd' t2
  clear hr2 hw2 t2
  have HB2 : Hid (Blk w2 w.heap.size 30 #[iV 1, iV x0, iV y0, iV x1, iV y1, .int .u8 (q0 : Nat), .int .u8 (q1 : Nat), .int .u8 (q2 : Nat), .int .u8 (q3 : Nat), iV cw, iV ch, iV turn, .slice p pix.length cap]) := hd' (HB1.o.mod Tk2.o.mod (fun e => by
   rcases e with e | e
   ·omega
   ·rcases Tk1.o.fresh _ e with e | e
    ·have := (H.o.own.lt _ e).2; omega
    ·simp at e; omega))
  have hE2 := uj9 Hr2.o
  have b5 := HB2.o.cell 5 rfl
  have b6 := HB2.o.cell 6 rfl
  have b7 := HB2.o.cell 7 rfl
  have b8 := HB2.o.cell 8 rfl
  clear a0 a1 a2 a3 a4
  go_wp2_with fail
  refine (upq _ W _ v2 _ [⟨q0, q1, q2, q3⟩] (Hw2.o.alloc _) (PixR.lit Hw2.o ⟨q0, q1, q2, q3⟩ _ rfl) (by simp only [List.length_append, List.length_cons, List.length_nil] at *; omega)).mono ?_
  rintro e w3 ⟨v3, t3, rfl, hw3⟩
  have T3 := hd' ((T2.o.trans (WTo.other (Gou.Mod.alloc _ _ _) v2)).trans t3)
  have Hw3 := hd' hw3
  clear t3 hw3 b5 b6 b7 b8
  go_wp2_with fail
  go_end0
  exact ⟨v3, T3.o, by
   have g1 := Hr1.o
   have g2 := Hr2.o
   simp only [uk1, g1, g2]
   exact ⟨trivial, by have := Hw3.o; simpa using this⟩⟩
 by_cases hk2 : kind = 2
 ·subst hk2
  have a6 := HB1.o.cell 12 rfl
  have a0 := HB1.o.cell 0 rfl
  have a1 := HB1.o.cell 1 rfl
  have a2 := HB1.o.cell 2 rfl
  have a3 := HB1.o.cell 9 rfl
  have a4 := HB1.o.cell 10 rfl
  have a5 := HB1.o.cell 11 rfl
  obtain ⟨k, hk⟩ : ∃ k, k = ukz cw ch := ⟨_, rfl⟩
  have hcount : ∀ w : World, Calls Tryz.prog 124 #[iV cw, iV ch] w fun e w' => e = .returned (iV (k : Nat)) ∧ w' = w := fun w => by rw [hk]; exact utj w cw ch
  have Hcount := hd' hcount
  have Hk := hd' hk
  have hkle : k ≤ 65536 := by rw [hk]; exact unk cw ch
  clear hcount hk
  by_cases hlen : pix.length = k
  ·have e5 : ((pix.length : Int) == (k : Int)) = true := by simp; omega
   have Hlen := hd' hlen
   clear hlen
   go_wp2_with fail
   go_quiet (first | (go_at_call 124; exact Calls.quiet_of_same (Hcount.o _)) | (go_at_call 31; exact Calls.quiet_of_same (uku _)))
   obtain ⟨nq1, rfl⟩ : ∃ q : Nat, q = nq := ⟨_, rfl⟩
   have HwD : Hid (Wr (w1.drewN nq1) W _ v1) := hd' (Hw1.o.other (Gou.Mod.drewN (fun _ => False) w1 nq1) (fun h => h) (fun _ _ h => h))
   have HBD : Hid (Blk (w1.drewN nq1) w.heap.size 30 #[iV 2, iV x0, iV y0, iV x1, iV y1, .int .u8 (q0 : Nat), .int .u8 (q1 : Nat), .int .u8 (q2 : Nat), .int .u8 (q3 : Nat), iV cw, iV ch, iV turn, .slice p pix.length cap]) := hd' (HB1.o.mod (Gou.Mod.drewN (fun _ => False) w1 nq1) (fun h => h))
   go_wp2_with fail
   refine (ukc _ W _ v1 _ [x0, y0, cw, ch, turn] (HwD.o.alloc _) (HwD.o.lit [x0, y0, cw, ch, turn] _ rfl 5 rfl _ (by simp)) (by simp only [List.length_append, List.length_cons, List.length_nil] at *; omega)).mono ?_
   rintro e w2 ⟨v2, t2, h2⟩
   have T2 := hd' ((T1.o.trans (WTo.other ((Gou.Mod.drewN (fun _ => False) w1 nq1).trans' (Gou.Mod.alloc _ _ _)) v1)).trans t2)
   rcases hr2 : ug4 [x0, y0, cw, ch, turn] with _ | es2
   ·rw [hr2] at h2
    subst h2
    exact ⟨rfl, v2, T2.o, by have g1 := Hr1.o; have gk := Hk.o; have gl := Hlen.o; simp [uk1, g1, ← gk, gl, hr2]⟩
   rw [hr2] at h2
   obtain ⟨rfl, hw2⟩ := h2
   have Hr2 := hd' hr2
   have Hw2 := hd' hw2
   have Tk2 := hd' t2
   clear hr2 hw2 t2
   have HB2 : Hid (Blk w2 w.heap.size 30 #[iV 2, iV x0, iV y0, iV x1, iV y1, .int .u8 (q0 : Nat), .int .u8 (q1 : Nat), .int .u8 (q2 : Nat), .int .u8 (q3 : Nat), iV cw, iV ch, iV turn, .slice p pix.length cap]) := hd' ((HBD.o.mod (Gou.Mod.alloc (fun _ => False) _ _) (fun h => h)).mod Tk2.o.mod (fun e => by
    rcases e with e | e
    ·omega
    ·rcases Tk1.o.fresh _ e with e | e
     ·have := (H.o.own.lt _ e).2; omega
     ·have := HS0.o; simp at e; omega))
   have HN2 : Hid (PixR (fun b => b < W) w2 (.slice p pix.length cap) pix) := hd' (RowG.mod HN0.o (((Gou.Mod.alloc (fun k => W ≤ k) _ _).trans' (WTo.far Tk1.o (HW0.o.alloc _))).trans' (((Gou.Mod.drewN _ _ _).trans' (Gou.Mod.alloc _ _ _)).trans' (WTo.far Tk2.o (HwD.o.alloc _)))) (fun k _ hG hk => by omega))
   have hE2 := uj9 Hr2.o
   have b12 := HB2.o.cell 12 rfl
   clear a0 a1 a2 a3 a4 a5 a6
   go_wp2_with fail
   refine (upq _ W _ v2 _ pix Hw2.o (PixR.use HN2.o Hw2.o) (by have := Hlen.o; simp only [List.length_append, List.length_cons, List.length_nil] at *; omega)).mono ?_
   rintro e w3 ⟨v3, t3, rfl, hw3⟩
   have T3 := hd' (T2.o.trans t3)
   have Hw3 := hd' hw3
   clear t3 hw3 b12
   go_wp2_with fail
   go_end0
   exact ⟨v3, T3.o, by
    have g1 := Hr1.o
    have g2 := Hr2.o
    have gk := Hk.o
    have gl := Hlen.o
    simp only [uk1, g1, g2, Option.bind_some, ← gk, gl, if_true]
    exact ⟨trivial, by have := Hw3.o; simpa using this⟩⟩
  ·have e5 : ((pix.length : Int) == (k : Int)) = false := bqf.2 (by omega)
   have hno : Hid (uk1 ⟨2, ⟨x0, y0, x1, y1⟩, ⟨q0, q1, q2, q3⟩, cw, ch, turn, pix⟩ = none) := hd' (by
    have g1 := Hr1.o
    have gk := Hk.o
    simp [uk1, g1, ← gk, hlen])
   clear hlen
   go_wp2_with fail
   go_still_tail 9, (by kernel_rfl)
   still_call (Hcount.o _)
   repeat still_step
   refine wpStill_nil ?_
   change wpList _ _ _ _ _ w1.drew
   have HTd := hd' (T1.o.trans (WTo.other (Gou.Mod.drew (fun _ => False) w1) v1))
   generalize w1.drew = w2 at *
   clear a0 a1 a2 a3 a4 a5 a6
   go_wp2_with (first | (go_at_call 31; refine (ukq _).mono ?_; rintro e w' ⟨rfl, rfl⟩))
   exact ⟨rfl, v1, HTd.o, by rw [hno.out]⟩
 have e1 : (kind == 1) = false := bqf.2 hk1
 have e2 : (kind == 2) = false := bqf.2 hk2
 have a0 := HB1.o.cell 0 rfl
 have H1 := hd' hk1
 have H2 := hd' hk2
 clear hk1 hk2
 go_wp2_with fail
 go_end0
 exact ⟨v1, T1.o, by
  have g1 := Hr1.o
  simp only [uk1, g1, Option.bind_some, if_neg H1.o, if_neg H2.o]
  exact ⟨trivial, Hw1.o⟩⟩
end Go.Proofs.YtgolafbneiffpaaGreatDoor
