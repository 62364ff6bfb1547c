/- Acts as bytes: a content is written. -/
import Derived.Test.YtnamnmipgpcjjaaWrE
namespace Go.Gou
open Go.RowKit

def encContent (c : Ct) : Option (List Nat) := (encNums [c.kind]).bind fun a =>
  if c.kind = 1 then (encNums [c.box.x0, c.box.y0, c.box.x1, c.box.y1]).bind fun b => some (a ++ (b ++ pxBytes [c.px]))
  else if c.kind = 2 then (if c.pix.length = countOf c.w c.h then (encNums [c.box.x0, c.box.y0, c.w, c.h, c.turn]).bind fun b => some (a ++ (b ++ pxBytes c.pix)) else none)
  else some a

theorem PixR.lit {w : World} {W : Nat} {TW TB T : TypeId} {bs : List Nat} {vs : Value} (h : WrAt w W TW TB bs vs) (p : Pxl) (B : Nat) (hB : B = w.heap.size) :
    PixR (fun b => b ≠ W ∧ vs.ownBlock ≠ some b) (w.alloc (.cells #[.int .u8 (p.p0 : Nat), .int .u8 (p.p1 : Nat), .int .u8 (p.p2 : Nat), .int .u8 (p.p3 : Nat)] T)) (.slice (some ⟨B, 0, none⟩) 1 1) [p] := by
  subst hB
  have hW := Blk.lt h.box
  refine ⟨by simp [pxs, Pxl.cells], _, _, rfl, Nat.le_refl _, .inr ⟨w.heap.size, 0, rfl, by simp, ⟨by omega, fun e => by have := (h.own.lt _ e).2; omega⟩, fun j u hu => ?_⟩⟩
  rw [Nat.zero_add, cell_of_row _ w.heap.size j _ T (0, 0) (heap_alloc_new w _)]
  simpa [pxs, Pxl.cells] using hu

end Go.Gou
namespace Go.Proofs.Ytnamnmipgpcjjaa
open Go.RowKit Go.Gou

set_option linter.constructorNameAsVariable false
set_option maxRecDepth 100000

set_option maxHeartbeats 2000000 in
theorem wcontent_any (w : World) (W : Nat) (bs : List Nat) (vs : Value) (p : Option Addr) (cap : Nat) (c : Ct) (h : Wr w W bs vs) (hx : PixR (fun b => b < W) w (.slice p c.pix.length cap) c.pix) (hl : bs.length ≤ 800000000) :
    Calls Try.prog 48 #[.pointer (some ⟨W, 0, none⟩), .agg (contC c (.slice p c.pix.length cap))] w (WrP w W bs vs (encContent c)) := by
  have H := Lib.hid h
  have HB0 : Hid (Blk (w.alloc (.cells (contC c (.slice p c.pix.length cap)) 30)) w.heap.size 30 (contC c (.slice p c.pix.length cap))) := Lib.hid (heap_alloc_new w _)
  have HW0 : Hid (Wr (w.alloc (.cells (contC c (.slice p c.pix.length cap)) 30)) W bs vs) := Lib.hid (h.alloc _)
  have HT0 : Hid (WTo W w vs (w.alloc (.cells (contC c (.slice p c.pix.length cap)) 30)) vs) := Lib.hid (WTo.other (Gou.Mod.alloc _ _ _) vs)
  have HN0 : Hid (PixR (fun b => b < W) (w.alloc (.cells (contC c (.slice p c.pix.length cap)) 30)) (.slice p c.pix.length cap) c.pix) := Lib.hid (RowG.mod hx (Gou.Mod.alloc (fun _ => False) _ _) (fun _ _ _ h => h))
  have HS0 : Hid (((w.alloc (.cells (contC c (.slice p c.pix.length cap)) 30))).heap.size = w.heap.size + 1) := Lib.hid (by simp)
  have hWlt := Blk.lt h.box
  clear h hx
  obtain ⟨kind, ⟨x0, y0, x1, y1⟩, ⟨q0, q1, q2, q3⟩, cw, ch, turn, pix⟩ := c
  simp only [contC] at *
  go_enter Try.func48, Try.ntmps48
  go_wp2_with fail
  generalize hW0 : (w.alloc (.cells #[.int .i64 kind, .int .i64 x0, .int .i64 y0, .int .i64 x1, .int .i64 y1, .int .u8 (q0 : Nat), .int .u8 (q1 : Nat), .int .u8 (q2 : Nat), .int .u8 (q3 : Nat), .int .i64 cw, .int .i64 ch, .int .i64 turn, .slice p pix.length cap] 30)) = w0 at *
  clear hW0
  have a00 := HB0.out.cell 0 rfl
  have hB0 := Blk.lt HB0.out
  refine (numbers_any _ W bs vs _ [kind] (HW0.out.alloc _) (HW0.out.lit [kind] _ rfl 1 rfl _ HS0.out.symm) (by simp; omega)).mono ?_
  rintro e w1 ⟨v1, t1, h1⟩
  have T1 := Lib.hid ((HT0.out.trans (WTo.other (Gou.Mod.alloc _ _ _) vs)).trans t1)
  rcases hr1 : encNums [kind] with _ | es1
  · rw [hr1] at h1
    subst h1
    exact ⟨rfl, v1, T1.out, by simp [encContent, hr1]⟩
  rw [hr1] at h1
  obtain ⟨rfl, hw1⟩ := h1
  have Hr1 := Lib.hid hr1
  have Hw1 := Lib.hid hw1
  have Tk1 := Lib.hid t1
  clear hr1 hw1 t1
  have HB1 : Hid (Blk w1 w.heap.size 30 #[.int .i64 kind, .int .i64 x0, .int .i64 y0, .int .i64 x1, .int .i64 y1, .int .u8 (q0 : Nat), .int .u8 (q1 : Nat), .int .u8 (q2 : Nat), .int .u8 (q3 : Nat), .int .i64 cw, .int .i64 ch, .int .i64 turn, .slice p pix.length cap]) := Lib.hid ((HB0.out.mod (Gou.Mod.alloc (fun _ => False) _ _) (fun h => h)).mod Tk1.out.mod (fun e => by
    rcases e with e | e
    · omega
    · have := (H.out.own.lt _ e).2; omega))
  have hE1 := encNums_len Hr1.out
  by_cases hk1 : kind = 1
  · subst hk1
    have a0 := HB1.out.cell 0 rfl
    have a1 := HB1.out.cell 1 rfl
    have a2 := HB1.out.cell 2 rfl
    have a3 := HB1.out.cell 3 rfl
    have a4 := HB1.out.cell 4 rfl
    go_wp2_with fail
    refine (wbox_any _ W _ v1 x0 y0 x1 y1 Hw1.out (by simp only [List.length_append, List.length_cons, List.length_nil] at *; omega)).mono ?_
    rintro e w2 ⟨v2, t2, h2⟩
    have T2 := Lib.hid (T1.out.trans t2)
    rcases hr2 : encNums [x0, y0, x1, y1] with _ | es2
    · rw [hr2] at h2
      subst h2
      exact ⟨rfl, v2, T2.out, by simp [encContent, hr2, Hr1.out]⟩
    rw [hr2] at h2
    obtain ⟨rfl, hw2⟩ := h2
    have Hr2 := Lib.hid hr2
    have Hw2 := Lib.hid hw2
    have Tk2 := Lib.hid t2
    clear hr2 hw2 t2
    have HB2 : Hid (Blk w2 w.heap.size 30 #[.int .i64 1, .int .i64 x0, .int .i64 y0, .int .i64 x1, .int .i64 y1, .int .u8 (q0 : Nat), .int .u8 (q1 : Nat), .int .u8 (q2 : Nat), .int .u8 (q3 : Nat), .int .i64 cw, .int .i64 ch, .int .i64 turn, .slice p pix.length cap]) := Lib.hid (HB1.out.mod Tk2.out.mod (fun e => by
      rcases e with e | e
      · omega
      · rcases Tk1.out.fresh _ e with e | e
        · have := (H.out.own.lt _ e).2; omega
        · simp at e; omega))
    have hE2 := encNums_len Hr2.out
    have b5 := HB2.out.cell 5 rfl
    have b6 := HB2.out.cell 6 rfl
    have b7 := HB2.out.cell 7 rfl
    have b8 := HB2.out.cell 8 rfl
    clear a0 a1 a2 a3 a4
    go_wp2_with fail
    refine (wpixels_any _ W _ v2 _ [⟨q0, q1, q2, q3⟩] (Hw2.out.alloc _) (PixR.lit Hw2.out ⟨q0, q1, q2, q3⟩ _ rfl) (by simp only [List.length_append, List.length_cons, List.length_nil] at *; omega)).mono ?_
    rintro e w3 ⟨v3, t3, rfl, hw3⟩
    have T3 := Lib.hid ((T2.out.trans (WTo.other (Gou.Mod.alloc _ _ _) v2)).trans t3)
    have Hw3 := Lib.hid hw3
    clear t3 hw3 b5 b6 b7 b8
    go_wp2_with fail
    go_end0
    exact ⟨v3, T3.out, by
      have g1 := Hr1.out
      have g2 := Hr2.out
      simp only [encContent, g1, g2]
      exact ⟨trivial, by have := Hw3.out; simpa using this⟩⟩
  by_cases hk2 : kind = 2
  · subst hk2
    have a6 := HB1.out.cell 12 rfl
    have a0 := HB1.out.cell 0 rfl
    have a1 := HB1.out.cell 1 rfl
    have a2 := HB1.out.cell 2 rfl
    have a3 := HB1.out.cell 9 rfl
    have a4 := HB1.out.cell 10 rfl
    have a5 := HB1.out.cell 11 rfl
    obtain ⟨k, hk⟩ : ∃ k, k = countOf cw ch := ⟨_, rfl⟩
    have hcount : ∀ w : World, Calls Try.prog 59 #[.int .i64 cw, .int .i64 ch] w fun e w' => e = .returned (.int .i64 (k : Nat)) ∧ w' = w := fun w => by rw [hk]; exact count_any w cw ch
    have Hcount := Lib.hid hcount
    have Hk := Lib.hid hk
    have hkle : k ≤ 65536 := by rw [hk]; exact countOf_le cw ch
    clear hcount hk
    by_cases hlen : pix.length = k
    · have e5 : ((pix.length : Int) == (k : Int)) = true := by simp; omega
      have Hlen := Lib.hid hlen
      clear hlen
      go_wp2_with fail
      go_quiet (first | (go_at_call 59; exact Calls.quiet_of_same (Hcount.out _)) | (go_at_call 22; exact Calls.quiet_of_same (must_true _)))
      obtain ⟨nq1, rfl⟩ : ∃ q : Nat, q = nq := ⟨_, rfl⟩
      have HwD : Hid (Wr (w1.drewN nq1) W _ v1) := Lib.hid (Hw1.out.other (Gou.Mod.drewN (fun _ => False) w1 nq1) (fun h => h) (fun _ _ h => h))
      have HBD : Hid (Blk (w1.drewN nq1) w.heap.size 30 #[.int .i64 2, .int .i64 x0, .int .i64 y0, .int .i64 x1, .int .i64 y1, .int .u8 (q0 : Nat), .int .u8 (q1 : Nat), .int .u8 (q2 : Nat), .int .u8 (q3 : Nat), .int .i64 cw, .int .i64 ch, .int .i64 turn, .slice p pix.length cap]) := Lib.hid (HB1.out.mod (Gou.Mod.drewN (fun _ => False) w1 nq1) (fun h => h))
      go_wp2_with fail
      refine (numbers_any _ W _ v1 _ [x0, y0, cw, ch, turn] (HwD.out.alloc _) (HwD.out.lit [x0, y0, cw, ch, turn] _ rfl 5 rfl _ (by simp)) (by simp only [List.length_append, List.length_cons, List.length_nil] at *; omega)).mono ?_
      rintro e w2 ⟨v2, t2, h2⟩
      have T2 := Lib.hid ((T1.out.trans (WTo.other ((Gou.Mod.drewN (fun _ => False) w1 nq1).trans' (Gou.Mod.alloc _ _ _)) v1)).trans t2)
      rcases hr2 : encNums [x0, y0, cw, ch, turn] with _ | es2
      · rw [hr2] at h2
        subst h2
        exact ⟨rfl, v2, T2.out, by have g1 := Hr1.out; have gk := Hk.out; have gl := Hlen.out; simp [encContent, g1, ← gk, gl, hr2]⟩
      rw [hr2] at h2
      obtain ⟨rfl, hw2⟩ := h2
      have Hr2 := Lib.hid hr2
      have Hw2 := Lib.hid hw2
      have Tk2 := Lib.hid t2
      clear hr2 hw2 t2
      have HB2 : Hid (Blk w2 w.heap.size 30 #[.int .i64 2, .int .i64 x0, .int .i64 y0, .int .i64 x1, .int .i64 y1, .int .u8 (q0 : Nat), .int .u8 (q1 : Nat), .int .u8 (q2 : Nat), .int .u8 (q3 : Nat), .int .i64 cw, .int .i64 ch, .int .i64 turn, .slice p pix.length cap]) := Lib.hid ((HBD.out.mod (Gou.Mod.alloc (fun _ => False) _ _) (fun h => h)).mod Tk2.out.mod (fun e => by
        rcases e with e | e
        · omega
        · rcases Tk1.out.fresh _ e with e | e
          · have := (H.out.own.lt _ e).2; omega
          · have := HS0.out; simp at e; omega))
      have HN2 : Hid (PixR (fun b => b < W) w2 (.slice p pix.length cap) pix) := Lib.hid (RowG.mod HN0.out (((Gou.Mod.alloc (fun k => W ≤ k) _ _).trans' (WTo.far Tk1.out (HW0.out.alloc _))).trans' (((Gou.Mod.drewN _ _ _).trans' (Gou.Mod.alloc _ _ _)).trans' (WTo.far Tk2.out (HwD.out.alloc _)))) (fun k _ hG hk => by omega))
      have hE2 := encNums_len Hr2.out
      have b12 := HB2.out.cell 12 rfl
      clear a0 a1 a2 a3 a4 a5 a6
      go_wp2_with fail
      refine (wpixels_any _ W _ v2 _ pix Hw2.out (PixR.use HN2.out Hw2.out) (by have := Hlen.out; simp only [List.length_append, List.length_cons, List.length_nil] at *; omega)).mono ?_
      rintro e w3 ⟨v3, t3, rfl, hw3⟩
      have T3 := Lib.hid (T2.out.trans t3)
      have Hw3 := Lib.hid hw3
      clear t3 hw3 b12
      go_wp2_with fail
      go_end0
      exact ⟨v3, T3.out, by
        have g1 := Hr1.out
        have g2 := Hr2.out
        have gk := Hk.out
        have gl := Hlen.out
        simp only [encContent, g1, g2, Option.bind_some, ← gk, gl, if_true]
        exact ⟨trivial, by have := Hw3.out; simpa using this⟩⟩
    · have e5 : ((pix.length : Int) == (k : Int)) = false := beq_eq_false_iff_ne.2 (by omega)
      have hno : Hid (encContent ⟨2, ⟨x0, y0, x1, y1⟩, ⟨q0, q1, q2, q3⟩, cw, ch, turn, pix⟩ = none) := Lib.hid (by
        have g1 := Hr1.out
        have gk := Hk.out
        simp [encContent, g1, ← gk, hlen])
      clear hlen
      go_wp2_with fail
      go_still_tail 9, (by kernel_rfl)
      still_call (Hcount.out _)
      repeat still_step
      refine wpStill_nil ?_
      change wpList _ _ _ _ _ w1.drew
      have HTd := Lib.hid (T1.out.trans (WTo.other (Gou.Mod.drew (fun _ => False) w1) v1))
      generalize w1.drew = w2 at *
      clear a0 a1 a2 a3 a4 a5 a6
      go_wp2_with (first | (go_at_call 22; refine (must_false _).mono ?_; rintro e w' ⟨rfl, rfl⟩))
      exact ⟨rfl, v1, HTd.out, by rw [hno.out]⟩
  have e1 : (kind == 1) = false := beq_eq_false_iff_ne.2 hk1
  have e2 : (kind == 2) = false := beq_eq_false_iff_ne.2 hk2
  have a0 := HB1.out.cell 0 rfl
  have H1 := Lib.hid hk1
  have H2 := Lib.hid hk2
  clear hk1 hk2
  go_wp2_with fail
  go_end0
  exact ⟨v1, T1.out, by
    have g1 := Hr1.out
    simp only [encContent, g1, Option.bind_some, if_neg H1.out, if_neg H2.out]
    exact ⟨trivial, Hw1.out⟩⟩

end Go.Proofs.Ytnamnmipgpcjjaa
