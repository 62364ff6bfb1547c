/- Texts of the codec's proofs, laid together: WrH. -/
import Derived.Test.YtnamnmipgpcjjaaYWrG
set_option linter.unusedSimpArgs false
set_option linter.unusedVariables false
set_option linter.unusedSectionVars false
set_option linter.constructorNameAsVariable false

/- Acts as bytes: an act is written. -/
namespace Go.Gou
open Go.RowKit

def flagsOf (c : Cf) : Int := (if c.fuse then 1 else 0) + (if c.alias then 2 else 0) + (if c.roi then 4 else 0) + (if c.damage then 8 else 0)
def encAct (a : Ac) : Option (List Nat) :=
  if 1 ≤ a.kind ∧ a.kind ≤ 14 then
    (if a.kind = 12 then encNums [a.w, a.h] else if a.kind = 13 then encNums [flagsOf a.conf, a.conf.room] else if a.kind = 14 then some [] else encOpr a.op).bind fun b => some (a.kind.toNat :: b)
  else none

theorem act_op (a : Ac) (vp vf vb : Value) : (actC a vp vf vb).toList = [.int .i64 a.kind] ++ ((oprC a.op vp vf vb).toList ++ [.int .i64 a.w, .int .i64 a.h, .bool a.conf.fuse, .bool a.conf.alias, .bool a.conf.roi, .bool a.conf.damage, .int .i64 a.conf.room]) := rfl

end Go.Gou
namespace Go.Proofs.Ytnamnmipgpcjjaa
open Go.RowKit Go.Gou

set_option linter.constructorNameAsVariable false
set_option maxRecDepth 100000

set_option maxHeartbeats 1000000 in
theorem wact_bad (w : World) (W : Nat) (bs : List Nat) (vs : Value) (p1 : Option Addr) (k1 : Nat) (p2 : Option Addr) (k2 : Nat) (p3 : Option Addr) (k3 : Nat) (a : Ac) (hk : ¬ (1 ≤ a.kind ∧ a.kind ≤ 14)) (h : Wr w W bs vs) (hx : LookR (fun b => b < W) w a.op.look (.slice p1 a.op.look.content.pix.length k1) (.slice p2 a.op.look.filt.nodes.length k2) (.slice p3 a.op.look.back.nodes.length k3)) (hl : bs.length ≤ 600000000) :
    Calls Try.prog 21 #[.pointer (some ⟨W, 0, none⟩), .agg (AcA a p1 p2 p3 k1 k2 k3)] w (WrP w W bs vs (encAct a)) := by
  have H := Lib.hid h
  have HB0 : Hid (Blk (w.alloc (.cells (AcA a p1 p2 p3 k1 k2 k3) 41)) w.heap.size 41 (AcA a p1 p2 p3 k1 k2 k3)) := Lib.hid (heap_alloc_new w _)
  have HW0 : Hid (Wr (w.alloc (.cells (AcA a p1 p2 p3 k1 k2 k3) 41)) W bs vs) := Lib.hid (h.alloc _)
  have HT0 : Hid (WTo W w vs (w.alloc (.cells (AcA a p1 p2 p3 k1 k2 k3) 41)) vs) := Lib.hid (WTo.other (Gou.Mod.alloc _ _ _) vs)
  have HR0 : Hid (LookR (fun b => b < W) (w.alloc (.cells (AcA a p1 p2 p3 k1 k2 k3) 41)) a.op.look (.slice p1 a.op.look.content.pix.length k1) (.slice p2 a.op.look.filt.nodes.length k2) (.slice p3 a.op.look.back.nodes.length k3)) := Lib.hid (hx.mod (Gou.Mod.alloc (fun _ => False) _ _) (fun _ _ _ h => h))
  have HS0 : Hid (((w.alloc (.cells (AcA a p1 p2 p3 k1 k2 k3) 41))).heap.size = w.heap.size + 1) := Lib.hid (by simp)
  have hWlt := Blk.lt h.box
  have hvs := fun k hk => (H.out.own.lt k hk).2
  have Hvs := Lib.hid hvs
  clear h hx hvs
  have hno : Hid (encAct a = none) := Lib.hid (by unfold encAct; rw [if_neg hk])
  have kc : ((w.alloc (.cells (AcA a p1 p2 p3 k1 k2 k3) 41))).cell? ⟨w.heap.size, 0, none⟩ = some (.int .i64 a.kind) := HB0.out.cell 0 rfl
  go_enter Try.func21, Try.ntmps21
  by_cases h1 : 1 ≤ a.kind
  · have e1 : decide (1 ≤ a.kind) = true := by simp; omega
    have e2 : decide (a.kind ≤ 14) = false := by simp; omega
    clear hk h1
    go_wp2_with fail
    refine (must_false _).mono ?_
    rintro e w' ⟨rfl, rfl⟩
    exact ⟨rfl, vs, HT0.out, by rw [hno.out]⟩
  · have e1 : decide (1 ≤ a.kind) = false := by simp; omega
    clear hk h1
    go_wp2_with fail
    refine (must_false _).mono ?_
    rintro e w' ⟨rfl, rfl⟩
    exact ⟨rfl, vs, HT0.out, by rw [hno.out]⟩

set_option maxHeartbeats 2000000 in
theorem wact_14 (w : World) (W : Nat) (bs : List Nat) (vs : Value) (p1 : Option Addr) (k1 : Nat) (p2 : Option Addr) (k2 : Nat) (p3 : Option Addr) (k3 : Nat) (a : Ac) (hk : a.kind = (14 : Nat)) (h : Wr w W bs vs) (hx : LookR (fun b => b < W) w a.op.look (.slice p1 a.op.look.content.pix.length k1) (.slice p2 a.op.look.filt.nodes.length k2) (.slice p3 a.op.look.back.nodes.length k3)) (hl : bs.length ≤ 600000000) :
    Calls Try.prog 21 #[.pointer (some ⟨W, 0, none⟩), .agg (AcA a p1 p2 p3 k1 k2 k3)] w (WrP w W bs vs (encAct a)) := by
  have H := Lib.hid h
  have HB0 : Hid (Blk (w.alloc (.cells (AcA a p1 p2 p3 k1 k2 k3) 41)) w.heap.size 41 (AcA a p1 p2 p3 k1 k2 k3)) := Lib.hid (heap_alloc_new w _)
  have HW0 : Hid (Wr (w.alloc (.cells (AcA a p1 p2 p3 k1 k2 k3) 41)) W bs vs) := Lib.hid (h.alloc _)
  have HT0 : Hid (WTo W w vs (w.alloc (.cells (AcA a p1 p2 p3 k1 k2 k3) 41)) vs) := Lib.hid (WTo.other (Gou.Mod.alloc _ _ _) vs)
  have HR0 : Hid (LookR (fun b => b < W) (w.alloc (.cells (AcA a p1 p2 p3 k1 k2 k3) 41)) a.op.look (.slice p1 a.op.look.content.pix.length k1) (.slice p2 a.op.look.filt.nodes.length k2) (.slice p3 a.op.look.back.nodes.length k3)) := Lib.hid (hx.mod (Gou.Mod.alloc (fun _ => False) _ _) (fun _ _ _ h => h))
  have HS0 : Hid (((w.alloc (.cells (AcA a p1 p2 p3 k1 k2 k3) 41))).heap.size = w.heap.size + 1) := Lib.hid (by simp)
  have hWlt := Blk.lt h.box
  have hvs := fun k hk => (H.out.own.lt k hk).2
  have Hvs := Lib.hid hvs
  clear h hx hvs
  have HK := Lib.hid hk
  clear hk
  have kc : ((w.alloc (.cells (AcA a p1 p2 p3 k1 k2 k3) 41))).cell? ⟨w.heap.size, 0, none⟩ = some (.int .i64 (14 : Nat)) := by rw [← HK.out]; exact HB0.out.cell 0 rfl
  have e1 : decide (1 ≤ ((14 : Nat) : Int)) = true := by simp <;> omega
  have e2 : decide (((14 : Nat) : Int) ≤ 14) = true := by simp <;> omega
  have eu : IntKind.u8.wrap ((14 : Nat) : Int) = 14 := IntWalk.u8_in _ (by omega)
  obtain ⟨i0, hi0, hz0, hz1, hz2⟩ := info_parts info_u8
  obtain ⟨pv, cv, rfl⟩ := ownsRow_form H.out.own
  go_enter Try.func21, Try.ntmps21
  go_wp2_with fail
  generalize hW0 : (w.alloc (.cells (AcA a p1 p2 p3 k1 k2 k3) 41)) = w0 at *
  clear hW0
  refine (must_true _).mono ?_
  rintro e w' ⟨rfl, hww⟩
  obtain rfl : w0 = w' := hww.symm
  clear hww
  have cW := HW0.out.box.cell 0 rfl
  have fW := HW0.out.box.frozen 0
  have hWl0 := Blk.lt HW0.out.box
  have HM : Hid (Gou.Mod (fun _ => False) w0 (w0.drew.alloc (.cells #[.int .u8 (14 : Nat)] 5))) := Lib.hid ((Gou.Mod.drew _ _).trans' (Gou.Mod.alloc (fun _ => False) _ _))
  have Hown : Hid (((w0.drew.alloc (.cells #[.int .u8 (14 : Nat)] 5))).ownsRow (W + 1) 5 1 (.slice pv bs.length cv) bs.length (u8s bs)) := Lib.hid (ownsRow_mod HW0.out.own HM.out (fun _ _ h => h))
  go_wp2_with fail
  go_region_law (first | (refine step_append_lies _ (by rfl) _ _ _ (by rfl) (W + 1) 5 i0 (.int .u8 0) 1 1 Try.underlying44 hi0 hz0 hz1 hz2 rfl (by omega) (.slice pv bs.length cv) bs.length (u8s bs) (by rfl) Hown.out ⟨_, 0, none⟩ 1 _ [.int .u8 (14 : Nat)] (by rfl) (by rfl) (news_at (cs := #[.int .u8 (14 : Nat)]) (t := 5) (fr := (0, 0)) (heap_at rfl) rfl) (by simp [Value.oneCell']) (by omega) (by unfold maxLen; omega) (by omega) (by simp; omega) _ rfl ?_; intro gg cp w4 hown4 hgrow4 hat4 hlt4; have hcf4 := HW0.out.mids HM.out hgrow4; obtain ⟨c4, f4⟩ := hcf4) | fail)
  · have hP := HW0.out.pushes (ys := [14]) rfl HM.out hown4 hgrow4 hat4
    have HW4 : Hid (Wr (w4.setCell ⟨W, 0, none⟩ (.slice (some ⟨gg, 0, none⟩) (bs.length + 1) cp)) W (bs ++ [14]) (.slice (some ⟨gg, 0, none⟩) (bs.length + 1) cp)) := Lib.hid hP.1
    have T4 : Hid (WTo W w (.slice pv bs.length cv) (w4.setCell ⟨W, 0, none⟩ (.slice (some ⟨gg, 0, none⟩) (bs.length + 1) cp)) (.slice (some ⟨gg, 0, none⟩) (bs.length + 1) cp)) := Lib.hid (HT0.out.trans hP.2)
    have HB4 : Hid (Blk (w4.setCell ⟨W, 0, none⟩ (.slice (some ⟨gg, 0, none⟩) (bs.length + 1) cp)) w.heap.size 41 (AcA a p1 p2 p3 k1 k2 k3)) := Lib.hid (HB0.out.mod hP.2.mod (fun e => by
      rcases e with e | e
      · omega
      · have := Hvs.out _ e; omega))
    have HR4 : Hid (LookR (fun b => b < W) (w4.setCell ⟨W, 0, none⟩ (.slice (some ⟨gg, 0, none⟩) (bs.length + 1) cp)) a.op.look (.slice p1 a.op.look.content.pix.length k1) (.slice p2 a.op.look.filt.nodes.length k2) (.slice p3 a.op.look.back.nodes.length k3)) := Lib.hid (HR0.out.mod (WTo.far hP.2 HW0.out) (fun k _ hG hk => by omega))
    have HS4 : Hid (((w4.setCell ⟨W, 0, none⟩ (.slice (some ⟨gg, 0, none⟩) (bs.length + 1) cp))).heap.size = w4.heap.size) := Lib.hid (by simp)
    have kd : ((w4.setCell ⟨W, 0, none⟩ (.slice (some ⟨gg, 0, none⟩) (bs.length + 1) cp))).cell? ⟨w.heap.size, 0, none⟩ = some (.int .i64 (14 : Nat)) := by rw [← HK.out]; exact HB4.out.cell 0 rfl
    clear hP hown4 hgrow4 hat4 hlt4 c4 f4 kc cW fW
    go_wp2_with fail
    go_end0
    exact ⟨_, T4.out, by
      have hk := HK.out
      simp [encAct, hk]
      exact HW4.out⟩
  · have hP := HW0.out.pushes (ys := [14]) rfl HM.out hown4 hgrow4 hat4
    have HW4 : Hid (Wr (w4.setCell ⟨W, 0, none⟩ (.slice (some ⟨gg, 0, none⟩) (bs.length + 1) cp)) W (bs ++ [14]) (.slice (some ⟨gg, 0, none⟩) (bs.length + 1) cp)) := Lib.hid hP.1
    have T4 : Hid (WTo W w (.slice pv bs.length cv) (w4.setCell ⟨W, 0, none⟩ (.slice (some ⟨gg, 0, none⟩) (bs.length + 1) cp)) (.slice (some ⟨gg, 0, none⟩) (bs.length + 1) cp)) := Lib.hid (HT0.out.trans hP.2)
    have HB4 : Hid (Blk (w4.setCell ⟨W, 0, none⟩ (.slice (some ⟨gg, 0, none⟩) (bs.length + 1) cp)) w.heap.size 41 (AcA a p1 p2 p3 k1 k2 k3)) := Lib.hid (HB0.out.mod hP.2.mod (fun e => by
      rcases e with e | e
      · omega
      · have := Hvs.out _ e; omega))
    have HR4 : Hid (LookR (fun b => b < W) (w4.setCell ⟨W, 0, none⟩ (.slice (some ⟨gg, 0, none⟩) (bs.length + 1) cp)) a.op.look (.slice p1 a.op.look.content.pix.length k1) (.slice p2 a.op.look.filt.nodes.length k2) (.slice p3 a.op.look.back.nodes.length k3)) := Lib.hid (HR0.out.mod (WTo.far hP.2 HW0.out) (fun k _ hG hk => by omega))
    have HS4 : Hid (((w4.setCell ⟨W, 0, none⟩ (.slice (some ⟨gg, 0, none⟩) (bs.length + 1) cp))).heap.size = w4.heap.size) := Lib.hid (by simp)
    have kd : ((w4.setCell ⟨W, 0, none⟩ (.slice (some ⟨gg, 0, none⟩) (bs.length + 1) cp))).cell? ⟨w.heap.size, 0, none⟩ = some (.int .i64 (14 : Nat)) := by rw [← HK.out]; exact HB4.out.cell 0 rfl
    clear hP hown4 hgrow4 hat4 hlt4 c4 f4 kc cW fW
    go_wp2_with fail
    go_end0
    exact ⟨_, T4.out, by
      have hk := HK.out
      simp [encAct, hk]
      exact HW4.out⟩
  · have hP := HW0.out.pushes (ys := [14]) rfl HM.out hown4 hgrow4 hat4
    have HW4 : Hid (Wr (w4.setCell ⟨W, 0, none⟩ (.slice (some ⟨gg, 0, none⟩) (bs.length + 1) cp)) W (bs ++ [14]) (.slice (some ⟨gg, 0, none⟩) (bs.length + 1) cp)) := Lib.hid hP.1
    have T4 : Hid (WTo W w (.slice pv bs.length cv) (w4.setCell ⟨W, 0, none⟩ (.slice (some ⟨gg, 0, none⟩) (bs.length + 1) cp)) (.slice (some ⟨gg, 0, none⟩) (bs.length + 1) cp)) := Lib.hid (HT0.out.trans hP.2)
    have HB4 : Hid (Blk (w4.setCell ⟨W, 0, none⟩ (.slice (some ⟨gg, 0, none⟩) (bs.length + 1) cp)) w.heap.size 41 (AcA a p1 p2 p3 k1 k2 k3)) := Lib.hid (HB0.out.mod hP.2.mod (fun e => by
      rcases e with e | e
      · omega
      · have := Hvs.out _ e; omega))
    have HR4 : Hid (LookR (fun b => b < W) (w4.setCell ⟨W, 0, none⟩ (.slice (some ⟨gg, 0, none⟩) (bs.length + 1) cp)) a.op.look (.slice p1 a.op.look.content.pix.length k1) (.slice p2 a.op.look.filt.nodes.length k2) (.slice p3 a.op.look.back.nodes.length k3)) := Lib.hid (HR0.out.mod (WTo.far hP.2 HW0.out) (fun k _ hG hk => by omega))
    have HS4 : Hid (((w4.setCell ⟨W, 0, none⟩ (.slice (some ⟨gg, 0, none⟩) (bs.length + 1) cp))).heap.size = w4.heap.size) := Lib.hid (by simp)
    have kd : ((w4.setCell ⟨W, 0, none⟩ (.slice (some ⟨gg, 0, none⟩) (bs.length + 1) cp))).cell? ⟨w.heap.size, 0, none⟩ = some (.int .i64 (14 : Nat)) := by rw [← HK.out]; exact HB4.out.cell 0 rfl
    clear hP hown4 hgrow4 hat4 hlt4 c4 f4 kc cW fW
    go_wp2_with fail
    go_end0
    exact ⟨_, T4.out, by
      have hk := HK.out
      simp [encAct, hk]
      exact HW4.out⟩

set_option maxHeartbeats 2000000 in
theorem wact_12 (w : World) (W : Nat) (bs : List Nat) (vs : Value) (p1 : Option Addr) (k1 : Nat) (p2 : Option Addr) (k2 : Nat) (p3 : Option Addr) (k3 : Nat) (a : Ac) (hk : a.kind = (12 : Nat)) (h : Wr w W bs vs) (hx : LookR (fun b => b < W) w a.op.look (.slice p1 a.op.look.content.pix.length k1) (.slice p2 a.op.look.filt.nodes.length k2) (.slice p3 a.op.look.back.nodes.length k3)) (hl : bs.length ≤ 600000000) :
    Calls Try.prog 21 #[.pointer (some ⟨W, 0, none⟩), .agg (AcA a p1 p2 p3 k1 k2 k3)] w (WrP w W bs vs (encAct a)) := by
  have H := Lib.hid h
  have HB0 : Hid (Blk (w.alloc (.cells (AcA a p1 p2 p3 k1 k2 k3) 41)) w.heap.size 41 (AcA a p1 p2 p3 k1 k2 k3)) := Lib.hid (heap_alloc_new w _)
  have HW0 : Hid (Wr (w.alloc (.cells (AcA a p1 p2 p3 k1 k2 k3) 41)) W bs vs) := Lib.hid (h.alloc _)
  have HT0 : Hid (WTo W w vs (w.alloc (.cells (AcA a p1 p2 p3 k1 k2 k3) 41)) vs) := Lib.hid (WTo.other (Gou.Mod.alloc _ _ _) vs)
  have HR0 : Hid (LookR (fun b => b < W) (w.alloc (.cells (AcA a p1 p2 p3 k1 k2 k3) 41)) a.op.look (.slice p1 a.op.look.content.pix.length k1) (.slice p2 a.op.look.filt.nodes.length k2) (.slice p3 a.op.look.back.nodes.length k3)) := Lib.hid (hx.mod (Gou.Mod.alloc (fun _ => False) _ _) (fun _ _ _ h => h))
  have HS0 : Hid (((w.alloc (.cells (AcA a p1 p2 p3 k1 k2 k3) 41))).heap.size = w.heap.size + 1) := Lib.hid (by simp)
  have hWlt := Blk.lt h.box
  have hvs := fun k hk => (H.out.own.lt k hk).2
  have Hvs := Lib.hid hvs
  clear h hx hvs
  have HK := Lib.hid hk
  clear hk
  have kc : ((w.alloc (.cells (AcA a p1 p2 p3 k1 k2 k3) 41))).cell? ⟨w.heap.size, 0, none⟩ = some (.int .i64 (12 : Nat)) := by rw [← HK.out]; exact HB0.out.cell 0 rfl
  have e1 : decide (1 ≤ ((12 : Nat) : Int)) = true := by simp <;> omega
  have e2 : decide (((12 : Nat) : Int) ≤ 14) = true := by simp <;> omega
  have eu : IntKind.u8.wrap ((12 : Nat) : Int) = 12 := IntWalk.u8_in _ (by omega)
  obtain ⟨i0, hi0, hz0, hz1, hz2⟩ := info_parts info_u8
  obtain ⟨pv, cv, rfl⟩ := ownsRow_form H.out.own
  go_enter Try.func21, Try.ntmps21
  go_wp2_with fail
  generalize hW0 : (w.alloc (.cells (AcA a p1 p2 p3 k1 k2 k3) 41)) = w0 at *
  clear hW0
  refine (must_true _).mono ?_
  rintro e w' ⟨rfl, hww⟩
  obtain rfl : w0 = w' := hww.symm
  clear hww
  have cW := HW0.out.box.cell 0 rfl
  have fW := HW0.out.box.frozen 0
  have hWl0 := Blk.lt HW0.out.box
  have HM : Hid (Gou.Mod (fun _ => False) w0 (w0.drew.alloc (.cells #[.int .u8 (12 : Nat)] 5))) := Lib.hid ((Gou.Mod.drew _ _).trans' (Gou.Mod.alloc (fun _ => False) _ _))
  have Hown : Hid (((w0.drew.alloc (.cells #[.int .u8 (12 : Nat)] 5))).ownsRow (W + 1) 5 1 (.slice pv bs.length cv) bs.length (u8s bs)) := Lib.hid (ownsRow_mod HW0.out.own HM.out (fun _ _ h => h))
  go_wp2_with fail
  go_region_law (first | (refine step_append_lies _ (by rfl) _ _ _ (by rfl) (W + 1) 5 i0 (.int .u8 0) 1 1 Try.underlying44 hi0 hz0 hz1 hz2 rfl (by omega) (.slice pv bs.length cv) bs.length (u8s bs) (by rfl) Hown.out ⟨_, 0, none⟩ 1 _ [.int .u8 (12 : Nat)] (by rfl) (by rfl) (news_at (cs := #[.int .u8 (12 : Nat)]) (t := 5) (fr := (0, 0)) (heap_at rfl) rfl) (by simp [Value.oneCell']) (by omega) (by unfold maxLen; omega) (by omega) (by simp; omega) _ rfl ?_; intro gg cp w4 hown4 hgrow4 hat4 hlt4; have hcf4 := HW0.out.mids HM.out hgrow4; obtain ⟨c4, f4⟩ := hcf4) | fail)
  · have hP := HW0.out.pushes (ys := [12]) rfl HM.out hown4 hgrow4 hat4
    have HW4 : Hid (Wr (w4.setCell ⟨W, 0, none⟩ (.slice (some ⟨gg, 0, none⟩) (bs.length + 1) cp)) W (bs ++ [12]) (.slice (some ⟨gg, 0, none⟩) (bs.length + 1) cp)) := Lib.hid hP.1
    have T4 : Hid (WTo W w (.slice pv bs.length cv) (w4.setCell ⟨W, 0, none⟩ (.slice (some ⟨gg, 0, none⟩) (bs.length + 1) cp)) (.slice (some ⟨gg, 0, none⟩) (bs.length + 1) cp)) := Lib.hid (HT0.out.trans hP.2)
    have HB4 : Hid (Blk (w4.setCell ⟨W, 0, none⟩ (.slice (some ⟨gg, 0, none⟩) (bs.length + 1) cp)) w.heap.size 41 (AcA a p1 p2 p3 k1 k2 k3)) := Lib.hid (HB0.out.mod hP.2.mod (fun e => by
      rcases e with e | e
      · omega
      · have := Hvs.out _ e; omega))
    have HR4 : Hid (LookR (fun b => b < W) (w4.setCell ⟨W, 0, none⟩ (.slice (some ⟨gg, 0, none⟩) (bs.length + 1) cp)) a.op.look (.slice p1 a.op.look.content.pix.length k1) (.slice p2 a.op.look.filt.nodes.length k2) (.slice p3 a.op.look.back.nodes.length k3)) := Lib.hid (HR0.out.mod (WTo.far hP.2 HW0.out) (fun k _ hG hk => by omega))
    have HS4 : Hid (((w4.setCell ⟨W, 0, none⟩ (.slice (some ⟨gg, 0, none⟩) (bs.length + 1) cp))).heap.size = w4.heap.size) := Lib.hid (by simp)
    have kd : ((w4.setCell ⟨W, 0, none⟩ (.slice (some ⟨gg, 0, none⟩) (bs.length + 1) cp))).cell? ⟨w.heap.size, 0, none⟩ = some (.int .i64 (12 : Nat)) := by rw [← HK.out]; exact HB4.out.cell 0 rfl
    have q35 : ((w4.setCell ⟨W, 0, none⟩ (.slice (some ⟨gg, 0, none⟩) (bs.length + 1) cp))).cell? ⟨w.heap.size, 35, none⟩ = some (.int .i64 a.w) := HB4.out.cell 35 rfl
    have q36 : ((w4.setCell ⟨W, 0, none⟩ (.slice (some ⟨gg, 0, none⟩) (bs.length + 1) cp))).cell? ⟨w.heap.size, 36, none⟩ = some (.int .i64 a.h) := HB4.out.cell 36 rfl
    clear hP hown4 hgrow4 hat4 hlt4 c4 f4 kc cW fW
    go_wp2_with fail
    generalize hW4 : (w4.setCell ⟨W, 0, none⟩ (.slice (some ⟨gg, 0, none⟩) (bs.length + 1) cp)) = wq at *
    clear hW4
    refine (numbers_any _ W _ (.slice (some ⟨gg, 0, none⟩) (bs.length + 1) cp) _ [a.w, a.h] (HW4.out.alloc _) (HW4.out.lit [a.w, a.h] _ rfl 2 rfl _ (by first | rfl | exact HS4.out.symm)) (by (try simp only [List.length_append, List.length_cons, List.length_nil] at *); omega)).mono ?_
    rintro e w1 ⟨v1, t1, h1⟩
    have T1 := Lib.hid ((T4.out.trans (WTo.other (Gou.Mod.alloc _ _ _) (.slice (some ⟨gg, 0, none⟩) (bs.length + 1) cp))).trans t1)
    rcases hr1 : encNums [a.w, a.h] with _ | es1
    · rw [hr1] at h1
      subst h1
      exact ⟨rfl, v1, T1.out, by have hk := HK.out; simp [encAct, hk, hr1]⟩
    rw [hr1] at h1
    obtain ⟨rfl, hw1⟩ := h1
    have Hr1 := Lib.hid hr1
    have Hw1 := Lib.hid hw1
    have Tk1 := Lib.hid t1
    clear hr1 hw1 t1
    go_wp2_with fail
    go_end0
    exact ⟨v1, T1.out, by
      have hk := HK.out
      have g1 := Hr1.out
      simp [encAct, hk, g1]
      simpa using Hw1.out⟩
  · have hP := HW0.out.pushes (ys := [12]) rfl HM.out hown4 hgrow4 hat4
    have HW4 : Hid (Wr (w4.setCell ⟨W, 0, none⟩ (.slice (some ⟨gg, 0, none⟩) (bs.length + 1) cp)) W (bs ++ [12]) (.slice (some ⟨gg, 0, none⟩) (bs.length + 1) cp)) := Lib.hid hP.1
    have T4 : Hid (WTo W w (.slice pv bs.length cv) (w4.setCell ⟨W, 0, none⟩ (.slice (some ⟨gg, 0, none⟩) (bs.length + 1) cp)) (.slice (some ⟨gg, 0, none⟩) (bs.length + 1) cp)) := Lib.hid (HT0.out.trans hP.2)
    have HB4 : Hid (Blk (w4.setCell ⟨W, 0, none⟩ (.slice (some ⟨gg, 0, none⟩) (bs.length + 1) cp)) w.heap.size 41 (AcA a p1 p2 p3 k1 k2 k3)) := Lib.hid (HB0.out.mod hP.2.mod (fun e => by
      rcases e with e | e
      · omega
      · have := Hvs.out _ e; omega))
    have HR4 : Hid (LookR (fun b => b < W) (w4.setCell ⟨W, 0, none⟩ (.slice (some ⟨gg, 0, none⟩) (bs.length + 1) cp)) a.op.look (.slice p1 a.op.look.content.pix.length k1) (.slice p2 a.op.look.filt.nodes.length k2) (.slice p3 a.op.look.back.nodes.length k3)) := Lib.hid (HR0.out.mod (WTo.far hP.2 HW0.out) (fun k _ hG hk => by omega))
    have HS4 : Hid (((w4.setCell ⟨W, 0, none⟩ (.slice (some ⟨gg, 0, none⟩) (bs.length + 1) cp))).heap.size = w4.heap.size) := Lib.hid (by simp)
    have kd : ((w4.setCell ⟨W, 0, none⟩ (.slice (some ⟨gg, 0, none⟩) (bs.length + 1) cp))).cell? ⟨w.heap.size, 0, none⟩ = some (.int .i64 (12 : Nat)) := by rw [← HK.out]; exact HB4.out.cell 0 rfl
    have q35 : ((w4.setCell ⟨W, 0, none⟩ (.slice (some ⟨gg, 0, none⟩) (bs.length + 1) cp))).cell? ⟨w.heap.size, 35, none⟩ = some (.int .i64 a.w) := HB4.out.cell 35 rfl
    have q36 : ((w4.setCell ⟨W, 0, none⟩ (.slice (some ⟨gg, 0, none⟩) (bs.length + 1) cp))).cell? ⟨w.heap.size, 36, none⟩ = some (.int .i64 a.h) := HB4.out.cell 36 rfl
    clear hP hown4 hgrow4 hat4 hlt4 c4 f4 kc cW fW
    go_wp2_with fail
    generalize hW4 : (w4.setCell ⟨W, 0, none⟩ (.slice (some ⟨gg, 0, none⟩) (bs.length + 1) cp)) = wq at *
    clear hW4
    refine (numbers_any _ W _ (.slice (some ⟨gg, 0, none⟩) (bs.length + 1) cp) _ [a.w, a.h] (HW4.out.alloc _) (HW4.out.lit [a.w, a.h] _ rfl 2 rfl _ (by first | rfl | exact HS4.out.symm)) (by (try simp only [List.length_append, List.length_cons, List.length_nil] at *); omega)).mono ?_
    rintro e w1 ⟨v1, t1, h1⟩
    have T1 := Lib.hid ((T4.out.trans (WTo.other (Gou.Mod.alloc _ _ _) (.slice (some ⟨gg, 0, none⟩) (bs.length + 1) cp))).trans t1)
    rcases hr1 : encNums [a.w, a.h] with _ | es1
    · rw [hr1] at h1
      subst h1
      exact ⟨rfl, v1, T1.out, by have hk := HK.out; simp [encAct, hk, hr1]⟩
    rw [hr1] at h1
    obtain ⟨rfl, hw1⟩ := h1
    have Hr1 := Lib.hid hr1
    have Hw1 := Lib.hid hw1
    have Tk1 := Lib.hid t1
    clear hr1 hw1 t1
    go_wp2_with fail
    go_end0
    exact ⟨v1, T1.out, by
      have hk := HK.out
      have g1 := Hr1.out
      simp [encAct, hk, g1]
      simpa using Hw1.out⟩
  · have hP := HW0.out.pushes (ys := [12]) rfl HM.out hown4 hgrow4 hat4
    have HW4 : Hid (Wr (w4.setCell ⟨W, 0, none⟩ (.slice (some ⟨gg, 0, none⟩) (bs.length + 1) cp)) W (bs ++ [12]) (.slice (some ⟨gg, 0, none⟩) (bs.length + 1) cp)) := Lib.hid hP.1
    have T4 : Hid (WTo W w (.slice pv bs.length cv) (w4.setCell ⟨W, 0, none⟩ (.slice (some ⟨gg, 0, none⟩) (bs.length + 1) cp)) (.slice (some ⟨gg, 0, none⟩) (bs.length + 1) cp)) := Lib.hid (HT0.out.trans hP.2)
    have HB4 : Hid (Blk (w4.setCell ⟨W, 0, none⟩ (.slice (some ⟨gg, 0, none⟩) (bs.length + 1) cp)) w.heap.size 41 (AcA a p1 p2 p3 k1 k2 k3)) := Lib.hid (HB0.out.mod hP.2.mod (fun e => by
      rcases e with e | e
      · omega
      · have := Hvs.out _ e; omega))
    have HR4 : Hid (LookR (fun b => b < W) (w4.setCell ⟨W, 0, none⟩ (.slice (some ⟨gg, 0, none⟩) (bs.length + 1) cp)) a.op.look (.slice p1 a.op.look.content.pix.length k1) (.slice p2 a.op.look.filt.nodes.length k2) (.slice p3 a.op.look.back.nodes.length k3)) := Lib.hid (HR0.out.mod (WTo.far hP.2 HW0.out) (fun k _ hG hk => by omega))
    have HS4 : Hid (((w4.setCell ⟨W, 0, none⟩ (.slice (some ⟨gg, 0, none⟩) (bs.length + 1) cp))).heap.size = w4.heap.size) := Lib.hid (by simp)
    have kd : ((w4.setCell ⟨W, 0, none⟩ (.slice (some ⟨gg, 0, none⟩) (bs.length + 1) cp))).cell? ⟨w.heap.size, 0, none⟩ = some (.int .i64 (12 : Nat)) := by rw [← HK.out]; exact HB4.out.cell 0 rfl
    have q35 : ((w4.setCell ⟨W, 0, none⟩ (.slice (some ⟨gg, 0, none⟩) (bs.length + 1) cp))).cell? ⟨w.heap.size, 35, none⟩ = some (.int .i64 a.w) := HB4.out.cell 35 rfl
    have q36 : ((w4.setCell ⟨W, 0, none⟩ (.slice (some ⟨gg, 0, none⟩) (bs.length + 1) cp))).cell? ⟨w.heap.size, 36, none⟩ = some (.int .i64 a.h) := HB4.out.cell 36 rfl
    clear hP hown4 hgrow4 hat4 hlt4 c4 f4 kc cW fW
    go_wp2_with fail
    generalize hW4 : (w4.setCell ⟨W, 0, none⟩ (.slice (some ⟨gg, 0, none⟩) (bs.length + 1) cp)) = wq at *
    clear hW4
    refine (numbers_any _ W _ (.slice (some ⟨gg, 0, none⟩) (bs.length + 1) cp) _ [a.w, a.h] (HW4.out.alloc _) (HW4.out.lit [a.w, a.h] _ rfl 2 rfl _ (by first | rfl | exact HS4.out.symm)) (by (try simp only [List.length_append, List.length_cons, List.length_nil] at *); omega)).mono ?_
    rintro e w1 ⟨v1, t1, h1⟩
    have T1 := Lib.hid ((T4.out.trans (WTo.other (Gou.Mod.alloc _ _ _) (.slice (some ⟨gg, 0, none⟩) (bs.length + 1) cp))).trans t1)
    rcases hr1 : encNums [a.w, a.h] with _ | es1
    · rw [hr1] at h1
      subst h1
      exact ⟨rfl, v1, T1.out, by have hk := HK.out; simp [encAct, hk, hr1]⟩
    rw [hr1] at h1
    obtain ⟨rfl, hw1⟩ := h1
    have Hr1 := Lib.hid hr1
    have Hw1 := Lib.hid hw1
    have Tk1 := Lib.hid t1
    clear hr1 hw1 t1
    go_wp2_with fail
    go_end0
    exact ⟨v1, T1.out, by
      have hk := HK.out
      have g1 := Hr1.out
      simp [encAct, hk, g1]
      simpa using Hw1.out⟩

set_option maxHeartbeats 2000000 in
theorem wact_0 (w : World) (W : Nat) (bs : List Nat) (vs : Value) (p1 : Option Addr) (k1 : Nat) (p2 : Option Addr) (k2 : Nat) (p3 : Option Addr) (k3 : Nat) (a : Ac) (K : Nat) (hb : 1 ≤ K ∧ K ≤ 11) (hk : a.kind = (K : Nat)) (h : Wr w W bs vs) (hx : LookR (fun b => b < W) w a.op.look (.slice p1 a.op.look.content.pix.length k1) (.slice p2 a.op.look.filt.nodes.length k2) (.slice p3 a.op.look.back.nodes.length k3)) (hl : bs.length ≤ 600000000) :
    Calls Try.prog 21 #[.pointer (some ⟨W, 0, none⟩), .agg (AcA a p1 p2 p3 k1 k2 k3)] w (WrP w W bs vs (encAct a)) := by
  have H := Lib.hid h
  have HB0 : Hid (Blk (w.alloc (.cells (AcA a p1 p2 p3 k1 k2 k3) 41)) w.heap.size 41 (AcA a p1 p2 p3 k1 k2 k3)) := Lib.hid (heap_alloc_new w _)
  have HW0 : Hid (Wr (w.alloc (.cells (AcA a p1 p2 p3 k1 k2 k3) 41)) W bs vs) := Lib.hid (h.alloc _)
  have HT0 : Hid (WTo W w vs (w.alloc (.cells (AcA a p1 p2 p3 k1 k2 k3) 41)) vs) := Lib.hid (WTo.other (Gou.Mod.alloc _ _ _) vs)
  have HR0 : Hid (LookR (fun b => b < W) (w.alloc (.cells (AcA a p1 p2 p3 k1 k2 k3) 41)) a.op.look (.slice p1 a.op.look.content.pix.length k1) (.slice p2 a.op.look.filt.nodes.length k2) (.slice p3 a.op.look.back.nodes.length k3)) := Lib.hid (hx.mod (Gou.Mod.alloc (fun _ => False) _ _) (fun _ _ _ h => h))
  have HS0 : Hid (((w.alloc (.cells (AcA a p1 p2 p3 k1 k2 k3) 41))).heap.size = w.heap.size + 1) := Lib.hid (by simp)
  have hWlt := Blk.lt h.box
  have hvs := fun k hk => (H.out.own.lt k hk).2
  have Hvs := Lib.hid hvs
  clear h hx hvs
  have HK := Lib.hid hk
  clear hk
  have Hb := Lib.hid hb
  have e12 : (((K : Nat) : Int) == 12) = false := beq_eq_false_iff_ne.2 (by omega)
  have e13 : (((K : Nat) : Int) == 13) = false := beq_eq_false_iff_ne.2 (by omega)
  have e14 : (((K : Nat) : Int) == 14) = false := beq_eq_false_iff_ne.2 (by omega)
  have kc : ((w.alloc (.cells (AcA a p1 p2 p3 k1 k2 k3) 41))).cell? ⟨w.heap.size, 0, none⟩ = some (.int .i64 (K : Nat)) := by rw [← HK.out]; exact HB0.out.cell 0 rfl
  have e1 : decide (1 ≤ ((K : Nat) : Int)) = true := by simp <;> omega
  have e2 : decide (((K : Nat) : Int) ≤ 14) = true := by simp <;> omega
  have eu : IntKind.u8.wrap ((K : Nat) : Int) = K := IntWalk.u8_in _ (by omega)
  obtain ⟨i0, hi0, hz0, hz1, hz2⟩ := info_parts info_u8
  obtain ⟨pv, cv, rfl⟩ := ownsRow_form H.out.own
  go_enter Try.func21, Try.ntmps21
  go_wp2_with fail
  generalize hW0 : (w.alloc (.cells (AcA a p1 p2 p3 k1 k2 k3) 41)) = w0 at *
  clear hW0
  refine (must_true _).mono ?_
  rintro e w' ⟨rfl, hww⟩
  obtain rfl : w0 = w' := hww.symm
  clear hww
  have cW := HW0.out.box.cell 0 rfl
  have fW := HW0.out.box.frozen 0
  have hWl0 := Blk.lt HW0.out.box
  have HM : Hid (Gou.Mod (fun _ => False) w0 (w0.drew.alloc (.cells #[.int .u8 (K : Nat)] 5))) := Lib.hid ((Gou.Mod.drew _ _).trans' (Gou.Mod.alloc (fun _ => False) _ _))
  have Hown : Hid (((w0.drew.alloc (.cells #[.int .u8 (K : Nat)] 5))).ownsRow (W + 1) 5 1 (.slice pv bs.length cv) bs.length (u8s bs)) := Lib.hid (ownsRow_mod HW0.out.own HM.out (fun _ _ h => h))
  go_wp2_with fail
  go_region_law (first | (refine step_append_lies _ (by rfl) _ _ _ (by rfl) (W + 1) 5 i0 (.int .u8 0) 1 1 Try.underlying44 hi0 hz0 hz1 hz2 rfl (by omega) (.slice pv bs.length cv) bs.length (u8s bs) (by rfl) Hown.out ⟨_, 0, none⟩ 1 _ [.int .u8 (K : Nat)] (by rfl) (by rfl) (news_at (cs := #[.int .u8 (K : Nat)]) (t := 5) (fr := (0, 0)) (heap_at rfl) rfl) (by simp [Value.oneCell']) (by omega) (by unfold maxLen; omega) (by omega) (by simp; omega) _ rfl ?_; intro gg cp w4 hown4 hgrow4 hat4 hlt4; have hcf4 := HW0.out.mids HM.out hgrow4; obtain ⟨c4, f4⟩ := hcf4) | fail)
  · have hP := HW0.out.pushes (ys := [K]) rfl HM.out hown4 hgrow4 hat4
    have HW4 : Hid (Wr (w4.setCell ⟨W, 0, none⟩ (.slice (some ⟨gg, 0, none⟩) (bs.length + 1) cp)) W (bs ++ [K]) (.slice (some ⟨gg, 0, none⟩) (bs.length + 1) cp)) := Lib.hid hP.1
    have T4 : Hid (WTo W w (.slice pv bs.length cv) (w4.setCell ⟨W, 0, none⟩ (.slice (some ⟨gg, 0, none⟩) (bs.length + 1) cp)) (.slice (some ⟨gg, 0, none⟩) (bs.length + 1) cp)) := Lib.hid (HT0.out.trans hP.2)
    have HB4 : Hid (Blk (w4.setCell ⟨W, 0, none⟩ (.slice (some ⟨gg, 0, none⟩) (bs.length + 1) cp)) w.heap.size 41 (AcA a p1 p2 p3 k1 k2 k3)) := Lib.hid (HB0.out.mod hP.2.mod (fun e => by
      rcases e with e | e
      · omega
      · have := Hvs.out _ e; omega))
    have HR4 : Hid (LookR (fun b => b < W) (w4.setCell ⟨W, 0, none⟩ (.slice (some ⟨gg, 0, none⟩) (bs.length + 1) cp)) a.op.look (.slice p1 a.op.look.content.pix.length k1) (.slice p2 a.op.look.filt.nodes.length k2) (.slice p3 a.op.look.back.nodes.length k3)) := Lib.hid (HR0.out.mod (WTo.far hP.2 HW0.out) (fun k _ hG hk => by omega))
    have HS4 : Hid (((w4.setCell ⟨W, 0, none⟩ (.slice (some ⟨gg, 0, none⟩) (bs.length + 1) cp))).heap.size = w4.heap.size) := Lib.hid (by simp)
    have kd : ((w4.setCell ⟨W, 0, none⟩ (.slice (some ⟨gg, 0, none⟩) (bs.length + 1) cp))).cell? ⟨w.heap.size, 0, none⟩ = some (.int .i64 (K : Nat)) := by rw [← HK.out]; exact HB4.out.cell 0 rfl
    have Hrg : Hid (((w4.setCell ⟨W, 0, none⟩ (.slice (some ⟨gg, 0, none⟩) (bs.length + 1) cp))).rangeAt w.heap.size 1 (oprC a.op (.slice p1 a.op.look.content.pix.length k1) (.slice p2 a.op.look.filt.nodes.length k2) (.slice p3 a.op.look.back.nodes.length k3)).toList) := Lib.hid (Blk.range HB4.out (act_op a _ _ _) rfl)
    have HiO : Hid ((Try.prog.info? 37).map (·.size) = some (oprC a.op (.slice p1 a.op.look.content.pix.length k1) (.slice p2 a.op.look.filt.nodes.length k2) (.slice p3 a.op.look.back.nodes.length k3)).toList.length) := Lib.hid (size_op.trans (by simp [oprC]))
    clear hP hown4 hgrow4 hat4 hlt4 c4 f4 kc cW fW
    go_wp2_with (first | ((with_reducible refine wpList_load_mid ?g1_1a 37 ?x1_1a ?o1_1a w.heap.size 1 ?h1_1a (oprC a.op (.slice p1 a.op.look.content.pix.length k1) (.slice p2 a.op.look.filt.nodes.length k2) (.slice p3 a.op.look.back.nodes.length k3)).toList ?d1_1a ?c1_1a ?u1_1a ?s1_1a ?i1_1a ?r1_1a); (case g1_1a | o1_1a | h1_1a => exact rfl); (case c1_1a => exact Hrg.out); (case u1_1a => exact Try.underlying37); (case s1_1a => exact rfl); (case i1_1a => exact HiO.out)) | fail)
    refine (wop_any _ W _ (.slice (some ⟨gg, 0, none⟩) (bs.length + 1) cp) p1 k1 p2 k2 p3 k3 a.op HW4.out HR4.out (by (try simp only [List.length_append, List.length_cons, List.length_nil] at *); omega)).mono ?_
    rintro e w1 ⟨v1, t1, h1⟩
    have T1 := Lib.hid (T4.out.trans t1)
    rcases hr1 : encOpr a.op with _ | es1
    · rw [hr1] at h1
      subst h1
      exact ⟨rfl, v1, T1.out, by have hk := HK.out; have hb := Hb.out; have n1 : ¬ ((K : Int) = 12) := (by omega); have n2 : ¬ ((K : Int) = 13) := (by omega); have n3 : ¬ ((K : Int) = 14) := (by omega); have n4 : (1 : Int) ≤ (K : Int) ∧ (K : Int) ≤ 14 := (by omega); simp only [encAct, hk, if_pos n4, if_neg n1, if_neg n2, if_neg n3, hr1, Option.bind_none]⟩
    rw [hr1] at h1
    obtain ⟨rfl, hw1⟩ := h1
    have Hr1 := Lib.hid hr1
    have Hw1 := Lib.hid hw1
    have Tk1 := Lib.hid t1
    clear hr1 hw1 t1
    go_wp2_with fail
    go_end0
    exact ⟨v1, T1.out, by
      have hk := HK.out
      have g1 := Hr1.out
      have hb := Hb.out
      have n1 : ¬ ((K : Int) = 12) := by omega
      have n2 : ¬ ((K : Int) = 13) := by omega
      have n3 : ¬ ((K : Int) = 14) := by omega
      have n4 : (1 : Int) ≤ (K : Int) ∧ (K : Int) ≤ 14 := by omega
      simp only [encAct, hk, if_pos n4, if_neg n1, if_neg n2, if_neg n3, g1, Option.bind_some, Int.toNat_natCast]
      refine ⟨trivial, ?_⟩
      simpa using Hw1.out⟩
  · have hP := HW0.out.pushes (ys := [K]) rfl HM.out hown4 hgrow4 hat4
    have HW4 : Hid (Wr (w4.setCell ⟨W, 0, none⟩ (.slice (some ⟨gg, 0, none⟩) (bs.length + 1) cp)) W (bs ++ [K]) (.slice (some ⟨gg, 0, none⟩) (bs.length + 1) cp)) := Lib.hid hP.1
    have T4 : Hid (WTo W w (.slice pv bs.length cv) (w4.setCell ⟨W, 0, none⟩ (.slice (some ⟨gg, 0, none⟩) (bs.length + 1) cp)) (.slice (some ⟨gg, 0, none⟩) (bs.length + 1) cp)) := Lib.hid (HT0.out.trans hP.2)
    have HB4 : Hid (Blk (w4.setCell ⟨W, 0, none⟩ (.slice (some ⟨gg, 0, none⟩) (bs.length + 1) cp)) w.heap.size 41 (AcA a p1 p2 p3 k1 k2 k3)) := Lib.hid (HB0.out.mod hP.2.mod (fun e => by
      rcases e with e | e
      · omega
      · have := Hvs.out _ e; omega))
    have HR4 : Hid (LookR (fun b => b < W) (w4.setCell ⟨W, 0, none⟩ (.slice (some ⟨gg, 0, none⟩) (bs.length + 1) cp)) a.op.look (.slice p1 a.op.look.content.pix.length k1) (.slice p2 a.op.look.filt.nodes.length k2) (.slice p3 a.op.look.back.nodes.length k3)) := Lib.hid (HR0.out.mod (WTo.far hP.2 HW0.out) (fun k _ hG hk => by omega))
    have HS4 : Hid (((w4.setCell ⟨W, 0, none⟩ (.slice (some ⟨gg, 0, none⟩) (bs.length + 1) cp))).heap.size = w4.heap.size) := Lib.hid (by simp)
    have kd : ((w4.setCell ⟨W, 0, none⟩ (.slice (some ⟨gg, 0, none⟩) (bs.length + 1) cp))).cell? ⟨w.heap.size, 0, none⟩ = some (.int .i64 (K : Nat)) := by rw [← HK.out]; exact HB4.out.cell 0 rfl
    have Hrg : Hid (((w4.setCell ⟨W, 0, none⟩ (.slice (some ⟨gg, 0, none⟩) (bs.length + 1) cp))).rangeAt w.heap.size 1 (oprC a.op (.slice p1 a.op.look.content.pix.length k1) (.slice p2 a.op.look.filt.nodes.length k2) (.slice p3 a.op.look.back.nodes.length k3)).toList) := Lib.hid (Blk.range HB4.out (act_op a _ _ _) rfl)
    have HiO : Hid ((Try.prog.info? 37).map (·.size) = some (oprC a.op (.slice p1 a.op.look.content.pix.length k1) (.slice p2 a.op.look.filt.nodes.length k2) (.slice p3 a.op.look.back.nodes.length k3)).toList.length) := Lib.hid (size_op.trans (by simp [oprC]))
    clear hP hown4 hgrow4 hat4 hlt4 c4 f4 kc cW fW
    go_wp2_with (first | ((with_reducible refine wpList_load_mid ?g1_1b 37 ?x1_1b ?o1_1b w.heap.size 1 ?h1_1b (oprC a.op (.slice p1 a.op.look.content.pix.length k1) (.slice p2 a.op.look.filt.nodes.length k2) (.slice p3 a.op.look.back.nodes.length k3)).toList ?d1_1b ?c1_1b ?u1_1b ?s1_1b ?i1_1b ?r1_1b); (case g1_1b | o1_1b | h1_1b => exact rfl); (case c1_1b => exact Hrg.out); (case u1_1b => exact Try.underlying37); (case s1_1b => exact rfl); (case i1_1b => exact HiO.out)) | fail)
    refine (wop_any _ W _ (.slice (some ⟨gg, 0, none⟩) (bs.length + 1) cp) p1 k1 p2 k2 p3 k3 a.op HW4.out HR4.out (by (try simp only [List.length_append, List.length_cons, List.length_nil] at *); omega)).mono ?_
    rintro e w1 ⟨v1, t1, h1⟩
    have T1 := Lib.hid (T4.out.trans t1)
    rcases hr1 : encOpr a.op with _ | es1
    · rw [hr1] at h1
      subst h1
      exact ⟨rfl, v1, T1.out, by have hk := HK.out; have hb := Hb.out; have n1 : ¬ ((K : Int) = 12) := (by omega); have n2 : ¬ ((K : Int) = 13) := (by omega); have n3 : ¬ ((K : Int) = 14) := (by omega); have n4 : (1 : Int) ≤ (K : Int) ∧ (K : Int) ≤ 14 := (by omega); simp only [encAct, hk, if_pos n4, if_neg n1, if_neg n2, if_neg n3, hr1, Option.bind_none]⟩
    rw [hr1] at h1
    obtain ⟨rfl, hw1⟩ := h1
    have Hr1 := Lib.hid hr1
    have Hw1 := Lib.hid hw1
    have Tk1 := Lib.hid t1
    clear hr1 hw1 t1
    go_wp2_with fail
    go_end0
    exact ⟨v1, T1.out, by
      have hk := HK.out
      have g1 := Hr1.out
      have hb := Hb.out
      have n1 : ¬ ((K : Int) = 12) := by omega
      have n2 : ¬ ((K : Int) = 13) := by omega
      have n3 : ¬ ((K : Int) = 14) := by omega
      have n4 : (1 : Int) ≤ (K : Int) ∧ (K : Int) ≤ 14 := by omega
      simp only [encAct, hk, if_pos n4, if_neg n1, if_neg n2, if_neg n3, g1, Option.bind_some, Int.toNat_natCast]
      refine ⟨trivial, ?_⟩
      simpa using Hw1.out⟩
  · have hP := HW0.out.pushes (ys := [K]) rfl HM.out hown4 hgrow4 hat4
    have HW4 : Hid (Wr (w4.setCell ⟨W, 0, none⟩ (.slice (some ⟨gg, 0, none⟩) (bs.length + 1) cp)) W (bs ++ [K]) (.slice (some ⟨gg, 0, none⟩) (bs.length + 1) cp)) := Lib.hid hP.1
    have T4 : Hid (WTo W w (.slice pv bs.length cv) (w4.setCell ⟨W, 0, none⟩ (.slice (some ⟨gg, 0, none⟩) (bs.length + 1) cp)) (.slice (some ⟨gg, 0, none⟩) (bs.length + 1) cp)) := Lib.hid (HT0.out.trans hP.2)
    have HB4 : Hid (Blk (w4.setCell ⟨W, 0, none⟩ (.slice (some ⟨gg, 0, none⟩) (bs.length + 1) cp)) w.heap.size 41 (AcA a p1 p2 p3 k1 k2 k3)) := Lib.hid (HB0.out.mod hP.2.mod (fun e => by
      rcases e with e | e
      · omega
      · have := Hvs.out _ e; omega))
    have HR4 : Hid (LookR (fun b => b < W) (w4.setCell ⟨W, 0, none⟩ (.slice (some ⟨gg, 0, none⟩) (bs.length + 1) cp)) a.op.look (.slice p1 a.op.look.content.pix.length k1) (.slice p2 a.op.look.filt.nodes.length k2) (.slice p3 a.op.look.back.nodes.length k3)) := Lib.hid (HR0.out.mod (WTo.far hP.2 HW0.out) (fun k _ hG hk => by omega))
    have HS4 : Hid (((w4.setCell ⟨W, 0, none⟩ (.slice (some ⟨gg, 0, none⟩) (bs.length + 1) cp))).heap.size = w4.heap.size) := Lib.hid (by simp)
    have kd : ((w4.setCell ⟨W, 0, none⟩ (.slice (some ⟨gg, 0, none⟩) (bs.length + 1) cp))).cell? ⟨w.heap.size, 0, none⟩ = some (.int .i64 (K : Nat)) := by rw [← HK.out]; exact HB4.out.cell 0 rfl
    have Hrg : Hid (((w4.setCell ⟨W, 0, none⟩ (.slice (some ⟨gg, 0, none⟩) (bs.length + 1) cp))).rangeAt w.heap.size 1 (oprC a.op (.slice p1 a.op.look.content.pix.length k1) (.slice p2 a.op.look.filt.nodes.length k2) (.slice p3 a.op.look.back.nodes.length k3)).toList) := Lib.hid (Blk.range HB4.out (act_op a _ _ _) rfl)
    have HiO : Hid ((Try.prog.info? 37).map (·.size) = some (oprC a.op (.slice p1 a.op.look.content.pix.length k1) (.slice p2 a.op.look.filt.nodes.length k2) (.slice p3 a.op.look.back.nodes.length k3)).toList.length) := Lib.hid (size_op.trans (by simp [oprC]))
    clear hP hown4 hgrow4 hat4 hlt4 c4 f4 kc cW fW
    go_wp2_with (first | ((with_reducible refine wpList_load_mid ?g1_1c 37 ?x1_1c ?o1_1c w.heap.size 1 ?h1_1c (oprC a.op (.slice p1 a.op.look.content.pix.length k1) (.slice p2 a.op.look.filt.nodes.length k2) (.slice p3 a.op.look.back.nodes.length k3)).toList ?d1_1c ?c1_1c ?u1_1c ?s1_1c ?i1_1c ?r1_1c); (case g1_1c | o1_1c | h1_1c => exact rfl); (case c1_1c => exact Hrg.out); (case u1_1c => exact Try.underlying37); (case s1_1c => exact rfl); (case i1_1c => exact HiO.out)) | fail)
    refine (wop_any _ W _ (.slice (some ⟨gg, 0, none⟩) (bs.length + 1) cp) p1 k1 p2 k2 p3 k3 a.op HW4.out HR4.out (by (try simp only [List.length_append, List.length_cons, List.length_nil] at *); omega)).mono ?_
    rintro e w1 ⟨v1, t1, h1⟩
    have T1 := Lib.hid (T4.out.trans t1)
    rcases hr1 : encOpr a.op with _ | es1
    · rw [hr1] at h1
      subst h1
      exact ⟨rfl, v1, T1.out, by have hk := HK.out; have hb := Hb.out; have n1 : ¬ ((K : Int) = 12) := (by omega); have n2 : ¬ ((K : Int) = 13) := (by omega); have n3 : ¬ ((K : Int) = 14) := (by omega); have n4 : (1 : Int) ≤ (K : Int) ∧ (K : Int) ≤ 14 := (by omega); simp only [encAct, hk, if_pos n4, if_neg n1, if_neg n2, if_neg n3, hr1, Option.bind_none]⟩
    rw [hr1] at h1
    obtain ⟨rfl, hw1⟩ := h1
    have Hr1 := Lib.hid hr1
    have Hw1 := Lib.hid hw1
    have Tk1 := Lib.hid t1
    clear hr1 hw1 t1
    go_wp2_with fail
    go_end0
    exact ⟨v1, T1.out, by
      have hk := HK.out
      have g1 := Hr1.out
      have hb := Hb.out
      have n1 : ¬ ((K : Int) = 12) := by omega
      have n2 : ¬ ((K : Int) = 13) := by omega
      have n3 : ¬ ((K : Int) = 14) := by omega
      have n4 : (1 : Int) ≤ (K : Int) ∧ (K : Int) ≤ 14 := by omega
      simp only [encAct, hk, if_pos n4, if_neg n1, if_neg n2, if_neg n3, g1, Option.bind_some, Int.toNat_natCast]
      refine ⟨trivial, ?_⟩
      simpa using Hw1.out⟩

end Go.Proofs.Ytnamnmipgpcjjaa

