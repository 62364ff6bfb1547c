/- Texts of the scenes' proofs, laid together: WrH, WrI, WrJ, SamA, PlnA, SamP, SamB. -/
import Derived.Test.YtgolafbneiffpaaGreatDoorZag
import Derived.RegionDies
import Derived.BigQuiet
import Derived.ChangeKeysEq
set_option maxHeartbeats 64000000
set_option linter.unusedSimpArgs false
set_option linter.unusedVariables false
set_option linter.unusedSectionVars false
set_option linter.constructorNameAsVariable false
namespace Go.Gou
open Go.RowKit
def ukn (c : Cf) : Int := (if c.fuse then 1 else 0) + (if c.alias then 2 else 0) + (if c.roi then 4 else 0) + (if c.damage then 8 else 0)
def ukf (a : Ac) : Option (List Nat) :=
 if 1 ≤ a.kind ∧ a.kind ≤ 14 then
     (if a.kind = 12 then ug4 [a.w, a.h] else if a.kind = 13 then ug4 [ukn a.conf, a.conf.room] else if a.kind = 14 then some [] else ukb a.op).bind fun b => some (a.kind.toNat :: b)
 else none
theorem utr (a : Ac) (vp vf vb : Value) : (actC a vp vf vb).toList = [iV a.kind] ++ ((oprC a.op vp vf vb).toList ++ [iV a.w, iV a.h, .bool a.conf.fuse, .bool a.conf.alias, .bool a.conf.roi, .bool a.conf.damage, iV a.conf.room]) := rfl
end Go.Gou
namespace Go.Proofs.YtgolafbneiffpaaGreatDoor
open Go.RowKit Go.Gou
set_option maxRecDepth 100000
theorem wact_bad (w : World) (W : Nat) (bs : List Nat) (vs : Value) (p1 : Option Addr) (k1 : Nat) (p2 : Option Addr) (k2 : Nat) (p3 : Option Addr) (k3 : Nat) (a : Ac) (hk : ¬ (1 ≤ a.kind ∧ a.kind ≤ 14)) (h : Wr w W bs vs) (hx : LookR (fun b => b < W) w a.op.look (.slice p1 a.op.look.content.pix.length k1) (.slice p2 a.op.look.filt.nodes.length k2) (.slice p3 a.op.look.back.nodes.length k3)) (hl : bs.length ≤ 600000000) :
  Calls Tryz.prog 30 #[.pointer (some ⟨W, 0, none⟩), .agg (actC a (.slice p1 a.op.look.content.pix.length k1) (.slice p2 a.op.look.filt.nodes.length k2) (.slice p3 a.op.look.back.nodes.length k3))] w (WrP w W bs vs (ukf a)) := by
 have H := hd' h
 have HB0 : Hid (Blk (w.alloc (.cells (actC a (.slice p1 a.op.look.content.pix.length k1) (.slice p2 a.op.look.filt.nodes.length k2) (.slice p3 a.op.look.back.nodes.length k3)) 41)) w.heap.size 41 (actC a (.slice p1 a.op.look.content.pix.length k1) (.slice p2 a.op.look.filt.nodes.length k2) (.slice p3 a.op.look.back.nodes.length k3))) := hd' (heap_alloc_new w _)
 have HW0 : Hid (Wr (w.alloc (.cells (actC a (.slice p1 a.op.look.content.pix.length k1) (.slice p2 a.op.look.filt.nodes.length k2) (.slice p3 a.op.look.back.nodes.length k3)) 41)) W bs vs) := hd' (h.alloc _)
 have HT0 : Hid (WTo W w vs (w.alloc (.cells (actC a (.slice p1 a.op.look.content.pix.length k1) (.slice p2 a.op.look.filt.nodes.length k2) (.slice p3 a.op.look.back.nodes.length k3)) 41)) vs) := hd' (WTo.other (Gou.Mod.alloc _ _ _) vs)
 have HR0 : Hid (LookR (fun b => b < W) (w.alloc (.cells (actC a (.slice p1 a.op.look.content.pix.length k1) (.slice p2 a.op.look.filt.nodes.length k2) (.slice p3 a.op.look.back.nodes.length k3)) 41)) a.op.look (.slice p1 a.op.look.content.pix.length k1) (.slice p2 a.op.look.filt.nodes.length k2) (.slice p3 a.op.look.back.nodes.length k3)) := hd' (hx.mod (Gou.Mod.alloc (fun _ => False) _ _) (fun _ _ _ h => h))
 have HS0 : Hid (((w.alloc (.cells (actC a (.slice p1 a.op.look.content.pix.length k1) (.slice p2 a.op.look.filt.nodes.length k2) (.slice p3 a.op.look.back.nodes.length k3)) 41))).heap.size = w.heap.size + 1) := hd' (by simp)
 have hWlt := Blk.lt h.box
 have hvs := fun k hk => (H.o.own.lt k hk).2
 have Hvs := hd' hvs
 clear h hx hvs
 have hno : Hid (ukf a = none) := hd' (by unfold ukf; rw [if_neg hk])
 have kc : ((w.alloc (.cells (actC a (.slice p1 a.op.look.content.pix.length k1) (.slice p2 a.op.look.filt.nodes.length k2) (.slice p3 a.op.look.back.nodes.length k3)) 41))).cell? ⟨w.heap.size, 0, none⟩ = some (iV a.kind) := HB0.o.cell 0 rfl
 go_enter Tryz.func30, Tryz.ntmps30
 by_cases h1 : 1 ≤ a.kind
 ·have e1 : decide (1 ≤ a.kind) = true := by simp; omega
  have e2 : decide (a.kind ≤ 14) = false := by simp; omega
  clear hk h1
  go_wp2_with fail
  refine (ukq _).mono ?_
  rintro e w' ⟨rfl, rfl⟩
  exact ⟨rfl, vs, HT0.o, by rw [hno.out]⟩
 ·have e1 : decide (1 ≤ a.kind) = false := by simp; omega
  clear hk h1
  go_wp2_with fail
  refine (ukq _).mono ?_
  rintro e w' ⟨rfl, rfl⟩
  exact ⟨rfl, vs, HT0.o, by rw [hno.out]⟩
theorem wact_14 (w : World) (W : Nat) (bs : List Nat) (vs : Value) (p1 : Option Addr) (k1 : Nat) (p2 : Option Addr) (k2 : Nat) (p3 : Option Addr) (k3 : Nat) (a : Ac) (hk : a.kind = (14 : Nat)) (h : Wr w W bs vs) (hx : LookR (fun b => b < W) w a.op.look (.slice p1 a.op.look.content.pix.length k1) (.slice p2 a.op.look.filt.nodes.length k2) (.slice p3 a.op.look.back.nodes.length k3)) (hl : bs.length ≤ 600000000) :
  Calls Tryz.prog 30 #[.pointer (some ⟨W, 0, none⟩), .agg (actC a (.slice p1 a.op.look.content.pix.length k1) (.slice p2 a.op.look.filt.nodes.length k2) (.slice p3 a.op.look.back.nodes.length k3))] w (WrP w W bs vs (ukf a)) := by
 have H := hd' h
 have HB0 : Hid (Blk (w.alloc (.cells (actC a (.slice p1 a.op.look.content.pix.length k1) (.slice p2 a.op.look.filt.nodes.length k2) (.slice p3 a.op.look.back.nodes.length k3)) 41)) w.heap.size 41 (actC a (.slice p1 a.op.look.content.pix.length k1) (.slice p2 a.op.look.filt.nodes.length k2) (.slice p3 a.op.look.back.nodes.length k3))) := hd' (heap_alloc_new w _)
 have HW0 : Hid (Wr (w.alloc (.cells (actC a (.slice p1 a.op.look.content.pix.length k1) (.slice p2 a.op.look.filt.nodes.length k2) (.slice p3 a.op.look.back.nodes.length k3)) 41)) W bs vs) := hd' (h.alloc _)
 have HT0 : Hid (WTo W w vs (w.alloc (.cells (actC a (.slice p1 a.op.look.content.pix.length k1) (.slice p2 a.op.look.filt.nodes.length k2) (.slice p3 a.op.look.back.nodes.length k3)) 41)) vs) := hd' (WTo.other (Gou.Mod.alloc _ _ _) vs)
 have HR0 : Hid (LookR (fun b => b < W) (w.alloc (.cells (actC a (.slice p1 a.op.look.content.pix.length k1) (.slice p2 a.op.look.filt.nodes.length k2) (.slice p3 a.op.look.back.nodes.length k3)) 41)) a.op.look (.slice p1 a.op.look.content.pix.length k1) (.slice p2 a.op.look.filt.nodes.length k2) (.slice p3 a.op.look.back.nodes.length k3)) := hd' (hx.mod (Gou.Mod.alloc (fun _ => False) _ _) (fun _ _ _ h => h))
 have HS0 : Hid (((w.alloc (.cells (actC a (.slice p1 a.op.look.content.pix.length k1) (.slice p2 a.op.look.filt.nodes.length k2) (.slice p3 a.op.look.back.nodes.length k3)) 41))).heap.size = w.heap.size + 1) := hd' (by simp)
 have hWlt := Blk.lt h.box
 have hvs := fun k hk => (H.o.own.lt k hk).2
 have Hvs := hd' hvs
 clear h hx hvs
 have HK := hd' hk
 clear hk
 have kc : ((w.alloc (.cells (actC a (.slice p1 a.op.look.content.pix.length k1) (.slice p2 a.op.look.filt.nodes.length k2) (.slice p3 a.op.look.back.nodes.length k3)) 41))).cell? ⟨w.heap.size, 0, none⟩ = some (iV (14 : Nat)) := by rw [← HK.o]; exact HB0.o.cell 0 rfl
 have e1 : decide (1 ≤ ((14 : Nat) : Int)) = true := by simp <;> omega
 have e2 : decide (((14 : Nat) : Int) ≤ 14) = true := by simp <;> omega
 have eu : IntKind.u8.wrap ((14 : Nat) : Int) = 14 := IntWalk.u8_in _ (by omega)
 obtain ⟨i0, hi0, hz0, hz1, hz2⟩ := info_parts un4
 obtain ⟨pv, cv, rfl⟩ := ownsRow_form H.o.own
 go_enter Tryz.func30, Tryz.ntmps30
 go_wp2_with fail
 generalize hW0 : (w.alloc (.cells (actC a (.slice p1 a.op.look.content.pix.length k1) (.slice p2 a.op.look.filt.nodes.length k2) (.slice p3 a.op.look.back.nodes.length k3)) 41)) = w0 at *
 clear hW0
 refine (uku _).mono ?_
 rintro e w' ⟨rfl, hww⟩
 obtain rfl : w0 = w' := hww.symm
 clear hww
 have cW := HW0.o.box.cell 0 rfl
 have fW := HW0.o.box.frozen 0
 have hWl0 := Blk.lt HW0.o.box
 have HM : Hid (Gou.Mod (fun _ => False) w0 (w0.drew.alloc (.cells #[.int .u8 (14 : Nat)] 5))) := hd' ((Gou.Mod.drew _ _).trans' (Gou.Mod.alloc (fun _ => False) _ _))
 have Hown : Hid (((w0.drew.alloc (.cells #[.int .u8 (14 : Nat)] 5))).ownsRow (W + 1) 5 1 (.slice pv bs.length cv) bs.length (u8s bs)) := hd' (uac HW0.o.own HM.o (fun _ _ h => h))
 go_wp2_with fail
 go_region_law (first | (refine step_append_lies _ (by rfl) _ _ _ (by rfl) (W + 1) 5 i0 (.int .u8 0) 1 1 Tryz.underlying61 hi0 hz0 hz1 hz2 rfl (by omega) (.slice pv bs.length cv) bs.length (u8s bs) (by rfl) Hown.o ⟨_, 0, none⟩ 1 _ [.int .u8 (14 : Nat)] (by rfl) (by rfl) (un2 (cs := #[.int .u8 (14 : Nat)]) (t := 5) (fr := (0, 0)) (uoq rfl) rfl) (by simp [Value.oneCell']) (by omega) (by unfold maxLen; omega) (by omega) (by simp; omega) _ rfl ?_; intro gg cp w4 hown4 hgrow4 hat4 hlt4; have hcf4 := HW0.o.mids HM.o hgrow4; obtain ⟨c4, f4⟩ := hcf4) | fail)
 ·have hP := HW0.o.pushes (ys := [14]) rfl HM.o hown4 hgrow4 hat4
  have HW4 : Hid (Wr (w4.setCell ⟨W, 0, none⟩ (.slice (some ⟨gg, 0, none⟩) (bs.length + 1) cp)) W (bs ++ [14]) (.slice (some ⟨gg, 0, none⟩) (bs.length + 1) cp)) := hd' hP.1
  have T4 : Hid (WTo W w (.slice pv bs.length cv) (w4.setCell ⟨W, 0, none⟩ (.slice (some ⟨gg, 0, none⟩) (bs.length + 1) cp)) (.slice (some ⟨gg, 0, none⟩) (bs.length + 1) cp)) := hd' (HT0.o.trans hP.2)
  have HB4 : Hid (Blk (w4.setCell ⟨W, 0, none⟩ (.slice (some ⟨gg, 0, none⟩) (bs.length + 1) cp)) w.heap.size 41 (actC a (.slice p1 a.op.look.content.pix.length k1) (.slice p2 a.op.look.filt.nodes.length k2) (.slice p3 a.op.look.back.nodes.length k3))) := hd' (HB0.o.mod hP.2.mod (fun e => by
   rcases e with e | e
   ·omega
   ·have := Hvs.o _ e; omega))
  have HR4 : Hid (LookR (fun b => b < W) (w4.setCell ⟨W, 0, none⟩ (.slice (some ⟨gg, 0, none⟩) (bs.length + 1) cp)) a.op.look (.slice p1 a.op.look.content.pix.length k1) (.slice p2 a.op.look.filt.nodes.length k2) (.slice p3 a.op.look.back.nodes.length k3)) := hd' (HR0.o.mod (WTo.far hP.2 HW0.o) (fun k _ hG hk => by omega))
  have HS4 : Hid (((w4.setCell ⟨W, 0, none⟩ (.slice (some ⟨gg, 0, none⟩) (bs.length + 1) cp))).heap.size = w4.heap.size) := hd' (by simp)
  have kd : ((w4.setCell ⟨W, 0, none⟩ (.slice (some ⟨gg, 0, none⟩) (bs.length + 1) cp))).cell? ⟨w.heap.size, 0, none⟩ = some (iV (14 : Nat)) := by rw [← HK.o]; exact HB4.o.cell 0 rfl
  clear hP hown4 hgrow4 hat4 hlt4 c4 f4 kc cW fW
  go_wp2_with fail
  go_end0
  exact ⟨_, T4.o, by
   have hk := HK.o
   simp [ukf, hk]
   exact HW4.o⟩
 ·have hP := HW0.o.pushes (ys := [14]) rfl HM.o hown4 hgrow4 hat4
  have HW4 : Hid (Wr (w4.setCell ⟨W, 0, none⟩ (.slice (some ⟨gg, 0, none⟩) (bs.length + 1) cp)) W (bs ++ [14]) (.slice (some ⟨gg, 0, none⟩) (bs.length + 1) cp)) := hd' hP.1
  have T4 : Hid (WTo W w (.slice pv bs.length cv) (w4.setCell ⟨W, 0, none⟩ (.slice (some ⟨gg, 0, none⟩) (bs.length + 1) cp)) (.slice (some ⟨gg, 0, none⟩) (bs.length + 1) cp)) := hd' (HT0.o.trans hP.2)
  have HB4 : Hid (Blk (w4.setCell ⟨W, 0, none⟩ (.slice (some ⟨gg, 0, none⟩) (bs.length + 1) cp)) w.heap.size 41 (actC a (.slice p1 a.op.look.content.pix.length k1) (.slice p2 a.op.look.filt.nodes.length k2) (.slice p3 a.op.look.back.nodes.length k3))) := hd' (HB0.o.mod hP.2.mod (fun e => by
   rcases e with e | e
   ·omega
   ·have := Hvs.o _ e; omega))
  have HR4 : Hid (LookR (fun b => b < W) (w4.setCell ⟨W, 0, none⟩ (.slice (some ⟨gg, 0, none⟩) (bs.length + 1) cp)) a.op.look (.slice p1 a.op.look.content.pix.length k1) (.slice p2 a.op.look.filt.nodes.length k2) (.slice p3 a.op.look.back.nodes.length k3)) := hd' (HR0.o.mod (WTo.far hP.2 HW0.o) (fun k _ hG hk => by omega))
  have HS4 : Hid (((w4.setCell ⟨W, 0, none⟩ (.slice (some ⟨gg, 0, none⟩) (bs.length + 1) cp))).heap.size = w4.heap.size) := hd' (by simp)
  have kd : ((w4.setCell ⟨W, 0, none⟩ (.slice (some ⟨gg, 0, none⟩) (bs.length + 1) cp))).cell? ⟨w.heap.size, 0, none⟩ = some (iV (14 : Nat)) := by rw [← HK.o]; exact HB4.o.cell 0 rfl
  clear hP hown4 hgrow4 hat4 hlt4 c4 f4 kc cW fW
  go_wp2_with fail
  go_end0
  exact ⟨_, T4.o, by
   have hk := HK.o
   simp [ukf, hk]
   exact HW4.o⟩
 ·have hP := HW0.o.pushes (ys := [14]) rfl HM.o hown4 hgrow4 hat4
  have HW4 : Hid (Wr (w4.setCell ⟨W, 0, none⟩ (.slice (some ⟨gg, 0, none⟩) (bs.length + 1) cp)) W (bs ++ [14]) (.slice (some ⟨gg, 0, none⟩) (bs.length + 1) cp)) := hd' hP.1
  have T4 : Hid (WTo W w (.slice pv bs.length cv) (w4.setCell ⟨W, 0, none⟩ (.slice (some ⟨gg, 0, none⟩) (bs.length + 1) cp)) (.slice (some ⟨gg, 0, none⟩) (bs.length + 1) cp)) := hd' (HT0.o.trans hP.2)
  have HB4 : Hid (Blk (w4.setCell ⟨W, 0, none⟩ (.slice (some ⟨gg, 0, none⟩) (bs.length + 1) cp)) w.heap.size 41 (actC a (.slice p1 a.op.look.content.pix.length k1) (.slice p2 a.op.look.filt.nodes.length k2) (.slice p3 a.op.look.back.nodes.length k3))) := hd' (HB0.o.mod hP.2.mod (fun e => by
   rcases e with e | e
   ·omega
   ·have := Hvs.o _ e; omega))
  have HR4 : Hid (LookR (fun b => b < W) (w4.setCell ⟨W, 0, none⟩ (.slice (some ⟨gg, 0, none⟩) (bs.length + 1) cp)) a.op.look (.slice p1 a.op.look.content.pix.length k1) (.slice p2 a.op.look.filt.nodes.length k2) (.slice p3 a.op.look.back.nodes.length k3)) := hd' (HR0.o.mod (WTo.far hP.2 HW0.o) (fun k _ hG hk => by omega))
  have HS4 : Hid (((w4.setCell ⟨W, 0, none⟩ (.slice (some ⟨gg, 0, none⟩) (bs.length + 1) cp))).heap.size = w4.heap.size) := hd' (by simp)
  have kd : ((w4.setCell ⟨W, 0, none⟩ (.slice (some ⟨gg, 0, none⟩) (bs.length + 1) cp))).cell? ⟨w.heap.size, 0, none⟩ = some (iV (14 : Nat)) := by rw [← HK.o]; exact HB4.o.cell 0 rfl
  clear hP hown4 hgrow4 hat4 hlt4 c4 f4 kc cW fW
  go_wp2_with fail
  go_end0
  exact ⟨_, T4.o, by
   have hk := HK.o
   simp [ukf, hk]
   exact HW4.o⟩
theorem wact_12 (w : World) (W : Nat) (bs : List Nat) (vs : Value) (p1 : Option Addr) (k1 : Nat) (p2 : Option Addr) (k2 : Nat) (p3 : Option Addr) (k3 : Nat) (a : Ac) (hk : a.kind = (12 : Nat)) (h : Wr w W bs vs) (hx : LookR (fun b => b < W) w a.op.look (.slice p1 a.op.look.content.pix.length k1) (.slice p2 a.op.look.filt.nodes.length k2) (.slice p3 a.op.look.back.nodes.length k3)) (hl : bs.length ≤ 600000000) :
  Calls Tryz.prog 30 #[.pointer (some ⟨W, 0, none⟩), .agg (actC a (.slice p1 a.op.look.content.pix.length k1) (.slice p2 a.op.look.filt.nodes.length k2) (.slice p3 a.op.look.back.nodes.length k3))] w (WrP w W bs vs (ukf a)) := by
 have H := hd' h
 have HB0 : Hid (Blk (w.alloc (.cells (actC a (.slice p1 a.op.look.content.pix.length k1) (.slice p2 a.op.look.filt.nodes.length k2) (.slice p3 a.op.look.back.nodes.length k3)) 41)) w.heap.size 41 (actC a (.slice p1 a.op.look.content.pix.length k1) (.slice p2 a.op.look.filt.nodes.length k2) (.slice p3 a.op.look.back.nodes.length k3))) := hd' (heap_alloc_new w _)
 have HW0 : Hid (Wr (w.alloc (.cells (actC a (.slice p1 a.op.look.content.pix.length k1) (.slice p2 a.op.look.filt.nodes.length k2) (.slice p3 a.op.look.back.nodes.length k3)) 41)) W bs vs) := hd' (h.alloc _)
 have HT0 : Hid (WTo W w vs (w.alloc (.cells (actC a (.slice p1 a.op.look.content.pix.length k1) (.slice p2 a.op.look.filt.nodes.length k2) (.slice p3 a.op.look.back.nodes.length k3)) 41)) vs) := hd' (WTo.other (Gou.Mod.alloc _ _ _) vs)
 have HR0 : Hid (LookR (fun b => b < W) (w.alloc (.cells (actC a (.slice p1 a.op.look.content.pix.length k1) (.slice p2 a.op.look.filt.nodes.length k2) (.slice p3 a.op.look.back.nodes.length k3)) 41)) a.op.look (.slice p1 a.op.look.content.pix.length k1) (.slice p2 a.op.look.filt.nodes.length k2) (.slice p3 a.op.look.back.nodes.length k3)) := hd' (hx.mod (Gou.Mod.alloc (fun _ => False) _ _) (fun _ _ _ h => h))
 have HS0 : Hid (((w.alloc (.cells (actC a (.slice p1 a.op.look.content.pix.length k1) (.slice p2 a.op.look.filt.nodes.length k2) (.slice p3 a.op.look.back.nodes.length k3)) 41))).heap.size = w.heap.size + 1) := hd' (by simp)
 have hWlt := Blk.lt h.box
 have hvs := fun k hk => (H.o.own.lt k hk).2
 have Hvs := hd' hvs
 clear h hx hvs
 have HK := hd' hk
 clear hk
 have kc : ((w.alloc (.cells (actC a (.slice p1 a.op.look.content.pix.length k1) (.slice p2 a.op.look.filt.nodes.length k2) (.slice p3 a.op.look.back.nodes.length k3)) 41))).cell? ⟨w.heap.size, 0, none⟩ = some (iV (12 : Nat)) := by rw [← HK.o]; exact HB0.o.cell 0 rfl
 have e1 : decide (1 ≤ ((12 : Nat) : Int)) = true := by simp <;> omega
 have e2 : decide (((12 : Nat) : Int) ≤ 14) = true := by simp <;> omega
 have eu : IntKind.u8.wrap ((12 : Nat) : Int) = 12 := IntWalk.u8_in _ (by omega)
 obtain ⟨i0, hi0, hz0, hz1, hz2⟩ := info_parts un4
 obtain ⟨pv, cv, rfl⟩ := ownsRow_form H.o.own
 go_enter Tryz.func30, Tryz.ntmps30
 go_wp2_with fail
 generalize hW0 : (w.alloc (.cells (actC a (.slice p1 a.op.look.content.pix.length k1) (.slice p2 a.op.look.filt.nodes.length k2) (.slice p3 a.op.look.back.nodes.length k3)) 41)) = w0 at *
 clear hW0
 refine (uku _).mono ?_
 rintro e w' ⟨rfl, hww⟩
 obtain rfl : w0 = w' := hww.symm
 clear hww
 have cW := HW0.o.box.cell 0 rfl
 have fW := HW0.o.box.frozen 0
 have hWl0 := Blk.lt HW0.o.box
 have HM : Hid (Gou.Mod (fun _ => False) w0 (w0.drew.alloc (.cells #[.int .u8 (12 : Nat)] 5))) := hd' ((Gou.Mod.drew _ _).trans' (Gou.Mod.alloc (fun _ => False) _ _))
 have Hown : Hid (((w0.drew.alloc (.cells #[.int .u8 (12 : Nat)] 5))).ownsRow (W + 1) 5 1 (.slice pv bs.length cv) bs.length (u8s bs)) := hd' (uac HW0.o.own HM.o (fun _ _ h => h))
 go_wp2_with fail
 go_region_law (first | (refine step_append_lies _ (by rfl) _ _ _ (by rfl) (W + 1) 5 i0 (.int .u8 0) 1 1 Tryz.underlying61 hi0 hz0 hz1 hz2 rfl (by omega) (.slice pv bs.length cv) bs.length (u8s bs) (by rfl) Hown.o ⟨_, 0, none⟩ 1 _ [.int .u8 (12 : Nat)] (by rfl) (by rfl) (un2 (cs := #[.int .u8 (12 : Nat)]) (t := 5) (fr := (0, 0)) (uoq rfl) rfl) (by simp [Value.oneCell']) (by omega) (by unfold maxLen; omega) (by omega) (by simp; omega) _ rfl ?_; intro gg cp w4 hown4 hgrow4 hat4 hlt4; have hcf4 := HW0.o.mids HM.o hgrow4; obtain ⟨c4, f4⟩ := hcf4) | fail)
 ·have hP := HW0.o.pushes (ys := [12]) rfl HM.o hown4 hgrow4 hat4
  have HW4 : Hid (Wr (w4.setCell ⟨W, 0, none⟩ (.slice (some ⟨gg, 0, none⟩) (bs.length + 1) cp)) W (bs ++ [12]) (.slice (some ⟨gg, 0, none⟩) (bs.length + 1) cp)) := hd' hP.1
  have T4 : Hid (WTo W w (.slice pv bs.length cv) (w4.setCell ⟨W, 0, none⟩ (.slice (some ⟨gg, 0, none⟩) (bs.length + 1) cp)) (.slice (some ⟨gg, 0, none⟩) (bs.length + 1) cp)) := hd' (HT0.o.trans hP.2)
  have HB4 : Hid (Blk (w4.setCell ⟨W, 0, none⟩ (.slice (some ⟨gg, 0, none⟩) (bs.length + 1) cp)) w.heap.size 41 (actC a (.slice p1 a.op.look.content.pix.length k1) (.slice p2 a.op.look.filt.nodes.length k2) (.slice p3 a.op.look.back.nodes.length k3))) := hd' (HB0.o.mod hP.2.mod (fun e => by
   rcases e with e | e
   ·omega
   ·have := Hvs.o _ e; omega))
  have HR4 : Hid (LookR (fun b => b < W) (w4.setCell ⟨W, 0, none⟩ (.slice (some ⟨gg, 0, none⟩) (bs.length + 1) cp)) a.op.look (.slice p1 a.op.look.content.pix.length k1) (.slice p2 a.op.look.filt.nodes.length k2) (.slice p3 a.op.look.back.nodes.length k3)) := hd' (HR0.o.mod (WTo.far hP.2 HW0.o) (fun k _ hG hk => by omega))
  have HS4 : Hid (((w4.setCell ⟨W, 0, none⟩ (.slice (some ⟨gg, 0, none⟩) (bs.length + 1) cp))).heap.size = w4.heap.size) := hd' (by simp)
  have kd : ((w4.setCell ⟨W, 0, none⟩ (.slice (some ⟨gg, 0, none⟩) (bs.length + 1) cp))).cell? ⟨w.heap.size, 0, none⟩ = some (iV (12 : Nat)) := by rw [← HK.o]; exact HB4.o.cell 0 rfl
  have q35 : ((w4.setCell ⟨W, 0, none⟩ (.slice (some ⟨gg, 0, none⟩) (bs.length + 1) cp))).cell? ⟨w.heap.size, 35, none⟩ = some (iV a.w) := HB4.o.cell 35 rfl
  have q36 : ((w4.setCell ⟨W, 0, none⟩ (.slice (some ⟨gg, 0, none⟩) (bs.length + 1) cp))).cell? ⟨w.heap.size, 36, none⟩ = some (iV a.h) := HB4.o.cell 36 rfl
  clear hP hown4 hgrow4 hat4 hlt4 c4 f4 kc cW fW
  go_wp2_with fail
  generalize hW4 : (w4.setCell ⟨W, 0, none⟩ (.slice (some ⟨gg, 0, none⟩) (bs.length + 1) cp)) = wq at *
  clear hW4
  refine (ukc _ W _ (.slice (some ⟨gg, 0, none⟩) (bs.length + 1) cp) _ [a.w, a.h] (HW4.o.alloc _) (HW4.o.lit [a.w, a.h] _ rfl 2 rfl _ (by first | rfl | exact HS4.o.symm)) (by (try simp only [List.length_append, List.length_cons, List.length_nil] at *); omega)).mono ?_
  rintro e w1 ⟨v1, t1, h1⟩
  have T1 := hd' ((T4.o.trans (WTo.other (Gou.Mod.alloc _ _ _) (.slice (some ⟨gg, 0, none⟩) (bs.length + 1) cp))).trans t1)
  rcases hr1 : ug4 [a.w, a.h] with _ | es1
  ·rw [hr1] at h1
   subst h1
   exact ⟨rfl, v1, T1.o, by have hk := HK.o; simp [ukf, hk, hr1]⟩
  rw [hr1] at h1
  obtain ⟨rfl, hw1⟩ := h1
  have Hr1 := hd' hr1
  have Hw1 := hd' hw1
  have Tk1 := hd' t1
  clear hr1 hw1 t1
  go_wp2_with fail
  go_end0
  exact ⟨v1, T1.o, by
   have hk := HK.o
   have g1 := Hr1.o
   simp [ukf, hk, g1]
   simpa using Hw1.o⟩
 ·have hP := HW0.o.pushes (ys := [12]) rfl HM.o hown4 hgrow4 hat4
  have HW4 : Hid (Wr (w4.setCell ⟨W, 0, none⟩ (.slice (some ⟨gg, 0, none⟩) (bs.length + 1) cp)) W (bs ++ [12]) (.slice (some ⟨gg, 0, none⟩) (bs.length + 1) cp)) := hd' hP.1
  have T4 : Hid (WTo W w (.slice pv bs.length cv) (w4.setCell ⟨W, 0, none⟩ (.slice (some ⟨gg, 0, none⟩) (bs.length + 1) cp)) (.slice (some ⟨gg, 0, none⟩) (bs.length + 1) cp)) := hd' (HT0.o.trans hP.2)
  have HB4 : Hid (Blk (w4.setCell ⟨W, 0, none⟩ (.slice (some ⟨gg, 0, none⟩) (bs.length + 1) cp)) w.heap.size 41 (actC a (.slice p1 a.op.look.content.pix.length k1) (.slice p2 a.op.look.filt.nodes.length k2) (.slice p3 a.op.look.back.nodes.length k3))) := hd' (HB0.o.mod hP.2.mod (fun e => by
   rcases e with e | e
   ·omega
   ·have := Hvs.o _ e; omega))
  have HR4 : Hid (LookR (fun b => b < W) (w4.setCell ⟨W, 0, none⟩ (.slice (some ⟨gg, 0, none⟩) (bs.length + 1) cp)) a.op.look (.slice p1 a.op.look.content.pix.length k1) (.slice p2 a.op.look.filt.nodes.length k2) (.slice p3 a.op.look.back.nodes.length k3)) := hd' (HR0.o.mod (WTo.far hP.2 HW0.o) (fun k _ hG hk => by omega))
  have HS4 : Hid (((w4.setCell ⟨W, 0, none⟩ (.slice (some ⟨gg, 0, none⟩) (bs.length + 1) cp))).heap.size = w4.heap.size) := hd' (by simp)
  have kd : ((w4.setCell ⟨W, 0, none⟩ (.slice (some ⟨gg, 0, none⟩) (bs.length + 1) cp))).cell? ⟨w.heap.size, 0, none⟩ = some (iV (12 : Nat)) := by rw [← HK.o]; exact HB4.o.cell 0 rfl
  have q35 : ((w4.setCell ⟨W, 0, none⟩ (.slice (some ⟨gg, 0, none⟩) (bs.length + 1) cp))).cell? ⟨w.heap.size, 35, none⟩ = some (iV a.w) := HB4.o.cell 35 rfl
  have q36 : ((w4.setCell ⟨W, 0, none⟩ (.slice (some ⟨gg, 0, none⟩) (bs.length + 1) cp))).cell? ⟨w.heap.size, 36, none⟩ = some (iV a.h) := HB4.o.cell 36 rfl
  clear hP hown4 hgrow4 hat4 hlt4 c4 f4 kc cW fW
  go_wp2_with fail
  generalize hW4 : (w4.setCell ⟨W, 0, none⟩ (.slice (some ⟨gg, 0, none⟩) (bs.length + 1) cp)) = wq at *
  clear hW4
  refine (ukc _ W _ (.slice (some ⟨gg, 0, none⟩) (bs.length + 1) cp) _ [a.w, a.h] (HW4.o.alloc _) (HW4.o.lit [a.w, a.h] _ rfl 2 rfl _ (by first | rfl | exact HS4.o.symm)) (by (try simp only [List.length_append, List.length_cons, List.length_nil] at *); omega)).mono ?_
  rintro e w1 ⟨v1, t1, h1⟩
  have T1 := hd' ((T4.o.trans (WTo.other (Gou.Mod.alloc _ _ _) (.slice (some ⟨gg, 0, none⟩) (bs.length + 1) cp))).trans t1)
  rcases hr1 : ug4 [a.w, a.h] with _ | es1
  ·rw [hr1] at h1
   subst h1
   exact ⟨rfl, v1, T1.o, by have hk := HK.o; simp [ukf, hk, hr1]⟩
  rw [hr1] at h1
  obtain ⟨rfl, hw1⟩ := h1
  have Hr1 := hd' hr1
  have Hw1 := hd' hw1
  have Tk1 := hd' t1
  clear hr1 hw1 t1
  go_wp2_with fail
  go_end0
  exact ⟨v1, T1.o, by
   have hk := HK.o
   have g1 := Hr1.o
   simp [ukf, hk, g1]
   simpa using Hw1.o⟩
 ·have hP := HW0.o.pushes (ys := [12]) rfl HM.o hown4 hgrow4 hat4
  have HW4 : Hid (Wr (w4.setCell ⟨W, 0, none⟩ (.slice (some ⟨gg, 0, none⟩) (bs.length + 1) cp)) W (bs ++ [12]) (.slice (some ⟨gg, 0, none⟩) (bs.length + 1) cp)) := hd' hP.1
  have T4 : Hid (WTo W w (.slice pv bs.length cv) (w4.setCell ⟨W, 0, none⟩ (.slice (some ⟨gg, 0, none⟩) (bs.length + 1) cp)) (.slice (some ⟨gg, 0, none⟩) (bs.length + 1) cp)) := hd' (HT0.o.trans hP.2)
  have HB4 : Hid (Blk (w4.setCell ⟨W, 0, none⟩ (.slice (some ⟨gg, 0, none⟩) (bs.length + 1) cp)) w.heap.size 41 (actC a (.slice p1 a.op.look.content.pix.length k1) (.slice p2 a.op.look.filt.nodes.length k2) (.slice p3 a.op.look.back.nodes.length k3))) := hd' (HB0.o.mod hP.2.mod (fun e => by
   rcases e with e | e
   ·omega
   ·have := Hvs.o _ e; omega))
  have HR4 : Hid (LookR (fun b => b < W) (w4.setCell ⟨W, 0, none⟩ (.slice (some ⟨gg, 0, none⟩) (bs.length + 1) cp)) a.op.look (.slice p1 a.op.look.content.pix.length k1) (.slice p2 a.op.look.filt.nodes.length k2) (.slice p3 a.op.look.back.nodes.length k3)) := hd' (HR0.o.mod (WTo.far hP.2 HW0.o) (fun k _ hG hk => by omega))
  have HS4 : Hid (((w4.setCell ⟨W, 0, none⟩ (.slice (some ⟨gg, 0, none⟩) (bs.length + 1) cp))).heap.size = w4.heap.size) := hd' (by simp)
  have kd : ((w4.setCell ⟨W, 0, none⟩ (.slice (some ⟨gg, 0, none⟩) (bs.length + 1) cp))).cell? ⟨w.heap.size, 0, none⟩ = some (iV (12 : Nat)) := by rw [← HK.o]; exact HB4.o.cell 0 rfl
  have q35 : ((w4.setCell ⟨W, 0, none⟩ (.slice (some ⟨gg, 0, none⟩) (bs.length + 1) cp))).cell? ⟨w.heap.size, 35, none⟩ = some (iV a.w) := HB4.o.cell 35 rfl
  have q36 : ((w4.setCell ⟨W, 0, none⟩ (.slice (some ⟨gg, 0, none⟩) (bs.length + 1) cp))).cell? ⟨w.heap.size, 36, none⟩ = some (iV a.h) := HB4.o.cell 36 rfl
  clear hP hown4 hgrow4 hat4 hlt4 c4 f4 kc cW fW
  go_wp2_with fail
  generalize hW4 : (w4.setCell ⟨W, 0, none⟩ (.slice (some ⟨gg, 0, none⟩) (bs.length + 1) cp)) = wq at *
  clear hW4
  refine (ukc _ W _ (.slice (some ⟨gg, 0, none⟩) (bs.length + 1) cp) _ [a.w, a.h] (HW4.o.alloc _) (HW4.o.lit [a.w, a.h] _ rfl 2 rfl _ (by first | rfl | exact HS4.o.symm)) (by (try simp only [List.length_append, List.length_cons, List.length_nil] at *); omega)).mono ?_
  rintro e w1 ⟨v1, t1, h1⟩
  have T1 := hd' ((T4.o.trans (WTo.other (Gou.Mod.alloc _ _ _) (.slice (some ⟨gg, 0, none⟩) (bs.length + 1) cp))).trans t1)
  rcases hr1 : ug4 [a.w, a.h] with _ | es1
  ·rw [hr1] at h1
   subst h1
   exact ⟨rfl, v1, T1.o, by have hk := HK.o; simp [ukf, hk, hr1]⟩
  rw [hr1] at h1
  obtain ⟨rfl, hw1⟩ := h1
  have Hr1 := hd' hr1
  have Hw1 := hd' hw1
  have Tk1 := hd' t1
  clear hr1 hw1 t1
  go_wp2_with fail
  go_end0
  exact ⟨v1, T1.o, by
   have hk := HK.o
   have g1 := Hr1.o
   simp [ukf, hk, g1]
   simpa using Hw1.o⟩
theorem wact_0 (w : World) (W : Nat) (bs : List Nat) (vs : Value) (p1 : Option Addr) (k1 : Nat) (p2 : Option Addr) (k2 : Nat) (p3 : Option Addr) (k3 : Nat) (a : Ac) (K : Nat) (hb : 1 ≤ K ∧ K ≤ 11) (hk : a.kind = (K : Nat)) (h : Wr w W bs vs) (hx : LookR (fun b => b < W) w a.op.look (.slice p1 a.op.look.content.pix.length k1) (.slice p2 a.op.look.filt.nodes.length k2) (.slice p3 a.op.look.back.nodes.length k3)) (hl : bs.length ≤ 600000000) :
  Calls Tryz.prog 30 #[.pointer (some ⟨W, 0, none⟩), .agg (actC a (.slice p1 a.op.look.content.pix.length k1) (.slice p2 a.op.look.filt.nodes.length k2) (.slice p3 a.op.look.back.nodes.length k3))] w (WrP w W bs vs (ukf a)) := by
 have H := hd' h
 have HB0 : Hid (Blk (w.alloc (.cells (actC a (.slice p1 a.op.look.content.pix.length k1) (.slice p2 a.op.look.filt.nodes.length k2) (.slice p3 a.op.look.back.nodes.length k3)) 41)) w.heap.size 41 (actC a (.slice p1 a.op.look.content.pix.length k1) (.slice p2 a.op.look.filt.nodes.length k2) (.slice p3 a.op.look.back.nodes.length k3))) := hd' (heap_alloc_new w _)
 have HW0 : Hid (Wr (w.alloc (.cells (actC a (.slice p1 a.op.look.content.pix.length k1) (.slice p2 a.op.look.filt.nodes.length k2) (.slice p3 a.op.look.back.nodes.length k3)) 41)) W bs vs) := hd' (h.alloc _)
 have HT0 : Hid (WTo W w vs (w.alloc (.cells (actC a (.slice p1 a.op.look.content.pix.length k1) (.slice p2 a.op.look.filt.nodes.length k2) (.slice p3 a.op.look.back.nodes.length k3)) 41)) vs) := hd' (WTo.other (Gou.Mod.alloc _ _ _) vs)
 have HR0 : Hid (LookR (fun b => b < W) (w.alloc (.cells (actC a (.slice p1 a.op.look.content.pix.length k1) (.slice p2 a.op.look.filt.nodes.length k2) (.slice p3 a.op.look.back.nodes.length k3)) 41)) a.op.look (.slice p1 a.op.look.content.pix.length k1) (.slice p2 a.op.look.filt.nodes.length k2) (.slice p3 a.op.look.back.nodes.length k3)) := hd' (hx.mod (Gou.Mod.alloc (fun _ => False) _ _) (fun _ _ _ h => h))
 have HS0 : Hid (((w.alloc (.cells (actC a (.slice p1 a.op.look.content.pix.length k1) (.slice p2 a.op.look.filt.nodes.length k2) (.slice p3 a.op.look.back.nodes.length k3)) 41))).heap.size = w.heap.size + 1) := hd' (by simp)
 have hWlt := Blk.lt h.box
 have hvs := fun k hk => (H.o.own.lt k hk).2
 have Hvs := hd' hvs
 clear h hx hvs
 have HK := hd' hk
 clear hk
 have Hb := hd' hb
 have e12 : (((K : Nat) : Int) == 12) = false := bqf.2 (by omega)
 have e13 : (((K : Nat) : Int) == 13) = false := bqf.2 (by omega)
 have e14 : (((K : Nat) : Int) == 14) = false := bqf.2 (by omega)
 have kc : ((w.alloc (.cells (actC a (.slice p1 a.op.look.content.pix.length k1) (.slice p2 a.op.look.filt.nodes.length k2) (.slice p3 a.op.look.back.nodes.length k3)) 41))).cell? ⟨w.heap.size, 0, none⟩ = some (iV (K : Nat)) := by rw [← HK.o]; exact HB0.o.cell 0 rfl
 have e1 : decide (1 ≤ ((K : Nat) : Int)) = true := by simp <;> omega
 have e2 : decide (((K : Nat) : Int) ≤ 14) = true := by simp <;> omega
 have eu : IntKind.u8.wrap ((K : Nat) : Int) = K := IntWalk.u8_in _ (by omega)
 obtain ⟨i0, hi0, hz0, hz1, hz2⟩ := info_parts un4
 obtain ⟨pv, cv, rfl⟩ := ownsRow_form H.o.own
 go_enter Tryz.func30, Tryz.ntmps30
 go_wp2_with fail
 generalize hW0 : (w.alloc (.cells (actC a (.slice p1 a.op.look.content.pix.length k1) (.slice p2 a.op.look.filt.nodes.length k2) (.slice p3 a.op.look.back.nodes.length k3)) 41)) = w0 at *
 clear hW0
 refine (uku _).mono ?_
 rintro e w' ⟨rfl, hww⟩
 obtain rfl : w0 = w' := hww.symm
 clear hww
 have cW := HW0.o.box.cell 0 rfl
 have fW := HW0.o.box.frozen 0
 have hWl0 := Blk.lt HW0.o.box
 have HM : Hid (Gou.Mod (fun _ => False) w0 (w0.drew.alloc (.cells #[.int .u8 (K : Nat)] 5))) := hd' ((Gou.Mod.drew _ _).trans' (Gou.Mod.alloc (fun _ => False) _ _))
 have Hown : Hid (((w0.drew.alloc (.cells #[.int .u8 (K : Nat)] 5))).ownsRow (W + 1) 5 1 (.slice pv bs.length cv) bs.length (u8s bs)) := hd' (uac HW0.o.own HM.o (fun _ _ h => h))
 go_wp2_with fail
 go_region_law (first | (refine step_append_lies _ (by rfl) _ _ _ (by rfl) (W + 1) 5 i0 (.int .u8 0) 1 1 Tryz.underlying61 hi0 hz0 hz1 hz2 rfl (by omega) (.slice pv bs.length cv) bs.length (u8s bs) (by rfl) Hown.o ⟨_, 0, none⟩ 1 _ [.int .u8 (K : Nat)] (by rfl) (by rfl) (un2 (cs := #[.int .u8 (K : Nat)]) (t := 5) (fr := (0, 0)) (uoq rfl) rfl) (by simp [Value.oneCell']) (by omega) (by unfold maxLen; omega) (by omega) (by simp; omega) _ rfl ?_; intro gg cp w4 hown4 hgrow4 hat4 hlt4; have hcf4 := HW0.o.mids HM.o hgrow4; obtain ⟨c4, f4⟩ := hcf4) | fail)
 ·have hP := HW0.o.pushes (ys := [K]) rfl HM.o hown4 hgrow4 hat4
  have HW4 : Hid (Wr (w4.setCell ⟨W, 0, none⟩ (.slice (some ⟨gg, 0, none⟩) (bs.length + 1) cp)) W (bs ++ [K]) (.slice (some ⟨gg, 0, none⟩) (bs.length + 1) cp)) := hd' hP.1
  have T4 : Hid (WTo W w (.slice pv bs.length cv) (w4.setCell ⟨W, 0, none⟩ (.slice (some ⟨gg, 0, none⟩) (bs.length + 1) cp)) (.slice (some ⟨gg, 0, none⟩) (bs.length + 1) cp)) := hd' (HT0.o.trans hP.2)
  have HB4 : Hid (Blk (w4.setCell ⟨W, 0, none⟩ (.slice (some ⟨gg, 0, none⟩) (bs.length + 1) cp)) w.heap.size 41 (actC a (.slice p1 a.op.look.content.pix.length k1) (.slice p2 a.op.look.filt.nodes.length k2) (.slice p3 a.op.look.back.nodes.length k3))) := hd' (HB0.o.mod hP.2.mod (fun e => by
   rcases e with e | e
   ·omega
   ·have := Hvs.o _ e; omega))
  have HR4 : Hid (LookR (fun b => b < W) (w4.setCell ⟨W, 0, none⟩ (.slice (some ⟨gg, 0, none⟩) (bs.length + 1) cp)) a.op.look (.slice p1 a.op.look.content.pix.length k1) (.slice p2 a.op.look.filt.nodes.length k2) (.slice p3 a.op.look.back.nodes.length k3)) := hd' (HR0.o.mod (WTo.far hP.2 HW0.o) (fun k _ hG hk => by omega))
  have HS4 : Hid (((w4.setCell ⟨W, 0, none⟩ (.slice (some ⟨gg, 0, none⟩) (bs.length + 1) cp))).heap.size = w4.heap.size) := hd' (by simp)
  have kd : ((w4.setCell ⟨W, 0, none⟩ (.slice (some ⟨gg, 0, none⟩) (bs.length + 1) cp))).cell? ⟨w.heap.size, 0, none⟩ = some (iV (K : Nat)) := by rw [← HK.o]; exact HB4.o.cell 0 rfl
  have Hrg : Hid (((w4.setCell ⟨W, 0, none⟩ (.slice (some ⟨gg, 0, none⟩) (bs.length + 1) cp))).rangeAt w.heap.size 1 (opS a.op p1 k1 p2 k2 p3 k3).toList) := hd' (Blk.range HB4.o (utr a _ _ _) rfl)
  have HiO : Hid ((Tryz.prog.info? 37).map (·.size) = some (opS a.op p1 k1 p2 k2 p3 k3).toList.length) := hd' (size_op.trans (by simp [oprC]))
  clear hP hown4 hgrow4 hat4 hlt4 c4 f4 kc cW fW
  go_wp2_with (first | ((with_reducible refine wpList_load_mid ?g1_1a 37 ?x1_1a ?o1_1a w.heap.size 1 ?h1_1a (opS a.op p1 k1 p2 k2 p3 k3).toList ?d1_1a ?c1_1a ?u1_1a ?s1_1a ?i1_1a ?r1_1a); (case g1_1a => exact rfl); (case o1_1a => exact rfl); (case h1_1a => exact rfl); (case c1_1a => exact Hrg.o); (case u1_1a => exact Tryz.underlying37); (case s1_1a => exact rfl); (case i1_1a => exact HiO.o)) | fail)
  refine (utv _ W _ (.slice (some ⟨gg, 0, none⟩) (bs.length + 1) cp) p1 k1 p2 k2 p3 k3 a.op HW4.o HR4.o (by (try simp only [List.length_append, List.length_cons, List.length_nil] at *); omega)).mono ?_
  rintro e w1 ⟨v1, t1, h1⟩
  have T1 := hd' (T4.o.trans t1)
  rcases hr1 : ukb a.op with _ | es1
  ·rw [hr1] at h1
   subst h1
   exact ⟨rfl, v1, T1.o, by have hk := HK.o; have hb := Hb.o; have n1 : ¬ ((K : Int) = 12) := (by omega); have n2 : ¬ ((K : Int) = 13) := (by omega); have n3 : ¬ ((K : Int) = 14) := (by omega); have n4 : (1 : Int) ≤ (K : Int) ∧ (K : Int) ≤ 14 := (by omega); simp only [ukf, hk, if_pos n4, if_neg n1, if_neg n2, if_neg n3, hr1, Option.bind_none]⟩
  rw [hr1] at h1
  obtain ⟨rfl, hw1⟩ := h1
  have Hr1 := hd' hr1
  have Hw1 := hd' hw1
  have Tk1 := hd' t1
  clear hr1 hw1 t1
  go_wp2_with fail
  go_end0
  exact ⟨v1, T1.o, by
   have hk := HK.o
   have g1 := Hr1.o
   have hb := Hb.o
   have n1 : ¬ ((K : Int) = 12) := by omega
   have n2 : ¬ ((K : Int) = 13) := by omega
   have n3 : ¬ ((K : Int) = 14) := by omega
   have n4 : (1 : Int) ≤ (K : Int) ∧ (K : Int) ≤ 14 := by omega
   simp only [ukf, hk, if_pos n4, if_neg n1, if_neg n2, if_neg n3, g1, Option.bind_some, Int.toNat_natCast]
   refine ⟨trivial, ?_⟩
   simpa using Hw1.o⟩
 ·have hP := HW0.o.pushes (ys := [K]) rfl HM.o hown4 hgrow4 hat4
  have HW4 : Hid (Wr (w4.setCell ⟨W, 0, none⟩ (.slice (some ⟨gg, 0, none⟩) (bs.length + 1) cp)) W (bs ++ [K]) (.slice (some ⟨gg, 0, none⟩) (bs.length + 1) cp)) := hd' hP.1
  have T4 : Hid (WTo W w (.slice pv bs.length cv) (w4.setCell ⟨W, 0, none⟩ (.slice (some ⟨gg, 0, none⟩) (bs.length + 1) cp)) (.slice (some ⟨gg, 0, none⟩) (bs.length + 1) cp)) := hd' (HT0.o.trans hP.2)
  have HB4 : Hid (Blk (w4.setCell ⟨W, 0, none⟩ (.slice (some ⟨gg, 0, none⟩) (bs.length + 1) cp)) w.heap.size 41 (actC a (.slice p1 a.op.look.content.pix.length k1) (.slice p2 a.op.look.filt.nodes.length k2) (.slice p3 a.op.look.back.nodes.length k3))) := hd' (HB0.o.mod hP.2.mod (fun e => by
   rcases e with e | e
   ·omega
   ·have := Hvs.o _ e; omega))
  have HR4 : Hid (LookR (fun b => b < W) (w4.setCell ⟨W, 0, none⟩ (.slice (some ⟨gg, 0, none⟩) (bs.length + 1) cp)) a.op.look (.slice p1 a.op.look.content.pix.length k1) (.slice p2 a.op.look.filt.nodes.length k2) (.slice p3 a.op.look.back.nodes.length k3)) := hd' (HR0.o.mod (WTo.far hP.2 HW0.o) (fun k _ hG hk => by omega))
  have HS4 : Hid (((w4.setCell ⟨W, 0, none⟩ (.slice (some ⟨gg, 0, none⟩) (bs.length + 1) cp))).heap.size = w4.heap.size) := hd' (by simp)
  have kd : ((w4.setCell ⟨W, 0, none⟩ (.slice (some ⟨gg, 0, none⟩) (bs.length + 1) cp))).cell? ⟨w.heap.size, 0, none⟩ = some (iV (K : Nat)) := by rw [← HK.o]; exact HB4.o.cell 0 rfl
  have Hrg : Hid (((w4.setCell ⟨W, 0, none⟩ (.slice (some ⟨gg, 0, none⟩) (bs.length + 1) cp))).rangeAt w.heap.size 1 (opS a.op p1 k1 p2 k2 p3 k3).toList) := hd' (Blk.range HB4.o (utr a _ _ _) rfl)
  have HiO : Hid ((Tryz.prog.info? 37).map (·.size) = some (opS a.op p1 k1 p2 k2 p3 k3).toList.length) := hd' (size_op.trans (by simp [oprC]))
  clear hP hown4 hgrow4 hat4 hlt4 c4 f4 kc cW fW
  go_wp2_with (first | ((with_reducible refine wpList_load_mid ?g1_1b 37 ?x1_1b ?o1_1b w.heap.size 1 ?h1_1b (opS a.op p1 k1 p2 k2 p3 k3).toList ?d1_1b ?c1_1b ?u1_1b ?s1_1b ?i1_1b ?r1_1b); (case g1_1b => exact rfl); (case o1_1b => exact rfl); (case h1_1b => exact rfl); (case c1_1b => exact Hrg.o); (case u1_1b => exact Tryz.underlying37); (case s1_1b => exact rfl); (case i1_1b => exact HiO.o)) | fail)
  refine (utv _ W _ (.slice (some ⟨gg, 0, none⟩) (bs.length + 1) cp) p1 k1 p2 k2 p3 k3 a.op HW4.o HR4.o (by (try simp only [List.length_append, List.length_cons, List.length_nil] at *); omega)).mono ?_
  rintro e w1 ⟨v1, t1, h1⟩
  have T1 := hd' (T4.o.trans t1)
  rcases hr1 : ukb a.op with _ | es1
  ·rw [hr1] at h1
   subst h1
   exact ⟨rfl, v1, T1.o, by have hk := HK.o; have hb := Hb.o; have n1 : ¬ ((K : Int) = 12) := (by omega); have n2 : ¬ ((K : Int) = 13) := (by omega); have n3 : ¬ ((K : Int) = 14) := (by omega); have n4 : (1 : Int) ≤ (K : Int) ∧ (K : Int) ≤ 14 := (by omega); simp only [ukf, hk, if_pos n4, if_neg n1, if_neg n2, if_neg n3, hr1, Option.bind_none]⟩
  rw [hr1] at h1
  obtain ⟨rfl, hw1⟩ := h1
  have Hr1 := hd' hr1
  have Hw1 := hd' hw1
  have Tk1 := hd' t1
  clear hr1 hw1 t1
  go_wp2_with fail
  go_end0
  exact ⟨v1, T1.o, by
   have hk := HK.o
   have g1 := Hr1.o
   have hb := Hb.o
   have n1 : ¬ ((K : Int) = 12) := by omega
   have n2 : ¬ ((K : Int) = 13) := by omega
   have n3 : ¬ ((K : Int) = 14) := by omega
   have n4 : (1 : Int) ≤ (K : Int) ∧ (K : Int) ≤ 14 := by omega
   simp only [ukf, hk, if_pos n4, if_neg n1, if_neg n2, if_neg n3, g1, Option.bind_some, Int.toNat_natCast]
   refine ⟨trivial, ?_⟩
   simpa using Hw1.o⟩
 ·have hP := HW0.o.pushes (ys := [K]) rfl HM.o hown4 hgrow4 hat4
  have HW4 : Hid (Wr (w4.setCell ⟨W, 0, none⟩ (.slice (some ⟨gg, 0, none⟩) (bs.length + 1) cp)) W (bs ++ [K]) (.slice (some ⟨gg, 0, none⟩) (bs.length + 1) cp)) := hd' hP.1
  have T4 : Hid (WTo W w (.slice pv bs.length cv) (w4.setCell ⟨W, 0, none⟩ (.slice (some ⟨gg, 0, none⟩) (bs.length + 1) cp)) (.slice (some ⟨gg, 0, none⟩) (bs.length + 1) cp)) := hd' (HT0.o.trans hP.2)
  have HB4 : Hid (Blk (w4.setCell ⟨W, 0, none⟩ (.slice (some ⟨gg, 0, none⟩) (bs.length + 1) cp)) w.heap.size 41 (actC a (.slice p1 a.op.look.content.pix.length k1) (.slice p2 a.op.look.filt.nodes.length k2) (.slice p3 a.op.look.back.nodes.length k3))) := hd' (HB0.o.mod hP.2.mod (fun e => by
   rcases e with e | e
   ·omega
   ·have := Hvs.o _ e; omega))
  have HR4 : Hid (LookR (fun b => b < W) (w4.setCell ⟨W, 0, none⟩ (.slice (some ⟨gg, 0, none⟩) (bs.length + 1) cp)) a.op.look (.slice p1 a.op.look.content.pix.length k1) (.slice p2 a.op.look.filt.nodes.length k2) (.slice p3 a.op.look.back.nodes.length k3)) := hd' (HR0.o.mod (WTo.far hP.2 HW0.o) (fun k _ hG hk => by omega))
  have HS4 : Hid (((w4.setCell ⟨W, 0, none⟩ (.slice (some ⟨gg, 0, none⟩) (bs.length + 1) cp))).heap.size = w4.heap.size) := hd' (by simp)
  have kd : ((w4.setCell ⟨W, 0, none⟩ (.slice (some ⟨gg, 0, none⟩) (bs.length + 1) cp))).cell? ⟨w.heap.size, 0, none⟩ = some (iV (K : Nat)) := by rw [← HK.o]; exact HB4.o.cell 0 rfl
  have Hrg : Hid (((w4.setCell ⟨W, 0, none⟩ (.slice (some ⟨gg, 0, none⟩) (bs.length + 1) cp))).rangeAt w.heap.size 1 (opS a.op p1 k1 p2 k2 p3 k3).toList) := hd' (Blk.range HB4.o (utr a _ _ _) rfl)
  have HiO : Hid ((Tryz.prog.info? 37).map (·.size) = some (opS a.op p1 k1 p2 k2 p3 k3).toList.length) := hd' (size_op.trans (by simp [oprC]))
  clear hP hown4 hgrow4 hat4 hlt4 c4 f4 kc cW fW
  go_wp2_with (first | ((with_reducible refine wpList_load_mid ?g1_1c 37 ?x1_1c ?o1_1c w.heap.size 1 ?h1_1c (opS a.op p1 k1 p2 k2 p3 k3).toList ?d1_1c ?c1_1c ?u1_1c ?s1_1c ?i1_1c ?r1_1c); (case g1_1c => exact rfl); (case o1_1c => exact rfl); (case h1_1c => exact rfl); (case c1_1c => exact Hrg.o); (case u1_1c => exact Tryz.underlying37); (case s1_1c => exact rfl); (case i1_1c => exact HiO.o)) | fail)
  refine (utv _ W _ (.slice (some ⟨gg, 0, none⟩) (bs.length + 1) cp) p1 k1 p2 k2 p3 k3 a.op HW4.o HR4.o (by (try simp only [List.length_append, List.length_cons, List.length_nil] at *); omega)).mono ?_
  rintro e w1 ⟨v1, t1, h1⟩
  have T1 := hd' (T4.o.trans t1)
  rcases hr1 : ukb a.op with _ | es1
  ·rw [hr1] at h1
   subst h1
   exact ⟨rfl, v1, T1.o, by have hk := HK.o; have hb := Hb.o; have n1 : ¬ ((K : Int) = 12) := (by omega); have n2 : ¬ ((K : Int) = 13) := (by omega); have n3 : ¬ ((K : Int) = 14) := (by omega); have n4 : (1 : Int) ≤ (K : Int) ∧ (K : Int) ≤ 14 := (by omega); simp only [ukf, hk, if_pos n4, if_neg n1, if_neg n2, if_neg n3, hr1, Option.bind_none]⟩
  rw [hr1] at h1
  obtain ⟨rfl, hw1⟩ := h1
  have Hr1 := hd' hr1
  have Hw1 := hd' hw1
  have Tk1 := hd' t1
  clear hr1 hw1 t1
  go_wp2_with fail
  go_end0
  exact ⟨v1, T1.o, by
   have hk := HK.o
   have g1 := Hr1.o
   have hb := Hb.o
   have n1 : ¬ ((K : Int) = 12) := by omega
   have n2 : ¬ ((K : Int) = 13) := by omega
   have n3 : ¬ ((K : Int) = 14) := by omega
   have n4 : (1 : Int) ≤ (K : Int) ∧ (K : Int) ≤ 14 := by omega
   simp only [ukf, hk, if_pos n4, if_neg n1, if_neg n2, if_neg n3, g1, Option.bind_some, Int.toNat_natCast]
   refine ⟨trivial, ?_⟩
   simpa using Hw1.o⟩
theorem wact_13 (w : World) (W : Nat) (bs : List Nat) (vs : Value) (p1 : Option Addr) (k1 : Nat) (p2 : Option Addr) (k2 : Nat) (p3 : Option Addr) (k3 : Nat) (a : Ac) (hk : a.kind = (13 : Nat)) (h : Wr w W bs vs) (hx : LookR (fun b => b < W) w a.op.look (.slice p1 a.op.look.content.pix.length k1) (.slice p2 a.op.look.filt.nodes.length k2) (.slice p3 a.op.look.back.nodes.length k3)) (hl : bs.length ≤ 600000000) :
  Calls Tryz.prog 30 #[.pointer (some ⟨W, 0, none⟩), .agg (actC a (.slice p1 a.op.look.content.pix.length k1) (.slice p2 a.op.look.filt.nodes.length k2) (.slice p3 a.op.look.back.nodes.length k3))] w (WrP w W bs vs (ukf a)) := by
 have H := hd' h
 have HB0 : Hid (Blk (w.alloc (.cells (actC a (.slice p1 a.op.look.content.pix.length k1) (.slice p2 a.op.look.filt.nodes.length k2) (.slice p3 a.op.look.back.nodes.length k3)) 41)) w.heap.size 41 (actC a (.slice p1 a.op.look.content.pix.length k1) (.slice p2 a.op.look.filt.nodes.length k2) (.slice p3 a.op.look.back.nodes.length k3))) := hd' (heap_alloc_new w _)
 have HW0 : Hid (Wr (w.alloc (.cells (actC a (.slice p1 a.op.look.content.pix.length k1) (.slice p2 a.op.look.filt.nodes.length k2) (.slice p3 a.op.look.back.nodes.length k3)) 41)) W bs vs) := hd' (h.alloc _)
 have HT0 : Hid (WTo W w vs (w.alloc (.cells (actC a (.slice p1 a.op.look.content.pix.length k1) (.slice p2 a.op.look.filt.nodes.length k2) (.slice p3 a.op.look.back.nodes.length k3)) 41)) vs) := hd' (WTo.other (Gou.Mod.alloc _ _ _) vs)
 have HR0 : Hid (LookR (fun b => b < W) (w.alloc (.cells (actC a (.slice p1 a.op.look.content.pix.length k1) (.slice p2 a.op.look.filt.nodes.length k2) (.slice p3 a.op.look.back.nodes.length k3)) 41)) a.op.look (.slice p1 a.op.look.content.pix.length k1) (.slice p2 a.op.look.filt.nodes.length k2) (.slice p3 a.op.look.back.nodes.length k3)) := hd' (hx.mod (Gou.Mod.alloc (fun _ => False) _ _) (fun _ _ _ h => h))
 have HS0 : Hid (((w.alloc (.cells (actC a (.slice p1 a.op.look.content.pix.length k1) (.slice p2 a.op.look.filt.nodes.length k2) (.slice p3 a.op.look.back.nodes.length k3)) 41))).heap.size = w.heap.size + 1) := hd' (by simp)
 have hWlt := Blk.lt h.box
 have hvs := fun k hk => (H.o.own.lt k hk).2
 have Hvs := hd' hvs
 clear h hx hvs
 have HK := hd' hk
 clear hk
 have kc : ((w.alloc (.cells (actC a (.slice p1 a.op.look.content.pix.length k1) (.slice p2 a.op.look.filt.nodes.length k2) (.slice p3 a.op.look.back.nodes.length k3)) 41))).cell? ⟨w.heap.size, 0, none⟩ = some (iV (13 : Nat)) := by rw [← HK.o]; exact HB0.o.cell 0 rfl
 have e1 : decide (1 ≤ ((13 : Nat) : Int)) = true := by simp <;> omega
 have e2 : decide (((13 : Nat) : Int) ≤ 14) = true := by simp <;> omega
 have eu : IntKind.u8.wrap ((13 : Nat) : Int) = 13 := IntWalk.u8_in _ (by omega)
 obtain ⟨i0, hi0, hz0, hz1, hz2⟩ := info_parts un4
 obtain ⟨pv, cv, rfl⟩ := ownsRow_form H.o.own
 go_enter Tryz.func30, Tryz.ntmps30
 go_wp2_with fail
 generalize hW0 : (w.alloc (.cells (actC a (.slice p1 a.op.look.content.pix.length k1) (.slice p2 a.op.look.filt.nodes.length k2) (.slice p3 a.op.look.back.nodes.length k3)) 41)) = w0 at *
 clear hW0
 refine (uku _).mono ?_
 rintro e w' ⟨rfl, hww⟩
 obtain rfl : w0 = w' := hww.symm
 clear hww
 have cW := HW0.o.box.cell 0 rfl
 have fW := HW0.o.box.frozen 0
 have hWl0 := Blk.lt HW0.o.box
 have HM : Hid (Gou.Mod (fun _ => False) w0 (w0.drew.alloc (.cells #[.int .u8 (13 : Nat)] 5))) := hd' ((Gou.Mod.drew _ _).trans' (Gou.Mod.alloc (fun _ => False) _ _))
 have Hown : Hid (((w0.drew.alloc (.cells #[.int .u8 (13 : Nat)] 5))).ownsRow (W + 1) 5 1 (.slice pv bs.length cv) bs.length (u8s bs)) := hd' (uac HW0.o.own HM.o (fun _ _ h => h))
 go_wp2_with fail
 go_region_law (first | (refine step_append_lies _ (by rfl) _ _ _ (by rfl) (W + 1) 5 i0 (.int .u8 0) 1 1 Tryz.underlying61 hi0 hz0 hz1 hz2 rfl (by omega) (.slice pv bs.length cv) bs.length (u8s bs) (by rfl) Hown.o ⟨_, 0, none⟩ 1 _ [.int .u8 (13 : Nat)] (by rfl) (by rfl) (un2 (cs := #[.int .u8 (13 : Nat)]) (t := 5) (fr := (0, 0)) (uoq rfl) rfl) (by simp [Value.oneCell']) (by omega) (by unfold maxLen; omega) (by omega) (by simp; omega) _ rfl ?_; intro gg cp w4 hown4 hgrow4 hat4 hlt4; have hcf4 := HW0.o.mids HM.o hgrow4; obtain ⟨c4, f4⟩ := hcf4) | fail)
 ·have hP := HW0.o.pushes (ys := [13]) rfl HM.o hown4 hgrow4 hat4
  have HW4 : Hid (Wr (w4.setCell ⟨W, 0, none⟩ (.slice (some ⟨gg, 0, none⟩) (bs.length + 1) cp)) W (bs ++ [13]) (.slice (some ⟨gg, 0, none⟩) (bs.length + 1) cp)) := hd' hP.1
  have T4 : Hid (WTo W w (.slice pv bs.length cv) (w4.setCell ⟨W, 0, none⟩ (.slice (some ⟨gg, 0, none⟩) (bs.length + 1) cp)) (.slice (some ⟨gg, 0, none⟩) (bs.length + 1) cp)) := hd' (HT0.o.trans hP.2)
  have HB4 : Hid (Blk (w4.setCell ⟨W, 0, none⟩ (.slice (some ⟨gg, 0, none⟩) (bs.length + 1) cp)) w.heap.size 41 (actC a (.slice p1 a.op.look.content.pix.length k1) (.slice p2 a.op.look.filt.nodes.length k2) (.slice p3 a.op.look.back.nodes.length k3))) := hd' (HB0.o.mod hP.2.mod (fun e => by
   rcases e with e | e
   ·omega
   ·have := Hvs.o _ e; omega))
  have HR4 : Hid (LookR (fun b => b < W) (w4.setCell ⟨W, 0, none⟩ (.slice (some ⟨gg, 0, none⟩) (bs.length + 1) cp)) a.op.look (.slice p1 a.op.look.content.pix.length k1) (.slice p2 a.op.look.filt.nodes.length k2) (.slice p3 a.op.look.back.nodes.length k3)) := hd' (HR0.o.mod (WTo.far hP.2 HW0.o) (fun k _ hG hk => by omega))
  have HS4 : Hid (((w4.setCell ⟨W, 0, none⟩ (.slice (some ⟨gg, 0, none⟩) (bs.length + 1) cp))).heap.size = w4.heap.size) := hd' (by simp)
  have kd : ((w4.setCell ⟨W, 0, none⟩ (.slice (some ⟨gg, 0, none⟩) (bs.length + 1) cp))).cell? ⟨w.heap.size, 0, none⟩ = some (iV (13 : Nat)) := by rw [← HK.o]; exact HB4.o.cell 0 rfl
  have q37 : ((w4.setCell ⟨W, 0, none⟩ (.slice (some ⟨gg, 0, none⟩) (bs.length + 1) cp))).cell? ⟨w.heap.size, 37, none⟩ = some (.bool a.conf.fuse) := HB4.o.cell 37 rfl
  have q38 : ((w4.setCell ⟨W, 0, none⟩ (.slice (some ⟨gg, 0, none⟩) (bs.length + 1) cp))).cell? ⟨w.heap.size, 38, none⟩ = some (.bool a.conf.alias) := HB4.o.cell 38 rfl
  have q39 : ((w4.setCell ⟨W, 0, none⟩ (.slice (some ⟨gg, 0, none⟩) (bs.length + 1) cp))).cell? ⟨w.heap.size, 39, none⟩ = some (.bool a.conf.roi) := HB4.o.cell 39 rfl
  have q40 : ((w4.setCell ⟨W, 0, none⟩ (.slice (some ⟨gg, 0, none⟩) (bs.length + 1) cp))).cell? ⟨w.heap.size, 40, none⟩ = some (.bool a.conf.damage) := HB4.o.cell 40 rfl
  have q41 : ((w4.setCell ⟨W, 0, none⟩ (.slice (some ⟨gg, 0, none⟩) (bs.length + 1) cp))).cell? ⟨w.heap.size, 41, none⟩ = some (iV a.conf.room) := HB4.o.cell 41 rfl
  clear hP hown4 hgrow4 hat4 hlt4 c4 f4 kc cW fW
  go_wp2_with fail
  generalize hW4 : (w4.setCell ⟨W, 0, none⟩ (.slice (some ⟨gg, 0, none⟩) (bs.length + 1) cp)) = wq at *
  clear hW4
  have hBq := Blk.lt HB4.o
  have HBd : Hid (Blk wq.drew w.heap.size 41 (actC a (.slice p1 a.op.look.content.pix.length k1) (.slice p2 a.op.look.filt.nodes.length k2) (.slice p3 a.op.look.back.nodes.length k3))) := hd' (HB4.o.mod (Gou.Mod.drew (fun _ => False) wq) (fun h => h))
  have hfl : ∀ w1 : World, Calls Tryz.prog 54 #[.agg #[.bool a.conf.fuse, .bool a.conf.alias, .bool a.conf.roi, .bool a.conf.damage, iV a.conf.room]] w1 fun e w' => e = .returned (iV (ukn a.conf)) ∧ Gou.Mod (fun _ => False) w1 w' := fun w1 => uo4 w1 a.conf
  have Hfl := hd' hfl
  clear hfl
  go_region_dies
  ·refine (Hfl.o _).mono ?_
   rintro e w5 ⟨rfl, hm5⟩
   have hmq : Gou.Mod (fun _ => False) wq w5 := (Gou.Mod.drew _ _).trans' hm5
   have HW5 : Hid (Wr w5 W _ (.slice (some ⟨gg, 0, none⟩) (bs.length + 1) cp)) := hd' (HW4.o.other hmq (fun h => h) (fun _ _ h => h))
   have T5 := hd' (T4.o.trans (WTo.other hmq (.slice (some ⟨gg, 0, none⟩) (bs.length + 1) cp)))
   have q41 : w5.cell? ⟨w.heap.size, 41, none⟩ = some (iV a.conf.room) := (HBd.o.mod hm5 (fun h => h)).cell 41 rfl
   rename_i K1 hK1
   refine hK1 _ _ ?_
   clear hK1 K1
   refine wpAny_ready (rs := [6]) (by kernel_rfl) (by simp) ?_
   refine AllReady.cons rfl (fun K4 hK4 => ?_) AllReady.nil
   go_simp
   refine hK4 _ _ ?_
   clear hK4 K4
   refine wpAny_ready (rs := [7]) (by kernel_rfl) (by simp) ?_
   refine AllReady.cons rfl (fun K2 hK2 => ?_) AllReady.nil
   go_simp
   refine hK2 _ _ ?_
   clear hK2 K2
   refine wpAny_ready (rs := [8]) (by kernel_rfl) (by simp) ?_
   refine AllReady.cons rfl (fun K3 hK3 => ?_) AllReady.nil
   go_simp
   refine (ukc _ W _ (.slice (some ⟨gg, 0, none⟩) (bs.length + 1) cp) _ [ukn a.conf, a.conf.room] (HW5.o.alloc _) (HW5.o.lit [ukn a.conf, a.conf.room] _ rfl 2 rfl _ (by first | rfl | simp)) (by (try simp only [List.length_append, List.length_cons, List.length_nil] at *); omega)).mono ?_
   rintro e w6 ⟨v6, t6, h6⟩
   have T6 := hd' ((T5.o.trans (WTo.other (Gou.Mod.alloc _ _ _) (.slice (some ⟨gg, 0, none⟩) (bs.length + 1) cp))).trans t6)
   rcases hen : ug4 [ukn a.conf, a.conf.room] with _ | es
   ·rw [hen] at h6
    subst h6
    exact ⟨rfl, v6, T6.o, by have hk := HK.o; simp [ukf, hk, hen]⟩
   rw [hen] at h6
   obtain ⟨rfl, hw6⟩ := h6
   have Hen := hd' hen
   have Hw6 := hd' hw6
   clear hen hw6
   refine hK3 _ _ ?_
   clear hK3 K3
   refine wpAny_done (by kernel_rfl) ?_ _
   go_wp2_with fail
   go_end0
   exact ⟨v6, T6.o, by
    have hk := HK.o
    have hen := Hen.o
    simp [ukf, hk, hen]
    simpa using Hw6.o⟩
  ·refine (Hfl.o _).mono ?_
   rintro e w5 ⟨rfl, hm5⟩
   have hmq : Gou.Mod (fun _ => False) wq w5 := (Gou.Mod.drew _ _).trans' hm5
   have HW5 : Hid (Wr w5 W _ (.slice (some ⟨gg, 0, none⟩) (bs.length + 1) cp)) := hd' (HW4.o.other hmq (fun h => h) (fun _ _ h => h))
   have T5 := hd' (T4.o.trans (WTo.other hmq (.slice (some ⟨gg, 0, none⟩) (bs.length + 1) cp)))
   have q41 : w5.cell? ⟨w.heap.size, 41, none⟩ = some (iV a.conf.room) := (HBd.o.mod hm5 (fun h => h)).cell 41 rfl
   rename_i K1 hK1
   refine hK1 _ _ ?_
   clear hK1 K1
   refine wpAny_ready (rs := [7]) (by kernel_rfl) (by simp) ?_
   refine AllReady.cons rfl (fun K2 hK2 => ?_) AllReady.nil
   go_simp
   refine hK2 _ _ ?_
   clear hK2 K2
   refine wpAny_ready (rs := [8]) (by kernel_rfl) (by simp) ?_
   refine AllReady.cons rfl (fun K3 hK3 => ?_) AllReady.nil
   go_simp
   refine (ukc _ W _ (.slice (some ⟨gg, 0, none⟩) (bs.length + 1) cp) _ [ukn a.conf, a.conf.room] (HW5.o.alloc _) (HW5.o.lit [ukn a.conf, a.conf.room] _ rfl 2 rfl _ (by first | rfl | simp)) (by (try simp only [List.length_append, List.length_cons, List.length_nil] at *); omega)).mono ?_
   rintro e w6 ⟨v6, t6, h6⟩
   have T6 := hd' ((T5.o.trans (WTo.other (Gou.Mod.alloc _ _ _) (.slice (some ⟨gg, 0, none⟩) (bs.length + 1) cp))).trans t6)
   rcases hen : ug4 [ukn a.conf, a.conf.room] with _ | es
   ·rw [hen] at h6
    subst h6
    exact ⟨rfl, v6, T6.o, by have hk := HK.o; simp [ukf, hk, hen]⟩
   rw [hen] at h6
   obtain ⟨rfl, hw6⟩ := h6
   have Hen := hd' hen
   have Hw6 := hd' hw6
   clear hen hw6
   refine hK3 _ _ ?_
   clear hK3 K3
   refine wpAny_done (by kernel_rfl) ?_ _
   go_wp2_with fail
   go_end0
   exact ⟨v6, T6.o, by
    have hk := HK.o
    have hen := Hen.o
    simp [ukf, hk, hen]
    simpa using Hw6.o⟩
  ·refine (Hfl.o _).mono ?_
   rintro e w5 ⟨rfl, hm5⟩
   have hmq : Gou.Mod (fun _ => False) wq w5 := (Gou.Mod.drew _ _).trans' hm5
   have HW5 : Hid (Wr w5 W _ (.slice (some ⟨gg, 0, none⟩) (bs.length + 1) cp)) := hd' (HW4.o.other hmq (fun h => h) (fun _ _ h => h))
   have T5 := hd' (T4.o.trans (WTo.other hmq (.slice (some ⟨gg, 0, none⟩) (bs.length + 1) cp)))
   have q41 : w5.cell? ⟨w.heap.size, 41, none⟩ = some (iV a.conf.room) := (HBd.o.mod hm5 (fun h => h)).cell 41 rfl
   rename_i K1 hK1
   refine hK1 _ _ ?_
   clear hK1 K1
   refine wpAny_ready (rs := [7]) (by kernel_rfl) (by simp) ?_
   refine AllReady.cons rfl (fun K2 hK2 => ?_) AllReady.nil
   go_simp
   refine hK2 _ _ ?_
   clear hK2 K2
   refine wpAny_ready (rs := [8]) (by kernel_rfl) (by simp) ?_
   refine AllReady.cons rfl (fun K3 hK3 => ?_) AllReady.nil
   go_simp
   refine (ukc _ W _ (.slice (some ⟨gg, 0, none⟩) (bs.length + 1) cp) _ [ukn a.conf, a.conf.room] (HW5.o.alloc _) (HW5.o.lit [ukn a.conf, a.conf.room] _ rfl 2 rfl _ (by first | rfl | simp)) (by (try simp only [List.length_append, List.length_cons, List.length_nil] at *); omega)).mono ?_
   rintro e w6 ⟨v6, t6, h6⟩
   have T6 := hd' ((T5.o.trans (WTo.other (Gou.Mod.alloc _ _ _) (.slice (some ⟨gg, 0, none⟩) (bs.length + 1) cp))).trans t6)
   rcases hen : ug4 [ukn a.conf, a.conf.room] with _ | es
   ·rw [hen] at h6
    subst h6
    exact ⟨rfl, v6, T6.o, by have hk := HK.o; simp [ukf, hk, hen]⟩
   rw [hen] at h6
   obtain ⟨rfl, hw6⟩ := h6
   have Hen := hd' hen
   have Hw6 := hd' hw6
   clear hen hw6
   refine hK3 _ _ ?_
   clear hK3 K3
   refine wpAny_done (by kernel_rfl) ?_ _
   go_wp2_with fail
   go_end0
   exact ⟨v6, T6.o, by
    have hk := HK.o
    have hen := Hen.o
    simp [ukf, hk, hen]
    simpa using Hw6.o⟩
 ·have hP := HW0.o.pushes (ys := [13]) rfl HM.o hown4 hgrow4 hat4
  have HW4 : Hid (Wr (w4.setCell ⟨W, 0, none⟩ (.slice (some ⟨gg, 0, none⟩) (bs.length + 1) cp)) W (bs ++ [13]) (.slice (some ⟨gg, 0, none⟩) (bs.length + 1) cp)) := hd' hP.1
  have T4 : Hid (WTo W w (.slice pv bs.length cv) (w4.setCell ⟨W, 0, none⟩ (.slice (some ⟨gg, 0, none⟩) (bs.length + 1) cp)) (.slice (some ⟨gg, 0, none⟩) (bs.length + 1) cp)) := hd' (HT0.o.trans hP.2)
  have HB4 : Hid (Blk (w4.setCell ⟨W, 0, none⟩ (.slice (some ⟨gg, 0, none⟩) (bs.length + 1) cp)) w.heap.size 41 (actC a (.slice p1 a.op.look.content.pix.length k1) (.slice p2 a.op.look.filt.nodes.length k2) (.slice p3 a.op.look.back.nodes.length k3))) := hd' (HB0.o.mod hP.2.mod (fun e => by
   rcases e with e | e
   ·omega
   ·have := Hvs.o _ e; omega))
  have HR4 : Hid (LookR (fun b => b < W) (w4.setCell ⟨W, 0, none⟩ (.slice (some ⟨gg, 0, none⟩) (bs.length + 1) cp)) a.op.look (.slice p1 a.op.look.content.pix.length k1) (.slice p2 a.op.look.filt.nodes.length k2) (.slice p3 a.op.look.back.nodes.length k3)) := hd' (HR0.o.mod (WTo.far hP.2 HW0.o) (fun k _ hG hk => by omega))
  have HS4 : Hid (((w4.setCell ⟨W, 0, none⟩ (.slice (some ⟨gg, 0, none⟩) (bs.length + 1) cp))).heap.size = w4.heap.size) := hd' (by simp)
  have kd : ((w4.setCell ⟨W, 0, none⟩ (.slice (some ⟨gg, 0, none⟩) (bs.length + 1) cp))).cell? ⟨w.heap.size, 0, none⟩ = some (iV (13 : Nat)) := by rw [← HK.o]; exact HB4.o.cell 0 rfl
  have q37 : ((w4.setCell ⟨W, 0, none⟩ (.slice (some ⟨gg, 0, none⟩) (bs.length + 1) cp))).cell? ⟨w.heap.size, 37, none⟩ = some (.bool a.conf.fuse) := HB4.o.cell 37 rfl
  have q38 : ((w4.setCell ⟨W, 0, none⟩ (.slice (some ⟨gg, 0, none⟩) (bs.length + 1) cp))).cell? ⟨w.heap.size, 38, none⟩ = some (.bool a.conf.alias) := HB4.o.cell 38 rfl
  have q39 : ((w4.setCell ⟨W, 0, none⟩ (.slice (some ⟨gg, 0, none⟩) (bs.length + 1) cp))).cell? ⟨w.heap.size, 39, none⟩ = some (.bool a.conf.roi) := HB4.o.cell 39 rfl
  have q40 : ((w4.setCell ⟨W, 0, none⟩ (.slice (some ⟨gg, 0, none⟩) (bs.length + 1) cp))).cell? ⟨w.heap.size, 40, none⟩ = some (.bool a.conf.damage) := HB4.o.cell 40 rfl
  have q41 : ((w4.setCell ⟨W, 0, none⟩ (.slice (some ⟨gg, 0, none⟩) (bs.length + 1) cp))).cell? ⟨w.heap.size, 41, none⟩ = some (iV a.conf.room) := HB4.o.cell 41 rfl
  clear hP hown4 hgrow4 hat4 hlt4 c4 f4 kc cW fW
  go_wp2_with fail
  generalize hW4 : (w4.setCell ⟨W, 0, none⟩ (.slice (some ⟨gg, 0, none⟩) (bs.length + 1) cp)) = wq at *
  clear hW4
  have hBq := Blk.lt HB4.o
  have HBd : Hid (Blk wq.drew w.heap.size 41 (actC a (.slice p1 a.op.look.content.pix.length k1) (.slice p2 a.op.look.filt.nodes.length k2) (.slice p3 a.op.look.back.nodes.length k3))) := hd' (HB4.o.mod (Gou.Mod.drew (fun _ => False) wq) (fun h => h))
  have hfl : ∀ w1 : World, Calls Tryz.prog 54 #[.agg #[.bool a.conf.fuse, .bool a.conf.alias, .bool a.conf.roi, .bool a.conf.damage, iV a.conf.room]] w1 fun e w' => e = .returned (iV (ukn a.conf)) ∧ Gou.Mod (fun _ => False) w1 w' := fun w1 => uo4 w1 a.conf
  have Hfl := hd' hfl
  clear hfl
  go_region_dies
  ·refine (Hfl.o _).mono ?_
   rintro e w5 ⟨rfl, hm5⟩
   have hmq : Gou.Mod (fun _ => False) wq w5 := (Gou.Mod.drew _ _).trans' hm5
   have HW5 : Hid (Wr w5 W _ (.slice (some ⟨gg, 0, none⟩) (bs.length + 1) cp)) := hd' (HW4.o.other hmq (fun h => h) (fun _ _ h => h))
   have T5 := hd' (T4.o.trans (WTo.other hmq (.slice (some ⟨gg, 0, none⟩) (bs.length + 1) cp)))
   have q41 : w5.cell? ⟨w.heap.size, 41, none⟩ = some (iV a.conf.room) := (HBd.o.mod hm5 (fun h => h)).cell 41 rfl
   rename_i K1 hK1
   refine hK1 _ _ ?_
   clear hK1 K1
   refine wpAny_ready (rs := [6]) (by kernel_rfl) (by simp) ?_
   refine AllReady.cons rfl (fun K4 hK4 => ?_) AllReady.nil
   go_simp
   refine hK4 _ _ ?_
   clear hK4 K4
   refine wpAny_ready (rs := [7]) (by kernel_rfl) (by simp) ?_
   refine AllReady.cons rfl (fun K2 hK2 => ?_) AllReady.nil
   go_simp
   refine hK2 _ _ ?_
   clear hK2 K2
   refine wpAny_ready (rs := [8]) (by kernel_rfl) (by simp) ?_
   refine AllReady.cons rfl (fun K3 hK3 => ?_) AllReady.nil
   go_simp
   refine (ukc _ W _ (.slice (some ⟨gg, 0, none⟩) (bs.length + 1) cp) _ [ukn a.conf, a.conf.room] (HW5.o.alloc _) (HW5.o.lit [ukn a.conf, a.conf.room] _ rfl 2 rfl _ (by first | rfl | simp)) (by (try simp only [List.length_append, List.length_cons, List.length_nil] at *); omega)).mono ?_
   rintro e w6 ⟨v6, t6, h6⟩
   have T6 := hd' ((T5.o.trans (WTo.other (Gou.Mod.alloc _ _ _) (.slice (some ⟨gg, 0, none⟩) (bs.length + 1) cp))).trans t6)
   rcases hen : ug4 [ukn a.conf, a.conf.room] with _ | es
   ·rw [hen] at h6
    subst h6
    exact ⟨rfl, v6, T6.o, by have hk := HK.o; simp [ukf, hk, hen]⟩
   rw [hen] at h6
   obtain ⟨rfl, hw6⟩ := h6
   have Hen := hd' hen
   have Hw6 := hd' hw6
   clear hen hw6
   refine hK3 _ _ ?_
   clear hK3 K3
   refine wpAny_done (by kernel_rfl) ?_ _
   go_wp2_with fail
   go_end0
   exact ⟨v6, T6.o, by
    have hk := HK.o
    have hen := Hen.o
    simp [ukf, hk, hen]
    simpa using Hw6.o⟩
  ·refine (Hfl.o _).mono ?_
   rintro e w5 ⟨rfl, hm5⟩
   have hmq : Gou.Mod (fun _ => False) wq w5 := (Gou.Mod.drew _ _).trans' hm5
   have HW5 : Hid (Wr w5 W _ (.slice (some ⟨gg, 0, none⟩) (bs.length + 1) cp)) := hd' (HW4.o.other hmq (fun h => h) (fun _ _ h => h))
   have T5 := hd' (T4.o.trans (WTo.other hmq (.slice (some ⟨gg, 0, none⟩) (bs.length + 1) cp)))
   have q41 : w5.cell? ⟨w.heap.size, 41, none⟩ = some (iV a.conf.room) := (HBd.o.mod hm5 (fun h => h)).cell 41 rfl
   rename_i K1 hK1
   refine hK1 _ _ ?_
   clear hK1 K1
   refine wpAny_ready (rs := [7]) (by kernel_rfl) (by simp) ?_
   refine AllReady.cons rfl (fun K2 hK2 => ?_) AllReady.nil
   go_simp
   refine hK2 _ _ ?_
   clear hK2 K2
   refine wpAny_ready (rs := [8]) (by kernel_rfl) (by simp) ?_
   refine AllReady.cons rfl (fun K3 hK3 => ?_) AllReady.nil
   go_simp
   refine (ukc _ W _ (.slice (some ⟨gg, 0, none⟩) (bs.length + 1) cp) _ [ukn a.conf, a.conf.room] (HW5.o.alloc _) (HW5.o.lit [ukn a.conf, a.conf.room] _ rfl 2 rfl _ (by first | rfl | simp)) (by (try simp only [List.length_append, List.length_cons, List.length_nil] at *); omega)).mono ?_
   rintro e w6 ⟨v6, t6, h6⟩
   have T6 := hd' ((T5.o.trans (WTo.other (Gou.Mod.alloc _ _ _) (.slice (some ⟨gg, 0, none⟩) (bs.length + 1) cp))).trans t6)
   rcases hen : ug4 [ukn a.conf, a.conf.room] with _ | es
   ·rw [hen] at h6
    subst h6
    exact ⟨rfl, v6, T6.o, by have hk := HK.o; simp [ukf, hk, hen]⟩
   rw [hen] at h6
   obtain ⟨rfl, hw6⟩ := h6
   have Hen := hd' hen
   have Hw6 := hd' hw6
   clear hen hw6
   refine hK3 _ _ ?_
   clear hK3 K3
   refine wpAny_done (by kernel_rfl) ?_ _
   go_wp2_with fail
   go_end0
   exact ⟨v6, T6.o, by
    have hk := HK.o
    have hen := Hen.o
    simp [ukf, hk, hen]
    simpa using Hw6.o⟩
  ·refine (Hfl.o _).mono ?_
   rintro e w5 ⟨rfl, hm5⟩
   have hmq : Gou.Mod (fun _ => False) wq w5 := (Gou.Mod.drew _ _).trans' hm5
   have HW5 : Hid (Wr w5 W _ (.slice (some ⟨gg, 0, none⟩) (bs.length + 1) cp)) := hd' (HW4.o.other hmq (fun h => h) (fun _ _ h => h))
   have T5 := hd' (T4.o.trans (WTo.other hmq (.slice (some ⟨gg, 0, none⟩) (bs.length + 1) cp)))
   have q41 : w5.cell? ⟨w.heap.size, 41, none⟩ = some (iV a.conf.room) := (HBd.o.mod hm5 (fun h => h)).cell 41 rfl
   rename_i K1 hK1
   refine hK1 _ _ ?_
   clear hK1 K1
   refine wpAny_ready (rs := [7]) (by kernel_rfl) (by simp) ?_
   refine AllReady.cons rfl (fun K2 hK2 => ?_) AllReady.nil
   go_simp
   refine hK2 _ _ ?_
   clear hK2 K2
   refine wpAny_ready (rs := [8]) (by kernel_rfl) (by simp) ?_
   refine AllReady.cons rfl (fun K3 hK3 => ?_) AllReady.nil
   go_simp
   refine (ukc _ W _ (.slice (some ⟨gg, 0, none⟩) (bs.length + 1) cp) _ [ukn a.conf, a.conf.room] (HW5.o.alloc _) (HW5.o.lit [ukn a.conf, a.conf.room] _ rfl 2 rfl _ (by first | rfl | simp)) (by (try simp only [List.length_append, List.length_cons, List.length_nil] at *); omega)).mono ?_
   rintro e w6 ⟨v6, t6, h6⟩
   have T6 := hd' ((T5.o.trans (WTo.other (Gou.Mod.alloc _ _ _) (.slice (some ⟨gg, 0, none⟩) (bs.length + 1) cp))).trans t6)
   rcases hen : ug4 [ukn a.conf, a.conf.room] with _ | es
   ·rw [hen] at h6
    subst h6
    exact ⟨rfl, v6, T6.o, by have hk := HK.o; simp [ukf, hk, hen]⟩
   rw [hen] at h6
   obtain ⟨rfl, hw6⟩ := h6
   have Hen := hd' hen
   have Hw6 := hd' hw6
   clear hen hw6
   refine hK3 _ _ ?_
   clear hK3 K3
   refine wpAny_done (by kernel_rfl) ?_ _
   go_wp2_with fail
   go_end0
   exact ⟨v6, T6.o, by
    have hk := HK.o
    have hen := Hen.o
    simp [ukf, hk, hen]
    simpa using Hw6.o⟩
 ·have hP := HW0.o.pushes (ys := [13]) rfl HM.o hown4 hgrow4 hat4
  have HW4 : Hid (Wr (w4.setCell ⟨W, 0, none⟩ (.slice (some ⟨gg, 0, none⟩) (bs.length + 1) cp)) W (bs ++ [13]) (.slice (some ⟨gg, 0, none⟩) (bs.length + 1) cp)) := hd' hP.1
  have T4 : Hid (WTo W w (.slice pv bs.length cv) (w4.setCell ⟨W, 0, none⟩ (.slice (some ⟨gg, 0, none⟩) (bs.length + 1) cp)) (.slice (some ⟨gg, 0, none⟩) (bs.length + 1) cp)) := hd' (HT0.o.trans hP.2)
  have HB4 : Hid (Blk (w4.setCell ⟨W, 0, none⟩ (.slice (some ⟨gg, 0, none⟩) (bs.length + 1) cp)) w.heap.size 41 (actC a (.slice p1 a.op.look.content.pix.length k1) (.slice p2 a.op.look.filt.nodes.length k2) (.slice p3 a.op.look.back.nodes.length k3))) := hd' (HB0.o.mod hP.2.mod (fun e => by
   rcases e with e | e
   ·omega
   ·have := Hvs.o _ e; omega))
  have HR4 : Hid (LookR (fun b => b < W) (w4.setCell ⟨W, 0, none⟩ (.slice (some ⟨gg, 0, none⟩) (bs.length + 1) cp)) a.op.look (.slice p1 a.op.look.content.pix.length k1) (.slice p2 a.op.look.filt.nodes.length k2) (.slice p3 a.op.look.back.nodes.length k3)) := hd' (HR0.o.mod (WTo.far hP.2 HW0.o) (fun k _ hG hk => by omega))
  have HS4 : Hid (((w4.setCell ⟨W, 0, none⟩ (.slice (some ⟨gg, 0, none⟩) (bs.length + 1) cp))).heap.size = w4.heap.size) := hd' (by simp)
  have kd : ((w4.setCell ⟨W, 0, none⟩ (.slice (some ⟨gg, 0, none⟩) (bs.length + 1) cp))).cell? ⟨w.heap.size, 0, none⟩ = some (iV (13 : Nat)) := by rw [← HK.o]; exact HB4.o.cell 0 rfl
  have q37 : ((w4.setCell ⟨W, 0, none⟩ (.slice (some ⟨gg, 0, none⟩) (bs.length + 1) cp))).cell? ⟨w.heap.size, 37, none⟩ = some (.bool a.conf.fuse) := HB4.o.cell 37 rfl
  have q38 : ((w4.setCell ⟨W, 0, none⟩ (.slice (some ⟨gg, 0, none⟩) (bs.length + 1) cp))).cell? ⟨w.heap.size, 38, none⟩ = some (.bool a.conf.alias) := HB4.o.cell 38 rfl
  have q39 : ((w4.setCell ⟨W, 0, none⟩ (.slice (some ⟨gg, 0, none⟩) (bs.length + 1) cp))).cell? ⟨w.heap.size, 39, none⟩ = some (.bool a.conf.roi) := HB4.o.cell 39 rfl
  have q40 : ((w4.setCell ⟨W, 0, none⟩ (.slice (some ⟨gg, 0, none⟩) (bs.length + 1) cp))).cell? ⟨w.heap.size, 40, none⟩ = some (.bool a.conf.damage) := HB4.o.cell 40 rfl
  have q41 : ((w4.setCell ⟨W, 0, none⟩ (.slice (some ⟨gg, 0, none⟩) (bs.length + 1) cp))).cell? ⟨w.heap.size, 41, none⟩ = some (iV a.conf.room) := HB4.o.cell 41 rfl
  clear hP hown4 hgrow4 hat4 hlt4 c4 f4 kc cW fW
  go_wp2_with fail
  generalize hW4 : (w4.setCell ⟨W, 0, none⟩ (.slice (some ⟨gg, 0, none⟩) (bs.length + 1) cp)) = wq at *
  clear hW4
  have hBq := Blk.lt HB4.o
  have HBd : Hid (Blk wq.drew w.heap.size 41 (actC a (.slice p1 a.op.look.content.pix.length k1) (.slice p2 a.op.look.filt.nodes.length k2) (.slice p3 a.op.look.back.nodes.length k3))) := hd' (HB4.o.mod (Gou.Mod.drew (fun _ => False) wq) (fun h => h))
  have hfl : ∀ w1 : World, Calls Tryz.prog 54 #[.agg #[.bool a.conf.fuse, .bool a.conf.alias, .bool a.conf.roi, .bool a.conf.damage, iV a.conf.room]] w1 fun e w' => e = .returned (iV (ukn a.conf)) ∧ Gou.Mod (fun _ => False) w1 w' := fun w1 => uo4 w1 a.conf
  have Hfl := hd' hfl
  clear hfl
  go_region_dies
  ·refine (Hfl.o _).mono ?_
   rintro e w5 ⟨rfl, hm5⟩
   have hmq : Gou.Mod (fun _ => False) wq w5 := (Gou.Mod.drew _ _).trans' hm5
   have HW5 : Hid (Wr w5 W _ (.slice (some ⟨gg, 0, none⟩) (bs.length + 1) cp)) := hd' (HW4.o.other hmq (fun h => h) (fun _ _ h => h))
   have T5 := hd' (T4.o.trans (WTo.other hmq (.slice (some ⟨gg, 0, none⟩) (bs.length + 1) cp)))
   have q41 : w5.cell? ⟨w.heap.size, 41, none⟩ = some (iV a.conf.room) := (HBd.o.mod hm5 (fun h => h)).cell 41 rfl
   rename_i K1 hK1
   refine hK1 _ _ ?_
   clear hK1 K1
   refine wpAny_ready (rs := [6]) (by kernel_rfl) (by simp) ?_
   refine AllReady.cons rfl (fun K4 hK4 => ?_) AllReady.nil
   go_simp
   refine hK4 _ _ ?_
   clear hK4 K4
   refine wpAny_ready (rs := [7]) (by kernel_rfl) (by simp) ?_
   refine AllReady.cons rfl (fun K2 hK2 => ?_) AllReady.nil
   go_simp
   refine hK2 _ _ ?_
   clear hK2 K2
   refine wpAny_ready (rs := [8]) (by kernel_rfl) (by simp) ?_
   refine AllReady.cons rfl (fun K3 hK3 => ?_) AllReady.nil
   go_simp
   refine (ukc _ W _ (.slice (some ⟨gg, 0, none⟩) (bs.length + 1) cp) _ [ukn a.conf, a.conf.room] (HW5.o.alloc _) (HW5.o.lit [ukn a.conf, a.conf.room] _ rfl 2 rfl _ (by first | rfl | simp)) (by (try simp only [List.length_append, List.length_cons, List.length_nil] at *); omega)).mono ?_
   rintro e w6 ⟨v6, t6, h6⟩
   have T6 := hd' ((T5.o.trans (WTo.other (Gou.Mod.alloc _ _ _) (.slice (some ⟨gg, 0, none⟩) (bs.length + 1) cp))).trans t6)
   rcases hen : ug4 [ukn a.conf, a.conf.room] with _ | es
   ·rw [hen] at h6
    subst h6
    exact ⟨rfl, v6, T6.o, by have hk := HK.o; simp [ukf, hk, hen]⟩
   rw [hen] at h6
   obtain ⟨rfl, hw6⟩ := h6
   have Hen := hd' hen
   have Hw6 := hd' hw6
   clear hen hw6
   refine hK3 _ _ ?_
   clear hK3 K3
   refine wpAny_done (by kernel_rfl) ?_ _
   go_wp2_with fail
   go_end0
   exact ⟨v6, T6.o, by
    have hk := HK.o
    have hen := Hen.o
    simp [ukf, hk, hen]
    simpa using Hw6.o⟩
  ·refine (Hfl.o _).mono ?_
   rintro e w5 ⟨rfl, hm5⟩
   have hmq : Gou.Mod (fun _ => False) wq w5 := (Gou.Mod.drew _ _).trans' hm5
   have HW5 : Hid (Wr w5 W _ (.slice (some ⟨gg, 0, none⟩) (bs.length + 1) cp)) := hd' (HW4.o.other hmq (fun h => h) (fun _ _ h => h))
   have T5 := hd' (T4.o.trans (WTo.other hmq (.slice (some ⟨gg, 0, none⟩) (bs.length + 1) cp)))
   have q41 : w5.cell? ⟨w.heap.size, 41, none⟩ = some (iV a.conf.room) := (HBd.o.mod hm5 (fun h => h)).cell 41 rfl
   rename_i K1 hK1
   refine hK1 _ _ ?_
   clear hK1 K1
   refine wpAny_ready (rs := [7]) (by kernel_rfl) (by simp) ?_
   refine AllReady.cons rfl (fun K2 hK2 => ?_) AllReady.nil
   go_simp
   refine hK2 _ _ ?_
   clear hK2 K2
   refine wpAny_ready (rs := [8]) (by kernel_rfl) (by simp) ?_
   refine AllReady.cons rfl (fun K3 hK3 => ?_) AllReady.nil
   go_simp
   refine (ukc _ W _ (.slice (some ⟨gg, 0, none⟩) (bs.length + 1) cp) _ [ukn a.conf, a.conf.room] (HW5.o.alloc _) (HW5.o.lit [ukn a.conf, a.conf.room] _ rfl 2 rfl _ (by first | rfl | simp)) (by (try simp only [List.length_append, List.length_cons, List.length_nil] at *); omega)).mono ?_
   rintro e w6 ⟨v6, t6, h6⟩
   have T6 := hd' ((T5.o.trans (WTo.other (Gou.Mod.alloc _ _ _) (.slice (some ⟨gg, 0, none⟩) (bs.length + 1) cp))).trans t6)
   rcases hen : ug4 [ukn a.conf, a.conf.room] with _ | es
   ·rw [hen] at h6
    subst h6
    exact ⟨rfl, v6, T6.o, by have hk := HK.o; simp [ukf, hk, hen]⟩
   rw [hen] at h6
   obtain ⟨rfl, hw6⟩ := h6
   have Hen := hd' hen
   have Hw6 := hd' hw6
   clear hen hw6
   refine hK3 _ _ ?_
   clear hK3 K3
   refine wpAny_done (by kernel_rfl) ?_ _
   go_wp2_with fail
   go_end0
   exact ⟨v6, T6.o, by
    have hk := HK.o
    have hen := Hen.o
    simp [ukf, hk, hen]
    simpa using Hw6.o⟩
  ·refine (Hfl.o _).mono ?_
   rintro e w5 ⟨rfl, hm5⟩
   have hmq : Gou.Mod (fun _ => False) wq w5 := (Gou.Mod.drew _ _).trans' hm5
   have HW5 : Hid (Wr w5 W _ (.slice (some ⟨gg, 0, none⟩) (bs.length + 1) cp)) := hd' (HW4.o.other hmq (fun h => h) (fun _ _ h => h))
   have T5 := hd' (T4.o.trans (WTo.other hmq (.slice (some ⟨gg, 0, none⟩) (bs.length + 1) cp)))
   have q41 : w5.cell? ⟨w.heap.size, 41, none⟩ = some (iV a.conf.room) := (HBd.o.mod hm5 (fun h => h)).cell 41 rfl
   rename_i K1 hK1
   refine hK1 _ _ ?_
   clear hK1 K1
   refine wpAny_ready (rs := [7]) (by kernel_rfl) (by simp) ?_
   refine AllReady.cons rfl (fun K2 hK2 => ?_) AllReady.nil
   go_simp
   refine hK2 _ _ ?_
   clear hK2 K2
   refine wpAny_ready (rs := [8]) (by kernel_rfl) (by simp) ?_
   refine AllReady.cons rfl (fun K3 hK3 => ?_) AllReady.nil
   go_simp
   refine (ukc _ W _ (.slice (some ⟨gg, 0, none⟩) (bs.length + 1) cp) _ [ukn a.conf, a.conf.room] (HW5.o.alloc _) (HW5.o.lit [ukn a.conf, a.conf.room] _ rfl 2 rfl _ (by first | rfl | simp)) (by (try simp only [List.length_append, List.length_cons, List.length_nil] at *); omega)).mono ?_
   rintro e w6 ⟨v6, t6, h6⟩
   have T6 := hd' ((T5.o.trans (WTo.other (Gou.Mod.alloc _ _ _) (.slice (some ⟨gg, 0, none⟩) (bs.length + 1) cp))).trans t6)
   rcases hen : ug4 [ukn a.conf, a.conf.room] with _ | es
   ·rw [hen] at h6
    subst h6
    exact ⟨rfl, v6, T6.o, by have hk := HK.o; simp [ukf, hk, hen]⟩
   rw [hen] at h6
   obtain ⟨rfl, hw6⟩ := h6
   have Hen := hd' hen
   have Hw6 := hd' hw6
   clear hen hw6
   refine hK3 _ _ ?_
   clear hK3 K3
   refine wpAny_done (by kernel_rfl) ?_ _
   go_wp2_with fail
   go_end0
   exact ⟨v6, T6.o, by
    have hk := HK.o
    have hen := Hen.o
    simp [ukf, hk, hen]
    simpa using Hw6.o⟩
theorem wact_any (w : World) (W : Nat) (bs : List Nat) (vs : Value) (p1 : Option Addr) (k1 : Nat) (p2 : Option Addr) (k2 : Nat) (p3 : Option Addr) (k3 : Nat) (a : Ac) (h : Wr w W bs vs) (hx : LookR (fun b => b < W) w a.op.look (.slice p1 a.op.look.content.pix.length k1) (.slice p2 a.op.look.filt.nodes.length k2) (.slice p3 a.op.look.back.nodes.length k3)) (hl : bs.length ≤ 600000000) :
  Calls Tryz.prog 30 #[.pointer (some ⟨W, 0, none⟩), .agg (actC a (.slice p1 a.op.look.content.pix.length k1) (.slice p2 a.op.look.filt.nodes.length k2) (.slice p3 a.op.look.back.nodes.length k3))] w (WrP w W bs vs (ukf a)) := by
 by_cases hb : 1 ≤ a.kind ∧ a.kind ≤ 14
 ·obtain ⟨K, hK⟩ : ∃ K : Nat, a.kind = (K : Nat) := ⟨a.kind.toNat, by omega⟩
  by_cases h12 : K = 12
  ·subst h12; exact wact_12 w W bs vs p1 k1 p2 k2 p3 k3 a hK h hx hl
  by_cases h13 : K = 13
  ·subst h13; exact wact_13 w W bs vs p1 k1 p2 k2 p3 k3 a hK h hx hl
  by_cases h14 : K = 14
  ·subst h14; exact wact_14 w W bs vs p1 k1 p2 k2 p3 k3 a hK h hx hl
  exact wact_0 w W bs vs p1 k1 p2 k2 p3 k3 a K ⟨by omega, by omega⟩ hK h hx hl
 ·exact wact_bad w W bs vs p1 k1 p2 k2 p3 k3 a hb h hx hl
end Go.Proofs.YtgolafbneiffpaaGreatDoor
namespace Go.Gou
open Go.RowKit
theorem uci {α : Type} [DecidableEq α] {xs ys : List α} {i : Nat} (hx : i < xs.length) (hy : i < ys.length) (h : xs.take i = ys.take i) (he : xs[i] = ys[i]) : xs.take (i + 1) = ys.take (i + 1) := by
 rw [List.take_add_one, List.take_add_one, h, lgE hx, lgE hy, he]
theorem uet {α : Type} {xs ys : List α} {i : Nat} (hx : i < xs.length) (hy : i < ys.length) (he : xs[i] ≠ ys[i]) : xs ≠ ys := fun h => by subst h; exact he rfl
end Go.Gou
namespace Go.Proofs.YtgolafbneiffpaaGreatDoor
open Go.RowKit Go.Gou
set_option maxRecDepth 100000 in
theorem urk (w : World) (G1 G2 : Nat → Prop) (p1 p2 : Option Addr) (c1 c2 : Nat) (xs ys : List Int) (hx : IntsR G1 w (.slice p1 xs.length c1) xs) (hy : IntsR G2 w (.slice p2 ys.length c2) ys) (hl : xs.length ≤ 1000000000) (hl2 : ys.length ≤ 1000000000) :
  Calls Tryz.prog 146 #[.slice p1 xs.length c1, .slice p2 ys.length c2] w fun e w' => e = .returned (.bool (decide (xs = ys))) ∧ Gou.Mod (fun _ => False) w w' := by
 have Hx := hd' hx
 have Hy := hd' hy
 clear hx hy
 go_enter Tryz.func146, Tryz.ntmps146
 by_cases hlen : xs.length = ys.length
 ·have e1 : ((xs.length : Int) != (ys.length : Int)) = false := by simp [hlen]
  have Hlen := hd' hlen
  clear hlen
  go_wp2_with fail
  go_loopw [13] (fun c wr => ∃ i : Nat, c = iV i ∧ i ≤ xs.length ∧ xs.take i = ys.take i ∧ Gou.Mod (fun _ => False) w wr) (fun c _ => xs.length - (intOf c).toNat)
  case atStart => exact ⟨0, rfl, by omega, by simp, Gou.Mod.refl _ _⟩
  case round =>
   obtain ⟨i, rfl, hi, ht, hm⟩ := hrel
   have Ht := hd' ht
   have Hm := hd' hm
   clear ht hm
   by_cases hil : i < xs.length
   ·have e2 : decide ((i : Int) < (xs.length : Int)) = true := by simp; omega
    have hil2 : i < ys.length := by have := Hlen.o; omega
    obtain ⟨-, b1, o1, rfl, hb1, -, hc1⟩ := Hx.o.cells (by omega)
    obtain ⟨-, b2, o2, rfl, hb2, -, hc2⟩ := Hy.o.cells (by omega)
    have k1 := hc1 i hil
    have k2 := hc2 i hil2
    rw [← Hm.o.cell (p := ⟨b1, o1 + i, none⟩) hb1 (fun h => h)] at k1
    rw [← Hm.o.cell (p := ⟨b2, o2 + i, none⟩) hb2 (fun h => h)] at k2
    have hx1 : xs.getD i 0 = xs[i] := by simp [List.getD, hil]
    have hy1 : ys.getD i 0 = ys[i] := by simp [List.getD, hil2]
    rw [hx1] at k1
    rw [hy1] at k2
    have hiI : (i : Int) < (xs.length : Int) := by omega
    have hiJ : (i : Int) < (ys.length : Int) := by omega
    have hi0I : (0 : Int) ≤ (i : Int) := by omega
    have Hne := hd' (fun he => uet (i := i) hil hil2 he : xs[i] ≠ ys[i] → xs ≠ ys)
    have Heq := hd' (fun he => uci hil hil2 Ht.o he : xs[i] = ys[i] → xs.take (i + 1) = ys.take (i + 1))
    clear hc1 hc2 hx1 hy1
    generalize xs[i] = x at *
    generalize ys[i] = y at *
    by_cases hxy : x = y
    ·have e3 : (x != y) = false := by simp [hxy]
     have Hs := hd' (Heq.o hxy)
     clear hxy
     go_wp2_with fail
     go_quiet (fail)
     go_wp2_with fail
     go_roundw
     case rel => exact ⟨i + 1, by go_num, by omega, Hs.o, Hm.o.trans' (Gou.Mod.drewN _ _ _)⟩
     case measure => simp [intOf]; omega
    ·have e3 : (x != y) = true := by simp [hxy]
     have Hs := hd' (Hne.o hxy)
     clear hxy
     go_wp2_with fail
     go_quiet (fail)
     go_wp2_with fail
     go_ret
     exact ⟨by simp [Hs.o], Hm.o.trans' (Gou.Mod.drewN _ _ _)⟩
   ·obtain rfl : i = xs.length := by omega
    have e2 : decide ((xs.length : Int) < (xs.length : Int)) = false := by simp
    have Hs : Hid (xs = ys) := hd' (by
     have h1 := Ht.o
     rw [List.take_length, Hlen.o, List.take_length] at h1
     exact h1)
    go_wp2_with fail
    go_ret
    exact ⟨by simp [Hs.o], Hm.o⟩
 ·have e1 : ((xs.length : Int) != (ys.length : Int)) = true := by simp; omega
  have Hs : Hid (xs ≠ ys) := hd' (fun h => hlen (by rw [h]))
  clear hlen
  go_wp2_with fail
  go_ret
  exact ⟨by simp [Hs.o], Gou.Mod.refl _ _⟩
end Go.Proofs.YtgolafbneiffpaaGreatDoor
namespace Go.Gou
open Go.RowKit
def Sits (es bs : List Nat) (n : Nat) : Prop := ∃ rest, bs.drop n = es ++ rest
theorem Sits.nil (bs : List Nat) (n : Nat) : Sits [] bs n := ⟨_, rfl⟩
theorem Sits.append {a b bs : List Nat} {n : Nat} : Sits (a ++ b) bs n ↔ Sits a bs n ∧ Sits b bs (n + a.length) := by
 constructor
 ·rintro ⟨r, h⟩
  refine ⟨⟨b ++ r, by rw [h, List.append_assoc]⟩, ⟨r, ?_⟩⟩
  rw [← List.drop_drop, h, List.append_assoc, List.drop_left]
 ·rintro ⟨⟨r, h⟩, ⟨q, k⟩⟩
  refine ⟨q, ?_⟩
  rw [← List.drop_drop, h, List.drop_left] at k
  rw [h, k, List.append_assoc]
theorem Sits.cons {x : Nat} {b bs : List Nat} {n : Nat} : Sits (x :: b) bs n ↔ bs[n]? = some x ∧ Sits b bs (n + 1) := by
 have h := Sits.append (a := [x]) (b := b) (bs := bs) (n := n)
 rw [List.singleton_append] at h
 rw [h]
 refine and_congr_left fun _ => ?_
 constructor
 ·rintro ⟨r, h⟩
  have := congrArg (fun l => l[0]?) h
  simpa [List.getElem?_drop] using this
 ·intro h
  obtain ⟨hn, e⟩ := lgS.1 h
  exact ⟨bs.drop (n + 1), by rw [List.drop_eq_getElem_cons hn, e]; rfl⟩
theorem Sits.le {es bs : List Nat} {n : Nat} (h : Sits es bs n) : es.length ≤ bs.length - n := by
 obtain ⟨r, h⟩ := h
 have := congrArg List.length h
 simp only [List.length_drop, List.length_append] at this
 omega
theorem Sits.self (es : List Nat) : Sits es es 0 := ⟨[], by simp⟩
theorem Sits.take {es bs : List Nat} {n k : Nat} : Sits es (bs.take k) n ↔ Sits es bs n ∧ (es = [] ∨ n + es.length ≤ k) := by
 constructor
 ·rintro ⟨r, h⟩
  have hl := Sits.le ⟨r, h⟩
  rw [List.length_take] at hl
  refine ⟨⟨r ++ (bs.drop n).drop (k - n), ?_⟩, ?_⟩
  ·rw [← List.append_assoc, ← h, List.drop_take]
   exact (List.take_append_drop _ _).symm
  ·rcases es with _ | ⟨e, es⟩
   ·exact .inl rfl
   ·right
    simp only [List.length_cons] at hl ⊢
    omega
 ·rintro ⟨⟨r, h⟩, rfl | hk⟩
  ·exact Sits.nil _ _
  ·refine ⟨r.take (k - n - es.length), ?_⟩
   rw [List.drop_take, h, List.take_append, List.take_of_length_le (by omega)]
def Spec {α : Type} (bs : List Nat) (P : Nat → Option (α × Nat)) (G : α → List Nat → Prop) : Prop := ∀ n x m, P n = some (x, m) ↔ ∃ es, G x es ∧ Sits es bs n ∧ m = n + es.length
def ula {α β : Type} (G : α → List Nat → Prop) (H : α → β → List Nat → Prop) : β → List Nat → Prop := fun y es => ∃ x e1 e2, G x e1 ∧ H x y e2 ∧ es = e1 ++ e2
def ulk {α : Type} (x : α) : α → List Nat → Prop := fun y es => y = x ∧ es = []
def GNone {α : Type} : α → List Nat → Prop := fun _ _ => False
def GIte {α : Type} (c : Prop) (G H : α → List Nat → Prop) : α → List Nat → Prop := fun y es => (c ∧ G y es) ∨ (¬ c ∧ H y es)
theorem Spec.bind {α β : Type} {bs : List Nat} {P : Nat → Option (α × Nat)} {G : α → List Nat → Prop} {Q : α × Nat → Option (β × Nat)} {H : α → β → List Nat → Prop} (h1 : Spec bs P G) (h2 : ∀ x, Spec bs (fun n => Q (x, n)) (H x)) :
  Spec bs (fun n => (P n).bind Q) (ula G H) := by
 intro n y m
 constructor
 ·intro h
  obtain ⟨⟨x, q⟩, hp, hq⟩ := Option.bind_eq_some_iff.1 h
  obtain ⟨e1, g1, s1, rfl⟩ := (h1 n x q).1 hp
  obtain ⟨e2, g2, s2, rfl⟩ := (h2 x _ y m).1 hq
  exact ⟨e1 ++ e2, ⟨x, e1, e2, g1, g2, rfl⟩, Sits.append.2 ⟨s1, s2⟩, by rw [List.length_append]; omega⟩
 ·rintro ⟨es, ⟨x, e1, e2, g1, g2, rfl⟩, s, rfl⟩
  obtain ⟨s1, s2⟩ := Sits.append.1 s
  refine Option.bind_eq_some_iff.2 ⟨(x, n + e1.length), (h1 _ _ _).2 ⟨e1, g1, s1, rfl⟩, (h2 x _ y _).2 ⟨e2, g2, s2, by rw [List.length_append]; omega⟩⟩
theorem Spec.then {α β : Type} {bs : List Nat} {P : Nat → Option (α × Nat)} {G : α → List Nat → Prop} {Q : α → Nat → Option (β × Nat)} {H : α → β → List Nat → Prop} (h1 : Spec bs P G) (h2 : ∀ x, Spec bs (Q x) (H x)) :
 Spec bs (fun n => (P n).bind fun p => Q p.1 p.2) (ula G H) := h1.bind h2
theorem Spec.pure {α : Type} {bs : List Nat} (x : α) : Spec bs (fun n => some (x, n)) (ulk x) := by
 intro n y m
 constructor
 ·intro h
  simp only [Option.some.injEq, Prod.mk.injEq] at h
  obtain ⟨rfl, rfl⟩ := h
  exact ⟨[], ⟨rfl, rfl⟩, Sits.nil _ _, rfl⟩
 ·rintro ⟨es, ⟨rfl, rfl⟩, _, rfl⟩
  rfl
theorem Spec.none {α : Type} {bs : List Nat} : Spec (α := α) bs (fun _ => none) GNone := by
 intro n y m
 constructor
 ·intro h; cases h
 ·rintro ⟨_, h, _⟩; exact h.elim
theorem Spec.ite {α : Type} {bs : List Nat} {c : Prop} [Decidable c] {P Q : Nat → Option (α × Nat)} {G H : α → List Nat → Prop} (h1 : c → Spec bs P G) (h2 : ¬ c → Spec bs Q H) : Spec bs (fun n => if c then P n else Q n) (GIte c G H) := by
 intro n y m
 by_cases hc : c
 ·simp only [if_pos hc, GIte, hc, true_and, not_true_eq_false, false_and, or_false]
  exact h1 hc n y m
 ·simp only [if_neg hc, GIte, hc, not_false_eq_true, true_and, false_and, false_or]
  exact h2 hc n y m
theorem Spec.imp {α : Type} {bs : List Nat} {P P' : Nat → Option (α × Nat)} {G : α → List Nat → Prop} (h : Spec bs P G) (e : ∀ n, P' n = P n) : Spec bs P' G := fun n x m => by rw [e n]; exact h n x m
def InR (x : Int) : Prop := -2147483648 ≤ x ∧ x < 2147483648
def numG (x : Int) (es : List Nat) : Prop := InR x ∧ es = ul1 x
def rawG (x : Nat) (es : List Nat) : Prop := x < 256 ∧ es = [x]
def umh {α : Type} (G : α → List Nat → Prop) : Nat → List α → List Nat → Prop
 | 0 => ulk []
 | k + 1 => ula (umh G k) fun xs => ula G fun x => ulk (xs ++ [x])
def urn (lo hi : Int) (x : Int) (es : List Nat) : Prop := numG x es ∧ lo ≤ x ∧ x ≤ hi
def uwa (f : Bool) (es : List Nat) : Prop := es = [if f then 2 else 0]
def idG : Int × Int → List Nat → Prop := ula numG fun a => ula numG fun g => ulk (a, g)
def uoi : List Nat → List Nat → Prop := umh rawG 4
def boxG : List Int → List Nat → Prop := umh numG 4
def listG : List Int → List Nat → Prop := ula (urn 0 100) fun n => umh numG n.toNat
def confG : Cf → List Nat → Prop := ula (urn 0 15) fun n => ula numG fun r => ulk ⟨decide (n % 2 = 1), decide (n / 2 % 2 = 1), decide (n / 4 % 2 = 1), decide (n / 8 % 2 = 1), r⟩
def nodeG : ubb → List Nat → Prop := ula numG fun o => ula listG fun i => ula listG fun p => ulk ⟨o, i, p⟩
def uqa : Gr → List Nat → Prop := ula numG fun o => ula (urn 0 1000) fun k => ula (umh nodeG k.toNat) fun ns => ulk ⟨ns, o⟩
def ur7 : Ct → List Nat → Prop := ula numG fun k =>
 GIte (k = 1) (ula boxG fun b => ula uoi fun p => ulk ⟨1, Rc.of b, Pxl.of p, 0, 0, 0, []⟩)
 (GIte (k = 2) (ula numG fun x => ula numG fun y => ula numG fun w => ula numG fun h => ula numG fun t => ula (umh uoi (ukz w h)) fun ps => ulk ⟨2, ⟨x, y, 0, 0⟩, Pxl.zero, w, h, t, ps.map Pxl.of⟩)
 (ulk ⟨k, Rc.zero, Pxl.zero, 0, 0, 0, []⟩))
def usy (k : Int) : Lk → List Nat → Prop :=
 GIte (k = 5) (ula numG fun x => ula numG fun y => ulk { Lk.zero with dx := x, dy := y })
 (GIte (k = 6) (ula uwa fun f => GIte (f = true) (ula boxG fun b => ulk { Lk.zero with hasClip := true, clip := Rc.of b }) (ulk Lk.zero))
 (GIte (k = 7) (ula numG fun x => ulk { Lk.zero with opacity := x })
 (GIte (k = 8) (ula numG fun x => ulk { Lk.zero with mode := x })
 (GIte (k = 9) (ula ur7 fun c => ulk { Lk.zero with content := c })
 (GIte (k = 10) (ula uwa fun f => GIte (f = true) (ula uqa fun b => ulk { Lk.zero with hasFilt := true, filt := b }) (ulk Lk.zero))
 (GIte (k = 11) (ula uwa fun f => GIte (f = true) (ula uqa fun b => ulk { Lk.zero with hasBack := true, back := b }) (ulk Lk.zero))
 (ulk Lk.zero)))))))
def oprG (k : Int) : Opr → List Nat → Prop :=
 ula (GIte (k = 1) (ulk (0, 0)) idG) fun i => ula (GIte (k = 1 ∨ k = 3) idG (ulk (0, 0))) fun t => ula (GIte (k = 1 ∨ k = 3 ∨ k = 4) numG (ulk 0)) fun a => ula (usy k) fun l => ulk ⟨k, i, t, a, l⟩
def actG : Ac → List Nat → Prop := ula rawG fun b =>
 GIte (1 ≤ b ∧ b ≤ 14)
     (GIte (b = 12) (ula numG fun x => ula numG fun y => ulk ⟨12, Opr.zero, x, y, Cf.zero⟩)
     (GIte (b = 13) (ula confG fun c => ulk ⟨13, Opr.zero, 0, 0, c⟩)
     (GIte (b = 14) (ulk ⟨14, Opr.zero, 0, 0, Cf.zero⟩)
     (ula (oprG b) fun o => ulk ⟨b, o, 0, 0, Cf.zero⟩))))
 GNone
theorem uwe (m : Nat) : ∀ b ∈ encM m, b < 256 := by
 induction m using Nat.strongRecOn with
 | ind m ih =>
  by_cases h : m < 128
  ·rw [uk8 h]; simp; omega
  ·rw [umi h]
   intro b hb
   rcases List.mem_cons.1 hb with rfl | hb
   ·omega
   ·exact ih _ (by omega) b hb
theorem uvy {x : Int} (h : InR x) : unf (zig x) = x := by
 unfold InR at h
 unfold unf zig
 split <;> split <;> omega
theorem uvq (m : Nat) : zig (unf m) = m := by
 unfold unf zig
 split <;> split <;> omega
theorem numVal_in {m : Nat} (h : m < 4294967296) : InR (unf m) := by
 unfold InR unf
 split <;> omega
theorem zig_lt' {x : Int} (h : InR x) : zig x < 4294967296 := by
 unfold InR at h
 unfold zig
 split <;> omega
theorem numGo_iff (bs : List Nat) (hb : ∀ b ∈ bs, b < 256) (f : Nat) : ∀ (k n m : Nat), f + k = 5 → m < 2 ^ (7 * k) → ∀ (x : Int) (q : Nat), uo6 bs f n m (7 * k) = some (x, q) ↔ ∃ M, m + M * 2 ^ (7 * k) < 4294967296 ∧ x = unf (m + M * 2 ^ (7 * k)) ∧ (k = 0 ∨ M ≠ 0) ∧ Sits (encM M) bs n ∧ q = n + (encM M).length := by
 induction f with
 | zero =>
  intro k n m hk hm x q
  obtain rfl : k = 5 := by omega
  rw [uo6]
  constructor
  ·intro h; cases h
  ·rintro ⟨M, h1, _, h2, _⟩
   have : (2 : Nat) ^ (7 * 5) = 34359738368 := rfl
   rw [this] at h1
   rcases h2 with h2 | h2
   ·omega
   ·have : 1 * 34359738368 ≤ M * 34359738368 := Nat.mul_le_mul_right _ (by omega)
    omega
 | succ f ih =>
  intro k n m hk hm x q
  rw [uo6]
  have hp : (2 : Nat) ^ (7 * (k + 1)) = 128 * 2 ^ (7 * k) := by rw [Nat.mul_add, Nat.pow_add, Nat.mul_comm]
  have hpos : 0 < (2 : Nat) ^ (7 * k) := Nat.pow_pos (by decide)
  by_cases hn : n < bs.length
  ·rw [dif_pos hn]
   have hbn := hb _ (lgM hn)
   have hgn : bs[n]? = some bs[n] := lgE hn
   generalize bs[n] = c at *
   by_cases hc : 128 ≤ c
   ·rw [if_pos hc]
    by_cases hs : 7 * k + 7 < 35
    ·rw [if_pos hs]
     have hm2 : m + c % 128 * 2 ^ (7 * k) < 2 ^ (7 * (k + 1)) := by
      rw [hp]
      have : c % 128 * 2 ^ (7 * k) ≤ 127 * 2 ^ (7 * k) := Nat.mul_le_mul_right _ (by omega)
      generalize (2 : Nat) ^ (7 * k) = p at *
      omega
     have := ih (k + 1) (n + 1) (m + c % 128 * 2 ^ (7 * k)) (by omega) hm2 x q
     rw [Nat.mul_add, Nat.mul_one] at this
     rw [this]
     have key : ∀ M, m + c % 128 * 2 ^ (7 * k) + M * 2 ^ (7 * k + 7) = m + (c % 128 + 128 * M) * 2 ^ (7 * k) := by
      intro M
      rw [Nat.pow_add, Nat.add_mul, Nat.add_assoc]
      congr 2
      rw [Nat.mul_comm 128 M, Nat.mul_assoc, Nat.mul_comm (2 ^ (7 * k))]
     constructor
     ·rintro ⟨M, h1, h2, h3, h4, h5⟩
      refine ⟨c % 128 + 128 * M, ?_, ?_, ?_, ?_, ?_⟩
      ·rw [← key]; exact h1
      ·rw [← key]; exact h2
      ·right; rcases h3 with h3 | h3 <;> omega
      ·rw [umi (by rcases h3 with h3 | h3 <;> omega), Sits.cons]
       refine ⟨by rw [hgn]; congr 1; omega, ?_⟩
       have : (c % 128 + 128 * M) / 128 = M := by omega
       rw [this]; exact h4
      ·rw [umi (by rcases h3 with h3 | h3 <;> omega)]
       have : (c % 128 + 128 * M) / 128 = M := by omega
       rw [this, List.length_cons]; omega
     ·rintro ⟨M, h1, h2, h3, h4, h5⟩
      by_cases hM : M < 128
      ·rw [uk8 hM, Sits.cons, hgn] at h4
       simp only [Option.some.injEq] at h4
       omega
      ·rw [umi hM, Sits.cons, hgn] at h4
       rw [umi hM] at h5
       simp only [Option.some.injEq] at h4
       have hcM : c % 128 + 128 * (M / 128) = M := by omega
       refine ⟨M / 128, ?_, ?_, .inr (by omega), h4.2, by rw [h5, List.length_cons]; omega⟩
       ·rw [key, hcM]; exact h1
       ·rw [key, hcM]; exact h2
    ·rw [if_neg hs]
     constructor
     ·intro h; cases h
     ·rintro ⟨M, h1, h2, h3, h4, h5⟩
      obtain rfl : k = 4 := by omega
      by_cases hM : M < 128
      ·rw [uk8 hM, Sits.cons, hgn] at h4
       simp only [Option.some.injEq] at h4
       omega
      ·have : (2 : Nat) ^ (7 * 4) = 268435456 := rfl
       rw [this] at h1
       have : 128 * 268435456 ≤ M * 268435456 := Nat.mul_le_mul_right _ (by omega)
       omega
   ·rw [if_neg hc]
    have hcm : c % 128 = c := by omega
    rw [hcm]
    constructor
    ·intro h
     split at h
     ·rename_i hh
      simp only [Option.some.injEq, Prod.mk.injEq] at h
      obtain ⟨rfl, rfl⟩ := h
      refine ⟨c, hh.1, rfl, ?_, ?_, ?_⟩
      ·rcases hh.2 with h | h
       ·exact .inr h
       ·left; omega
      ·rw [uk8 (by omega), Sits.cons]; exact ⟨hgn, Sits.nil _ _⟩
      ·rw [uk8 (by omega)]; rfl
     ·cases h
    ·rintro ⟨M, h1, h2, h3, h4, h5⟩
     by_cases hM : M < 128
     ·rw [uk8 hM, Sits.cons, hgn] at h4
      simp only [Option.some.injEq] at h4
      obtain ⟨rfl, _⟩ := h4
      rw [uk8 hM] at h5
      rw [if_pos ⟨h1, h3.elim (fun h3 => .inr (by omega)) .inl⟩, h2, h5]
      rfl
     ·rw [umi hM, Sits.cons, hgn] at h4
      simp only [Option.some.injEq] at h4
      omega
  ·rw [dif_neg hn]
   constructor
   ·intro h; cases h
   ·rintro ⟨M, h1, h2, h3, h4, h5⟩
    have hl := Sits.le h4
    have : 0 < (encM M).length := by
     by_cases hM : M < 128
     ·rw [uk8 hM]; simp
     ·rw [umi hM]; simp
    omega
theorem uk0 {bs : List Nat} (hb : ∀ b ∈ bs, b < 256) : Spec bs (ukw bs) numG := by
 intro n x m
 have h := numGo_iff bs hb 5 0 n 0 rfl (by simp) x m
 unfold ukw
 rw [show (7 * 0 : Nat) = 0 from rfl] at h
 rw [h]
 constructor
 ·rintro ⟨M, h1, h2, _, h4, h5⟩
  simp only [Nat.zero_add, Nat.pow_zero, Nat.mul_one] at h1 h2
  subst h2
  exact ⟨encM M, ⟨numVal_in h1, by rw [ul1, uvq]⟩, h4, h5⟩
 ·rintro ⟨es, ⟨hx, rfl⟩, h4, h5⟩
  refine ⟨zig x, ?_, ?_, .inl rfl, h4, h5⟩
  ·simp only [Nat.zero_add, Nat.pow_zero, Nat.mul_one]; exact zig_lt' hx
  ·simp only [Nat.zero_add, Nat.pow_zero, Nat.mul_one]; exact (uvy hx).symm
theorem uuy {bs : List Nat} (hb : ∀ b ∈ bs, b < 256) : Spec bs (umr bs) rawG := by
 intro n x m
 unfold umr
 constructor
 ·intro h
  split at h
  ·rename_i hn
   simp only [Option.some.injEq, Prod.mk.injEq] at h
   obtain ⟨rfl, rfl⟩ := h
   exact ⟨_, ⟨hb _ (lgM hn), rfl⟩, Sits.cons.2 ⟨lgE hn, Sits.nil _ _⟩, rfl⟩
  ·cases h
 ·rintro ⟨es, ⟨hx, rfl⟩, hs, rfl⟩
  obtain ⟨h1, _⟩ := Sits.cons.1 hs
  obtain ⟨hn, e⟩ := lgS.1 h1
  rw [dif_pos hn, e]
  rfl
theorem umn {α : Type} {bs : List Nat} {P : Nat → Option (α × Nat)} {G : α → List Nat → Prop} (h : Spec bs P G) (k : Nat) : Spec bs (fun n => ukh P n k) (umh G k) := by
 induction k with
 | zero => exact Spec.pure _
 | succ k ih =>
  have hs : Spec bs (fun n => (ukh P n k).bind fun p => (P p.2).bind fun q => some (p.1 ++ [q.1], q.2)) (ula (umh G k) fun xs => ula G fun x => ulk (xs ++ [x])) := by
   have := ih.then fun xs => h.then fun x => Spec.pure (xs ++ [x])
   exact this
  refine hs.imp fun n => ?_
  rw [ukh]
  rcases ukh P n k with _ | ⟨xs, m⟩
  ·rfl
  ·show (match P m with | some (x, q) => some (xs ++ [x], q) | none => none) = (P m).bind _
   rcases P m with _ | ⟨x, q⟩ <;> rfl
theorem ume {bs : List Nat} (hb : ∀ b ∈ bs, b < 256) (lo hi : Int) : Spec bs (fun n => uks bs n lo hi) (urn lo hi) := by
 intro n x m
 change uks bs n lo hi = some (x, m) ↔ _
 unfold uks
 constructor
 ·intro h
  split at h
  ·rename_i y q hy
   split at h
   ·rename_i hc
    simp only [Option.some.injEq, Prod.mk.injEq] at h
    obtain ⟨rfl, rfl⟩ := h
    obtain ⟨es, g, s, e⟩ := (uk0 hb _ _ _).1 hy
    exact ⟨es, ⟨g, hc⟩, s, e⟩
   ·cases h
  ·cases h
 ·rintro ⟨es, ⟨g, hc⟩, s, e⟩
  have := (uk0 hb n x m).2 ⟨es, g, s, e⟩
  rw [this]
  simp only
  rw [if_pos hc]
theorem uqd {bs : List Nat} (hb : ∀ b ∈ bs, b < 256) : Spec bs (umw bs) uwa := by
 intro n x m
 unfold umw
 constructor
 ·intro h
  split at h
  ·rename_i y q hy
   simp only [Option.some.injEq, Prod.mk.injEq] at h
   obtain ⟨rfl, rfl⟩ := h
   obtain ⟨es, ⟨⟨_, rfl⟩, h0, h1⟩, s, e⟩ := (ume hb 0 1 _ _ _).1 hy
   have : y = 0 ∨ y = 1 := by omega
   refine ⟨_, rfl, ?_⟩
   rcases this with rfl | rfl
   ·have he : ul1 0 = [0] := uk8 (by decide)
    rw [he] at s e
    exact ⟨s, e⟩
   ·have he : ul1 1 = [2] := uk8 (by decide)
    rw [he] at s e
    exact ⟨s, e⟩
  ·cases h
 ·rintro ⟨es, rfl, s, e⟩
  cases x
  ·have : uks bs n 0 1 = some (0, m) := (ume hb 0 1 n 0 m).2 ⟨[0], ⟨⟨⟨by decide, by decide⟩, (uk8 (by decide)).symm⟩, by decide, by decide⟩, s, e⟩
   rw [this]; rfl
  ·have : uks bs n 0 1 = some (1, m) := (ume hb 0 1 n 1 m).2 ⟨[2], ⟨⟨⟨by decide, by decide⟩, (uk8 (by decide)).symm⟩, by decide, by decide⟩, s, e⟩
   rw [this]; rfl
theorem id_spec {bs : List Nat} (hb : ∀ b ∈ bs, b < 256) : Spec bs (idAt bs) idG := by
 have hs := (uk0 hb).then fun a => (uk0 hb).then fun g => Spec.pure (a, g)
 refine Spec.imp (P := fun n => (ukw bs n).bind fun p => (ukw bs p.2).bind fun q => some ((p.1, q.1), q.2)) hs fun n => ?_
 unfold idAt
 rcases ukw bs n with _ | ⟨a, m⟩
 ·rfl
 ·show (match ukw bs m with | some (g, q) => some ((a, g), q) | none => none) = (ukw bs m).bind _
  rcases ukw bs m with _ | ⟨g, q⟩ <;> rfl
theorem uo5 {bs : List Nat} (hb : ∀ b ∈ bs, b < 256) : Spec bs (ul7 bs) uoi := umn (uuy hb) 4
theorem uvl {bs : List Nat} (hb : ∀ b ∈ bs, b < 256) : Spec bs (ur9 bs) boxG := umn (uk0 hb) 4
theorem us0 {bs : List Nat} (hb : ∀ b ∈ bs, b < 256) : Spec bs (um6 bs) listG := by
 have hs := (ume hb 0 100).then fun n => umn (uk0 hb) n.toNat
 exact hs
theorem conf_spec {bs : List Nat} (hb : ∀ b ∈ bs, b < 256) : Spec bs (uoa bs) confG := by
 have hs := (ume hb 0 15).then fun n => (uk0 hb).then fun r => Spec.pure (⟨decide (n % 2 = 1), decide (n / 2 % 2 = 1), decide (n / 4 % 2 = 1), decide (n / 8 % 2 = 1), r⟩ : Cf)
 exact hs
theorem node_spec {bs : List Nat} (hb : ∀ b ∈ bs, b < 256) : Spec bs (umt bs) nodeG := by
 have hs := (uk0 hb).then fun o => (us0 hb).then fun i => (us0 hb).then fun p => Spec.pure (⟨o, i, p⟩ : ubb)
 exact hs
theorem urd {bs : List Nat} (hb : ∀ b ∈ bs, b < 256) : Spec bs (ulq bs) uqa := by
 have hs := (uk0 hb).then fun o => (ume hb 0 1000).then fun k => (umn (node_spec hb) k.toNat).then fun ns => Spec.pure (⟨ns, o⟩ : Gr)
 exact hs
theorem uq2 {k : Nat} {ps : List (List Nat)} {es : List Nat} (h : umh uoi k ps es) : es.length = 4 * k := by
 have one : ∀ p e, uoi p e → e.length = 4 := by
  intro p e h
  unfold uoi at h
  simp only [umh, ula, ulk, rawG] at h
  obtain ⟨_, _, _, ⟨_, _, _, ⟨_, _, _, ⟨_, _, _, ⟨_, rfl⟩, ⟨_, _, _, ⟨_, rfl⟩, ⟨_, rfl⟩, rfl⟩, rfl⟩, ⟨_, _, _, ⟨_, rfl⟩, ⟨_, rfl⟩, rfl⟩, rfl⟩, ⟨_, _, _, ⟨_, rfl⟩, ⟨_, rfl⟩, rfl⟩, rfl⟩, ⟨_, _, _, ⟨_, rfl⟩, ⟨_, rfl⟩, rfl⟩, rfl⟩ := h
  rfl
 induction k generalizing ps es with
 | zero => obtain ⟨_, rfl⟩ := h; rfl
 | succ k ih =>
  obtain ⟨xs, e1, _, h1, ⟨x, e2, _, h2, ⟨_, rfl⟩, rfl⟩, rfl⟩ := h
  simp only [List.length_append, List.length_nil, ih h1, one _ _ h2]
  omega
theorem pix_spec {bs : List Nat} (hb : ∀ b ∈ bs, b < 256) (x y w h t : Int) : Spec bs (fun n => if 4 * ukz w h ≤ bs.length - n then (ukh (ul7 bs) n (ukz w h)).bind fun ps => some ((⟨2, ⟨x, y, 0, 0⟩, Pxl.zero, w, h, t, ps.1.map Pxl.of⟩ : Ct), ps.2) else none) (ula (umh uoi (ukz w h)) fun ps => ulk ⟨2, ⟨x, y, 0, 0⟩, Pxl.zero, w, h, t, ps.map Pxl.of⟩) := by
 have hs := (umn (uo5 hb) (ukz w h)).then fun ps => Spec.pure (⟨2, ⟨x, y, 0, 0⟩, Pxl.zero, w, h, t, ps.map Pxl.of⟩ : Ct)
 refine hs.imp fun n => ?_
 by_cases hc : 4 * ukz w h ≤ bs.length - n
 ·simp only [if_pos hc]
 ·simp only [if_neg hc]
  rcases ht : ukh (ul7 bs) n (ukz w h) with _ | ⟨ps, m⟩
  ·rfl
  ·obtain ⟨es, g, s, _⟩ := (umn (uo5 hb) (ukz w h) n ps m).1 ht
   have := uq2 g
   have := s.le
   omega
theorem utk {bs : List Nat} (hb : ∀ b ∈ bs, b < 256) : Spec bs (ukg bs) ur7 := by
 have hs := (uk0 hb).then fun k => Spec.ite (c := k = 1) (fun _ => (uvl hb).then fun b => (uo5 hb).then fun p => Spec.pure (⟨1, Rc.of b, Pxl.of p, 0, 0, 0, []⟩ : Ct)) fun _ => Spec.ite (c := k = 2) (fun _ => (uk0 hb).then fun x => (uk0 hb).then fun y => (uk0 hb).then fun w => (uk0 hb).then fun h => (uk0 hb).then fun t => pix_spec hb x y w h t) fun _ => Spec.pure (⟨k, Rc.zero, Pxl.zero, 0, 0, 0, []⟩ : Ct)
 exact hs
theorem look_spec {bs : List Nat} (hb : ∀ b ∈ bs, b < 256) (k : Int) : Spec bs (fun n => ukd bs n k) (usy k) := by
 have hs := Spec.ite (c := k = 5) (fun _ => (uk0 hb).then fun x => (uk0 hb).then fun y => Spec.pure { Lk.zero with dx := x, dy := y }) fun _ =>
  Spec.ite (c := k = 6) (fun _ => (uqd hb).then fun f => Spec.ite (c := f = true) (fun _ => (uvl hb).then fun b => Spec.pure { Lk.zero with hasClip := true, clip := Rc.of b }) fun _ => Spec.pure Lk.zero) fun _ =>
  Spec.ite (c := k = 7) (fun _ => (uk0 hb).then fun x => Spec.pure { Lk.zero with opacity := x }) fun _ =>
  Spec.ite (c := k = 8) (fun _ => (uk0 hb).then fun x => Spec.pure { Lk.zero with mode := x }) fun _ =>
  Spec.ite (c := k = 9) (fun _ => (utk hb).then fun x => Spec.pure { Lk.zero with content := x }) fun _ =>
  Spec.ite (c := k = 10) (fun _ => (uqd hb).then fun f => Spec.ite (c := f = true) (fun _ => (urd hb).then fun b => Spec.pure { Lk.zero with hasFilt := true, filt := b }) fun _ => Spec.pure Lk.zero) fun _ =>
  Spec.ite (c := k = 11) (fun _ => (uqd hb).then fun f => Spec.ite (c := f = true) (fun _ => (urd hb).then fun b => Spec.pure { Lk.zero with hasBack := true, back := b }) fun _ => Spec.pure Lk.zero) fun _ => Spec.pure Lk.zero
 exact hs
theorem opr_spec {bs : List Nat} (hb : ∀ b ∈ bs, b < 256) (k : Int) : Spec bs (fun n => uld bs n k) (oprG k) := by
 have hs := (Spec.ite (c := k = 1) (fun _ => Spec.pure ((0 : Int), (0 : Int))) fun _ => id_spec hb).then fun i =>
  (Spec.ite (c := k = 1 ∨ k = 3) (fun _ => id_spec hb) fun _ => Spec.pure ((0 : Int), (0 : Int))).then fun t =>
  (Spec.ite (c := k = 1 ∨ k = 3 ∨ k = 4) (fun _ => uk0 hb) fun _ => Spec.pure (0 : Int)).then fun a =>
  (look_spec hb k).then fun l => Spec.pure (⟨k, i, t, a, l⟩ : Opr)
 exact hs
theorem unt {bs : List Nat} (hb : ∀ b ∈ bs, b < 256) : Spec bs (uk9 bs) actG := by
 have hs := (uuy hb).then fun b => Spec.ite (c := 1 ≤ b ∧ b ≤ 14) (fun _ =>
  Spec.ite (c := b = 12) (fun _ => (uk0 hb).then fun x => (uk0 hb).then fun y => Spec.pure (⟨12, Opr.zero, x, y, Cf.zero⟩ : Ac)) fun _ =>
  Spec.ite (c := b = 13) (fun _ => (conf_spec hb).then fun c => Spec.pure (⟨13, Opr.zero, 0, 0, c⟩ : Ac)) fun _ =>
  Spec.ite (c := b = 14) (fun _ => Spec.pure (⟨14, Opr.zero, 0, 0, Cf.zero⟩ : Ac)) fun _ =>
  (opr_spec hb b).then fun o => Spec.pure (⟨b, o, 0, 0, Cf.zero⟩ : Ac)) fun _ => Spec.none
 exact hs
end Go.Gou
namespace Go.Proofs.YtgolafbneiffpaaGreatDoor
open Go.RowKit Go.Gou
set_option maxRecDepth 100000
theorem u8_eq (w : World) (a b : Int) : (Op.equalIn 9999 5 (.int .u8 a) (.int .u8 b)).run Tryz.prog w = .ok (a == b) w := by
 have key : ∀ d : Nat, (Op.equalIn (d + 1) 5 (.int .u8 a) (.int .u8 b)).run Tryz.prog w = .ok (a == b) w := fun d => by
  simp [Op.equalIn, Sem.run_bind, run_underlying Tryz.underlying5]
 exact key 9998
theorem px_neq (x0 x1 x2 x3 y0 y1 y2 y3 : Nat) (w : World) : (binOp .neq 27 (.agg #[.int .u8 (x0 : Nat), .int .u8 (x1 : Nat), .int .u8 (x2 : Nat), .int .u8 (x3 : Nat)]) (.agg #[.int .u8 (y0 : Nat), .int .u8 (y1 : Nat), .int .u8 (y2 : Nat), .int .u8 (y3 : Nat)])).run Tryz.prog w = .ok (.bool (!decide (x0 = y0 ∧ x1 = y1 ∧ x2 = y2 ∧ x3 = y3))) w := by
 have h1 : (Op.equal 27 (.agg #[.int .u8 (x0 : Nat), .int .u8 (x1 : Nat), .int .u8 (x2 : Nat), .int .u8 (x3 : Nat)]) (.agg #[.int .u8 (y0 : Nat), .int .u8 (y1 : Nat), .int .u8 (y2 : Nat), .int .u8 (y3 : Nat)])).run Tryz.prog w = .ok (decide (x0 = y0 ∧ x1 = y1 ∧ x2 = y2 ∧ x3 = y3)) w := by
  show (Op.equalIn (9999 + 1) _ _ _).run _ _ = _
  obtain ⟨iu, hiu, -, -, -⟩ := info_parts un4
  rw [run_equalIn_array w 9999 _ _ Tryz.underlying27 hiu]
  have hc : Tryz.prog.cellsOf 5 = 1 := by kernel_rfl
  have hp0 : ∀ (a b c d : Value) (w : World), (part 5 #[a, b, c, d] (0 * 1)).run Tryz.prog w = .ok a w := fun _ _ _ _ _ => by kernel_rfl
  have hp1 : ∀ (a b c d : Value) (w : World), (part 5 #[a, b, c, d] (1 * 1)).run Tryz.prog w = .ok b w := fun _ _ _ _ _ => by kernel_rfl
  have hp2 : ∀ (a b c d : Value) (w : World), (part 5 #[a, b, c, d] (2 * 1)).run Tryz.prog w = .ok c w := fun _ _ _ _ _ => by kernel_rfl
  have hp3 : ∀ (a b c d : Value) (w : World), (part 5 #[a, b, c, d] (3 * 1)).run Tryz.prog w = .ok d w := fun _ _ _ _ _ => by kernel_rfl
  have hr : List.range 4 = [0, 1, 2, 3] := rfl
  rw [hc, hr]
  simp only [Op.eqItems, Sem.run_bind, hp0, hp1, hp2, hp3, u8_eq, Result.andThen_ok, Sem.run_ite, Sem.run_pure]
  by_cases h0 : x0 = y0 <;> by_cases h1 : x1 = y1 <;> by_cases h2 : x2 = y2 <;> by_cases h3 : x3 = y3 <;> simp [h0, h1, h2, h3] <;> omega
 simp only [binOp, Sem.run_bind, h1, Result.andThen_ok, Sem.run_pure]
set_option maxRecDepth 100000 in
theorem eqPix_any (w : World) (G1 G2 : Nat → Prop) (p1 p2 : Option Addr) (c1 c2 : Nat) (xs ys : List Pxl) (hx : PixR G1 w (.slice p1 xs.length c1) xs) (hy : PixR G2 w (.slice p2 ys.length c2) ys) (hl : xs.length ≤ 1000000000) (hl2 : ys.length ≤ 1000000000) :
  Calls Tryz.prog 125 #[.slice p1 xs.length c1, .slice p2 ys.length c2] w fun e w' => e = .returned (.bool (decide (xs = ys))) ∧ Gou.Mod (fun _ => False) w w' := by
 have Hx := hd' hx
 have Hy := hd' hy
 clear hx hy
 go_enter Tryz.func125, Tryz.ntmps125
 by_cases hlen : xs.length = ys.length
 ·have e1 : ((xs.length : Int) != (ys.length : Int)) = false := by simp [hlen]
  have Hlen := hd' hlen
  clear hlen
  go_wp2_with fail
  go_loopw [13] (fun c wr => ∃ i : Nat, c = iV i ∧ i ≤ xs.length ∧ xs.take i = ys.take i ∧ Gou.Mod (fun _ => False) w wr) (fun c _ => xs.length - (intOf c).toNat)
  case atStart => exact ⟨0, rfl, by omega, by simp, Gou.Mod.refl _ _⟩
  case round =>
   obtain ⟨i, rfl, hi, ht, hm⟩ := hrel
   have Ht := hd' ht
   have Hm := hd' hm
   clear ht hm
   by_cases hil : i < xs.length
   ·have e2 : decide ((i : Int) < (xs.length : Int)) = true := by simp; omega
    have hil2 : i < ys.length := by have := Hlen.o; omega
    obtain ⟨-, b1, o1, rfl, hb1, -, hc1⟩ := Hx.o.cells (by omega)
    obtain ⟨-, b2, o2, rfl, hb2, -, hc2⟩ := Hy.o.cells (by omega)
    obtain ⟨k0, k1, k2, k3⟩ := hc1 i hil
    obtain ⟨l0, l1, l2, l3⟩ := hc2 i hil2
    have hm1 : ∀ j, wr.cell? ⟨b1, j, none⟩ = w.cell? ⟨b1, j, none⟩ := fun j => Hm.o.cell (p := ⟨b1, j, none⟩) hb1 (fun h => h)
    have hm2 : ∀ j, wr.cell? ⟨b2, j, none⟩ = w.cell? ⟨b2, j, none⟩ := fun j => Hm.o.cell (p := ⟨b2, j, none⟩) hb2 (fun h => h)
    rw [← hm1] at k0 k1 k2 k3
    rw [← hm2] at l0 l1 l2 l3
    clear hm1 hm2
    have hiI : (i : Int) < (xs.length : Int) := by omega
    have hiJ : (i : Int) < (ys.length : Int) := by omega
    have hi0I : (0 : Int) ≤ (i : Int) := by omega
    have Hne := hd' (fun he => uet (i := i) hil hil2 he : xs[i] ≠ ys[i] → xs ≠ ys)
    have Heq := hd' (fun he => uci hil hil2 Ht.o he : xs[i] = ys[i] → xs.take (i + 1) = ys.take (i + 1))
    clear hc1 hc2
    generalize xs[i] = x at *
    generalize ys[i] = y at *
    obtain ⟨x0, x1, x2, x3⟩ := x
    obtain ⟨y0, y1, y2, y3⟩ := y
    simp only at k0 k1 k2 k3 l0 l1 l2 l3
    simp only [Pxl.mk.injEq] at Hne Heq
    obtain ⟨bq, hq⟩ : ∃ bq, bq = decide (x0 = y0 ∧ x1 = y1 ∧ x2 = y2 ∧ x3 = y3) := ⟨_, rfl⟩
    have hne : ∀ w : World, (binOp .neq 27 (.agg #[.int .u8 (x0 : Nat), .int .u8 (x1 : Nat), .int .u8 (x2 : Nat), .int .u8 (x3 : Nat)]) (.agg #[.int .u8 (y0 : Nat), .int .u8 (y1 : Nat), .int .u8 (y2 : Nat), .int .u8 (y3 : Nat)])).run Tryz.prog w = .ok (.bool (!bq)) w := fun w => by rw [hq]; exact px_neq x0 x1 x2 x3 y0 y1 y2 y3 w
    cases bq with
    | true =>
     have Hs := hd' (Heq.o (by simpa using hq.symm))
     clear hq
     go_wp2_with fail
     go_quiet (fail)
     go_wp2_with fail
     go_roundw
     case rel => exact ⟨i + 1, by go_num, by omega, Hs.o, Hm.o.trans' (Gou.Mod.drewN _ _ _)⟩
     case measure => simp [intOf]; omega
    | false =>
     have Hs := hd' (Hne.o (by simpa using hq.symm))
     clear hq
     go_wp2_with fail
     go_quiet (fail)
     go_wp2_with fail
     go_ret
     exact ⟨by simp [Hs.o], Hm.o.trans' (Gou.Mod.drewN _ _ _)⟩
   ·obtain rfl : i = xs.length := by omega
    have e2 : decide ((xs.length : Int) < (xs.length : Int)) = false := by simp
    have Hs : Hid (xs = ys) := hd' (by
     have h1 := Ht.o
     rw [List.take_length, Hlen.o, List.take_length] at h1
     exact h1)
    go_wp2_with fail
    go_ret
    exact ⟨by simp [Hs.o], Hm.o⟩
 ·have e1 : ((xs.length : Int) != (ys.length : Int)) = true := by simp; omega
  have Hs : Hid (xs ≠ ys) := hd' (fun h => hlen (by rw [h]))
  clear hlen
  go_wp2_with fail
  go_ret
  exact ⟨by simp [Hs.o], Gou.Mod.refl _ _⟩
end Go.Proofs.YtgolafbneiffpaaGreatDoor
