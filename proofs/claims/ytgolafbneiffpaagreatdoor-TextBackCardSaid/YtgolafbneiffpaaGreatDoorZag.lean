/- Texts of the scenes' proofs, laid together: WrG. -/
import Derived.Test.YtgolafbneiffpaaGreatDoorZaf
set_option maxHeartbeats 64000000
set_option linter.unusedSimpArgs false
set_option linter.unusedVariables false
set_option linter.unusedSectionVars false
set_option linter.constructorNameAsVariable false
namespace Go.Gou
open Go.RowKit
def ukb (o : Opr) : Option (List Nat) := (if o.kind = 1 then some [] else ug4 [o.id.1, o.id.2]).bind fun a =>
 if o.kind = 1 ∨ o.kind = 3 then (ug4 [o.to.1, o.to.2]).bind fun b => (ug4 [o.at_]).bind fun c => some (a ++ (b ++ c))
 else if o.kind = 4 then (ug4 [o.at_]).bind fun b => some (a ++ b)
 else if o.kind = 5 then (ug4 [o.look.dx, o.look.dy]).bind fun b => some (a ++ b)
 else if o.kind = 6 then (ug4 [if o.look.hasClip then 1 else 0]).bind fun b => if o.look.hasClip then (ug4 [o.look.clip.x0, o.look.clip.y0, o.look.clip.x1, o.look.clip.y1]).bind fun c => some (a ++ (b ++ c)) else some (a ++ b)
 else if o.kind = 7 then (ug4 [o.look.opacity]).bind fun b => some (a ++ b)
 else if o.kind = 8 then (ug4 [o.look.mode]).bind fun b => some (a ++ b)
 else if o.kind = 9 then (uk1 o.look.content).bind fun b => some (a ++ b)
 else if o.kind = 10 then (ug4 [if o.look.hasFilt then 1 else 0]).bind fun b => if o.look.hasFilt then (uk5 o.look.filt).bind fun c => some (a ++ (b ++ c)) else some (a ++ b)
 else if o.kind = 11 then (ug4 [if o.look.hasBack then 1 else 0]).bind fun b => if o.look.hasBack then (uk5 o.look.back).bind fun c => some (a ++ (b ++ c)) else some (a ++ b)
 else some a
theorem ukx (o : Opr) (vp vf vb : Value) : (oprC o vp vf vb).toList = [iV o.kind, iV o.id.1, iV o.id.2, iV o.to.1, iV o.to.2, iV o.at_] ++ (uai o.look vp vf vb).toList := rfl
theorem ug0 (l : Lk) (vp vf vb : Value) : (uai l vp vf vb).toList = [iV l.dx, iV l.dy, .bool l.hasClip, iV l.clip.x0, iV l.clip.y0, iV l.clip.x1, iV l.clip.y1, iV l.opacity, iV l.mode] ++ ((uak l.content vp).toList ++ [.bool l.hasFilt, vf, iV l.filt.out, .bool l.hasBack, vb, iV l.back.out]) := rfl
theorem Blk.range {w : World} {b : Nat} {T : TypeId} {cs : Array Value} (h : Blk w b T cs) {pre mid post : List Value} (hc : cs.toList = pre ++ (mid ++ post)) {k : Nat} (hk : k = pre.length) : w.rangeAt b k mid := fun j v hv => by
 subst hk
 refine h.cell _ ?_
 have hj : j < mid.length := (lgS.1 hv).1
 rw [← agT, hc, lgR (by omega), Nat.add_sub_cancel_left, lgL hj]
 exact hv
theorem uj8 (l : Lk) (vp vf vb : Value) : (uai l vp vf vb).size = 28 := by simp [uai]
end Go.Gou
namespace Go.Proofs.YtgolafbneiffpaaGreatDoor
open Go.RowKit Go.Gou
set_option maxRecDepth 100000
theorem wop_5 (w : World) (W : Nat) (bs : List Nat) (vs : Value) (p1 : Option Addr) (k1 : Nat) (p2 : Option Addr) (k2 : Nat) (p3 : Option Addr) (k3 : Nat) (o : Opr) (hk : o.kind = 5) (h : Wr w W bs vs) (hx : LookR (fun b => b < W) w o.look (.slice p1 o.look.content.pix.length k1) (.slice p2 o.look.filt.nodes.length k2) (.slice p3 o.look.back.nodes.length k3)) (hl : bs.length ≤ 700000000) :
  Calls Tryz.prog 55 #[.pointer (some ⟨W, 0, none⟩), .agg (opS o p1 k1 p2 k2 p3 k3)] w (WrP w W bs vs (ukb o)) := by
 have H := hd' h
 have HB0 : Hid (Blk (w.alloc (.cells (opS o p1 k1 p2 k2 p3 k3) 37)) w.heap.size 37 (opS o p1 k1 p2 k2 p3 k3)) := hd' (heap_alloc_new w _)
 have HW0 : Hid (Wr (w.alloc (.cells (opS o p1 k1 p2 k2 p3 k3) 37)) W bs vs) := hd' (h.alloc _)
 have HT0 : Hid (WTo W w vs (w.alloc (.cells (opS o p1 k1 p2 k2 p3 k3) 37)) vs) := hd' (WTo.other (Gou.Mod.alloc _ _ _) vs)
 have HR0 : Hid (LookR (fun b => b < W) (w.alloc (.cells (opS o p1 k1 p2 k2 p3 k3) 37)) o.look (.slice p1 o.look.content.pix.length k1) (.slice p2 o.look.filt.nodes.length k2) (.slice p3 o.look.back.nodes.length k3)) := hd' (hx.mod (Gou.Mod.alloc (fun _ => False) _ _) (fun _ _ _ h => h))
 have HS0 : Hid (((w.alloc (.cells (opS o p1 k1 p2 k2 p3 k3) 37))).heap.size = w.heap.size + 1) := hd' (by simp)
 have hWlt := Blk.lt h.box
 have HiL : Hid ((Tryz.prog.info? 35).map (·.size) = some (lkS o.look p1 k1 p2 k2 p3 k3).toList.length) := hd' (size_look.trans (by simp [uai]))
 have hvs := fun k hk => (H.o.own.lt k hk).2
 have Hvs := hd' hvs
 clear h hx hvs
 have HK := hd' hk
 clear hk
 go_enter Tryz.func55, Tryz.ntmps55
 have ka : ((w.alloc (.cells (opS o p1 k1 p2 k2 p3 k3) 37))).cell? ⟨w.heap.size, 1, none⟩ = some (iV o.id.1) := HB0.o.cell 1 rfl
 have kb : ((w.alloc (.cells (opS o p1 k1 p2 k2 p3 k3) 37))).cell? ⟨w.heap.size, 2, none⟩ = some (iV o.id.2) := HB0.o.cell 2 rfl
 have kc : ((w.alloc (.cells (opS o p1 k1 p2 k2 p3 k3) 37))).cell? ⟨w.heap.size, 0, none⟩ = some (iV 5) := (by rw [← HK.o]; exact HB0.o.cell 0 rfl)
 go_wp2_with fail
 generalize hW0 : (w.alloc (.cells (opS o p1 k1 p2 k2 p3 k3) 37)) = w0 at *
 clear hW0
 refine (ulw _ W bs vs o.id.1 o.id.2 HW0.o (by omega)).mono ?_
 rintro e w1 ⟨v1, t1, h1⟩
 have T1 := hd' (HT0.o.trans t1)
 rcases hr1 : ug4 [o.id.1, o.id.2] with _ | es1
 ·rw [hr1] at h1
  subst h1
  exact ⟨rfl, v1, T1.o, by have hk := HK.o; simp [ukb, hk, hr1]⟩
 rw [hr1] at h1
 obtain ⟨rfl, hw1⟩ := h1
 have Hr1 := hd' hr1
 have Hw1 := hd' hw1
 have Tk1 := hd' t1
 clear hr1 hw1 t1
 have hE1 := uj9 Hr1.o
 have HB1 : Hid (Blk w1 w.heap.size 37 (opS o p1 k1 p2 k2 p3 k3)) := hd' (HB0.o.mod Tk1.o.mod (fun e => by
  rcases e with e | e
  ·omega
  ·have := Hvs.o _ e; omega))
 have HR1 : Hid (LookR (fun b => b < W) w1 o.look (.slice p1 o.look.content.pix.length k1) (.slice p2 o.look.filt.nodes.length k2) (.slice p3 o.look.back.nodes.length k3)) := hd' (HR0.o.mod (WTo.far Tk1.o HW0.o) (fun k _ hG hk => by omega))
 have Hv1 : Hid (∀ k, v1.ownBlock = some k → k ≠ w.heap.size ∧ k < w1.heap.size) := hd' (fun k hk => ⟨fun e => by
  rcases Tk1.o.fresh _ hk with e2 | e2
  ·have := Hvs.o _ e2; omega
  ·have := HS0.o; omega, (Hw1.o.own.lt _ hk).2⟩)
 have hB1 := Blk.lt HB1.o
 clear ka kb kc
 have Hrg : Hid (w1.rangeAt w.heap.size 6 (lkS o.look p1 k1 p2 k2 p3 k3).toList) := hd' (Blk.range (post := []) HB1.o (by rw [List.append_nil]; exact ukx o _ _ _) rfl)
 have hA : Blk (w1.alloc (.cells lz28 35)) w1.heap.size 35 lz28 := heap_alloc_new w1 _
 have Hth : Hid ((w1.alloc (.cells lz28 35)).there w1.heap.size 0 (lkS o.look p1 k1 p2 k2 p3 k3).size) := hd' (hA.there 0 _ (by rw [uj8]; simp))
 have HiL2 : Hid ((Tryz.prog.info? 35).map (·.size) = some (lkS o.look p1 k1 p2 k2 p3 k3).size) := hd' (size_look.trans (by rw [uj8]))
 have hA2 := hA.sets 0 (lkS o.look p1 k1 p2 k2 p3 k3).toList
 rw [uef _ _ (by simp [uai])] at hA2
 have hM2 : Gou.Mod (fun k => k = w1.heap.size) w1 ((w1.alloc (.cells lz28 35)).setCells w1.heap.size 0 (lkS o.look p1 k1 p2 k2 p3 k3).toList) := (Gou.Mod.alloc _ _ _).trans' (Blk.setMod _ _ _ _)
 have HW2 : Hid (Wr ((w1.alloc (.cells lz28 35)).setCells w1.heap.size 0 (lkS o.look p1 k1 p2 k2 p3 k3).toList) W _ v1) := hd' (Hw1.o.other hM2 (by have := Blk.lt Hw1.o.box; omega) (fun k hk e => by have := (Hv1.o k hk).2; omega))
 have HL2 : Hid (Blk ((w1.alloc (.cells lz28 35)).setCells w1.heap.size 0 (lkS o.look p1 k1 p2 k2 p3 k3).toList) w1.heap.size 35 (lkS o.look p1 k1 p2 k2 p3 k3)) := hd' hA2
 have HB2 : Hid (Blk ((w1.alloc (.cells lz28 35)).setCells w1.heap.size 0 (lkS o.look p1 k1 p2 k2 p3 k3).toList) w.heap.size 37 (opS o p1 k1 p2 k2 p3 k3)) := hd' (HB1.o.mod hM2 (by omega))
 have HR2 : Hid (LookR (fun b => b < W) ((w1.alloc (.cells lz28 35)).setCells w1.heap.size 0 (lkS o.look p1 k1 p2 k2 p3 k3).toList) o.look (.slice p1 o.look.content.pix.length k1) (.slice p2 o.look.filt.nodes.length k2) (.slice p3 o.look.back.nodes.length k3)) := hd' (HR1.o.mod hM2 (fun k _ hG e => by have := Blk.lt Hw1.o.box; omega))
 have T2a : Hid (WTo W w vs ((w1.alloc (.cells lz28 35)).setCells w1.heap.size 0 (lkS o.look p1 k1 p2 k2 p3 k3).toList) v1) := hd' (T1.o.trans ⟨((Gou.Mod.alloc (fun _ => False) w1 _).trans (Blk.setMod _ w1.heap.size 0 _) (fun i hi e => by omega)).imp (fun _ _ h => h.elim), fun g hg => .inl hg⟩)
 have HS2 : Hid ((((w1.alloc (.cells lz28 35)).setCells w1.heap.size 0 (lkS o.look p1 k1 p2 k2 p3 k3).toList)).heap.size = w1.heap.size + 1) := hd' (by rw [ukm]; simp)
 have kd : (((w1.alloc (.cells lz28 35)).setCells w1.heap.size 0 (lkS o.look p1 k1 p2 k2 p3 k3).toList)).cell? ⟨w.heap.size, 0, none⟩ = some (iV 5) := (by rw [← HK.o]; exact HB2.o.cell 0 rfl)
 clear hA hA2 hM2
 have c0 : (((w1.alloc (.cells lz28 35)).setCells w1.heap.size 0 (lkS o.look p1 k1 p2 k2 p3 k3).toList)).cell? ⟨w1.heap.size, 0, none⟩ = some (iV o.look.dx) := HL2.o.cell 0 rfl
 have c1 : (((w1.alloc (.cells lz28 35)).setCells w1.heap.size 0 (lkS o.look p1 k1 p2 k2 p3 k3).toList)).cell? ⟨w1.heap.size, 1, none⟩ = some (iV o.look.dy) := HL2.o.cell 1 rfl
 go_wp2_with (first | ((with_reducible refine wpList_load_mid ?g1_1 35 ?x1_1 ?o1_1 w.heap.size 6 ?h1_1 (lkS o.look p1 k1 p2 k2 p3 k3).toList ?d1_1 ?c1_1 ?u1_1 ?s1_1 ?i1_1 ?r1_1); (case g1_1 => exact rfl); (case o1_1 => exact rfl); (case h1_1 => exact rfl); (case c1_1 => exact Hrg.o); (case u1_1 => exact Tryz.underlying35); (case s1_1 => exact rfl); (case i1_1 => exact HiL.o)) | ((with_reducible refine wpList_store_mid ?g1_2 35 ?x1_2 ?y1_2 ?o1_2 w1.heap.size 0 (lkS o.look p1 k1 p2 k2 p3 k3) ?h1_2 ?j1_2 ?t1_2 ?i1_2 ?s1_2 ?r1_2); (case g1_2 => exact rfl); (case o1_2 => exact rfl); (case h1_2 => exact rfl); (case j1_2 => exact rfl); (case t1_2 => exact Hth.o); (case i1_2 => exact HiL2.o); (case s1_2 => exact uka _ _ _ _ _ _ _ _ _ _)) | fail)
 generalize hW2 : ((w1.alloc (.cells lz28 35)).setCells w1.heap.size 0 (lkS o.look p1 k1 p2 k2 p3 k3).toList) = wq at *
 clear hW2 kd
 refine (ukc _ W _ v1 _ [o.look.dx, o.look.dy] (HW2.o.alloc _) (HW2.o.lit [o.look.dx, o.look.dy] _ rfl 2 rfl _ (by first | rfl | exact HS2.o.symm)) (by (try simp only [List.length_append, List.length_cons, List.length_nil] at *); omega)).mono ?_
 rintro e w2 ⟨v2, t2, h2⟩
 have T2 := hd' ((T2a.o.trans (WTo.other (Gou.Mod.alloc _ _ _) v1)).trans t2)
 rcases hr2 : ug4 [o.look.dx, o.look.dy] with _ | es2
 ·rw [hr2] at h2
  subst h2
  exact ⟨rfl, v2, T2.o, by have g1 := Hr1.o; simp [ukb, HK.o, g1, hr2]⟩
 rw [hr2] at h2
 obtain ⟨rfl, hw2⟩ := h2
 have Hr2 := hd' hr2
 have Hw2 := hd' hw2
 have Tk2 := hd' t2
 clear hr2 hw2 t2
 go_wp2_with fail
 go_end0
 exact ⟨v2, T2.o, by
  have g1 := Hr1.o
  have g2 := Hr2.o
  simp [ukb, HK.o, g1, g2]
  simpa using Hw2.o⟩
theorem wop_7 (w : World) (W : Nat) (bs : List Nat) (vs : Value) (p1 : Option Addr) (k1 : Nat) (p2 : Option Addr) (k2 : Nat) (p3 : Option Addr) (k3 : Nat) (o : Opr) (hk : o.kind = 7) (h : Wr w W bs vs) (hx : LookR (fun b => b < W) w o.look (.slice p1 o.look.content.pix.length k1) (.slice p2 o.look.filt.nodes.length k2) (.slice p3 o.look.back.nodes.length k3)) (hl : bs.length ≤ 700000000) :
  Calls Tryz.prog 55 #[.pointer (some ⟨W, 0, none⟩), .agg (opS o p1 k1 p2 k2 p3 k3)] w (WrP w W bs vs (ukb o)) := by
 have H := hd' h
 have HB0 : Hid (Blk (w.alloc (.cells (opS o p1 k1 p2 k2 p3 k3) 37)) w.heap.size 37 (opS o p1 k1 p2 k2 p3 k3)) := hd' (heap_alloc_new w _)
 have HW0 : Hid (Wr (w.alloc (.cells (opS o p1 k1 p2 k2 p3 k3) 37)) W bs vs) := hd' (h.alloc _)
 have HT0 : Hid (WTo W w vs (w.alloc (.cells (opS o p1 k1 p2 k2 p3 k3) 37)) vs) := hd' (WTo.other (Gou.Mod.alloc _ _ _) vs)
 have HR0 : Hid (LookR (fun b => b < W) (w.alloc (.cells (opS o p1 k1 p2 k2 p3 k3) 37)) o.look (.slice p1 o.look.content.pix.length k1) (.slice p2 o.look.filt.nodes.length k2) (.slice p3 o.look.back.nodes.length k3)) := hd' (hx.mod (Gou.Mod.alloc (fun _ => False) _ _) (fun _ _ _ h => h))
 have HS0 : Hid (((w.alloc (.cells (opS o p1 k1 p2 k2 p3 k3) 37))).heap.size = w.heap.size + 1) := hd' (by simp)
 have hWlt := Blk.lt h.box
 have HiL : Hid ((Tryz.prog.info? 35).map (·.size) = some (lkS o.look p1 k1 p2 k2 p3 k3).toList.length) := hd' (size_look.trans (by simp [uai]))
 have hvs := fun k hk => (H.o.own.lt k hk).2
 have Hvs := hd' hvs
 clear h hx hvs
 have HK := hd' hk
 clear hk
 go_enter Tryz.func55, Tryz.ntmps55
 have ka : ((w.alloc (.cells (opS o p1 k1 p2 k2 p3 k3) 37))).cell? ⟨w.heap.size, 1, none⟩ = some (iV o.id.1) := HB0.o.cell 1 rfl
 have kb : ((w.alloc (.cells (opS o p1 k1 p2 k2 p3 k3) 37))).cell? ⟨w.heap.size, 2, none⟩ = some (iV o.id.2) := HB0.o.cell 2 rfl
 have kc : ((w.alloc (.cells (opS o p1 k1 p2 k2 p3 k3) 37))).cell? ⟨w.heap.size, 0, none⟩ = some (iV 7) := (by rw [← HK.o]; exact HB0.o.cell 0 rfl)
 go_wp2_with fail
 generalize hW0 : (w.alloc (.cells (opS o p1 k1 p2 k2 p3 k3) 37)) = w0 at *
 clear hW0
 refine (ulw _ W bs vs o.id.1 o.id.2 HW0.o (by omega)).mono ?_
 rintro e w1 ⟨v1, t1, h1⟩
 have T1 := hd' (HT0.o.trans t1)
 rcases hr1 : ug4 [o.id.1, o.id.2] with _ | es1
 ·rw [hr1] at h1
  subst h1
  exact ⟨rfl, v1, T1.o, by have hk := HK.o; simp [ukb, hk, hr1]⟩
 rw [hr1] at h1
 obtain ⟨rfl, hw1⟩ := h1
 have Hr1 := hd' hr1
 have Hw1 := hd' hw1
 have Tk1 := hd' t1
 clear hr1 hw1 t1
 have hE1 := uj9 Hr1.o
 have HB1 : Hid (Blk w1 w.heap.size 37 (opS o p1 k1 p2 k2 p3 k3)) := hd' (HB0.o.mod Tk1.o.mod (fun e => by
  rcases e with e | e
  ·omega
  ·have := Hvs.o _ e; omega))
 have HR1 : Hid (LookR (fun b => b < W) w1 o.look (.slice p1 o.look.content.pix.length k1) (.slice p2 o.look.filt.nodes.length k2) (.slice p3 o.look.back.nodes.length k3)) := hd' (HR0.o.mod (WTo.far Tk1.o HW0.o) (fun k _ hG hk => by omega))
 have Hv1 : Hid (∀ k, v1.ownBlock = some k → k ≠ w.heap.size ∧ k < w1.heap.size) := hd' (fun k hk => ⟨fun e => by
  rcases Tk1.o.fresh _ hk with e2 | e2
  ·have := Hvs.o _ e2; omega
  ·have := HS0.o; omega, (Hw1.o.own.lt _ hk).2⟩)
 have hB1 := Blk.lt HB1.o
 clear ka kb kc
 have Hrg : Hid (w1.rangeAt w.heap.size 6 (lkS o.look p1 k1 p2 k2 p3 k3).toList) := hd' (Blk.range (post := []) HB1.o (by rw [List.append_nil]; exact ukx o _ _ _) rfl)
 have hA : Blk (w1.alloc (.cells lz28 35)) w1.heap.size 35 lz28 := heap_alloc_new w1 _
 have Hth : Hid ((w1.alloc (.cells lz28 35)).there w1.heap.size 0 (lkS o.look p1 k1 p2 k2 p3 k3).size) := hd' (hA.there 0 _ (by rw [uj8]; simp))
 have HiL2 : Hid ((Tryz.prog.info? 35).map (·.size) = some (lkS o.look p1 k1 p2 k2 p3 k3).size) := hd' (size_look.trans (by rw [uj8]))
 have hA2 := hA.sets 0 (lkS o.look p1 k1 p2 k2 p3 k3).toList
 rw [uef _ _ (by simp [uai])] at hA2
 have hM2 : Gou.Mod (fun k => k = w1.heap.size) w1 ((w1.alloc (.cells lz28 35)).setCells w1.heap.size 0 (lkS o.look p1 k1 p2 k2 p3 k3).toList) := (Gou.Mod.alloc _ _ _).trans' (Blk.setMod _ _ _ _)
 have HW2 : Hid (Wr ((w1.alloc (.cells lz28 35)).setCells w1.heap.size 0 (lkS o.look p1 k1 p2 k2 p3 k3).toList) W _ v1) := hd' (Hw1.o.other hM2 (by have := Blk.lt Hw1.o.box; omega) (fun k hk e => by have := (Hv1.o k hk).2; omega))
 have HL2 : Hid (Blk ((w1.alloc (.cells lz28 35)).setCells w1.heap.size 0 (lkS o.look p1 k1 p2 k2 p3 k3).toList) w1.heap.size 35 (lkS o.look p1 k1 p2 k2 p3 k3)) := hd' hA2
 have HB2 : Hid (Blk ((w1.alloc (.cells lz28 35)).setCells w1.heap.size 0 (lkS o.look p1 k1 p2 k2 p3 k3).toList) w.heap.size 37 (opS o p1 k1 p2 k2 p3 k3)) := hd' (HB1.o.mod hM2 (by omega))
 have HR2 : Hid (LookR (fun b => b < W) ((w1.alloc (.cells lz28 35)).setCells w1.heap.size 0 (lkS o.look p1 k1 p2 k2 p3 k3).toList) o.look (.slice p1 o.look.content.pix.length k1) (.slice p2 o.look.filt.nodes.length k2) (.slice p3 o.look.back.nodes.length k3)) := hd' (HR1.o.mod hM2 (fun k _ hG e => by have := Blk.lt Hw1.o.box; omega))
 have T2a : Hid (WTo W w vs ((w1.alloc (.cells lz28 35)).setCells w1.heap.size 0 (lkS o.look p1 k1 p2 k2 p3 k3).toList) v1) := hd' (T1.o.trans ⟨((Gou.Mod.alloc (fun _ => False) w1 _).trans (Blk.setMod _ w1.heap.size 0 _) (fun i hi e => by omega)).imp (fun _ _ h => h.elim), fun g hg => .inl hg⟩)
 have HS2 : Hid ((((w1.alloc (.cells lz28 35)).setCells w1.heap.size 0 (lkS o.look p1 k1 p2 k2 p3 k3).toList)).heap.size = w1.heap.size + 1) := hd' (by rw [ukm]; simp)
 have kd : (((w1.alloc (.cells lz28 35)).setCells w1.heap.size 0 (lkS o.look p1 k1 p2 k2 p3 k3).toList)).cell? ⟨w.heap.size, 0, none⟩ = some (iV 7) := (by rw [← HK.o]; exact HB2.o.cell 0 rfl)
 clear hA hA2 hM2
 have c7 : (((w1.alloc (.cells lz28 35)).setCells w1.heap.size 0 (lkS o.look p1 k1 p2 k2 p3 k3).toList)).cell? ⟨w1.heap.size, 7, none⟩ = some (iV o.look.opacity) := HL2.o.cell 7 rfl
 go_wp2_with (first | ((with_reducible refine wpList_load_mid ?g1_3 35 ?x1_3 ?o1_3 w.heap.size 6 ?h1_3 (lkS o.look p1 k1 p2 k2 p3 k3).toList ?d1_3 ?c1_3 ?u1_3 ?s1_3 ?i1_3 ?r1_3); (case g1_3 => exact rfl); (case o1_3 => exact rfl); (case h1_3 => exact rfl); (case c1_3 => exact Hrg.o); (case u1_3 => exact Tryz.underlying35); (case s1_3 => exact rfl); (case i1_3 => exact HiL.o)) | ((with_reducible refine wpList_store_mid ?g1_4 35 ?x1_4 ?y1_4 ?o1_4 w1.heap.size 0 (lkS o.look p1 k1 p2 k2 p3 k3) ?h1_4 ?j1_4 ?t1_4 ?i1_4 ?s1_4 ?r1_4); (case g1_4 => exact rfl); (case o1_4 => exact rfl); (case h1_4 => exact rfl); (case j1_4 => exact rfl); (case t1_4 => exact Hth.o); (case i1_4 => exact HiL2.o); (case s1_4 => exact uka _ _ _ _ _ _ _ _ _ _)) | fail)
 generalize hW2 : ((w1.alloc (.cells lz28 35)).setCells w1.heap.size 0 (lkS o.look p1 k1 p2 k2 p3 k3).toList) = wq at *
 clear hW2 kd
 refine (ukc _ W _ v1 _ [o.look.opacity] (HW2.o.alloc _) (HW2.o.lit [o.look.opacity] _ rfl 1 rfl _ (by first | rfl | exact HS2.o.symm)) (by (try simp only [List.length_append, List.length_cons, List.length_nil] at *); omega)).mono ?_
 rintro e w2 ⟨v2, t2, h2⟩
 have T2 := hd' ((T2a.o.trans (WTo.other (Gou.Mod.alloc _ _ _) v1)).trans t2)
 rcases hr2 : ug4 [o.look.opacity] with _ | es2
 ·rw [hr2] at h2
  subst h2
  exact ⟨rfl, v2, T2.o, by have g1 := Hr1.o; simp [ukb, HK.o, g1, hr2]⟩
 rw [hr2] at h2
 obtain ⟨rfl, hw2⟩ := h2
 have Hr2 := hd' hr2
 have Hw2 := hd' hw2
 have Tk2 := hd' t2
 clear hr2 hw2 t2
 go_wp2_with fail
 go_end0
 exact ⟨v2, T2.o, by
  have g1 := Hr1.o
  have g2 := Hr2.o
  simp [ukb, HK.o, g1, g2]
  simpa using Hw2.o⟩
theorem wop_8 (w : World) (W : Nat) (bs : List Nat) (vs : Value) (p1 : Option Addr) (k1 : Nat) (p2 : Option Addr) (k2 : Nat) (p3 : Option Addr) (k3 : Nat) (o : Opr) (hk : o.kind = 8) (h : Wr w W bs vs) (hx : LookR (fun b => b < W) w o.look (.slice p1 o.look.content.pix.length k1) (.slice p2 o.look.filt.nodes.length k2) (.slice p3 o.look.back.nodes.length k3)) (hl : bs.length ≤ 700000000) :
  Calls Tryz.prog 55 #[.pointer (some ⟨W, 0, none⟩), .agg (opS o p1 k1 p2 k2 p3 k3)] w (WrP w W bs vs (ukb o)) := by
 have H := hd' h
 have HB0 : Hid (Blk (w.alloc (.cells (opS o p1 k1 p2 k2 p3 k3) 37)) w.heap.size 37 (opS o p1 k1 p2 k2 p3 k3)) := hd' (heap_alloc_new w _)
 have HW0 : Hid (Wr (w.alloc (.cells (opS o p1 k1 p2 k2 p3 k3) 37)) W bs vs) := hd' (h.alloc _)
 have HT0 : Hid (WTo W w vs (w.alloc (.cells (opS o p1 k1 p2 k2 p3 k3) 37)) vs) := hd' (WTo.other (Gou.Mod.alloc _ _ _) vs)
 have HR0 : Hid (LookR (fun b => b < W) (w.alloc (.cells (opS o p1 k1 p2 k2 p3 k3) 37)) o.look (.slice p1 o.look.content.pix.length k1) (.slice p2 o.look.filt.nodes.length k2) (.slice p3 o.look.back.nodes.length k3)) := hd' (hx.mod (Gou.Mod.alloc (fun _ => False) _ _) (fun _ _ _ h => h))
 have HS0 : Hid (((w.alloc (.cells (opS o p1 k1 p2 k2 p3 k3) 37))).heap.size = w.heap.size + 1) := hd' (by simp)
 have hWlt := Blk.lt h.box
 have HiL : Hid ((Tryz.prog.info? 35).map (·.size) = some (lkS o.look p1 k1 p2 k2 p3 k3).toList.length) := hd' (size_look.trans (by simp [uai]))
 have hvs := fun k hk => (H.o.own.lt k hk).2
 have Hvs := hd' hvs
 clear h hx hvs
 have HK := hd' hk
 clear hk
 go_enter Tryz.func55, Tryz.ntmps55
 have ka : ((w.alloc (.cells (opS o p1 k1 p2 k2 p3 k3) 37))).cell? ⟨w.heap.size, 1, none⟩ = some (iV o.id.1) := HB0.o.cell 1 rfl
 have kb : ((w.alloc (.cells (opS o p1 k1 p2 k2 p3 k3) 37))).cell? ⟨w.heap.size, 2, none⟩ = some (iV o.id.2) := HB0.o.cell 2 rfl
 have kc : ((w.alloc (.cells (opS o p1 k1 p2 k2 p3 k3) 37))).cell? ⟨w.heap.size, 0, none⟩ = some (iV 8) := (by rw [← HK.o]; exact HB0.o.cell 0 rfl)
 go_wp2_with fail
 generalize hW0 : (w.alloc (.cells (opS o p1 k1 p2 k2 p3 k3) 37)) = w0 at *
 clear hW0
 refine (ulw _ W bs vs o.id.1 o.id.2 HW0.o (by omega)).mono ?_
 rintro e w1 ⟨v1, t1, h1⟩
 have T1 := hd' (HT0.o.trans t1)
 rcases hr1 : ug4 [o.id.1, o.id.2] with _ | es1
 ·rw [hr1] at h1
  subst h1
  exact ⟨rfl, v1, T1.o, by have hk := HK.o; simp [ukb, hk, hr1]⟩
 rw [hr1] at h1
 obtain ⟨rfl, hw1⟩ := h1
 have Hr1 := hd' hr1
 have Hw1 := hd' hw1
 have Tk1 := hd' t1
 clear hr1 hw1 t1
 have hE1 := uj9 Hr1.o
 have HB1 : Hid (Blk w1 w.heap.size 37 (opS o p1 k1 p2 k2 p3 k3)) := hd' (HB0.o.mod Tk1.o.mod (fun e => by
  rcases e with e | e
  ·omega
  ·have := Hvs.o _ e; omega))
 have HR1 : Hid (LookR (fun b => b < W) w1 o.look (.slice p1 o.look.content.pix.length k1) (.slice p2 o.look.filt.nodes.length k2) (.slice p3 o.look.back.nodes.length k3)) := hd' (HR0.o.mod (WTo.far Tk1.o HW0.o) (fun k _ hG hk => by omega))
 have Hv1 : Hid (∀ k, v1.ownBlock = some k → k ≠ w.heap.size ∧ k < w1.heap.size) := hd' (fun k hk => ⟨fun e => by
  rcases Tk1.o.fresh _ hk with e2 | e2
  ·have := Hvs.o _ e2; omega
  ·have := HS0.o; omega, (Hw1.o.own.lt _ hk).2⟩)
 have hB1 := Blk.lt HB1.o
 clear ka kb kc
 have Hrg : Hid (w1.rangeAt w.heap.size 6 (lkS o.look p1 k1 p2 k2 p3 k3).toList) := hd' (Blk.range (post := []) HB1.o (by rw [List.append_nil]; exact ukx o _ _ _) rfl)
 have hA : Blk (w1.alloc (.cells lz28 35)) w1.heap.size 35 lz28 := heap_alloc_new w1 _
 have Hth : Hid ((w1.alloc (.cells lz28 35)).there w1.heap.size 0 (lkS o.look p1 k1 p2 k2 p3 k3).size) := hd' (hA.there 0 _ (by rw [uj8]; simp))
 have HiL2 : Hid ((Tryz.prog.info? 35).map (·.size) = some (lkS o.look p1 k1 p2 k2 p3 k3).size) := hd' (size_look.trans (by rw [uj8]))
 have hA2 := hA.sets 0 (lkS o.look p1 k1 p2 k2 p3 k3).toList
 rw [uef _ _ (by simp [uai])] at hA2
 have hM2 : Gou.Mod (fun k => k = w1.heap.size) w1 ((w1.alloc (.cells lz28 35)).setCells w1.heap.size 0 (lkS o.look p1 k1 p2 k2 p3 k3).toList) := (Gou.Mod.alloc _ _ _).trans' (Blk.setMod _ _ _ _)
 have HW2 : Hid (Wr ((w1.alloc (.cells lz28 35)).setCells w1.heap.size 0 (lkS o.look p1 k1 p2 k2 p3 k3).toList) W _ v1) := hd' (Hw1.o.other hM2 (by have := Blk.lt Hw1.o.box; omega) (fun k hk e => by have := (Hv1.o k hk).2; omega))
 have HL2 : Hid (Blk ((w1.alloc (.cells lz28 35)).setCells w1.heap.size 0 (lkS o.look p1 k1 p2 k2 p3 k3).toList) w1.heap.size 35 (lkS o.look p1 k1 p2 k2 p3 k3)) := hd' hA2
 have HB2 : Hid (Blk ((w1.alloc (.cells lz28 35)).setCells w1.heap.size 0 (lkS o.look p1 k1 p2 k2 p3 k3).toList) w.heap.size 37 (opS o p1 k1 p2 k2 p3 k3)) := hd' (HB1.o.mod hM2 (by omega))
 have HR2 : Hid (LookR (fun b => b < W) ((w1.alloc (.cells lz28 35)).setCells w1.heap.size 0 (lkS o.look p1 k1 p2 k2 p3 k3).toList) o.look (.slice p1 o.look.content.pix.length k1) (.slice p2 o.look.filt.nodes.length k2) (.slice p3 o.look.back.nodes.length k3)) := hd' (HR1.o.mod hM2 (fun k _ hG e => by have := Blk.lt Hw1.o.box; omega))
 have T2a : Hid (WTo W w vs ((w1.alloc (.cells lz28 35)).setCells w1.heap.size 0 (lkS o.look p1 k1 p2 k2 p3 k3).toList) v1) := hd' (T1.o.trans ⟨((Gou.Mod.alloc (fun _ => False) w1 _).trans (Blk.setMod _ w1.heap.size 0 _) (fun i hi e => by omega)).imp (fun _ _ h => h.elim), fun g hg => .inl hg⟩)
 have HS2 : Hid ((((w1.alloc (.cells lz28 35)).setCells w1.heap.size 0 (lkS o.look p1 k1 p2 k2 p3 k3).toList)).heap.size = w1.heap.size + 1) := hd' (by rw [ukm]; simp)
 have kd : (((w1.alloc (.cells lz28 35)).setCells w1.heap.size 0 (lkS o.look p1 k1 p2 k2 p3 k3).toList)).cell? ⟨w.heap.size, 0, none⟩ = some (iV 8) := (by rw [← HK.o]; exact HB2.o.cell 0 rfl)
 clear hA hA2 hM2
 have c8 : (((w1.alloc (.cells lz28 35)).setCells w1.heap.size 0 (lkS o.look p1 k1 p2 k2 p3 k3).toList)).cell? ⟨w1.heap.size, 8, none⟩ = some (iV o.look.mode) := HL2.o.cell 8 rfl
 go_wp2_with (first | ((with_reducible refine wpList_load_mid ?g1_5 35 ?x1_5 ?o1_5 w.heap.size 6 ?h1_5 (lkS o.look p1 k1 p2 k2 p3 k3).toList ?d1_5 ?c1_5 ?u1_5 ?s1_5 ?i1_5 ?r1_5); (case g1_5 => exact rfl); (case o1_5 => exact rfl); (case h1_5 => exact rfl); (case c1_5 => exact Hrg.o); (case u1_5 => exact Tryz.underlying35); (case s1_5 => exact rfl); (case i1_5 => exact HiL.o)) | ((with_reducible refine wpList_store_mid ?g1_6 35 ?x1_6 ?y1_6 ?o1_6 w1.heap.size 0 (lkS o.look p1 k1 p2 k2 p3 k3) ?h1_6 ?j1_6 ?t1_6 ?i1_6 ?s1_6 ?r1_6); (case g1_6 => exact rfl); (case o1_6 => exact rfl); (case h1_6 => exact rfl); (case j1_6 => exact rfl); (case t1_6 => exact Hth.o); (case i1_6 => exact HiL2.o); (case s1_6 => exact uka _ _ _ _ _ _ _ _ _ _)) | fail)
 generalize hW2 : ((w1.alloc (.cells lz28 35)).setCells w1.heap.size 0 (lkS o.look p1 k1 p2 k2 p3 k3).toList) = wq at *
 clear hW2 kd
 refine (ukc _ W _ v1 _ [o.look.mode] (HW2.o.alloc _) (HW2.o.lit [o.look.mode] _ rfl 1 rfl _ (by first | rfl | exact HS2.o.symm)) (by (try simp only [List.length_append, List.length_cons, List.length_nil] at *); omega)).mono ?_
 rintro e w2 ⟨v2, t2, h2⟩
 have T2 := hd' ((T2a.o.trans (WTo.other (Gou.Mod.alloc _ _ _) v1)).trans t2)
 rcases hr2 : ug4 [o.look.mode] with _ | es2
 ·rw [hr2] at h2
  subst h2
  exact ⟨rfl, v2, T2.o, by have g1 := Hr1.o; simp [ukb, HK.o, g1, hr2]⟩
 rw [hr2] at h2
 obtain ⟨rfl, hw2⟩ := h2
 have Hr2 := hd' hr2
 have Hw2 := hd' hw2
 have Tk2 := hd' t2
 clear hr2 hw2 t2
 go_wp2_with fail
 go_end0
 exact ⟨v2, T2.o, by
  have g1 := Hr1.o
  have g2 := Hr2.o
  simp [ukb, HK.o, g1, g2]
  simpa using Hw2.o⟩
theorem wop_4 (w : World) (W : Nat) (bs : List Nat) (vs : Value) (p1 : Option Addr) (k1 : Nat) (p2 : Option Addr) (k2 : Nat) (p3 : Option Addr) (k3 : Nat) (o : Opr) (hk : o.kind = 4) (h : Wr w W bs vs) (hx : LookR (fun b => b < W) w o.look (.slice p1 o.look.content.pix.length k1) (.slice p2 o.look.filt.nodes.length k2) (.slice p3 o.look.back.nodes.length k3)) (hl : bs.length ≤ 700000000) :
  Calls Tryz.prog 55 #[.pointer (some ⟨W, 0, none⟩), .agg (opS o p1 k1 p2 k2 p3 k3)] w (WrP w W bs vs (ukb o)) := by
 have H := hd' h
 have HB0 : Hid (Blk (w.alloc (.cells (opS o p1 k1 p2 k2 p3 k3) 37)) w.heap.size 37 (opS o p1 k1 p2 k2 p3 k3)) := hd' (heap_alloc_new w _)
 have HW0 : Hid (Wr (w.alloc (.cells (opS o p1 k1 p2 k2 p3 k3) 37)) W bs vs) := hd' (h.alloc _)
 have HT0 : Hid (WTo W w vs (w.alloc (.cells (opS o p1 k1 p2 k2 p3 k3) 37)) vs) := hd' (WTo.other (Gou.Mod.alloc _ _ _) vs)
 have HR0 : Hid (LookR (fun b => b < W) (w.alloc (.cells (opS o p1 k1 p2 k2 p3 k3) 37)) o.look (.slice p1 o.look.content.pix.length k1) (.slice p2 o.look.filt.nodes.length k2) (.slice p3 o.look.back.nodes.length k3)) := hd' (hx.mod (Gou.Mod.alloc (fun _ => False) _ _) (fun _ _ _ h => h))
 have HS0 : Hid (((w.alloc (.cells (opS o p1 k1 p2 k2 p3 k3) 37))).heap.size = w.heap.size + 1) := hd' (by simp)
 have hWlt := Blk.lt h.box
 have HiL : Hid ((Tryz.prog.info? 35).map (·.size) = some (lkS o.look p1 k1 p2 k2 p3 k3).toList.length) := hd' (size_look.trans (by simp [uai]))
 have hvs := fun k hk => (H.o.own.lt k hk).2
 have Hvs := hd' hvs
 clear h hx hvs
 have HK := hd' hk
 clear hk
 go_enter Tryz.func55, Tryz.ntmps55
 have ka : ((w.alloc (.cells (opS o p1 k1 p2 k2 p3 k3) 37))).cell? ⟨w.heap.size, 1, none⟩ = some (iV o.id.1) := HB0.o.cell 1 rfl
 have kb : ((w.alloc (.cells (opS o p1 k1 p2 k2 p3 k3) 37))).cell? ⟨w.heap.size, 2, none⟩ = some (iV o.id.2) := HB0.o.cell 2 rfl
 have kc : ((w.alloc (.cells (opS o p1 k1 p2 k2 p3 k3) 37))).cell? ⟨w.heap.size, 0, none⟩ = some (iV 4) := (by rw [← HK.o]; exact HB0.o.cell 0 rfl)
 go_wp2_with fail
 generalize hW0 : (w.alloc (.cells (opS o p1 k1 p2 k2 p3 k3) 37)) = w0 at *
 clear hW0
 refine (ulw _ W bs vs o.id.1 o.id.2 HW0.o (by omega)).mono ?_
 rintro e w1 ⟨v1, t1, h1⟩
 have T1 := hd' (HT0.o.trans t1)
 rcases hr1 : ug4 [o.id.1, o.id.2] with _ | es1
 ·rw [hr1] at h1
  subst h1
  exact ⟨rfl, v1, T1.o, by have hk := HK.o; simp [ukb, hk, hr1]⟩
 rw [hr1] at h1
 obtain ⟨rfl, hw1⟩ := h1
 have Hr1 := hd' hr1
 have Hw1 := hd' hw1
 have Tk1 := hd' t1
 clear hr1 hw1 t1
 have hE1 := uj9 Hr1.o
 have HB1 : Hid (Blk w1 w.heap.size 37 (opS o p1 k1 p2 k2 p3 k3)) := hd' (HB0.o.mod Tk1.o.mod (fun e => by
  rcases e with e | e
  ·omega
  ·have := Hvs.o _ e; omega))
 have HR1 : Hid (LookR (fun b => b < W) w1 o.look (.slice p1 o.look.content.pix.length k1) (.slice p2 o.look.filt.nodes.length k2) (.slice p3 o.look.back.nodes.length k3)) := hd' (HR0.o.mod (WTo.far Tk1.o HW0.o) (fun k _ hG hk => by omega))
 have Hv1 : Hid (∀ k, v1.ownBlock = some k → k ≠ w.heap.size ∧ k < w1.heap.size) := hd' (fun k hk => ⟨fun e => by
  rcases Tk1.o.fresh _ hk with e2 | e2
  ·have := Hvs.o _ e2; omega
  ·have := HS0.o; omega, (Hw1.o.own.lt _ hk).2⟩)
 have hB1 := Blk.lt HB1.o
 clear ka kb kc
 have Hrg : Hid (w1.rangeAt w.heap.size 6 (lkS o.look p1 k1 p2 k2 p3 k3).toList) := hd' (Blk.range (post := []) HB1.o (by rw [List.append_nil]; exact ukx o _ _ _) rfl)
 have hA : Blk (w1.alloc (.cells lz28 35)) w1.heap.size 35 lz28 := heap_alloc_new w1 _
 have Hth : Hid ((w1.alloc (.cells lz28 35)).there w1.heap.size 0 (lkS o.look p1 k1 p2 k2 p3 k3).size) := hd' (hA.there 0 _ (by rw [uj8]; simp))
 have HiL2 : Hid ((Tryz.prog.info? 35).map (·.size) = some (lkS o.look p1 k1 p2 k2 p3 k3).size) := hd' (size_look.trans (by rw [uj8]))
 have hA2 := hA.sets 0 (lkS o.look p1 k1 p2 k2 p3 k3).toList
 rw [uef _ _ (by simp [uai])] at hA2
 have hM2 : Gou.Mod (fun k => k = w1.heap.size) w1 ((w1.alloc (.cells lz28 35)).setCells w1.heap.size 0 (lkS o.look p1 k1 p2 k2 p3 k3).toList) := (Gou.Mod.alloc _ _ _).trans' (Blk.setMod _ _ _ _)
 have HW2 : Hid (Wr ((w1.alloc (.cells lz28 35)).setCells w1.heap.size 0 (lkS o.look p1 k1 p2 k2 p3 k3).toList) W _ v1) := hd' (Hw1.o.other hM2 (by have := Blk.lt Hw1.o.box; omega) (fun k hk e => by have := (Hv1.o k hk).2; omega))
 have HL2 : Hid (Blk ((w1.alloc (.cells lz28 35)).setCells w1.heap.size 0 (lkS o.look p1 k1 p2 k2 p3 k3).toList) w1.heap.size 35 (lkS o.look p1 k1 p2 k2 p3 k3)) := hd' hA2
 have HB2 : Hid (Blk ((w1.alloc (.cells lz28 35)).setCells w1.heap.size 0 (lkS o.look p1 k1 p2 k2 p3 k3).toList) w.heap.size 37 (opS o p1 k1 p2 k2 p3 k3)) := hd' (HB1.o.mod hM2 (by omega))
 have HR2 : Hid (LookR (fun b => b < W) ((w1.alloc (.cells lz28 35)).setCells w1.heap.size 0 (lkS o.look p1 k1 p2 k2 p3 k3).toList) o.look (.slice p1 o.look.content.pix.length k1) (.slice p2 o.look.filt.nodes.length k2) (.slice p3 o.look.back.nodes.length k3)) := hd' (HR1.o.mod hM2 (fun k _ hG e => by have := Blk.lt Hw1.o.box; omega))
 have T2a : Hid (WTo W w vs ((w1.alloc (.cells lz28 35)).setCells w1.heap.size 0 (lkS o.look p1 k1 p2 k2 p3 k3).toList) v1) := hd' (T1.o.trans ⟨((Gou.Mod.alloc (fun _ => False) w1 _).trans (Blk.setMod _ w1.heap.size 0 _) (fun i hi e => by omega)).imp (fun _ _ h => h.elim), fun g hg => .inl hg⟩)
 have HS2 : Hid ((((w1.alloc (.cells lz28 35)).setCells w1.heap.size 0 (lkS o.look p1 k1 p2 k2 p3 k3).toList)).heap.size = w1.heap.size + 1) := hd' (by rw [ukm]; simp)
 have kd : (((w1.alloc (.cells lz28 35)).setCells w1.heap.size 0 (lkS o.look p1 k1 p2 k2 p3 k3).toList)).cell? ⟨w.heap.size, 0, none⟩ = some (iV 4) := (by rw [← HK.o]; exact HB2.o.cell 0 rfl)
 clear hA hA2 hM2
 have q5 : (((w1.alloc (.cells lz28 35)).setCells w1.heap.size 0 (lkS o.look p1 k1 p2 k2 p3 k3).toList)).cell? ⟨w.heap.size, 5, none⟩ = some (iV o.at_) := HB2.o.cell 5 rfl
 go_wp2_with (first | ((with_reducible refine wpList_load_mid ?g1_7 35 ?x1_7 ?o1_7 w.heap.size 6 ?h1_7 (lkS o.look p1 k1 p2 k2 p3 k3).toList ?d1_7 ?c1_7 ?u1_7 ?s1_7 ?i1_7 ?r1_7); (case g1_7 => exact rfl); (case o1_7 => exact rfl); (case h1_7 => exact rfl); (case c1_7 => exact Hrg.o); (case u1_7 => exact Tryz.underlying35); (case s1_7 => exact rfl); (case i1_7 => exact HiL.o)) | ((with_reducible refine wpList_store_mid ?g1_8 35 ?x1_8 ?y1_8 ?o1_8 w1.heap.size 0 (lkS o.look p1 k1 p2 k2 p3 k3) ?h1_8 ?j1_8 ?t1_8 ?i1_8 ?s1_8 ?r1_8); (case g1_8 => exact rfl); (case o1_8 => exact rfl); (case h1_8 => exact rfl); (case j1_8 => exact rfl); (case t1_8 => exact Hth.o); (case i1_8 => exact HiL2.o); (case s1_8 => exact uka _ _ _ _ _ _ _ _ _ _)) | fail)
 generalize hW2 : ((w1.alloc (.cells lz28 35)).setCells w1.heap.size 0 (lkS o.look p1 k1 p2 k2 p3 k3).toList) = wq at *
 clear hW2 kd
 refine (ukc _ W _ v1 _ [o.at_] (HW2.o.alloc _) (HW2.o.lit [o.at_] _ rfl 1 rfl _ (by first | rfl | exact HS2.o.symm)) (by (try simp only [List.length_append, List.length_cons, List.length_nil] at *); omega)).mono ?_
 rintro e w2 ⟨v2, t2, h2⟩
 have T2 := hd' ((T2a.o.trans (WTo.other (Gou.Mod.alloc _ _ _) v1)).trans t2)
 rcases hr2 : ug4 [o.at_] with _ | es2
 ·rw [hr2] at h2
  subst h2
  exact ⟨rfl, v2, T2.o, by have g1 := Hr1.o; simp [ukb, HK.o, g1, hr2]⟩
 rw [hr2] at h2
 obtain ⟨rfl, hw2⟩ := h2
 have Hr2 := hd' hr2
 have Hw2 := hd' hw2
 have Tk2 := hd' t2
 clear hr2 hw2 t2
 go_wp2_with fail
 go_end0
 exact ⟨v2, T2.o, by
  have g1 := Hr1.o
  have g2 := Hr2.o
  simp [ukb, HK.o, g1, g2]
  simpa using Hw2.o⟩
theorem wop_3 (w : World) (W : Nat) (bs : List Nat) (vs : Value) (p1 : Option Addr) (k1 : Nat) (p2 : Option Addr) (k2 : Nat) (p3 : Option Addr) (k3 : Nat) (o : Opr) (hk : o.kind = 3) (h : Wr w W bs vs) (hx : LookR (fun b => b < W) w o.look (.slice p1 o.look.content.pix.length k1) (.slice p2 o.look.filt.nodes.length k2) (.slice p3 o.look.back.nodes.length k3)) (hl : bs.length ≤ 700000000) :
  Calls Tryz.prog 55 #[.pointer (some ⟨W, 0, none⟩), .agg (opS o p1 k1 p2 k2 p3 k3)] w (WrP w W bs vs (ukb o)) := by
 have H := hd' h
 have HB0 : Hid (Blk (w.alloc (.cells (opS o p1 k1 p2 k2 p3 k3) 37)) w.heap.size 37 (opS o p1 k1 p2 k2 p3 k3)) := hd' (heap_alloc_new w _)
 have HW0 : Hid (Wr (w.alloc (.cells (opS o p1 k1 p2 k2 p3 k3) 37)) W bs vs) := hd' (h.alloc _)
 have HT0 : Hid (WTo W w vs (w.alloc (.cells (opS o p1 k1 p2 k2 p3 k3) 37)) vs) := hd' (WTo.other (Gou.Mod.alloc _ _ _) vs)
 have HR0 : Hid (LookR (fun b => b < W) (w.alloc (.cells (opS o p1 k1 p2 k2 p3 k3) 37)) o.look (.slice p1 o.look.content.pix.length k1) (.slice p2 o.look.filt.nodes.length k2) (.slice p3 o.look.back.nodes.length k3)) := hd' (hx.mod (Gou.Mod.alloc (fun _ => False) _ _) (fun _ _ _ h => h))
 have HS0 : Hid (((w.alloc (.cells (opS o p1 k1 p2 k2 p3 k3) 37))).heap.size = w.heap.size + 1) := hd' (by simp)
 have hWlt := Blk.lt h.box
 have HiL : Hid ((Tryz.prog.info? 35).map (·.size) = some (lkS o.look p1 k1 p2 k2 p3 k3).toList.length) := hd' (size_look.trans (by simp [uai]))
 have hvs := fun k hk => (H.o.own.lt k hk).2
 have Hvs := hd' hvs
 clear h hx hvs
 have HK := hd' hk
 clear hk
 go_enter Tryz.func55, Tryz.ntmps55
 have ka : ((w.alloc (.cells (opS o p1 k1 p2 k2 p3 k3) 37))).cell? ⟨w.heap.size, 1, none⟩ = some (iV o.id.1) := HB0.o.cell 1 rfl
 have kb : ((w.alloc (.cells (opS o p1 k1 p2 k2 p3 k3) 37))).cell? ⟨w.heap.size, 2, none⟩ = some (iV o.id.2) := HB0.o.cell 2 rfl
 have kc : ((w.alloc (.cells (opS o p1 k1 p2 k2 p3 k3) 37))).cell? ⟨w.heap.size, 0, none⟩ = some (iV 3) := (by rw [← HK.o]; exact HB0.o.cell 0 rfl)
 go_wp2_with fail
 generalize hW0 : (w.alloc (.cells (opS o p1 k1 p2 k2 p3 k3) 37)) = w0 at *
 clear hW0
 refine (ulw _ W bs vs o.id.1 o.id.2 HW0.o (by omega)).mono ?_
 rintro e w1 ⟨v1, t1, h1⟩
 have T1 := hd' (HT0.o.trans t1)
 rcases hr1 : ug4 [o.id.1, o.id.2] with _ | es1
 ·rw [hr1] at h1
  subst h1
  exact ⟨rfl, v1, T1.o, by have hk := HK.o; simp [ukb, hk, hr1]⟩
 rw [hr1] at h1
 obtain ⟨rfl, hw1⟩ := h1
 have Hr1 := hd' hr1
 have Hw1 := hd' hw1
 have Tk1 := hd' t1
 clear hr1 hw1 t1
 have hE1 := uj9 Hr1.o
 have HB1 : Hid (Blk w1 w.heap.size 37 (opS o p1 k1 p2 k2 p3 k3)) := hd' (HB0.o.mod Tk1.o.mod (fun e => by
  rcases e with e | e
  ·omega
  ·have := Hvs.o _ e; omega))
 have HR1 : Hid (LookR (fun b => b < W) w1 o.look (.slice p1 o.look.content.pix.length k1) (.slice p2 o.look.filt.nodes.length k2) (.slice p3 o.look.back.nodes.length k3)) := hd' (HR0.o.mod (WTo.far Tk1.o HW0.o) (fun k _ hG hk => by omega))
 have Hv1 : Hid (∀ k, v1.ownBlock = some k → k ≠ w.heap.size ∧ k < w1.heap.size) := hd' (fun k hk => ⟨fun e => by
  rcases Tk1.o.fresh _ hk with e2 | e2
  ·have := Hvs.o _ e2; omega
  ·have := HS0.o; omega, (Hw1.o.own.lt _ hk).2⟩)
 have hB1 := Blk.lt HB1.o
 clear ka kb kc
 have Hrg : Hid (w1.rangeAt w.heap.size 6 (lkS o.look p1 k1 p2 k2 p3 k3).toList) := hd' (Blk.range (post := []) HB1.o (by rw [List.append_nil]; exact ukx o _ _ _) rfl)
 have hA : Blk (w1.alloc (.cells lz28 35)) w1.heap.size 35 lz28 := heap_alloc_new w1 _
 have Hth : Hid ((w1.alloc (.cells lz28 35)).there w1.heap.size 0 (lkS o.look p1 k1 p2 k2 p3 k3).size) := hd' (hA.there 0 _ (by rw [uj8]; simp))
 have HiL2 : Hid ((Tryz.prog.info? 35).map (·.size) = some (lkS o.look p1 k1 p2 k2 p3 k3).size) := hd' (size_look.trans (by rw [uj8]))
 have hA2 := hA.sets 0 (lkS o.look p1 k1 p2 k2 p3 k3).toList
 rw [uef _ _ (by simp [uai])] at hA2
 have hM2 : Gou.Mod (fun k => k = w1.heap.size) w1 ((w1.alloc (.cells lz28 35)).setCells w1.heap.size 0 (lkS o.look p1 k1 p2 k2 p3 k3).toList) := (Gou.Mod.alloc _ _ _).trans' (Blk.setMod _ _ _ _)
 have HW2 : Hid (Wr ((w1.alloc (.cells lz28 35)).setCells w1.heap.size 0 (lkS o.look p1 k1 p2 k2 p3 k3).toList) W _ v1) := hd' (Hw1.o.other hM2 (by have := Blk.lt Hw1.o.box; omega) (fun k hk e => by have := (Hv1.o k hk).2; omega))
 have HL2 : Hid (Blk ((w1.alloc (.cells lz28 35)).setCells w1.heap.size 0 (lkS o.look p1 k1 p2 k2 p3 k3).toList) w1.heap.size 35 (lkS o.look p1 k1 p2 k2 p3 k3)) := hd' hA2
 have HB2 : Hid (Blk ((w1.alloc (.cells lz28 35)).setCells w1.heap.size 0 (lkS o.look p1 k1 p2 k2 p3 k3).toList) w.heap.size 37 (opS o p1 k1 p2 k2 p3 k3)) := hd' (HB1.o.mod hM2 (by omega))
 have HR2 : Hid (LookR (fun b => b < W) ((w1.alloc (.cells lz28 35)).setCells w1.heap.size 0 (lkS o.look p1 k1 p2 k2 p3 k3).toList) o.look (.slice p1 o.look.content.pix.length k1) (.slice p2 o.look.filt.nodes.length k2) (.slice p3 o.look.back.nodes.length k3)) := hd' (HR1.o.mod hM2 (fun k _ hG e => by have := Blk.lt Hw1.o.box; omega))
 have T2a : Hid (WTo W w vs ((w1.alloc (.cells lz28 35)).setCells w1.heap.size 0 (lkS o.look p1 k1 p2 k2 p3 k3).toList) v1) := hd' (T1.o.trans ⟨((Gou.Mod.alloc (fun _ => False) w1 _).trans (Blk.setMod _ w1.heap.size 0 _) (fun i hi e => by omega)).imp (fun _ _ h => h.elim), fun g hg => .inl hg⟩)
 have HS2 : Hid ((((w1.alloc (.cells lz28 35)).setCells w1.heap.size 0 (lkS o.look p1 k1 p2 k2 p3 k3).toList)).heap.size = w1.heap.size + 1) := hd' (by rw [ukm]; simp)
 have kd : (((w1.alloc (.cells lz28 35)).setCells w1.heap.size 0 (lkS o.look p1 k1 p2 k2 p3 k3).toList)).cell? ⟨w.heap.size, 0, none⟩ = some (iV 3) := (by rw [← HK.o]; exact HB2.o.cell 0 rfl)
 clear hA hA2 hM2
 have q3 : (((w1.alloc (.cells lz28 35)).setCells w1.heap.size 0 (lkS o.look p1 k1 p2 k2 p3 k3).toList)).cell? ⟨w.heap.size, 3, none⟩ = some (iV o.to.1) := HB2.o.cell 3 rfl
 have q4 : (((w1.alloc (.cells lz28 35)).setCells w1.heap.size 0 (lkS o.look p1 k1 p2 k2 p3 k3).toList)).cell? ⟨w.heap.size, 4, none⟩ = some (iV o.to.2) := HB2.o.cell 4 rfl
 go_wp2_with (first | ((with_reducible refine wpList_load_mid ?g1_9 35 ?x1_9 ?o1_9 w.heap.size 6 ?h1_9 (lkS o.look p1 k1 p2 k2 p3 k3).toList ?d1_9 ?c1_9 ?u1_9 ?s1_9 ?i1_9 ?r1_9); (case g1_9 => exact rfl); (case o1_9 => exact rfl); (case h1_9 => exact rfl); (case c1_9 => exact Hrg.o); (case u1_9 => exact Tryz.underlying35); (case s1_9 => exact rfl); (case i1_9 => exact HiL.o)) | ((with_reducible refine wpList_store_mid ?g1_10 35 ?x1_10 ?y1_10 ?o1_10 w1.heap.size 0 (lkS o.look p1 k1 p2 k2 p3 k3) ?h1_10 ?j1_10 ?t1_10 ?i1_10 ?s1_10 ?r1_10); (case g1_10 => exact rfl); (case o1_10 => exact rfl); (case h1_10 => exact rfl); (case j1_10 => exact rfl); (case t1_10 => exact Hth.o); (case i1_10 => exact HiL2.o); (case s1_10 => exact uka _ _ _ _ _ _ _ _ _ _)) | fail)
 generalize hW2 : ((w1.alloc (.cells lz28 35)).setCells w1.heap.size 0 (lkS o.look p1 k1 p2 k2 p3 k3).toList) = wq at *
 clear hW2 kd
 refine (ulw _ W _ v1 o.to.1 o.to.2 HW2.o (by (try simp only [List.length_append, List.length_cons, List.length_nil] at *); omega)).mono ?_
 rintro e w2 ⟨v2, t2, h2⟩
 have T2 := hd' (T2a.o.trans t2)
 rcases hr2 : ug4 [o.to.1, o.to.2] with _ | es2
 ·rw [hr2] at h2
  subst h2
  exact ⟨rfl, v2, T2.o, by have g1 := Hr1.o; simp [ukb, HK.o, g1, hr2]⟩
 rw [hr2] at h2
 obtain ⟨rfl, hw2⟩ := h2
 have Hr2 := hd' hr2
 have Hw2 := hd' hw2
 have Tk2 := hd' t2
 clear hr2 hw2 t2
 have HB3 : Hid (Blk w2 w.heap.size 37 (opS o p1 k1 p2 k2 p3 k3)) := hd' (HB2.o.mod Tk2.o.mod (fun e => by
  rcases e with e | e
  ·omega
  ·exact (Hv1.o _ e).1 rfl))
 have hE2 := uj9 Hr2.o
 have q5 : w2.cell? ⟨w.heap.size, 5, none⟩ = some (iV o.at_) := HB3.o.cell 5 rfl
 clear q3 q4
 go_wp2_with fail
 refine (ukc _ W _ v2 _ [o.at_] (Hw2.o.alloc _) (Hw2.o.lit [o.at_] _ rfl 1 rfl _ rfl) (by (try simp only [List.length_append, List.length_cons, List.length_nil] at *); omega)).mono ?_
 rintro e w3 ⟨v3, t3, h3⟩
 have T3 := hd' ((T2.o.trans (WTo.other (Gou.Mod.alloc _ _ _) v2)).trans t3)
 rcases hr3 : ug4 [o.at_] with _ | es3
 ·rw [hr3] at h3
  subst h3
  exact ⟨rfl, v3, T3.o, by have g1 := Hr1.o; have g2 := Hr2.o; simp [ukb, HK.o, g1, g2, hr3]⟩
 rw [hr3] at h3
 obtain ⟨rfl, hw3⟩ := h3
 have Hr3 := hd' hr3
 have Hw3 := hd' hw3
 have Tk3 := hd' t3
 clear hr3 hw3 t3
 go_wp2_with fail
 go_end0
 exact ⟨v3, T3.o, by
  have g1 := Hr1.o
  have g2 := Hr2.o
  have g3 := Hr3.o
  simp [ukb, HK.o, g1, g2, g3]
  simpa using Hw3.o⟩
theorem wop_6f (w : World) (W : Nat) (bs : List Nat) (vs : Value) (p1 : Option Addr) (k1 : Nat) (p2 : Option Addr) (k2 : Nat) (p3 : Option Addr) (k3 : Nat) (o : Opr) (hk : o.kind = 6) (hf : o.look.hasClip = false) (h : Wr w W bs vs) (hx : LookR (fun b => b < W) w o.look (.slice p1 o.look.content.pix.length k1) (.slice p2 o.look.filt.nodes.length k2) (.slice p3 o.look.back.nodes.length k3)) (hl : bs.length ≤ 700000000) :
  Calls Tryz.prog 55 #[.pointer (some ⟨W, 0, none⟩), .agg (opS o p1 k1 p2 k2 p3 k3)] w (WrP w W bs vs (ukb o)) := by
 have H := hd' h
 have HB0 : Hid (Blk (w.alloc (.cells (opS o p1 k1 p2 k2 p3 k3) 37)) w.heap.size 37 (opS o p1 k1 p2 k2 p3 k3)) := hd' (heap_alloc_new w _)
 have HW0 : Hid (Wr (w.alloc (.cells (opS o p1 k1 p2 k2 p3 k3) 37)) W bs vs) := hd' (h.alloc _)
 have HT0 : Hid (WTo W w vs (w.alloc (.cells (opS o p1 k1 p2 k2 p3 k3) 37)) vs) := hd' (WTo.other (Gou.Mod.alloc _ _ _) vs)
 have HR0 : Hid (LookR (fun b => b < W) (w.alloc (.cells (opS o p1 k1 p2 k2 p3 k3) 37)) o.look (.slice p1 o.look.content.pix.length k1) (.slice p2 o.look.filt.nodes.length k2) (.slice p3 o.look.back.nodes.length k3)) := hd' (hx.mod (Gou.Mod.alloc (fun _ => False) _ _) (fun _ _ _ h => h))
 have HS0 : Hid (((w.alloc (.cells (opS o p1 k1 p2 k2 p3 k3) 37))).heap.size = w.heap.size + 1) := hd' (by simp)
 have hWlt := Blk.lt h.box
 have HiL : Hid ((Tryz.prog.info? 35).map (·.size) = some (lkS o.look p1 k1 p2 k2 p3 k3).toList.length) := hd' (size_look.trans (by simp [uai]))
 have hvs := fun k hk => (H.o.own.lt k hk).2
 have Hvs := hd' hvs
 clear h hx hvs
 have HK := hd' hk
 clear hk
 have HF := hd' hf
 clear hf
 go_enter Tryz.func55, Tryz.ntmps55
 have ka : ((w.alloc (.cells (opS o p1 k1 p2 k2 p3 k3) 37))).cell? ⟨w.heap.size, 1, none⟩ = some (iV o.id.1) := HB0.o.cell 1 rfl
 have kb : ((w.alloc (.cells (opS o p1 k1 p2 k2 p3 k3) 37))).cell? ⟨w.heap.size, 2, none⟩ = some (iV o.id.2) := HB0.o.cell 2 rfl
 have kc : ((w.alloc (.cells (opS o p1 k1 p2 k2 p3 k3) 37))).cell? ⟨w.heap.size, 0, none⟩ = some (iV 6) := (by rw [← HK.o]; exact HB0.o.cell 0 rfl)
 go_wp2_with fail
 generalize hW0 : (w.alloc (.cells (opS o p1 k1 p2 k2 p3 k3) 37)) = w0 at *
 clear hW0
 refine (ulw _ W bs vs o.id.1 o.id.2 HW0.o (by omega)).mono ?_
 rintro e w1 ⟨v1, t1, h1⟩
 have T1 := hd' (HT0.o.trans t1)
 rcases hr1 : ug4 [o.id.1, o.id.2] with _ | es1
 ·rw [hr1] at h1
  subst h1
  exact ⟨rfl, v1, T1.o, by have hk := HK.o; simp [ukb, hk, hr1]⟩
 rw [hr1] at h1
 obtain ⟨rfl, hw1⟩ := h1
 have Hr1 := hd' hr1
 have Hw1 := hd' hw1
 have Tk1 := hd' t1
 clear hr1 hw1 t1
 have hE1 := uj9 Hr1.o
 have HB1 : Hid (Blk w1 w.heap.size 37 (opS o p1 k1 p2 k2 p3 k3)) := hd' (HB0.o.mod Tk1.o.mod (fun e => by
  rcases e with e | e
  ·omega
  ·have := Hvs.o _ e; omega))
 have HR1 : Hid (LookR (fun b => b < W) w1 o.look (.slice p1 o.look.content.pix.length k1) (.slice p2 o.look.filt.nodes.length k2) (.slice p3 o.look.back.nodes.length k3)) := hd' (HR0.o.mod (WTo.far Tk1.o HW0.o) (fun k _ hG hk => by omega))
 have Hv1 : Hid (∀ k, v1.ownBlock = some k → k ≠ w.heap.size ∧ k < w1.heap.size) := hd' (fun k hk => ⟨fun e => by
  rcases Tk1.o.fresh _ hk with e2 | e2
  ·have := Hvs.o _ e2; omega
  ·have := HS0.o; omega, (Hw1.o.own.lt _ hk).2⟩)
 have hB1 := Blk.lt HB1.o
 clear ka kb kc
 have Hrg : Hid (w1.rangeAt w.heap.size 6 (lkS o.look p1 k1 p2 k2 p3 k3).toList) := hd' (Blk.range (post := []) HB1.o (by rw [List.append_nil]; exact ukx o _ _ _) rfl)
 have hA : Blk (w1.alloc (.cells lz28 35)) w1.heap.size 35 lz28 := heap_alloc_new w1 _
 have Hth : Hid ((w1.alloc (.cells lz28 35)).there w1.heap.size 0 (lkS o.look p1 k1 p2 k2 p3 k3).size) := hd' (hA.there 0 _ (by rw [uj8]; simp))
 have HiL2 : Hid ((Tryz.prog.info? 35).map (·.size) = some (lkS o.look p1 k1 p2 k2 p3 k3).size) := hd' (size_look.trans (by rw [uj8]))
 have hA2 := hA.sets 0 (lkS o.look p1 k1 p2 k2 p3 k3).toList
 rw [uef _ _ (by simp [uai])] at hA2
 have hM2 : Gou.Mod (fun k => k = w1.heap.size) w1 ((w1.alloc (.cells lz28 35)).setCells w1.heap.size 0 (lkS o.look p1 k1 p2 k2 p3 k3).toList) := (Gou.Mod.alloc _ _ _).trans' (Blk.setMod _ _ _ _)
 have HW2 : Hid (Wr ((w1.alloc (.cells lz28 35)).setCells w1.heap.size 0 (lkS o.look p1 k1 p2 k2 p3 k3).toList) W _ v1) := hd' (Hw1.o.other hM2 (by have := Blk.lt Hw1.o.box; omega) (fun k hk e => by have := (Hv1.o k hk).2; omega))
 have HL2 : Hid (Blk ((w1.alloc (.cells lz28 35)).setCells w1.heap.size 0 (lkS o.look p1 k1 p2 k2 p3 k3).toList) w1.heap.size 35 (lkS o.look p1 k1 p2 k2 p3 k3)) := hd' hA2
 have HB2 : Hid (Blk ((w1.alloc (.cells lz28 35)).setCells w1.heap.size 0 (lkS o.look p1 k1 p2 k2 p3 k3).toList) w.heap.size 37 (opS o p1 k1 p2 k2 p3 k3)) := hd' (HB1.o.mod hM2 (by omega))
 have HR2 : Hid (LookR (fun b => b < W) ((w1.alloc (.cells lz28 35)).setCells w1.heap.size 0 (lkS o.look p1 k1 p2 k2 p3 k3).toList) o.look (.slice p1 o.look.content.pix.length k1) (.slice p2 o.look.filt.nodes.length k2) (.slice p3 o.look.back.nodes.length k3)) := hd' (HR1.o.mod hM2 (fun k _ hG e => by have := Blk.lt Hw1.o.box; omega))
 have T2a : Hid (WTo W w vs ((w1.alloc (.cells lz28 35)).setCells w1.heap.size 0 (lkS o.look p1 k1 p2 k2 p3 k3).toList) v1) := hd' (T1.o.trans ⟨((Gou.Mod.alloc (fun _ => False) w1 _).trans (Blk.setMod _ w1.heap.size 0 _) (fun i hi e => by omega)).imp (fun _ _ h => h.elim), fun g hg => .inl hg⟩)
 have HS2 : Hid ((((w1.alloc (.cells lz28 35)).setCells w1.heap.size 0 (lkS o.look p1 k1 p2 k2 p3 k3).toList)).heap.size = w1.heap.size + 1) := hd' (by rw [ukm]; simp)
 have kd : (((w1.alloc (.cells lz28 35)).setCells w1.heap.size 0 (lkS o.look p1 k1 p2 k2 p3 k3).toList)).cell? ⟨w.heap.size, 0, none⟩ = some (iV 6) := (by rw [← HK.o]; exact HB2.o.cell 0 rfl)
 clear hA hA2 hM2
 have c2 : (((w1.alloc (.cells lz28 35)).setCells w1.heap.size 0 (lkS o.look p1 k1 p2 k2 p3 k3).toList)).cell? ⟨w1.heap.size, 2, none⟩ = some (.bool false) := (HL2.o.cell (u := .bool o.look.hasClip) 2 rfl).trans (congrArg (fun b => some (Value.bool b)) HF.o)
 go_wp2_with (first | ((with_reducible refine wpList_load_mid ?g1_11 35 ?x1_11 ?o1_11 w.heap.size 6 ?h1_11 (lkS o.look p1 k1 p2 k2 p3 k3).toList ?d1_11 ?c1_11 ?u1_11 ?s1_11 ?i1_11 ?r1_11); (case g1_11 => exact rfl); (case o1_11 => exact rfl); (case h1_11 => exact rfl); (case c1_11 => exact Hrg.o); (case u1_11 => exact Tryz.underlying35); (case s1_11 => exact rfl); (case i1_11 => exact HiL.o)) | ((with_reducible refine wpList_store_mid ?g1_12 35 ?x1_12 ?y1_12 ?o1_12 w1.heap.size 0 (lkS o.look p1 k1 p2 k2 p3 k3) ?h1_12 ?j1_12 ?t1_12 ?i1_12 ?s1_12 ?r1_12); (case g1_12 => exact rfl); (case o1_12 => exact rfl); (case h1_12 => exact rfl); (case j1_12 => exact rfl); (case t1_12 => exact Hth.o); (case i1_12 => exact HiL2.o); (case s1_12 => exact uka _ _ _ _ _ _ _ _ _ _)) | fail)
 generalize hW2 : ((w1.alloc (.cells lz28 35)).setCells w1.heap.size 0 (lkS o.look p1 k1 p2 k2 p3 k3).toList) = wq at *
 clear hW2 kd
 refine (unb _ W _ v1 false HW2.o (by (try simp only [List.length_append, List.length_cons, List.length_nil] at *); omega)).mono ?_
 rintro e w2 ⟨v2, t2, h2⟩
 have T2 := hd' (T2a.o.trans t2)
 rcases hr2 : ug4 [if false = true then 1 else 0] with _ | es2
 ·rw [hr2] at h2
  subst h2
  exact ⟨rfl, v2, T2.o, by have g1 := Hr1.o; have g2 := hr2; simp at g2; simp [ukb, HK.o, HF.o, g1, g2]⟩
 rw [hr2] at h2
 obtain ⟨rfl, hw2⟩ := h2
 have Hr2 := hd' hr2
 have Hw2 := hd' hw2
 have Tk2 := hd' t2
 clear hr2 hw2 t2
 have HL3 : Hid (Blk w2 w1.heap.size 35 (lkS o.look p1 k1 p2 k2 p3 k3)) := hd' (HL2.o.mod Tk2.o.mod (fun e => by
  rcases e with e | e
  ·have := Blk.lt Hw1.o.box; omega
  ·have := (Hv1.o _ e).2; omega))
 have HR3 : Hid (LookR (fun b => b < W) w2 o.look (.slice p1 o.look.content.pix.length k1) (.slice p2 o.look.filt.nodes.length k2) (.slice p3 o.look.back.nodes.length k3)) := hd' (HR2.o.mod (WTo.far Tk2.o HW2.o) (fun k _ hG hk => by omega))
 have hE2 := uj9 Hr2.o
 have d2 : w2.cell? ⟨w1.heap.size, 2, none⟩ = some (.bool false) := (HL3.o.cell (u := .bool o.look.hasClip) 2 rfl).trans (congrArg (fun b => some (Value.bool b)) HF.o)
 clear c2
 go_wp2_with fail
 go_end0
 exact ⟨v2, T2.o, by
  have g1 := Hr1.o
  have g2 := Hr2.o
  simp at g2
  simp [ukb, HK.o, HF.o, g1, g2]
  simpa using Hw2.o⟩
theorem wop_6t (w : World) (W : Nat) (bs : List Nat) (vs : Value) (p1 : Option Addr) (k1 : Nat) (p2 : Option Addr) (k2 : Nat) (p3 : Option Addr) (k3 : Nat) (o : Opr) (hk : o.kind = 6) (hf : o.look.hasClip = true) (h : Wr w W bs vs) (hx : LookR (fun b => b < W) w o.look (.slice p1 o.look.content.pix.length k1) (.slice p2 o.look.filt.nodes.length k2) (.slice p3 o.look.back.nodes.length k3)) (hl : bs.length ≤ 700000000) :
  Calls Tryz.prog 55 #[.pointer (some ⟨W, 0, none⟩), .agg (opS o p1 k1 p2 k2 p3 k3)] w (WrP w W bs vs (ukb o)) := by
 have H := hd' h
 have HB0 : Hid (Blk (w.alloc (.cells (opS o p1 k1 p2 k2 p3 k3) 37)) w.heap.size 37 (opS o p1 k1 p2 k2 p3 k3)) := hd' (heap_alloc_new w _)
 have HW0 : Hid (Wr (w.alloc (.cells (opS o p1 k1 p2 k2 p3 k3) 37)) W bs vs) := hd' (h.alloc _)
 have HT0 : Hid (WTo W w vs (w.alloc (.cells (opS o p1 k1 p2 k2 p3 k3) 37)) vs) := hd' (WTo.other (Gou.Mod.alloc _ _ _) vs)
 have HR0 : Hid (LookR (fun b => b < W) (w.alloc (.cells (opS o p1 k1 p2 k2 p3 k3) 37)) o.look (.slice p1 o.look.content.pix.length k1) (.slice p2 o.look.filt.nodes.length k2) (.slice p3 o.look.back.nodes.length k3)) := hd' (hx.mod (Gou.Mod.alloc (fun _ => False) _ _) (fun _ _ _ h => h))
 have HS0 : Hid (((w.alloc (.cells (opS o p1 k1 p2 k2 p3 k3) 37))).heap.size = w.heap.size + 1) := hd' (by simp)
 have hWlt := Blk.lt h.box
 have HiL : Hid ((Tryz.prog.info? 35).map (·.size) = some (lkS o.look p1 k1 p2 k2 p3 k3).toList.length) := hd' (size_look.trans (by simp [uai]))
 have hvs := fun k hk => (H.o.own.lt k hk).2
 have Hvs := hd' hvs
 clear h hx hvs
 have HK := hd' hk
 clear hk
 have HF := hd' hf
 clear hf
 go_enter Tryz.func55, Tryz.ntmps55
 have ka : ((w.alloc (.cells (opS o p1 k1 p2 k2 p3 k3) 37))).cell? ⟨w.heap.size, 1, none⟩ = some (iV o.id.1) := HB0.o.cell 1 rfl
 have kb : ((w.alloc (.cells (opS o p1 k1 p2 k2 p3 k3) 37))).cell? ⟨w.heap.size, 2, none⟩ = some (iV o.id.2) := HB0.o.cell 2 rfl
 have kc : ((w.alloc (.cells (opS o p1 k1 p2 k2 p3 k3) 37))).cell? ⟨w.heap.size, 0, none⟩ = some (iV 6) := (by rw [← HK.o]; exact HB0.o.cell 0 rfl)
 go_wp2_with fail
 generalize hW0 : (w.alloc (.cells (opS o p1 k1 p2 k2 p3 k3) 37)) = w0 at *
 clear hW0
 refine (ulw _ W bs vs o.id.1 o.id.2 HW0.o (by omega)).mono ?_
 rintro e w1 ⟨v1, t1, h1⟩
 have T1 := hd' (HT0.o.trans t1)
 rcases hr1 : ug4 [o.id.1, o.id.2] with _ | es1
 ·rw [hr1] at h1
  subst h1
  exact ⟨rfl, v1, T1.o, by have hk := HK.o; simp [ukb, hk, hr1]⟩
 rw [hr1] at h1
 obtain ⟨rfl, hw1⟩ := h1
 have Hr1 := hd' hr1
 have Hw1 := hd' hw1
 have Tk1 := hd' t1
 clear hr1 hw1 t1
 have hE1 := uj9 Hr1.o
 have HB1 : Hid (Blk w1 w.heap.size 37 (opS o p1 k1 p2 k2 p3 k3)) := hd' (HB0.o.mod Tk1.o.mod (fun e => by
  rcases e with e | e
  ·omega
  ·have := Hvs.o _ e; omega))
 have HR1 : Hid (LookR (fun b => b < W) w1 o.look (.slice p1 o.look.content.pix.length k1) (.slice p2 o.look.filt.nodes.length k2) (.slice p3 o.look.back.nodes.length k3)) := hd' (HR0.o.mod (WTo.far Tk1.o HW0.o) (fun k _ hG hk => by omega))
 have Hv1 : Hid (∀ k, v1.ownBlock = some k → k ≠ w.heap.size ∧ k < w1.heap.size) := hd' (fun k hk => ⟨fun e => by
  rcases Tk1.o.fresh _ hk with e2 | e2
  ·have := Hvs.o _ e2; omega
  ·have := HS0.o; omega, (Hw1.o.own.lt _ hk).2⟩)
 have hB1 := Blk.lt HB1.o
 clear ka kb kc
 have Hrg : Hid (w1.rangeAt w.heap.size 6 (lkS o.look p1 k1 p2 k2 p3 k3).toList) := hd' (Blk.range (post := []) HB1.o (by rw [List.append_nil]; exact ukx o _ _ _) rfl)
 have hA : Blk (w1.alloc (.cells lz28 35)) w1.heap.size 35 lz28 := heap_alloc_new w1 _
 have Hth : Hid ((w1.alloc (.cells lz28 35)).there w1.heap.size 0 (lkS o.look p1 k1 p2 k2 p3 k3).size) := hd' (hA.there 0 _ (by rw [uj8]; simp))
 have HiL2 : Hid ((Tryz.prog.info? 35).map (·.size) = some (lkS o.look p1 k1 p2 k2 p3 k3).size) := hd' (size_look.trans (by rw [uj8]))
 have hA2 := hA.sets 0 (lkS o.look p1 k1 p2 k2 p3 k3).toList
 rw [uef _ _ (by simp [uai])] at hA2
 have hM2 : Gou.Mod (fun k => k = w1.heap.size) w1 ((w1.alloc (.cells lz28 35)).setCells w1.heap.size 0 (lkS o.look p1 k1 p2 k2 p3 k3).toList) := (Gou.Mod.alloc _ _ _).trans' (Blk.setMod _ _ _ _)
 have HW2 : Hid (Wr ((w1.alloc (.cells lz28 35)).setCells w1.heap.size 0 (lkS o.look p1 k1 p2 k2 p3 k3).toList) W _ v1) := hd' (Hw1.o.other hM2 (by have := Blk.lt Hw1.o.box; omega) (fun k hk e => by have := (Hv1.o k hk).2; omega))
 have HL2 : Hid (Blk ((w1.alloc (.cells lz28 35)).setCells w1.heap.size 0 (lkS o.look p1 k1 p2 k2 p3 k3).toList) w1.heap.size 35 (lkS o.look p1 k1 p2 k2 p3 k3)) := hd' hA2
 have HB2 : Hid (Blk ((w1.alloc (.cells lz28 35)).setCells w1.heap.size 0 (lkS o.look p1 k1 p2 k2 p3 k3).toList) w.heap.size 37 (opS o p1 k1 p2 k2 p3 k3)) := hd' (HB1.o.mod hM2 (by omega))
 have HR2 : Hid (LookR (fun b => b < W) ((w1.alloc (.cells lz28 35)).setCells w1.heap.size 0 (lkS o.look p1 k1 p2 k2 p3 k3).toList) o.look (.slice p1 o.look.content.pix.length k1) (.slice p2 o.look.filt.nodes.length k2) (.slice p3 o.look.back.nodes.length k3)) := hd' (HR1.o.mod hM2 (fun k _ hG e => by have := Blk.lt Hw1.o.box; omega))
 have T2a : Hid (WTo W w vs ((w1.alloc (.cells lz28 35)).setCells w1.heap.size 0 (lkS o.look p1 k1 p2 k2 p3 k3).toList) v1) := hd' (T1.o.trans ⟨((Gou.Mod.alloc (fun _ => False) w1 _).trans (Blk.setMod _ w1.heap.size 0 _) (fun i hi e => by omega)).imp (fun _ _ h => h.elim), fun g hg => .inl hg⟩)
 have HS2 : Hid ((((w1.alloc (.cells lz28 35)).setCells w1.heap.size 0 (lkS o.look p1 k1 p2 k2 p3 k3).toList)).heap.size = w1.heap.size + 1) := hd' (by rw [ukm]; simp)
 have kd : (((w1.alloc (.cells lz28 35)).setCells w1.heap.size 0 (lkS o.look p1 k1 p2 k2 p3 k3).toList)).cell? ⟨w.heap.size, 0, none⟩ = some (iV 6) := (by rw [← HK.o]; exact HB2.o.cell 0 rfl)
 clear hA hA2 hM2
 have c2 : (((w1.alloc (.cells lz28 35)).setCells w1.heap.size 0 (lkS o.look p1 k1 p2 k2 p3 k3).toList)).cell? ⟨w1.heap.size, 2, none⟩ = some (.bool true) := (HL2.o.cell (u := .bool o.look.hasClip) 2 rfl).trans (congrArg (fun b => some (Value.bool b)) HF.o)
 go_wp2_with (first | ((with_reducible refine wpList_load_mid ?g1_13 35 ?x1_13 ?o1_13 w.heap.size 6 ?h1_13 (lkS o.look p1 k1 p2 k2 p3 k3).toList ?d1_13 ?c1_13 ?u1_13 ?s1_13 ?i1_13 ?r1_13); (case g1_13 => exact rfl); (case o1_13 => exact rfl); (case h1_13 => exact rfl); (case c1_13 => exact Hrg.o); (case u1_13 => exact Tryz.underlying35); (case s1_13 => exact rfl); (case i1_13 => exact HiL.o)) | ((with_reducible refine wpList_store_mid ?g1_14 35 ?x1_14 ?y1_14 ?o1_14 w1.heap.size 0 (lkS o.look p1 k1 p2 k2 p3 k3) ?h1_14 ?j1_14 ?t1_14 ?i1_14 ?s1_14 ?r1_14); (case g1_14 => exact rfl); (case o1_14 => exact rfl); (case h1_14 => exact rfl); (case j1_14 => exact rfl); (case t1_14 => exact Hth.o); (case i1_14 => exact HiL2.o); (case s1_14 => exact uka _ _ _ _ _ _ _ _ _ _)) | fail)
 generalize hW2 : ((w1.alloc (.cells lz28 35)).setCells w1.heap.size 0 (lkS o.look p1 k1 p2 k2 p3 k3).toList) = wq at *
 clear hW2 kd
 refine (unb _ W _ v1 true HW2.o (by (try simp only [List.length_append, List.length_cons, List.length_nil] at *); omega)).mono ?_
 rintro e w2 ⟨v2, t2, h2⟩
 have T2 := hd' (T2a.o.trans t2)
 rcases hr2 : ug4 [if true = true then 1 else 0] with _ | es2
 ·rw [hr2] at h2
  subst h2
  exact ⟨rfl, v2, T2.o, by have g1 := Hr1.o; have g2 := hr2; simp at g2; simp [ukb, HK.o, HF.o, g1, g2]⟩
 rw [hr2] at h2
 obtain ⟨rfl, hw2⟩ := h2
 have Hr2 := hd' hr2
 have Hw2 := hd' hw2
 have Tk2 := hd' t2
 clear hr2 hw2 t2
 have HL3 : Hid (Blk w2 w1.heap.size 35 (lkS o.look p1 k1 p2 k2 p3 k3)) := hd' (HL2.o.mod Tk2.o.mod (fun e => by
  rcases e with e | e
  ·have := Blk.lt Hw1.o.box; omega
  ·have := (Hv1.o _ e).2; omega))
 have HR3 : Hid (LookR (fun b => b < W) w2 o.look (.slice p1 o.look.content.pix.length k1) (.slice p2 o.look.filt.nodes.length k2) (.slice p3 o.look.back.nodes.length k3)) := hd' (HR2.o.mod (WTo.far Tk2.o HW2.o) (fun k _ hG hk => by omega))
 have hE2 := uj9 Hr2.o
 have d2 : w2.cell? ⟨w1.heap.size, 2, none⟩ = some (.bool true) := (HL3.o.cell (u := .bool o.look.hasClip) 2 rfl).trans (congrArg (fun b => some (Value.bool b)) HF.o)
 have d3 : w2.cell? ⟨w1.heap.size, 3, none⟩ = some (iV o.look.clip.x0) := HL3.o.cell 3 rfl
 have d4 : w2.cell? ⟨w1.heap.size, 4, none⟩ = some (iV o.look.clip.y0) := HL3.o.cell 4 rfl
 have d5 : w2.cell? ⟨w1.heap.size, 5, none⟩ = some (iV o.look.clip.x1) := HL3.o.cell 5 rfl
 have d6 : w2.cell? ⟨w1.heap.size, 6, none⟩ = some (iV o.look.clip.y1) := HL3.o.cell 6 rfl
 clear c2
 go_wp2_with fail
 refine (uuu _ W _ v2 o.look.clip.x0 o.look.clip.y0 o.look.clip.x1 o.look.clip.y1 Hw2.o (by (try simp only [List.length_append, List.length_cons, List.length_nil] at *); omega)).mono ?_
 rintro e w3 ⟨v3, t3, h3⟩
 have T3 := hd' (T2.o.trans t3)
 rcases hr3 : ug4 [o.look.clip.x0, o.look.clip.y0, o.look.clip.x1, o.look.clip.y1] with _ | es3
 ·rw [hr3] at h3
  subst h3
  exact ⟨rfl, v3, T3.o, by have g1 := Hr1.o; have g2 := Hr2.o; simp at g2; simp [ukb, HK.o, HF.o, g1, g2, hr3]⟩
 rw [hr3] at h3
 obtain ⟨rfl, hw3⟩ := h3
 have Hr3 := hd' hr3
 have Hw3 := hd' hw3
 have Tk3 := hd' t3
 clear hr3 hw3 t3
 go_wp2_with fail
 go_end0
 exact ⟨v3, T3.o, by
  have g1 := Hr1.o
  have g2 := Hr2.o
  have g3 := Hr3.o
  simp at g2
  simp [ukb, HK.o, HF.o, g1, g2, g3]
  simpa using Hw3.o⟩
theorem wop_10f (w : World) (W : Nat) (bs : List Nat) (vs : Value) (p1 : Option Addr) (k1 : Nat) (p2 : Option Addr) (k2 : Nat) (p3 : Option Addr) (k3 : Nat) (o : Opr) (hk : o.kind = 10) (hf : o.look.hasFilt = false) (h : Wr w W bs vs) (hx : LookR (fun b => b < W) w o.look (.slice p1 o.look.content.pix.length k1) (.slice p2 o.look.filt.nodes.length k2) (.slice p3 o.look.back.nodes.length k3)) (hl : bs.length ≤ 700000000) :
  Calls Tryz.prog 55 #[.pointer (some ⟨W, 0, none⟩), .agg (opS o p1 k1 p2 k2 p3 k3)] w (WrP w W bs vs (ukb o)) := by
 have H := hd' h
 have HB0 : Hid (Blk (w.alloc (.cells (opS o p1 k1 p2 k2 p3 k3) 37)) w.heap.size 37 (opS o p1 k1 p2 k2 p3 k3)) := hd' (heap_alloc_new w _)
 have HW0 : Hid (Wr (w.alloc (.cells (opS o p1 k1 p2 k2 p3 k3) 37)) W bs vs) := hd' (h.alloc _)
 have HT0 : Hid (WTo W w vs (w.alloc (.cells (opS o p1 k1 p2 k2 p3 k3) 37)) vs) := hd' (WTo.other (Gou.Mod.alloc _ _ _) vs)
 have HR0 : Hid (LookR (fun b => b < W) (w.alloc (.cells (opS o p1 k1 p2 k2 p3 k3) 37)) o.look (.slice p1 o.look.content.pix.length k1) (.slice p2 o.look.filt.nodes.length k2) (.slice p3 o.look.back.nodes.length k3)) := hd' (hx.mod (Gou.Mod.alloc (fun _ => False) _ _) (fun _ _ _ h => h))
 have HS0 : Hid (((w.alloc (.cells (opS o p1 k1 p2 k2 p3 k3) 37))).heap.size = w.heap.size + 1) := hd' (by simp)
 have hWlt := Blk.lt h.box
 have HiL : Hid ((Tryz.prog.info? 35).map (·.size) = some (lkS o.look p1 k1 p2 k2 p3 k3).toList.length) := hd' (size_look.trans (by simp [uai]))
 have hvs := fun k hk => (H.o.own.lt k hk).2
 have Hvs := hd' hvs
 clear h hx hvs
 have HK := hd' hk
 clear hk
 have HF := hd' hf
 clear hf
 go_enter Tryz.func55, Tryz.ntmps55
 have ka : ((w.alloc (.cells (opS o p1 k1 p2 k2 p3 k3) 37))).cell? ⟨w.heap.size, 1, none⟩ = some (iV o.id.1) := HB0.o.cell 1 rfl
 have kb : ((w.alloc (.cells (opS o p1 k1 p2 k2 p3 k3) 37))).cell? ⟨w.heap.size, 2, none⟩ = some (iV o.id.2) := HB0.o.cell 2 rfl
 have kc : ((w.alloc (.cells (opS o p1 k1 p2 k2 p3 k3) 37))).cell? ⟨w.heap.size, 0, none⟩ = some (iV 10) := (by rw [← HK.o]; exact HB0.o.cell 0 rfl)
 go_wp2_with fail
 generalize hW0 : (w.alloc (.cells (opS o p1 k1 p2 k2 p3 k3) 37)) = w0 at *
 clear hW0
 refine (ulw _ W bs vs o.id.1 o.id.2 HW0.o (by omega)).mono ?_
 rintro e w1 ⟨v1, t1, h1⟩
 have T1 := hd' (HT0.o.trans t1)
 rcases hr1 : ug4 [o.id.1, o.id.2] with _ | es1
 ·rw [hr1] at h1
  subst h1
  exact ⟨rfl, v1, T1.o, by have hk := HK.o; simp [ukb, hk, hr1]⟩
 rw [hr1] at h1
 obtain ⟨rfl, hw1⟩ := h1
 have Hr1 := hd' hr1
 have Hw1 := hd' hw1
 have Tk1 := hd' t1
 clear hr1 hw1 t1
 have hE1 := uj9 Hr1.o
 have HB1 : Hid (Blk w1 w.heap.size 37 (opS o p1 k1 p2 k2 p3 k3)) := hd' (HB0.o.mod Tk1.o.mod (fun e => by
  rcases e with e | e
  ·omega
  ·have := Hvs.o _ e; omega))
 have HR1 : Hid (LookR (fun b => b < W) w1 o.look (.slice p1 o.look.content.pix.length k1) (.slice p2 o.look.filt.nodes.length k2) (.slice p3 o.look.back.nodes.length k3)) := hd' (HR0.o.mod (WTo.far Tk1.o HW0.o) (fun k _ hG hk => by omega))
 have Hv1 : Hid (∀ k, v1.ownBlock = some k → k ≠ w.heap.size ∧ k < w1.heap.size) := hd' (fun k hk => ⟨fun e => by
  rcases Tk1.o.fresh _ hk with e2 | e2
  ·have := Hvs.o _ e2; omega
  ·have := HS0.o; omega, (Hw1.o.own.lt _ hk).2⟩)
 have hB1 := Blk.lt HB1.o
 clear ka kb kc
 have Hrg : Hid (w1.rangeAt w.heap.size 6 (lkS o.look p1 k1 p2 k2 p3 k3).toList) := hd' (Blk.range (post := []) HB1.o (by rw [List.append_nil]; exact ukx o _ _ _) rfl)
 have hA : Blk (w1.alloc (.cells lz28 35)) w1.heap.size 35 lz28 := heap_alloc_new w1 _
 have Hth : Hid ((w1.alloc (.cells lz28 35)).there w1.heap.size 0 (lkS o.look p1 k1 p2 k2 p3 k3).size) := hd' (hA.there 0 _ (by rw [uj8]; simp))
 have HiL2 : Hid ((Tryz.prog.info? 35).map (·.size) = some (lkS o.look p1 k1 p2 k2 p3 k3).size) := hd' (size_look.trans (by rw [uj8]))
 have hA2 := hA.sets 0 (lkS o.look p1 k1 p2 k2 p3 k3).toList
 rw [uef _ _ (by simp [uai])] at hA2
 have hM2 : Gou.Mod (fun k => k = w1.heap.size) w1 ((w1.alloc (.cells lz28 35)).setCells w1.heap.size 0 (lkS o.look p1 k1 p2 k2 p3 k3).toList) := (Gou.Mod.alloc _ _ _).trans' (Blk.setMod _ _ _ _)
 have HW2 : Hid (Wr ((w1.alloc (.cells lz28 35)).setCells w1.heap.size 0 (lkS o.look p1 k1 p2 k2 p3 k3).toList) W _ v1) := hd' (Hw1.o.other hM2 (by have := Blk.lt Hw1.o.box; omega) (fun k hk e => by have := (Hv1.o k hk).2; omega))
 have HL2 : Hid (Blk ((w1.alloc (.cells lz28 35)).setCells w1.heap.size 0 (lkS o.look p1 k1 p2 k2 p3 k3).toList) w1.heap.size 35 (lkS o.look p1 k1 p2 k2 p3 k3)) := hd' hA2
 have HB2 : Hid (Blk ((w1.alloc (.cells lz28 35)).setCells w1.heap.size 0 (lkS o.look p1 k1 p2 k2 p3 k3).toList) w.heap.size 37 (opS o p1 k1 p2 k2 p3 k3)) := hd' (HB1.o.mod hM2 (by omega))
 have HR2 : Hid (LookR (fun b => b < W) ((w1.alloc (.cells lz28 35)).setCells w1.heap.size 0 (lkS o.look p1 k1 p2 k2 p3 k3).toList) o.look (.slice p1 o.look.content.pix.length k1) (.slice p2 o.look.filt.nodes.length k2) (.slice p3 o.look.back.nodes.length k3)) := hd' (HR1.o.mod hM2 (fun k _ hG e => by have := Blk.lt Hw1.o.box; omega))
 have T2a : Hid (WTo W w vs ((w1.alloc (.cells lz28 35)).setCells w1.heap.size 0 (lkS o.look p1 k1 p2 k2 p3 k3).toList) v1) := hd' (T1.o.trans ⟨((Gou.Mod.alloc (fun _ => False) w1 _).trans (Blk.setMod _ w1.heap.size 0 _) (fun i hi e => by omega)).imp (fun _ _ h => h.elim), fun g hg => .inl hg⟩)
 have HS2 : Hid ((((w1.alloc (.cells lz28 35)).setCells w1.heap.size 0 (lkS o.look p1 k1 p2 k2 p3 k3).toList)).heap.size = w1.heap.size + 1) := hd' (by rw [ukm]; simp)
 have kd : (((w1.alloc (.cells lz28 35)).setCells w1.heap.size 0 (lkS o.look p1 k1 p2 k2 p3 k3).toList)).cell? ⟨w.heap.size, 0, none⟩ = some (iV 10) := (by rw [← HK.o]; exact HB2.o.cell 0 rfl)
 clear hA hA2 hM2
 have c22 : (((w1.alloc (.cells lz28 35)).setCells w1.heap.size 0 (lkS o.look p1 k1 p2 k2 p3 k3).toList)).cell? ⟨w1.heap.size, 22, none⟩ = some (.bool false) := (HL2.o.cell (u := .bool o.look.hasFilt) 22 rfl).trans (congrArg (fun b => some (Value.bool b)) HF.o)
 go_wp2_with (first | ((with_reducible refine wpList_load_mid ?g1_15 35 ?x1_15 ?o1_15 w.heap.size 6 ?h1_15 (lkS o.look p1 k1 p2 k2 p3 k3).toList ?d1_15 ?c1_15 ?u1_15 ?s1_15 ?i1_15 ?r1_15); (case g1_15 => exact rfl); (case o1_15 => exact rfl); (case h1_15 => exact rfl); (case c1_15 => exact Hrg.o); (case u1_15 => exact Tryz.underlying35); (case s1_15 => exact rfl); (case i1_15 => exact HiL.o)) | ((with_reducible refine wpList_store_mid ?g1_16 35 ?x1_16 ?y1_16 ?o1_16 w1.heap.size 0 (lkS o.look p1 k1 p2 k2 p3 k3) ?h1_16 ?j1_16 ?t1_16 ?i1_16 ?s1_16 ?r1_16); (case g1_16 => exact rfl); (case o1_16 => exact rfl); (case h1_16 => exact rfl); (case j1_16 => exact rfl); (case t1_16 => exact Hth.o); (case i1_16 => exact HiL2.o); (case s1_16 => exact uka _ _ _ _ _ _ _ _ _ _)) | fail)
 generalize hW2 : ((w1.alloc (.cells lz28 35)).setCells w1.heap.size 0 (lkS o.look p1 k1 p2 k2 p3 k3).toList) = wq at *
 clear hW2 kd
 refine (unb _ W _ v1 false HW2.o (by (try simp only [List.length_append, List.length_cons, List.length_nil] at *); omega)).mono ?_
 rintro e w2 ⟨v2, t2, h2⟩
 have T2 := hd' (T2a.o.trans t2)
 rcases hr2 : ug4 [if false = true then 1 else 0] with _ | es2
 ·rw [hr2] at h2
  subst h2
  exact ⟨rfl, v2, T2.o, by have g1 := Hr1.o; have g2 := hr2; simp at g2; simp [ukb, HK.o, HF.o, g1, g2]⟩
 rw [hr2] at h2
 obtain ⟨rfl, hw2⟩ := h2
 have Hr2 := hd' hr2
 have Hw2 := hd' hw2
 have Tk2 := hd' t2
 clear hr2 hw2 t2
 have HL3 : Hid (Blk w2 w1.heap.size 35 (lkS o.look p1 k1 p2 k2 p3 k3)) := hd' (HL2.o.mod Tk2.o.mod (fun e => by
  rcases e with e | e
  ·have := Blk.lt Hw1.o.box; omega
  ·have := (Hv1.o _ e).2; omega))
 have HR3 : Hid (LookR (fun b => b < W) w2 o.look (.slice p1 o.look.content.pix.length k1) (.slice p2 o.look.filt.nodes.length k2) (.slice p3 o.look.back.nodes.length k3)) := hd' (HR2.o.mod (WTo.far Tk2.o HW2.o) (fun k _ hG hk => by omega))
 have hE2 := uj9 Hr2.o
 have d22 : w2.cell? ⟨w1.heap.size, 22, none⟩ = some (.bool false) := (HL3.o.cell (u := .bool o.look.hasFilt) 22 rfl).trans (congrArg (fun b => some (Value.bool b)) HF.o)
 clear c22
 go_wp2_with fail
 go_end0
 exact ⟨v2, T2.o, by
  have g1 := Hr1.o
  have g2 := Hr2.o
  simp at g2
  simp [ukb, HK.o, HF.o, g1, g2]
  simpa using Hw2.o⟩
theorem wop_10t (w : World) (W : Nat) (bs : List Nat) (vs : Value) (p1 : Option Addr) (k1 : Nat) (p2 : Option Addr) (k2 : Nat) (p3 : Option Addr) (k3 : Nat) (o : Opr) (hk : o.kind = 10) (hf : o.look.hasFilt = true) (h : Wr w W bs vs) (hx : LookR (fun b => b < W) w o.look (.slice p1 o.look.content.pix.length k1) (.slice p2 o.look.filt.nodes.length k2) (.slice p3 o.look.back.nodes.length k3)) (hl : bs.length ≤ 700000000) :
  Calls Tryz.prog 55 #[.pointer (some ⟨W, 0, none⟩), .agg (opS o p1 k1 p2 k2 p3 k3)] w (WrP w W bs vs (ukb o)) := by
 have H := hd' h
 have HB0 : Hid (Blk (w.alloc (.cells (opS o p1 k1 p2 k2 p3 k3) 37)) w.heap.size 37 (opS o p1 k1 p2 k2 p3 k3)) := hd' (heap_alloc_new w _)
 have HW0 : Hid (Wr (w.alloc (.cells (opS o p1 k1 p2 k2 p3 k3) 37)) W bs vs) := hd' (h.alloc _)
 have HT0 : Hid (WTo W w vs (w.alloc (.cells (opS o p1 k1 p2 k2 p3 k3) 37)) vs) := hd' (WTo.other (Gou.Mod.alloc _ _ _) vs)
 have HR0 : Hid (LookR (fun b => b < W) (w.alloc (.cells (opS o p1 k1 p2 k2 p3 k3) 37)) o.look (.slice p1 o.look.content.pix.length k1) (.slice p2 o.look.filt.nodes.length k2) (.slice p3 o.look.back.nodes.length k3)) := hd' (hx.mod (Gou.Mod.alloc (fun _ => False) _ _) (fun _ _ _ h => h))
 have HS0 : Hid (((w.alloc (.cells (opS o p1 k1 p2 k2 p3 k3) 37))).heap.size = w.heap.size + 1) := hd' (by simp)
 have hWlt := Blk.lt h.box
 have HiL : Hid ((Tryz.prog.info? 35).map (·.size) = some (lkS o.look p1 k1 p2 k2 p3 k3).toList.length) := hd' (size_look.trans (by simp [uai]))
 have hvs := fun k hk => (H.o.own.lt k hk).2
 have Hvs := hd' hvs
 clear h hx hvs
 have HK := hd' hk
 clear hk
 have HF := hd' hf
 clear hf
 go_enter Tryz.func55, Tryz.ntmps55
 have ka : ((w.alloc (.cells (opS o p1 k1 p2 k2 p3 k3) 37))).cell? ⟨w.heap.size, 1, none⟩ = some (iV o.id.1) := HB0.o.cell 1 rfl
 have kb : ((w.alloc (.cells (opS o p1 k1 p2 k2 p3 k3) 37))).cell? ⟨w.heap.size, 2, none⟩ = some (iV o.id.2) := HB0.o.cell 2 rfl
 have kc : ((w.alloc (.cells (opS o p1 k1 p2 k2 p3 k3) 37))).cell? ⟨w.heap.size, 0, none⟩ = some (iV 10) := (by rw [← HK.o]; exact HB0.o.cell 0 rfl)
 go_wp2_with fail
 generalize hW0 : (w.alloc (.cells (opS o p1 k1 p2 k2 p3 k3) 37)) = w0 at *
 clear hW0
 refine (ulw _ W bs vs o.id.1 o.id.2 HW0.o (by omega)).mono ?_
 rintro e w1 ⟨v1, t1, h1⟩
 have T1 := hd' (HT0.o.trans t1)
 rcases hr1 : ug4 [o.id.1, o.id.2] with _ | es1
 ·rw [hr1] at h1
  subst h1
  exact ⟨rfl, v1, T1.o, by have hk := HK.o; simp [ukb, hk, hr1]⟩
 rw [hr1] at h1
 obtain ⟨rfl, hw1⟩ := h1
 have Hr1 := hd' hr1
 have Hw1 := hd' hw1
 have Tk1 := hd' t1
 clear hr1 hw1 t1
 have hE1 := uj9 Hr1.o
 have HB1 : Hid (Blk w1 w.heap.size 37 (opS o p1 k1 p2 k2 p3 k3)) := hd' (HB0.o.mod Tk1.o.mod (fun e => by
  rcases e with e | e
  ·omega
  ·have := Hvs.o _ e; omega))
 have HR1 : Hid (LookR (fun b => b < W) w1 o.look (.slice p1 o.look.content.pix.length k1) (.slice p2 o.look.filt.nodes.length k2) (.slice p3 o.look.back.nodes.length k3)) := hd' (HR0.o.mod (WTo.far Tk1.o HW0.o) (fun k _ hG hk => by omega))
 have Hv1 : Hid (∀ k, v1.ownBlock = some k → k ≠ w.heap.size ∧ k < w1.heap.size) := hd' (fun k hk => ⟨fun e => by
  rcases Tk1.o.fresh _ hk with e2 | e2
  ·have := Hvs.o _ e2; omega
  ·have := HS0.o; omega, (Hw1.o.own.lt _ hk).2⟩)
 have hB1 := Blk.lt HB1.o
 clear ka kb kc
 have Hrg : Hid (w1.rangeAt w.heap.size 6 (lkS o.look p1 k1 p2 k2 p3 k3).toList) := hd' (Blk.range (post := []) HB1.o (by rw [List.append_nil]; exact ukx o _ _ _) rfl)
 have hA : Blk (w1.alloc (.cells lz28 35)) w1.heap.size 35 lz28 := heap_alloc_new w1 _
 have Hth : Hid ((w1.alloc (.cells lz28 35)).there w1.heap.size 0 (lkS o.look p1 k1 p2 k2 p3 k3).size) := hd' (hA.there 0 _ (by rw [uj8]; simp))
 have HiL2 : Hid ((Tryz.prog.info? 35).map (·.size) = some (lkS o.look p1 k1 p2 k2 p3 k3).size) := hd' (size_look.trans (by rw [uj8]))
 have hA2 := hA.sets 0 (lkS o.look p1 k1 p2 k2 p3 k3).toList
 rw [uef _ _ (by simp [uai])] at hA2
 have hM2 : Gou.Mod (fun k => k = w1.heap.size) w1 ((w1.alloc (.cells lz28 35)).setCells w1.heap.size 0 (lkS o.look p1 k1 p2 k2 p3 k3).toList) := (Gou.Mod.alloc _ _ _).trans' (Blk.setMod _ _ _ _)
 have HW2 : Hid (Wr ((w1.alloc (.cells lz28 35)).setCells w1.heap.size 0 (lkS o.look p1 k1 p2 k2 p3 k3).toList) W _ v1) := hd' (Hw1.o.other hM2 (by have := Blk.lt Hw1.o.box; omega) (fun k hk e => by have := (Hv1.o k hk).2; omega))
 have HL2 : Hid (Blk ((w1.alloc (.cells lz28 35)).setCells w1.heap.size 0 (lkS o.look p1 k1 p2 k2 p3 k3).toList) w1.heap.size 35 (lkS o.look p1 k1 p2 k2 p3 k3)) := hd' hA2
 have HB2 : Hid (Blk ((w1.alloc (.cells lz28 35)).setCells w1.heap.size 0 (lkS o.look p1 k1 p2 k2 p3 k3).toList) w.heap.size 37 (opS o p1 k1 p2 k2 p3 k3)) := hd' (HB1.o.mod hM2 (by omega))
 have HR2 : Hid (LookR (fun b => b < W) ((w1.alloc (.cells lz28 35)).setCells w1.heap.size 0 (lkS o.look p1 k1 p2 k2 p3 k3).toList) o.look (.slice p1 o.look.content.pix.length k1) (.slice p2 o.look.filt.nodes.length k2) (.slice p3 o.look.back.nodes.length k3)) := hd' (HR1.o.mod hM2 (fun k _ hG e => by have := Blk.lt Hw1.o.box; omega))
 have T2a : Hid (WTo W w vs ((w1.alloc (.cells lz28 35)).setCells w1.heap.size 0 (lkS o.look p1 k1 p2 k2 p3 k3).toList) v1) := hd' (T1.o.trans ⟨((Gou.Mod.alloc (fun _ => False) w1 _).trans (Blk.setMod _ w1.heap.size 0 _) (fun i hi e => by omega)).imp (fun _ _ h => h.elim), fun g hg => .inl hg⟩)
 have HS2 : Hid ((((w1.alloc (.cells lz28 35)).setCells w1.heap.size 0 (lkS o.look p1 k1 p2 k2 p3 k3).toList)).heap.size = w1.heap.size + 1) := hd' (by rw [ukm]; simp)
 have kd : (((w1.alloc (.cells lz28 35)).setCells w1.heap.size 0 (lkS o.look p1 k1 p2 k2 p3 k3).toList)).cell? ⟨w.heap.size, 0, none⟩ = some (iV 10) := (by rw [← HK.o]; exact HB2.o.cell 0 rfl)
 clear hA hA2 hM2
 have c22 : (((w1.alloc (.cells lz28 35)).setCells w1.heap.size 0 (lkS o.look p1 k1 p2 k2 p3 k3).toList)).cell? ⟨w1.heap.size, 22, none⟩ = some (.bool true) := (HL2.o.cell (u := .bool o.look.hasFilt) 22 rfl).trans (congrArg (fun b => some (Value.bool b)) HF.o)
 go_wp2_with (first | ((with_reducible refine wpList_load_mid ?g1_17 35 ?x1_17 ?o1_17 w.heap.size 6 ?h1_17 (lkS o.look p1 k1 p2 k2 p3 k3).toList ?d1_17 ?c1_17 ?u1_17 ?s1_17 ?i1_17 ?r1_17); (case g1_17 => exact rfl); (case o1_17 => exact rfl); (case h1_17 => exact rfl); (case c1_17 => exact Hrg.o); (case u1_17 => exact Tryz.underlying35); (case s1_17 => exact rfl); (case i1_17 => exact HiL.o)) | ((with_reducible refine wpList_store_mid ?g1_18 35 ?x1_18 ?y1_18 ?o1_18 w1.heap.size 0 (lkS o.look p1 k1 p2 k2 p3 k3) ?h1_18 ?j1_18 ?t1_18 ?i1_18 ?s1_18 ?r1_18); (case g1_18 => exact rfl); (case o1_18 => exact rfl); (case h1_18 => exact rfl); (case j1_18 => exact rfl); (case t1_18 => exact Hth.o); (case i1_18 => exact HiL2.o); (case s1_18 => exact uka _ _ _ _ _ _ _ _ _ _)) | fail)
 generalize hW2 : ((w1.alloc (.cells lz28 35)).setCells w1.heap.size 0 (lkS o.look p1 k1 p2 k2 p3 k3).toList) = wq at *
 clear hW2 kd
 refine (unb _ W _ v1 true HW2.o (by (try simp only [List.length_append, List.length_cons, List.length_nil] at *); omega)).mono ?_
 rintro e w2 ⟨v2, t2, h2⟩
 have T2 := hd' (T2a.o.trans t2)
 rcases hr2 : ug4 [if true = true then 1 else 0] with _ | es2
 ·rw [hr2] at h2
  subst h2
  exact ⟨rfl, v2, T2.o, by have g1 := Hr1.o; have g2 := hr2; simp at g2; simp [ukb, HK.o, HF.o, g1, g2]⟩
 rw [hr2] at h2
 obtain ⟨rfl, hw2⟩ := h2
 have Hr2 := hd' hr2
 have Hw2 := hd' hw2
 have Tk2 := hd' t2
 clear hr2 hw2 t2
 have HL3 : Hid (Blk w2 w1.heap.size 35 (lkS o.look p1 k1 p2 k2 p3 k3)) := hd' (HL2.o.mod Tk2.o.mod (fun e => by
  rcases e with e | e
  ·have := Blk.lt Hw1.o.box; omega
  ·have := (Hv1.o _ e).2; omega))
 have HR3 : Hid (LookR (fun b => b < W) w2 o.look (.slice p1 o.look.content.pix.length k1) (.slice p2 o.look.filt.nodes.length k2) (.slice p3 o.look.back.nodes.length k3)) := hd' (HR2.o.mod (WTo.far Tk2.o HW2.o) (fun k _ hG hk => by omega))
 have hE2 := uj9 Hr2.o
 have d22 : w2.cell? ⟨w1.heap.size, 22, none⟩ = some (.bool true) := (HL3.o.cell (u := .bool o.look.hasFilt) 22 rfl).trans (congrArg (fun b => some (Value.bool b)) HF.o)
 have d23 : w2.cell? ⟨w1.heap.size, 23, none⟩ = some (.slice p2 o.look.filt.nodes.length k2) := HL3.o.cell 23 rfl
 have d24 : w2.cell? ⟨w1.heap.size, 24, none⟩ = some (iV o.look.filt.out) := HL3.o.cell 24 rfl
 clear c22
 go_wp2_with fail
 refine (uqt _ W _ v2 p2 k2 o.look.filt Hw2.o HR3.o.filt (by (try simp only [List.length_append, List.length_cons, List.length_nil] at *); omega)).mono ?_
 rintro e w3 ⟨v3, t3, h3⟩
 have T3 := hd' (T2.o.trans t3)
 rcases hr3 : uk5 o.look.filt with _ | es3
 ·rw [hr3] at h3
  subst h3
  exact ⟨rfl, v3, T3.o, by have g1 := Hr1.o; have g2 := Hr2.o; simp at g2; simp [ukb, HK.o, HF.o, g1, g2, hr3]⟩
 rw [hr3] at h3
 obtain ⟨rfl, hw3⟩ := h3
 have Hr3 := hd' hr3
 have Hw3 := hd' hw3
 have Tk3 := hd' t3
 clear hr3 hw3 t3
 go_wp2_with fail
 go_end0
 exact ⟨v3, T3.o, by
  have g1 := Hr1.o
  have g2 := Hr2.o
  have g3 := Hr3.o
  simp at g2
  simp [ukb, HK.o, HF.o, g1, g2, g3]
  simpa using Hw3.o⟩
theorem wop_11f (w : World) (W : Nat) (bs : List Nat) (vs : Value) (p1 : Option Addr) (k1 : Nat) (p2 : Option Addr) (k2 : Nat) (p3 : Option Addr) (k3 : Nat) (o : Opr) (hk : o.kind = 11) (hf : o.look.hasBack = false) (h : Wr w W bs vs) (hx : LookR (fun b => b < W) w o.look (.slice p1 o.look.content.pix.length k1) (.slice p2 o.look.filt.nodes.length k2) (.slice p3 o.look.back.nodes.length k3)) (hl : bs.length ≤ 700000000) :
  Calls Tryz.prog 55 #[.pointer (some ⟨W, 0, none⟩), .agg (opS o p1 k1 p2 k2 p3 k3)] w (WrP w W bs vs (ukb o)) := by
 have H := hd' h
 have HB0 : Hid (Blk (w.alloc (.cells (opS o p1 k1 p2 k2 p3 k3) 37)) w.heap.size 37 (opS o p1 k1 p2 k2 p3 k3)) := hd' (heap_alloc_new w _)
 have HW0 : Hid (Wr (w.alloc (.cells (opS o p1 k1 p2 k2 p3 k3) 37)) W bs vs) := hd' (h.alloc _)
 have HT0 : Hid (WTo W w vs (w.alloc (.cells (opS o p1 k1 p2 k2 p3 k3) 37)) vs) := hd' (WTo.other (Gou.Mod.alloc _ _ _) vs)
 have HR0 : Hid (LookR (fun b => b < W) (w.alloc (.cells (opS o p1 k1 p2 k2 p3 k3) 37)) o.look (.slice p1 o.look.content.pix.length k1) (.slice p2 o.look.filt.nodes.length k2) (.slice p3 o.look.back.nodes.length k3)) := hd' (hx.mod (Gou.Mod.alloc (fun _ => False) _ _) (fun _ _ _ h => h))
 have HS0 : Hid (((w.alloc (.cells (opS o p1 k1 p2 k2 p3 k3) 37))).heap.size = w.heap.size + 1) := hd' (by simp)
 have hWlt := Blk.lt h.box
 have HiL : Hid ((Tryz.prog.info? 35).map (·.size) = some (lkS o.look p1 k1 p2 k2 p3 k3).toList.length) := hd' (size_look.trans (by simp [uai]))
 have hvs := fun k hk => (H.o.own.lt k hk).2
 have Hvs := hd' hvs
 clear h hx hvs
 have HK := hd' hk
 clear hk
 have HF := hd' hf
 clear hf
 go_enter Tryz.func55, Tryz.ntmps55
 have ka : ((w.alloc (.cells (opS o p1 k1 p2 k2 p3 k3) 37))).cell? ⟨w.heap.size, 1, none⟩ = some (iV o.id.1) := HB0.o.cell 1 rfl
 have kb : ((w.alloc (.cells (opS o p1 k1 p2 k2 p3 k3) 37))).cell? ⟨w.heap.size, 2, none⟩ = some (iV o.id.2) := HB0.o.cell 2 rfl
 have kc : ((w.alloc (.cells (opS o p1 k1 p2 k2 p3 k3) 37))).cell? ⟨w.heap.size, 0, none⟩ = some (iV 11) := (by rw [← HK.o]; exact HB0.o.cell 0 rfl)
 go_wp2_with fail
 generalize hW0 : (w.alloc (.cells (opS o p1 k1 p2 k2 p3 k3) 37)) = w0 at *
 clear hW0
 refine (ulw _ W bs vs o.id.1 o.id.2 HW0.o (by omega)).mono ?_
 rintro e w1 ⟨v1, t1, h1⟩
 have T1 := hd' (HT0.o.trans t1)
 rcases hr1 : ug4 [o.id.1, o.id.2] with _ | es1
 ·rw [hr1] at h1
  subst h1
  exact ⟨rfl, v1, T1.o, by have hk := HK.o; simp [ukb, hk, hr1]⟩
 rw [hr1] at h1
 obtain ⟨rfl, hw1⟩ := h1
 have Hr1 := hd' hr1
 have Hw1 := hd' hw1
 have Tk1 := hd' t1
 clear hr1 hw1 t1
 have hE1 := uj9 Hr1.o
 have HB1 : Hid (Blk w1 w.heap.size 37 (opS o p1 k1 p2 k2 p3 k3)) := hd' (HB0.o.mod Tk1.o.mod (fun e => by
  rcases e with e | e
  ·omega
  ·have := Hvs.o _ e; omega))
 have HR1 : Hid (LookR (fun b => b < W) w1 o.look (.slice p1 o.look.content.pix.length k1) (.slice p2 o.look.filt.nodes.length k2) (.slice p3 o.look.back.nodes.length k3)) := hd' (HR0.o.mod (WTo.far Tk1.o HW0.o) (fun k _ hG hk => by omega))
 have Hv1 : Hid (∀ k, v1.ownBlock = some k → k ≠ w.heap.size ∧ k < w1.heap.size) := hd' (fun k hk => ⟨fun e => by
  rcases Tk1.o.fresh _ hk with e2 | e2
  ·have := Hvs.o _ e2; omega
  ·have := HS0.o; omega, (Hw1.o.own.lt _ hk).2⟩)
 have hB1 := Blk.lt HB1.o
 clear ka kb kc
 have Hrg : Hid (w1.rangeAt w.heap.size 6 (lkS o.look p1 k1 p2 k2 p3 k3).toList) := hd' (Blk.range (post := []) HB1.o (by rw [List.append_nil]; exact ukx o _ _ _) rfl)
 have hA : Blk (w1.alloc (.cells lz28 35)) w1.heap.size 35 lz28 := heap_alloc_new w1 _
 have Hth : Hid ((w1.alloc (.cells lz28 35)).there w1.heap.size 0 (lkS o.look p1 k1 p2 k2 p3 k3).size) := hd' (hA.there 0 _ (by rw [uj8]; simp))
 have HiL2 : Hid ((Tryz.prog.info? 35).map (·.size) = some (lkS o.look p1 k1 p2 k2 p3 k3).size) := hd' (size_look.trans (by rw [uj8]))
 have hA2 := hA.sets 0 (lkS o.look p1 k1 p2 k2 p3 k3).toList
 rw [uef _ _ (by simp [uai])] at hA2
 have hM2 : Gou.Mod (fun k => k = w1.heap.size) w1 ((w1.alloc (.cells lz28 35)).setCells w1.heap.size 0 (lkS o.look p1 k1 p2 k2 p3 k3).toList) := (Gou.Mod.alloc _ _ _).trans' (Blk.setMod _ _ _ _)
 have HW2 : Hid (Wr ((w1.alloc (.cells lz28 35)).setCells w1.heap.size 0 (lkS o.look p1 k1 p2 k2 p3 k3).toList) W _ v1) := hd' (Hw1.o.other hM2 (by have := Blk.lt Hw1.o.box; omega) (fun k hk e => by have := (Hv1.o k hk).2; omega))
 have HL2 : Hid (Blk ((w1.alloc (.cells lz28 35)).setCells w1.heap.size 0 (lkS o.look p1 k1 p2 k2 p3 k3).toList) w1.heap.size 35 (lkS o.look p1 k1 p2 k2 p3 k3)) := hd' hA2
 have HB2 : Hid (Blk ((w1.alloc (.cells lz28 35)).setCells w1.heap.size 0 (lkS o.look p1 k1 p2 k2 p3 k3).toList) w.heap.size 37 (opS o p1 k1 p2 k2 p3 k3)) := hd' (HB1.o.mod hM2 (by omega))
 have HR2 : Hid (LookR (fun b => b < W) ((w1.alloc (.cells lz28 35)).setCells w1.heap.size 0 (lkS o.look p1 k1 p2 k2 p3 k3).toList) o.look (.slice p1 o.look.content.pix.length k1) (.slice p2 o.look.filt.nodes.length k2) (.slice p3 o.look.back.nodes.length k3)) := hd' (HR1.o.mod hM2 (fun k _ hG e => by have := Blk.lt Hw1.o.box; omega))
 have T2a : Hid (WTo W w vs ((w1.alloc (.cells lz28 35)).setCells w1.heap.size 0 (lkS o.look p1 k1 p2 k2 p3 k3).toList) v1) := hd' (T1.o.trans ⟨((Gou.Mod.alloc (fun _ => False) w1 _).trans (Blk.setMod _ w1.heap.size 0 _) (fun i hi e => by omega)).imp (fun _ _ h => h.elim), fun g hg => .inl hg⟩)
 have HS2 : Hid ((((w1.alloc (.cells lz28 35)).setCells w1.heap.size 0 (lkS o.look p1 k1 p2 k2 p3 k3).toList)).heap.size = w1.heap.size + 1) := hd' (by rw [ukm]; simp)
 have kd : (((w1.alloc (.cells lz28 35)).setCells w1.heap.size 0 (lkS o.look p1 k1 p2 k2 p3 k3).toList)).cell? ⟨w.heap.size, 0, none⟩ = some (iV 11) := (by rw [← HK.o]; exact HB2.o.cell 0 rfl)
 clear hA hA2 hM2
 have c25 : (((w1.alloc (.cells lz28 35)).setCells w1.heap.size 0 (lkS o.look p1 k1 p2 k2 p3 k3).toList)).cell? ⟨w1.heap.size, 25, none⟩ = some (.bool false) := (HL2.o.cell (u := .bool o.look.hasBack) 25 rfl).trans (congrArg (fun b => some (Value.bool b)) HF.o)
 go_wp2_with (first | ((with_reducible refine wpList_load_mid ?g1_19 35 ?x1_19 ?o1_19 w.heap.size 6 ?h1_19 (lkS o.look p1 k1 p2 k2 p3 k3).toList ?d1_19 ?c1_19 ?u1_19 ?s1_19 ?i1_19 ?r1_19); (case g1_19 => exact rfl); (case o1_19 => exact rfl); (case h1_19 => exact rfl); (case c1_19 => exact Hrg.o); (case u1_19 => exact Tryz.underlying35); (case s1_19 => exact rfl); (case i1_19 => exact HiL.o)) | ((with_reducible refine wpList_store_mid ?g1_20 35 ?x1_20 ?y1_20 ?o1_20 w1.heap.size 0 (lkS o.look p1 k1 p2 k2 p3 k3) ?h1_20 ?j1_20 ?t1_20 ?i1_20 ?s1_20 ?r1_20); (case g1_20 => exact rfl); (case o1_20 => exact rfl); (case h1_20 => exact rfl); (case j1_20 => exact rfl); (case t1_20 => exact Hth.o); (case i1_20 => exact HiL2.o); (case s1_20 => exact uka _ _ _ _ _ _ _ _ _ _)) | fail)
 generalize hW2 : ((w1.alloc (.cells lz28 35)).setCells w1.heap.size 0 (lkS o.look p1 k1 p2 k2 p3 k3).toList) = wq at *
 clear hW2 kd
 refine (unb _ W _ v1 false HW2.o (by (try simp only [List.length_append, List.length_cons, List.length_nil] at *); omega)).mono ?_
 rintro e w2 ⟨v2, t2, h2⟩
 have T2 := hd' (T2a.o.trans t2)
 rcases hr2 : ug4 [if false = true then 1 else 0] with _ | es2
 ·rw [hr2] at h2
  subst h2
  exact ⟨rfl, v2, T2.o, by have g1 := Hr1.o; have g2 := hr2; simp at g2; simp [ukb, HK.o, HF.o, g1, g2]⟩
 rw [hr2] at h2
 obtain ⟨rfl, hw2⟩ := h2
 have Hr2 := hd' hr2
 have Hw2 := hd' hw2
 have Tk2 := hd' t2
 clear hr2 hw2 t2
 have HL3 : Hid (Blk w2 w1.heap.size 35 (lkS o.look p1 k1 p2 k2 p3 k3)) := hd' (HL2.o.mod Tk2.o.mod (fun e => by
  rcases e with e | e
  ·have := Blk.lt Hw1.o.box; omega
  ·have := (Hv1.o _ e).2; omega))
 have HR3 : Hid (LookR (fun b => b < W) w2 o.look (.slice p1 o.look.content.pix.length k1) (.slice p2 o.look.filt.nodes.length k2) (.slice p3 o.look.back.nodes.length k3)) := hd' (HR2.o.mod (WTo.far Tk2.o HW2.o) (fun k _ hG hk => by omega))
 have hE2 := uj9 Hr2.o
 have d25 : w2.cell? ⟨w1.heap.size, 25, none⟩ = some (.bool false) := (HL3.o.cell (u := .bool o.look.hasBack) 25 rfl).trans (congrArg (fun b => some (Value.bool b)) HF.o)
 clear c25
 go_wp2_with fail
 go_end0
 exact ⟨v2, T2.o, by
  have g1 := Hr1.o
  have g2 := Hr2.o
  simp at g2
  simp [ukb, HK.o, HF.o, g1, g2]
  simpa using Hw2.o⟩
theorem wop_11t (w : World) (W : Nat) (bs : List Nat) (vs : Value) (p1 : Option Addr) (k1 : Nat) (p2 : Option Addr) (k2 : Nat) (p3 : Option Addr) (k3 : Nat) (o : Opr) (hk : o.kind = 11) (hf : o.look.hasBack = true) (h : Wr w W bs vs) (hx : LookR (fun b => b < W) w o.look (.slice p1 o.look.content.pix.length k1) (.slice p2 o.look.filt.nodes.length k2) (.slice p3 o.look.back.nodes.length k3)) (hl : bs.length ≤ 700000000) :
  Calls Tryz.prog 55 #[.pointer (some ⟨W, 0, none⟩), .agg (opS o p1 k1 p2 k2 p3 k3)] w (WrP w W bs vs (ukb o)) := by
 have H := hd' h
 have HB0 : Hid (Blk (w.alloc (.cells (opS o p1 k1 p2 k2 p3 k3) 37)) w.heap.size 37 (opS o p1 k1 p2 k2 p3 k3)) := hd' (heap_alloc_new w _)
 have HW0 : Hid (Wr (w.alloc (.cells (opS o p1 k1 p2 k2 p3 k3) 37)) W bs vs) := hd' (h.alloc _)
 have HT0 : Hid (WTo W w vs (w.alloc (.cells (opS o p1 k1 p2 k2 p3 k3) 37)) vs) := hd' (WTo.other (Gou.Mod.alloc _ _ _) vs)
 have HR0 : Hid (LookR (fun b => b < W) (w.alloc (.cells (opS o p1 k1 p2 k2 p3 k3) 37)) o.look (.slice p1 o.look.content.pix.length k1) (.slice p2 o.look.filt.nodes.length k2) (.slice p3 o.look.back.nodes.length k3)) := hd' (hx.mod (Gou.Mod.alloc (fun _ => False) _ _) (fun _ _ _ h => h))
 have HS0 : Hid (((w.alloc (.cells (opS o p1 k1 p2 k2 p3 k3) 37))).heap.size = w.heap.size + 1) := hd' (by simp)
 have hWlt := Blk.lt h.box
 have HiL : Hid ((Tryz.prog.info? 35).map (·.size) = some (lkS o.look p1 k1 p2 k2 p3 k3).toList.length) := hd' (size_look.trans (by simp [uai]))
 have hvs := fun k hk => (H.o.own.lt k hk).2
 have Hvs := hd' hvs
 clear h hx hvs
 have HK := hd' hk
 clear hk
 have HF := hd' hf
 clear hf
 go_enter Tryz.func55, Tryz.ntmps55
 have ka : ((w.alloc (.cells (opS o p1 k1 p2 k2 p3 k3) 37))).cell? ⟨w.heap.size, 1, none⟩ = some (iV o.id.1) := HB0.o.cell 1 rfl
 have kb : ((w.alloc (.cells (opS o p1 k1 p2 k2 p3 k3) 37))).cell? ⟨w.heap.size, 2, none⟩ = some (iV o.id.2) := HB0.o.cell 2 rfl
 have kc : ((w.alloc (.cells (opS o p1 k1 p2 k2 p3 k3) 37))).cell? ⟨w.heap.size, 0, none⟩ = some (iV 11) := (by rw [← HK.o]; exact HB0.o.cell 0 rfl)
 go_wp2_with fail
 generalize hW0 : (w.alloc (.cells (opS o p1 k1 p2 k2 p3 k3) 37)) = w0 at *
 clear hW0
 refine (ulw _ W bs vs o.id.1 o.id.2 HW0.o (by omega)).mono ?_
 rintro e w1 ⟨v1, t1, h1⟩
 have T1 := hd' (HT0.o.trans t1)
 rcases hr1 : ug4 [o.id.1, o.id.2] with _ | es1
 ·rw [hr1] at h1
  subst h1
  exact ⟨rfl, v1, T1.o, by have hk := HK.o; simp [ukb, hk, hr1]⟩
 rw [hr1] at h1
 obtain ⟨rfl, hw1⟩ := h1
 have Hr1 := hd' hr1
 have Hw1 := hd' hw1
 have Tk1 := hd' t1
 clear hr1 hw1 t1
 have hE1 := uj9 Hr1.o
 have HB1 : Hid (Blk w1 w.heap.size 37 (opS o p1 k1 p2 k2 p3 k3)) := hd' (HB0.o.mod Tk1.o.mod (fun e => by
  rcases e with e | e
  ·omega
  ·have := Hvs.o _ e; omega))
 have HR1 : Hid (LookR (fun b => b < W) w1 o.look (.slice p1 o.look.content.pix.length k1) (.slice p2 o.look.filt.nodes.length k2) (.slice p3 o.look.back.nodes.length k3)) := hd' (HR0.o.mod (WTo.far Tk1.o HW0.o) (fun k _ hG hk => by omega))
 have Hv1 : Hid (∀ k, v1.ownBlock = some k → k ≠ w.heap.size ∧ k < w1.heap.size) := hd' (fun k hk => ⟨fun e => by
  rcases Tk1.o.fresh _ hk with e2 | e2
  ·have := Hvs.o _ e2; omega
  ·have := HS0.o; omega, (Hw1.o.own.lt _ hk).2⟩)
 have hB1 := Blk.lt HB1.o
 clear ka kb kc
 have Hrg : Hid (w1.rangeAt w.heap.size 6 (lkS o.look p1 k1 p2 k2 p3 k3).toList) := hd' (Blk.range (post := []) HB1.o (by rw [List.append_nil]; exact ukx o _ _ _) rfl)
 have hA : Blk (w1.alloc (.cells lz28 35)) w1.heap.size 35 lz28 := heap_alloc_new w1 _
 have Hth : Hid ((w1.alloc (.cells lz28 35)).there w1.heap.size 0 (lkS o.look p1 k1 p2 k2 p3 k3).size) := hd' (hA.there 0 _ (by rw [uj8]; simp))
 have HiL2 : Hid ((Tryz.prog.info? 35).map (·.size) = some (lkS o.look p1 k1 p2 k2 p3 k3).size) := hd' (size_look.trans (by rw [uj8]))
 have hA2 := hA.sets 0 (lkS o.look p1 k1 p2 k2 p3 k3).toList
 rw [uef _ _ (by simp [uai])] at hA2
 have hM2 : Gou.Mod (fun k => k = w1.heap.size) w1 ((w1.alloc (.cells lz28 35)).setCells w1.heap.size 0 (lkS o.look p1 k1 p2 k2 p3 k3).toList) := (Gou.Mod.alloc _ _ _).trans' (Blk.setMod _ _ _ _)
 have HW2 : Hid (Wr ((w1.alloc (.cells lz28 35)).setCells w1.heap.size 0 (lkS o.look p1 k1 p2 k2 p3 k3).toList) W _ v1) := hd' (Hw1.o.other hM2 (by have := Blk.lt Hw1.o.box; omega) (fun k hk e => by have := (Hv1.o k hk).2; omega))
 have HL2 : Hid (Blk ((w1.alloc (.cells lz28 35)).setCells w1.heap.size 0 (lkS o.look p1 k1 p2 k2 p3 k3).toList) w1.heap.size 35 (lkS o.look p1 k1 p2 k2 p3 k3)) := hd' hA2
 have HB2 : Hid (Blk ((w1.alloc (.cells lz28 35)).setCells w1.heap.size 0 (lkS o.look p1 k1 p2 k2 p3 k3).toList) w.heap.size 37 (opS o p1 k1 p2 k2 p3 k3)) := hd' (HB1.o.mod hM2 (by omega))
 have HR2 : Hid (LookR (fun b => b < W) ((w1.alloc (.cells lz28 35)).setCells w1.heap.size 0 (lkS o.look p1 k1 p2 k2 p3 k3).toList) o.look (.slice p1 o.look.content.pix.length k1) (.slice p2 o.look.filt.nodes.length k2) (.slice p3 o.look.back.nodes.length k3)) := hd' (HR1.o.mod hM2 (fun k _ hG e => by have := Blk.lt Hw1.o.box; omega))
 have T2a : Hid (WTo W w vs ((w1.alloc (.cells lz28 35)).setCells w1.heap.size 0 (lkS o.look p1 k1 p2 k2 p3 k3).toList) v1) := hd' (T1.o.trans ⟨((Gou.Mod.alloc (fun _ => False) w1 _).trans (Blk.setMod _ w1.heap.size 0 _) (fun i hi e => by omega)).imp (fun _ _ h => h.elim), fun g hg => .inl hg⟩)
 have HS2 : Hid ((((w1.alloc (.cells lz28 35)).setCells w1.heap.size 0 (lkS o.look p1 k1 p2 k2 p3 k3).toList)).heap.size = w1.heap.size + 1) := hd' (by rw [ukm]; simp)
 have kd : (((w1.alloc (.cells lz28 35)).setCells w1.heap.size 0 (lkS o.look p1 k1 p2 k2 p3 k3).toList)).cell? ⟨w.heap.size, 0, none⟩ = some (iV 11) := (by rw [← HK.o]; exact HB2.o.cell 0 rfl)
 clear hA hA2 hM2
 have c25 : (((w1.alloc (.cells lz28 35)).setCells w1.heap.size 0 (lkS o.look p1 k1 p2 k2 p3 k3).toList)).cell? ⟨w1.heap.size, 25, none⟩ = some (.bool true) := (HL2.o.cell (u := .bool o.look.hasBack) 25 rfl).trans (congrArg (fun b => some (Value.bool b)) HF.o)
 go_wp2_with (first | ((with_reducible refine wpList_load_mid ?g1_21 35 ?x1_21 ?o1_21 w.heap.size 6 ?h1_21 (lkS o.look p1 k1 p2 k2 p3 k3).toList ?d1_21 ?c1_21 ?u1_21 ?s1_21 ?i1_21 ?r1_21); (case g1_21 => exact rfl); (case o1_21 => exact rfl); (case h1_21 => exact rfl); (case c1_21 => exact Hrg.o); (case u1_21 => exact Tryz.underlying35); (case s1_21 => exact rfl); (case i1_21 => exact HiL.o)) | ((with_reducible refine wpList_store_mid ?g1_22 35 ?x1_22 ?y1_22 ?o1_22 w1.heap.size 0 (lkS o.look p1 k1 p2 k2 p3 k3) ?h1_22 ?j1_22 ?t1_22 ?i1_22 ?s1_22 ?r1_22); (case g1_22 => exact rfl); (case o1_22 => exact rfl); (case h1_22 => exact rfl); (case j1_22 => exact rfl); (case t1_22 => exact Hth.o); (case i1_22 => exact HiL2.o); (case s1_22 => exact uka _ _ _ _ _ _ _ _ _ _)) | fail)
 generalize hW2 : ((w1.alloc (.cells lz28 35)).setCells w1.heap.size 0 (lkS o.look p1 k1 p2 k2 p3 k3).toList) = wq at *
 clear hW2 kd
 refine (unb _ W _ v1 true HW2.o (by (try simp only [List.length_append, List.length_cons, List.length_nil] at *); omega)).mono ?_
 rintro e w2 ⟨v2, t2, h2⟩
 have T2 := hd' (T2a.o.trans t2)
 rcases hr2 : ug4 [if true = true then 1 else 0] with _ | es2
 ·rw [hr2] at h2
  subst h2
  exact ⟨rfl, v2, T2.o, by have g1 := Hr1.o; have g2 := hr2; simp at g2; simp [ukb, HK.o, HF.o, g1, g2]⟩
 rw [hr2] at h2
 obtain ⟨rfl, hw2⟩ := h2
 have Hr2 := hd' hr2
 have Hw2 := hd' hw2
 have Tk2 := hd' t2
 clear hr2 hw2 t2
 have HL3 : Hid (Blk w2 w1.heap.size 35 (lkS o.look p1 k1 p2 k2 p3 k3)) := hd' (HL2.o.mod Tk2.o.mod (fun e => by
  rcases e with e | e
  ·have := Blk.lt Hw1.o.box; omega
  ·have := (Hv1.o _ e).2; omega))
 have HR3 : Hid (LookR (fun b => b < W) w2 o.look (.slice p1 o.look.content.pix.length k1) (.slice p2 o.look.filt.nodes.length k2) (.slice p3 o.look.back.nodes.length k3)) := hd' (HR2.o.mod (WTo.far Tk2.o HW2.o) (fun k _ hG hk => by omega))
 have hE2 := uj9 Hr2.o
 have d25 : w2.cell? ⟨w1.heap.size, 25, none⟩ = some (.bool true) := (HL3.o.cell (u := .bool o.look.hasBack) 25 rfl).trans (congrArg (fun b => some (Value.bool b)) HF.o)
 have d26 : w2.cell? ⟨w1.heap.size, 26, none⟩ = some (.slice p3 o.look.back.nodes.length k3) := HL3.o.cell 26 rfl
 have d27 : w2.cell? ⟨w1.heap.size, 27, none⟩ = some (iV o.look.back.out) := HL3.o.cell 27 rfl
 clear c25
 go_wp2_with fail
 refine (uqt _ W _ v2 p3 k3 o.look.back Hw2.o HR3.o.back (by (try simp only [List.length_append, List.length_cons, List.length_nil] at *); omega)).mono ?_
 rintro e w3 ⟨v3, t3, h3⟩
 have T3 := hd' (T2.o.trans t3)
 rcases hr3 : uk5 o.look.back with _ | es3
 ·rw [hr3] at h3
  subst h3
  exact ⟨rfl, v3, T3.o, by have g1 := Hr1.o; have g2 := Hr2.o; simp at g2; simp [ukb, HK.o, HF.o, g1, g2, hr3]⟩
 rw [hr3] at h3
 obtain ⟨rfl, hw3⟩ := h3
 have Hr3 := hd' hr3
 have Hw3 := hd' hw3
 have Tk3 := hd' t3
 clear hr3 hw3 t3
 go_wp2_with fail
 go_end0
 exact ⟨v3, T3.o, by
  have g1 := Hr1.o
  have g2 := Hr2.o
  have g3 := Hr3.o
  simp at g2
  simp [ukb, HK.o, HF.o, g1, g2, g3]
  simpa using Hw3.o⟩
theorem wop_0 (w : World) (W : Nat) (bs : List Nat) (vs : Value) (p1 : Option Addr) (k1 : Nat) (p2 : Option Addr) (k2 : Nat) (p3 : Option Addr) (k3 : Nat) (o : Opr) (h1 : o.kind ≠ 1) (h3 : o.kind ≠ 3) (h4 : o.kind ≠ 4) (h5 : o.kind ≠ 5) (h6 : o.kind ≠ 6) (h7 : o.kind ≠ 7) (h8 : o.kind ≠ 8) (h9 : o.kind ≠ 9) (h10 : o.kind ≠ 10) (h11 : o.kind ≠ 11) (h : Wr w W bs vs) (hx : LookR (fun b => b < W) w o.look (.slice p1 o.look.content.pix.length k1) (.slice p2 o.look.filt.nodes.length k2) (.slice p3 o.look.back.nodes.length k3)) (hl : bs.length ≤ 700000000) :
  Calls Tryz.prog 55 #[.pointer (some ⟨W, 0, none⟩), .agg (opS o p1 k1 p2 k2 p3 k3)] w (WrP w W bs vs (ukb o)) := by
 have H := hd' h
 have HB0 : Hid (Blk (w.alloc (.cells (opS o p1 k1 p2 k2 p3 k3) 37)) w.heap.size 37 (opS o p1 k1 p2 k2 p3 k3)) := hd' (heap_alloc_new w _)
 have HW0 : Hid (Wr (w.alloc (.cells (opS o p1 k1 p2 k2 p3 k3) 37)) W bs vs) := hd' (h.alloc _)
 have HT0 : Hid (WTo W w vs (w.alloc (.cells (opS o p1 k1 p2 k2 p3 k3) 37)) vs) := hd' (WTo.other (Gou.Mod.alloc _ _ _) vs)
 have HR0 : Hid (LookR (fun b => b < W) (w.alloc (.cells (opS o p1 k1 p2 k2 p3 k3) 37)) o.look (.slice p1 o.look.content.pix.length k1) (.slice p2 o.look.filt.nodes.length k2) (.slice p3 o.look.back.nodes.length k3)) := hd' (hx.mod (Gou.Mod.alloc (fun _ => False) _ _) (fun _ _ _ h => h))
 have HS0 : Hid (((w.alloc (.cells (opS o p1 k1 p2 k2 p3 k3) 37))).heap.size = w.heap.size + 1) := hd' (by simp)
 have hWlt := Blk.lt h.box
 have HiL : Hid ((Tryz.prog.info? 35).map (·.size) = some (lkS o.look p1 k1 p2 k2 p3 k3).toList.length) := hd' (size_look.trans (by simp [uai]))
 have hvs := fun k hk => (H.o.own.lt k hk).2
 have Hvs := hd' hvs
 clear h hx hvs
 have e1 : (o.kind == 1) = false := bqf.2 h1
 have e3 : (o.kind == 3) = false := bqf.2 h3
 have e4 : (o.kind == 4) = false := bqf.2 h4
 have e5 : (o.kind == 5) = false := bqf.2 h5
 have e6 : (o.kind == 6) = false := bqf.2 h6
 have e7 : (o.kind == 7) = false := bqf.2 h7
 have e8 : (o.kind == 8) = false := bqf.2 h8
 have e9 : (o.kind == 9) = false := bqf.2 h9
 have e10 : (o.kind == 10) = false := bqf.2 h10
 have e11 : (o.kind == 11) = false := bqf.2 h11
 have en : (o.kind != 1) = true := by simp [h1]
 have N1 := hd' h1
 clear h1
 have N3 := hd' h3
 clear h3
 have N4 := hd' h4
 clear h4
 have N5 := hd' h5
 clear h5
 have N6 := hd' h6
 clear h6
 have N7 := hd' h7
 clear h7
 have N8 := hd' h8
 clear h8
 have N9 := hd' h9
 clear h9
 have N10 := hd' h10
 clear h10
 have N11 := hd' h11
 clear h11
 go_enter Tryz.func55, Tryz.ntmps55
 have ka : ((w.alloc (.cells (opS o p1 k1 p2 k2 p3 k3) 37))).cell? ⟨w.heap.size, 1, none⟩ = some (iV o.id.1) := HB0.o.cell 1 rfl
 have kb : ((w.alloc (.cells (opS o p1 k1 p2 k2 p3 k3) 37))).cell? ⟨w.heap.size, 2, none⟩ = some (iV o.id.2) := HB0.o.cell 2 rfl
 have kc : ((w.alloc (.cells (opS o p1 k1 p2 k2 p3 k3) 37))).cell? ⟨w.heap.size, 0, none⟩ = some (iV o.kind) := HB0.o.cell 0 rfl
 go_wp2_with fail
 generalize hW0 : (w.alloc (.cells (opS o p1 k1 p2 k2 p3 k3) 37)) = w0 at *
 clear hW0
 refine (ulw _ W bs vs o.id.1 o.id.2 HW0.o (by omega)).mono ?_
 rintro e w1 ⟨v1, t1, h1⟩
 have T1 := hd' (HT0.o.trans t1)
 rcases hr1 : ug4 [o.id.1, o.id.2] with _ | es1
 ·rw [hr1] at h1
  subst h1
  exact ⟨rfl, v1, T1.o, by simp [ukb, N1.o, hr1]⟩
 rw [hr1] at h1
 obtain ⟨rfl, hw1⟩ := h1
 have Hr1 := hd' hr1
 have Hw1 := hd' hw1
 have Tk1 := hd' t1
 clear hr1 hw1 t1
 have hE1 := uj9 Hr1.o
 have HB1 : Hid (Blk w1 w.heap.size 37 (opS o p1 k1 p2 k2 p3 k3)) := hd' (HB0.o.mod Tk1.o.mod (fun e => by
  rcases e with e | e
  ·omega
  ·have := Hvs.o _ e; omega))
 have HR1 : Hid (LookR (fun b => b < W) w1 o.look (.slice p1 o.look.content.pix.length k1) (.slice p2 o.look.filt.nodes.length k2) (.slice p3 o.look.back.nodes.length k3)) := hd' (HR0.o.mod (WTo.far Tk1.o HW0.o) (fun k _ hG hk => by omega))
 have Hv1 : Hid (∀ k, v1.ownBlock = some k → k ≠ w.heap.size ∧ k < w1.heap.size) := hd' (fun k hk => ⟨fun e => by
  rcases Tk1.o.fresh _ hk with e2 | e2
  ·have := Hvs.o _ e2; omega
  ·have := HS0.o; omega, (Hw1.o.own.lt _ hk).2⟩)
 have hB1 := Blk.lt HB1.o
 clear ka kb kc
 have Hrg : Hid (w1.rangeAt w.heap.size 6 (lkS o.look p1 k1 p2 k2 p3 k3).toList) := hd' (Blk.range (post := []) HB1.o (by rw [List.append_nil]; exact ukx o _ _ _) rfl)
 have hA : Blk (w1.alloc (.cells lz28 35)) w1.heap.size 35 lz28 := heap_alloc_new w1 _
 have Hth : Hid ((w1.alloc (.cells lz28 35)).there w1.heap.size 0 (lkS o.look p1 k1 p2 k2 p3 k3).size) := hd' (hA.there 0 _ (by rw [uj8]; simp))
 have HiL2 : Hid ((Tryz.prog.info? 35).map (·.size) = some (lkS o.look p1 k1 p2 k2 p3 k3).size) := hd' (size_look.trans (by rw [uj8]))
 have hA2 := hA.sets 0 (lkS o.look p1 k1 p2 k2 p3 k3).toList
 rw [uef _ _ (by simp [uai])] at hA2
 have hM2 : Gou.Mod (fun k => k = w1.heap.size) w1 ((w1.alloc (.cells lz28 35)).setCells w1.heap.size 0 (lkS o.look p1 k1 p2 k2 p3 k3).toList) := (Gou.Mod.alloc _ _ _).trans' (Blk.setMod _ _ _ _)
 have HW2 : Hid (Wr ((w1.alloc (.cells lz28 35)).setCells w1.heap.size 0 (lkS o.look p1 k1 p2 k2 p3 k3).toList) W _ v1) := hd' (Hw1.o.other hM2 (by have := Blk.lt Hw1.o.box; omega) (fun k hk e => by have := (Hv1.o k hk).2; omega))
 have HL2 : Hid (Blk ((w1.alloc (.cells lz28 35)).setCells w1.heap.size 0 (lkS o.look p1 k1 p2 k2 p3 k3).toList) w1.heap.size 35 (lkS o.look p1 k1 p2 k2 p3 k3)) := hd' hA2
 have HB2 : Hid (Blk ((w1.alloc (.cells lz28 35)).setCells w1.heap.size 0 (lkS o.look p1 k1 p2 k2 p3 k3).toList) w.heap.size 37 (opS o p1 k1 p2 k2 p3 k3)) := hd' (HB1.o.mod hM2 (by omega))
 have HR2 : Hid (LookR (fun b => b < W) ((w1.alloc (.cells lz28 35)).setCells w1.heap.size 0 (lkS o.look p1 k1 p2 k2 p3 k3).toList) o.look (.slice p1 o.look.content.pix.length k1) (.slice p2 o.look.filt.nodes.length k2) (.slice p3 o.look.back.nodes.length k3)) := hd' (HR1.o.mod hM2 (fun k _ hG e => by have := Blk.lt Hw1.o.box; omega))
 have T2a : Hid (WTo W w vs ((w1.alloc (.cells lz28 35)).setCells w1.heap.size 0 (lkS o.look p1 k1 p2 k2 p3 k3).toList) v1) := hd' (T1.o.trans ⟨((Gou.Mod.alloc (fun _ => False) w1 _).trans (Blk.setMod _ w1.heap.size 0 _) (fun i hi e => by omega)).imp (fun _ _ h => h.elim), fun g hg => .inl hg⟩)
 have HS2 : Hid ((((w1.alloc (.cells lz28 35)).setCells w1.heap.size 0 (lkS o.look p1 k1 p2 k2 p3 k3).toList)).heap.size = w1.heap.size + 1) := hd' (by rw [ukm]; simp)
 have kd : (((w1.alloc (.cells lz28 35)).setCells w1.heap.size 0 (lkS o.look p1 k1 p2 k2 p3 k3).toList)).cell? ⟨w.heap.size, 0, none⟩ = some (iV o.kind) := HB2.o.cell 0 rfl
 clear hA hA2 hM2
 skip
 go_wp2_with (first | ((with_reducible refine wpList_load_mid ?g1_23 35 ?x1_23 ?o1_23 w.heap.size 6 ?h1_23 (lkS o.look p1 k1 p2 k2 p3 k3).toList ?d1_23 ?c1_23 ?u1_23 ?s1_23 ?i1_23 ?r1_23); (case g1_23 => exact rfl); (case o1_23 => exact rfl); (case h1_23 => exact rfl); (case c1_23 => exact Hrg.o); (case u1_23 => exact Tryz.underlying35); (case s1_23 => exact rfl); (case i1_23 => exact HiL.o)) | ((with_reducible refine wpList_store_mid ?g1_24 35 ?x1_24 ?y1_24 ?o1_24 w1.heap.size 0 (lkS o.look p1 k1 p2 k2 p3 k3) ?h1_24 ?j1_24 ?t1_24 ?i1_24 ?s1_24 ?r1_24); (case g1_24 => exact rfl); (case o1_24 => exact rfl); (case h1_24 => exact rfl); (case j1_24 => exact rfl); (case t1_24 => exact Hth.o); (case i1_24 => exact HiL2.o); (case s1_24 => exact uka _ _ _ _ _ _ _ _ _ _)) | fail)
 generalize hW2 : ((w1.alloc (.cells lz28 35)).setCells w1.heap.size 0 (lkS o.look p1 k1 p2 k2 p3 k3).toList) = wq at *
 clear hW2 kd
 go_end0
 exact ⟨v1, T2a.o, by
  have g1 := Hr1.o
  simp [ukb, g1, N1.o, N3.o, N4.o, N5.o, N6.o, N7.o, N8.o, N9.o, N10.o, N11.o]
  exact HW2.o⟩
theorem wop_1 (w : World) (W : Nat) (bs : List Nat) (vs : Value) (p1 : Option Addr) (k1 : Nat) (p2 : Option Addr) (k2 : Nat) (p3 : Option Addr) (k3 : Nat) (o : Opr) (hk : o.kind = 1) (h : Wr w W bs vs) (hx : LookR (fun b => b < W) w o.look (.slice p1 o.look.content.pix.length k1) (.slice p2 o.look.filt.nodes.length k2) (.slice p3 o.look.back.nodes.length k3)) (hl : bs.length ≤ 700000000) :
  Calls Tryz.prog 55 #[.pointer (some ⟨W, 0, none⟩), .agg (opS o p1 k1 p2 k2 p3 k3)] w (WrP w W bs vs (ukb o)) := by
 have H := hd' h
 have HB0 : Hid (Blk (w.alloc (.cells (opS o p1 k1 p2 k2 p3 k3) 37)) w.heap.size 37 (opS o p1 k1 p2 k2 p3 k3)) := hd' (heap_alloc_new w _)
 have HW0 : Hid (Wr (w.alloc (.cells (opS o p1 k1 p2 k2 p3 k3) 37)) W bs vs) := hd' (h.alloc _)
 have HT0 : Hid (WTo W w vs (w.alloc (.cells (opS o p1 k1 p2 k2 p3 k3) 37)) vs) := hd' (WTo.other (Gou.Mod.alloc _ _ _) vs)
 have HR0 : Hid (LookR (fun b => b < W) (w.alloc (.cells (opS o p1 k1 p2 k2 p3 k3) 37)) o.look (.slice p1 o.look.content.pix.length k1) (.slice p2 o.look.filt.nodes.length k2) (.slice p3 o.look.back.nodes.length k3)) := hd' (hx.mod (Gou.Mod.alloc (fun _ => False) _ _) (fun _ _ _ h => h))
 have HS0 : Hid (((w.alloc (.cells (opS o p1 k1 p2 k2 p3 k3) 37))).heap.size = w.heap.size + 1) := hd' (by simp)
 have hWlt := Blk.lt h.box
 have HiL : Hid ((Tryz.prog.info? 35).map (·.size) = some (lkS o.look p1 k1 p2 k2 p3 k3).toList.length) := hd' (size_look.trans (by simp [uai]))
 have hvs := fun k hk => (H.o.own.lt k hk).2
 have Hvs := hd' hvs
 clear h hx hvs
 have HK := hd' hk
 clear hk
 go_enter Tryz.func55, Tryz.ntmps55
 have HB1 := HB0
 have HR1 := HR0
 have Hw1 := HW0
 have T1 := HT0
 have hB1 := Blk.lt HB0.o
 have Hv1 : Hid (∀ k, vs.ownBlock = some k → k ≠ w.heap.size ∧ k < (w.heap.size + 1)) := hd' (fun k hk => by have := Hvs.o _ hk; omega)
 have kc : ((w.alloc (.cells (opS o p1 k1 p2 k2 p3 k3) 37))).cell? ⟨w.heap.size, 0, none⟩ = some (iV 1) := (by rw [← HK.o]; exact HB0.o.cell 0 rfl)
 have Hrg : Hid (((w.alloc (.cells (opS o p1 k1 p2 k2 p3 k3) 37))).rangeAt w.heap.size 6 (lkS o.look p1 k1 p2 k2 p3 k3).toList) := hd' (Blk.range (post := []) HB1.o (by rw [List.append_nil]; exact ukx o _ _ _) rfl)
 have hA : Blk (((w.alloc (.cells (opS o p1 k1 p2 k2 p3 k3) 37))).alloc (.cells lz28 35)) (w.heap.size + 1) 35 lz28 := (by have := heap_alloc_new ((w.alloc (.cells (opS o p1 k1 p2 k2 p3 k3) 37))) (.cells lz28 35); rw [HS0.o] at this; exact this)
 have Hth : Hid ((((w.alloc (.cells (opS o p1 k1 p2 k2 p3 k3) 37))).alloc (.cells lz28 35)).there (w.heap.size + 1) 0 (lkS o.look p1 k1 p2 k2 p3 k3).size) := hd' (hA.there 0 _ (by rw [uj8]; simp))
 have HiL2 : Hid ((Tryz.prog.info? 35).map (·.size) = some (lkS o.look p1 k1 p2 k2 p3 k3).size) := hd' (size_look.trans (by rw [uj8]))
 have hA2 := hA.sets 0 (lkS o.look p1 k1 p2 k2 p3 k3).toList
 rw [uef _ _ (by simp [uai])] at hA2
 have hM2 : Gou.Mod (fun k => k = (w.heap.size + 1)) ((w.alloc (.cells (opS o p1 k1 p2 k2 p3 k3) 37))) ((((w.alloc (.cells (opS o p1 k1 p2 k2 p3 k3) 37))).alloc (.cells lz28 35)).setCells (w.heap.size + 1) 0 (lkS o.look p1 k1 p2 k2 p3 k3).toList) := (Gou.Mod.alloc _ _ _).trans' (Blk.setMod _ _ _ _)
 have HW2 : Hid (Wr ((((w.alloc (.cells (opS o p1 k1 p2 k2 p3 k3) 37))).alloc (.cells lz28 35)).setCells (w.heap.size + 1) 0 (lkS o.look p1 k1 p2 k2 p3 k3).toList) W _ vs) := hd' (Hw1.o.other hM2 (by have := Blk.lt Hw1.o.box; omega) (fun k hk e => by have := (Hv1.o k hk).2; omega))
 have HL2 : Hid (Blk ((((w.alloc (.cells (opS o p1 k1 p2 k2 p3 k3) 37))).alloc (.cells lz28 35)).setCells (w.heap.size + 1) 0 (lkS o.look p1 k1 p2 k2 p3 k3).toList) (w.heap.size + 1) 35 (lkS o.look p1 k1 p2 k2 p3 k3)) := hd' hA2
 have HB2 : Hid (Blk ((((w.alloc (.cells (opS o p1 k1 p2 k2 p3 k3) 37))).alloc (.cells lz28 35)).setCells (w.heap.size + 1) 0 (lkS o.look p1 k1 p2 k2 p3 k3).toList) w.heap.size 37 (opS o p1 k1 p2 k2 p3 k3)) := hd' (HB1.o.mod hM2 (by omega))
 have HR2 : Hid (LookR (fun b => b < W) ((((w.alloc (.cells (opS o p1 k1 p2 k2 p3 k3) 37))).alloc (.cells lz28 35)).setCells (w.heap.size + 1) 0 (lkS o.look p1 k1 p2 k2 p3 k3).toList) o.look (.slice p1 o.look.content.pix.length k1) (.slice p2 o.look.filt.nodes.length k2) (.slice p3 o.look.back.nodes.length k3)) := hd' (HR1.o.mod hM2 (fun k _ hG e => by have := Blk.lt Hw1.o.box; omega))
 have T2a : Hid (WTo W w vs ((((w.alloc (.cells (opS o p1 k1 p2 k2 p3 k3) 37))).alloc (.cells lz28 35)).setCells (w.heap.size + 1) 0 (lkS o.look p1 k1 p2 k2 p3 k3).toList) vs) := hd' (T1.o.trans ⟨((Gou.Mod.alloc (fun _ => False) ((w.alloc (.cells (opS o p1 k1 p2 k2 p3 k3) 37))) _).trans (Blk.setMod _ (w.heap.size + 1) 0 _) (fun i hi e => by have := HS0.o; omega)).imp (fun _ _ h => h.elim), fun g hg => .inl hg⟩)
 have HS2 : Hid ((((((w.alloc (.cells (opS o p1 k1 p2 k2 p3 k3) 37))).alloc (.cells lz28 35)).setCells (w.heap.size + 1) 0 (lkS o.look p1 k1 p2 k2 p3 k3).toList)).heap.size = (w.heap.size + 1) + 1) := hd' (by rw [ukm]; simp)
 have kd : (((((w.alloc (.cells (opS o p1 k1 p2 k2 p3 k3) 37))).alloc (.cells lz28 35)).setCells (w.heap.size + 1) 0 (lkS o.look p1 k1 p2 k2 p3 k3).toList)).cell? ⟨w.heap.size, 0, none⟩ = some (iV 1) := (by rw [← HK.o]; exact HB2.o.cell 0 rfl)
 clear hA hA2 hM2
 have q3 : (((((w.alloc (.cells (opS o p1 k1 p2 k2 p3 k3) 37))).alloc (.cells lz28 35)).setCells (w.heap.size + 1) 0 (lkS o.look p1 k1 p2 k2 p3 k3).toList)).cell? ⟨w.heap.size, 3, none⟩ = some (iV o.to.1) := HB2.o.cell 3 rfl
 have q4 : (((((w.alloc (.cells (opS o p1 k1 p2 k2 p3 k3) 37))).alloc (.cells lz28 35)).setCells (w.heap.size + 1) 0 (lkS o.look p1 k1 p2 k2 p3 k3).toList)).cell? ⟨w.heap.size, 4, none⟩ = some (iV o.to.2) := HB2.o.cell 4 rfl
 go_wp2_with (first | ((with_reducible refine wpList_load_mid ?g1_25 35 ?x1_25 ?o1_25 w.heap.size 6 ?h1_25 (lkS o.look p1 k1 p2 k2 p3 k3).toList ?d1_25 ?c1_25 ?u1_25 ?s1_25 ?i1_25 ?r1_25); (case g1_25 => exact rfl); (case o1_25 => exact rfl); (case h1_25 => exact rfl); (case c1_25 => exact Hrg.o); (case u1_25 => exact Tryz.underlying35); (case s1_25 => exact rfl); (case i1_25 => exact HiL.o)) | ((with_reducible refine wpList_store_mid ?g1_26 35 ?x1_26 ?y1_26 ?o1_26 (w.heap.size + 1) 0 (lkS o.look p1 k1 p2 k2 p3 k3) ?h1_26 ?j1_26 ?t1_26 ?i1_26 ?s1_26 ?r1_26); (case g1_26 => exact rfl); (case o1_26 => exact rfl); (case h1_26 => exact rfl); (case j1_26 => exact rfl); (case t1_26 => exact Hth.o); (case i1_26 => exact HiL2.o); (case s1_26 => exact uka _ _ _ _ _ _ _ _ _ _)) | fail)
 generalize hW2 : ((((w.alloc (.cells (opS o p1 k1 p2 k2 p3 k3) 37))).alloc (.cells lz28 35)).setCells (w.heap.size + 1) 0 (lkS o.look p1 k1 p2 k2 p3 k3).toList) = wq at *
 clear hW2 kd kc
 refine (ulw _ W _ vs o.to.1 o.to.2 HW2.o (by (try simp only [List.length_append, List.length_cons, List.length_nil] at *); omega)).mono ?_
 rintro e w2 ⟨v2, t2, h2⟩
 have T2 := hd' (T2a.o.trans t2)
 rcases hr2 : ug4 [o.to.1, o.to.2] with _ | es2
 ·rw [hr2] at h2
  subst h2
  exact ⟨rfl, v2, T2.o, by simp [ukb, HK.o, hr2]⟩
 rw [hr2] at h2
 obtain ⟨rfl, hw2⟩ := h2
 have Hr2 := hd' hr2
 have Hw2 := hd' hw2
 have Tk2 := hd' t2
 clear hr2 hw2 t2
 have HB3 : Hid (Blk w2 w.heap.size 37 (opS o p1 k1 p2 k2 p3 k3)) := hd' (HB2.o.mod Tk2.o.mod (fun e => by
  rcases e with e | e
  ·omega
  ·exact (Hv1.o _ e).1 rfl))
 have hE2 := uj9 Hr2.o
 have q5 : w2.cell? ⟨w.heap.size, 5, none⟩ = some (iV o.at_) := HB3.o.cell 5 rfl
 clear q3 q4
 go_wp2_with fail
 refine (ukc _ W _ v2 _ [o.at_] (Hw2.o.alloc _) (Hw2.o.lit [o.at_] _ rfl 1 rfl _ rfl) (by (try simp only [List.length_append, List.length_cons, List.length_nil] at *); omega)).mono ?_
 rintro e w3 ⟨v3, t3, h3⟩
 have T3 := hd' ((T2.o.trans (WTo.other (Gou.Mod.alloc _ _ _) v2)).trans t3)
 rcases hr3 : ug4 [o.at_] with _ | es3
 ·rw [hr3] at h3
  subst h3
  exact ⟨rfl, v3, T3.o, by have g2 := Hr2.o; simp [ukb, HK.o, g2, hr3]⟩
 rw [hr3] at h3
 obtain ⟨rfl, hw3⟩ := h3
 have Hr3 := hd' hr3
 have Hw3 := hd' hw3
 have Tk3 := hd' t3
 clear hr3 hw3 t3
 go_wp2_with fail
 go_end0
 exact ⟨v3, T3.o, by
  have g2 := Hr2.o
  have g3 := Hr3.o
  simp [ukb, HK.o, g2, g3]
  simpa using Hw3.o⟩
theorem wop_9 (w : World) (W : Nat) (bs : List Nat) (vs : Value) (p1 : Option Addr) (k1 : Nat) (p2 : Option Addr) (k2 : Nat) (p3 : Option Addr) (k3 : Nat) (o : Opr) (hk : o.kind = 9) (h : Wr w W bs vs) (hx : LookR (fun b => b < W) w o.look (.slice p1 o.look.content.pix.length k1) (.slice p2 o.look.filt.nodes.length k2) (.slice p3 o.look.back.nodes.length k3)) (hl : bs.length ≤ 700000000) :
  Calls Tryz.prog 55 #[.pointer (some ⟨W, 0, none⟩), .agg (opS o p1 k1 p2 k2 p3 k3)] w (WrP w W bs vs (ukb o)) := by
 have H := hd' h
 have HB0 : Hid (Blk (w.alloc (.cells (opS o p1 k1 p2 k2 p3 k3) 37)) w.heap.size 37 (opS o p1 k1 p2 k2 p3 k3)) := hd' (heap_alloc_new w _)
 have HW0 : Hid (Wr (w.alloc (.cells (opS o p1 k1 p2 k2 p3 k3) 37)) W bs vs) := hd' (h.alloc _)
 have HT0 : Hid (WTo W w vs (w.alloc (.cells (opS o p1 k1 p2 k2 p3 k3) 37)) vs) := hd' (WTo.other (Gou.Mod.alloc _ _ _) vs)
 have HR0 : Hid (LookR (fun b => b < W) (w.alloc (.cells (opS o p1 k1 p2 k2 p3 k3) 37)) o.look (.slice p1 o.look.content.pix.length k1) (.slice p2 o.look.filt.nodes.length k2) (.slice p3 o.look.back.nodes.length k3)) := hd' (hx.mod (Gou.Mod.alloc (fun _ => False) _ _) (fun _ _ _ h => h))
 have HS0 : Hid (((w.alloc (.cells (opS o p1 k1 p2 k2 p3 k3) 37))).heap.size = w.heap.size + 1) := hd' (by simp)
 have hWlt := Blk.lt h.box
 have HiL : Hid ((Tryz.prog.info? 35).map (·.size) = some (lkS o.look p1 k1 p2 k2 p3 k3).toList.length) := hd' (size_look.trans (by simp [uai]))
 have hvs := fun k hk => (H.o.own.lt k hk).2
 have Hvs := hd' hvs
 clear h hx hvs
 have HK := hd' hk
 clear hk
 go_enter Tryz.func55, Tryz.ntmps55
 have ka : ((w.alloc (.cells (opS o p1 k1 p2 k2 p3 k3) 37))).cell? ⟨w.heap.size, 1, none⟩ = some (iV o.id.1) := HB0.o.cell 1 rfl
 have kb : ((w.alloc (.cells (opS o p1 k1 p2 k2 p3 k3) 37))).cell? ⟨w.heap.size, 2, none⟩ = some (iV o.id.2) := HB0.o.cell 2 rfl
 have kc : ((w.alloc (.cells (opS o p1 k1 p2 k2 p3 k3) 37))).cell? ⟨w.heap.size, 0, none⟩ = some (iV 9) := (by rw [← HK.o]; exact HB0.o.cell 0 rfl)
 go_wp2_with fail
 generalize hW0 : (w.alloc (.cells (opS o p1 k1 p2 k2 p3 k3) 37)) = w0 at *
 clear hW0
 refine (ulw _ W bs vs o.id.1 o.id.2 HW0.o (by omega)).mono ?_
 rintro e w1 ⟨v1, t1, h1⟩
 have T1 := hd' (HT0.o.trans t1)
 rcases hr1 : ug4 [o.id.1, o.id.2] with _ | es1
 ·rw [hr1] at h1
  subst h1
  exact ⟨rfl, v1, T1.o, by have hk := HK.o; simp [ukb, hk, hr1]⟩
 rw [hr1] at h1
 obtain ⟨rfl, hw1⟩ := h1
 have Hr1 := hd' hr1
 have Hw1 := hd' hw1
 have Tk1 := hd' t1
 clear hr1 hw1 t1
 have hE1 := uj9 Hr1.o
 have HB1 : Hid (Blk w1 w.heap.size 37 (opS o p1 k1 p2 k2 p3 k3)) := hd' (HB0.o.mod Tk1.o.mod (fun e => by
  rcases e with e | e
  ·omega
  ·have := Hvs.o _ e; omega))
 have HR1 : Hid (LookR (fun b => b < W) w1 o.look (.slice p1 o.look.content.pix.length k1) (.slice p2 o.look.filt.nodes.length k2) (.slice p3 o.look.back.nodes.length k3)) := hd' (HR0.o.mod (WTo.far Tk1.o HW0.o) (fun k _ hG hk => by omega))
 have Hv1 : Hid (∀ k, v1.ownBlock = some k → k ≠ w.heap.size ∧ k < w1.heap.size) := hd' (fun k hk => ⟨fun e => by
  rcases Tk1.o.fresh _ hk with e2 | e2
  ·have := Hvs.o _ e2; omega
  ·have := HS0.o; omega, (Hw1.o.own.lt _ hk).2⟩)
 have hB1 := Blk.lt HB1.o
 clear ka kb kc
 have Hrg : Hid (w1.rangeAt w.heap.size 6 (lkS o.look p1 k1 p2 k2 p3 k3).toList) := hd' (Blk.range (post := []) HB1.o (by rw [List.append_nil]; exact ukx o _ _ _) rfl)
 have hA : Blk (w1.alloc (.cells lz28 35)) w1.heap.size 35 lz28 := heap_alloc_new w1 _
 have Hth : Hid ((w1.alloc (.cells lz28 35)).there w1.heap.size 0 (lkS o.look p1 k1 p2 k2 p3 k3).size) := hd' (hA.there 0 _ (by rw [uj8]; simp))
 have HiL2 : Hid ((Tryz.prog.info? 35).map (·.size) = some (lkS o.look p1 k1 p2 k2 p3 k3).size) := hd' (size_look.trans (by rw [uj8]))
 have hA2 := hA.sets 0 (lkS o.look p1 k1 p2 k2 p3 k3).toList
 rw [uef _ _ (by simp [uai])] at hA2
 have hM2 : Gou.Mod (fun k => k = w1.heap.size) w1 ((w1.alloc (.cells lz28 35)).setCells w1.heap.size 0 (lkS o.look p1 k1 p2 k2 p3 k3).toList) := (Gou.Mod.alloc _ _ _).trans' (Blk.setMod _ _ _ _)
 have HW2 : Hid (Wr ((w1.alloc (.cells lz28 35)).setCells w1.heap.size 0 (lkS o.look p1 k1 p2 k2 p3 k3).toList) W _ v1) := hd' (Hw1.o.other hM2 (by have := Blk.lt Hw1.o.box; omega) (fun k hk e => by have := (Hv1.o k hk).2; omega))
 have HL2 : Hid (Blk ((w1.alloc (.cells lz28 35)).setCells w1.heap.size 0 (lkS o.look p1 k1 p2 k2 p3 k3).toList) w1.heap.size 35 (lkS o.look p1 k1 p2 k2 p3 k3)) := hd' hA2
 have HB2 : Hid (Blk ((w1.alloc (.cells lz28 35)).setCells w1.heap.size 0 (lkS o.look p1 k1 p2 k2 p3 k3).toList) w.heap.size 37 (opS o p1 k1 p2 k2 p3 k3)) := hd' (HB1.o.mod hM2 (by omega))
 have HR2 : Hid (LookR (fun b => b < W) ((w1.alloc (.cells lz28 35)).setCells w1.heap.size 0 (lkS o.look p1 k1 p2 k2 p3 k3).toList) o.look (.slice p1 o.look.content.pix.length k1) (.slice p2 o.look.filt.nodes.length k2) (.slice p3 o.look.back.nodes.length k3)) := hd' (HR1.o.mod hM2 (fun k _ hG e => by have := Blk.lt Hw1.o.box; omega))
 have T2a : Hid (WTo W w vs ((w1.alloc (.cells lz28 35)).setCells w1.heap.size 0 (lkS o.look p1 k1 p2 k2 p3 k3).toList) v1) := hd' (T1.o.trans ⟨((Gou.Mod.alloc (fun _ => False) w1 _).trans (Blk.setMod _ w1.heap.size 0 _) (fun i hi e => by omega)).imp (fun _ _ h => h.elim), fun g hg => .inl hg⟩)
 have HS2 : Hid ((((w1.alloc (.cells lz28 35)).setCells w1.heap.size 0 (lkS o.look p1 k1 p2 k2 p3 k3).toList)).heap.size = w1.heap.size + 1) := hd' (by rw [ukm]; simp)
 have kd : (((w1.alloc (.cells lz28 35)).setCells w1.heap.size 0 (lkS o.look p1 k1 p2 k2 p3 k3).toList)).cell? ⟨w.heap.size, 0, none⟩ = some (iV 9) := (by rw [← HK.o]; exact HB2.o.cell 0 rfl)
 clear hA hA2 hM2
 have Hrc : Hid ((((w1.alloc (.cells lz28 35)).setCells w1.heap.size 0 (lkS o.look p1 k1 p2 k2 p3 k3).toList)).rangeAt w1.heap.size 9 (uak o.look.content (.slice p1 o.look.content.pix.length k1)).toList) := hd' (Blk.range HL2.o (ug0 o.look _ _ _) rfl)
 have HiC : Hid ((Tryz.prog.info? 30).map (·.size) = some (uak o.look.content (.slice p1 o.look.content.pix.length k1)).toList.length) := hd' (size_content.trans (by simp [uak]))
 go_wp2_with (first | ((with_reducible refine wpList_load_mid ?g1_28 35 ?x1_28 ?o1_28 w.heap.size 6 ?h1_28 (lkS o.look p1 k1 p2 k2 p3 k3).toList ?d1_28 ?c1_28 ?u1_28 ?s1_28 ?i1_28 ?r1_28); (case g1_28 => exact rfl); (case o1_28 => exact rfl); (case h1_28 => exact rfl); (case c1_28 => exact Hrg.o); (case u1_28 => exact Tryz.underlying35); (case s1_28 => exact rfl); (case i1_28 => exact HiL.o)) | ((with_reducible refine wpList_store_mid ?g1_29 35 ?x1_29 ?y1_29 ?o1_29 w1.heap.size 0 (lkS o.look p1 k1 p2 k2 p3 k3) ?h1_29 ?j1_29 ?t1_29 ?i1_29 ?s1_29 ?r1_29); (case g1_29 => exact rfl); (case o1_29 => exact rfl); (case h1_29 => exact rfl); (case j1_29 => exact rfl); (case t1_29 => exact Hth.o); (case i1_29 => exact HiL2.o); (case s1_29 => exact uka _ _ _ _ _ _ _ _ _ _)) | ((with_reducible refine wpList_load_mid ?g1_27 30 ?x1_27 ?o1_27 w1.heap.size 9 ?h1_27 (uak o.look.content (.slice p1 o.look.content.pix.length k1)).toList ?d1_27 ?c1_27 ?u1_27 ?s1_27 ?i1_27 ?r1_27); (case g1_27 => exact rfl); (case o1_27 => exact rfl); (case h1_27 => exact rfl); (case c1_27 => exact Hrc.o); (case u1_27 => exact Tryz.underlying30); (case s1_27 => exact rfl); (case i1_27 => exact HiC.o)) | fail)
 generalize hW2 : ((w1.alloc (.cells lz28 35)).setCells w1.heap.size 0 (lkS o.look p1 k1 p2 k2 p3 k3).toList) = wq at *
 clear hW2 kd
 refine (usb _ W _ v1 p1 k1 o.look.content HW2.o HR2.o.pix (by (try simp only [List.length_append, List.length_cons, List.length_nil] at *); omega)).mono ?_
 rintro e w2 ⟨v2, t2, h2⟩
 have T2 := hd' (T2a.o.trans t2)
 rcases hr2 : uk1 o.look.content with _ | es2
 ·rw [hr2] at h2
  subst h2
  exact ⟨rfl, v2, T2.o, by have g1 := Hr1.o; simp [ukb, HK.o, g1, hr2]⟩
 rw [hr2] at h2
 obtain ⟨rfl, hw2⟩ := h2
 have Hr2 := hd' hr2
 have Hw2 := hd' hw2
 have Tk2 := hd' t2
 clear hr2 hw2 t2
 go_wp2_with fail
 go_end0
 exact ⟨v2, T2.o, by
  have g1 := Hr1.o
  have g2 := Hr2.o
  simp [ukb, HK.o, g1, g2]
  simpa using Hw2.o⟩
theorem utv (w : World) (W : Nat) (bs : List Nat) (vs : Value) (p1 : Option Addr) (k1 : Nat) (p2 : Option Addr) (k2 : Nat) (p3 : Option Addr) (k3 : Nat) (o : Opr) (h : Wr w W bs vs) (hx : LookR (fun b => b < W) w o.look (.slice p1 o.look.content.pix.length k1) (.slice p2 o.look.filt.nodes.length k2) (.slice p3 o.look.back.nodes.length k3)) (hl : bs.length ≤ 700000000) :
  Calls Tryz.prog 55 #[.pointer (some ⟨W, 0, none⟩), .agg (opS o p1 k1 p2 k2 p3 k3)] w (WrP w W bs vs (ukb o)) := by
 by_cases h1 : o.kind = 1
 ·exact wop_1 w W bs vs p1 k1 p2 k2 p3 k3 o h1 h hx hl
 by_cases h3 : o.kind = 3
 ·exact wop_3 w W bs vs p1 k1 p2 k2 p3 k3 o h3 h hx hl
 by_cases h4 : o.kind = 4
 ·exact wop_4 w W bs vs p1 k1 p2 k2 p3 k3 o h4 h hx hl
 by_cases h5 : o.kind = 5
 ·exact wop_5 w W bs vs p1 k1 p2 k2 p3 k3 o h5 h hx hl
 by_cases h6 : o.kind = 6
 ·rcases hf : o.look.hasClip with _ | _
  ·exact wop_6f w W bs vs p1 k1 p2 k2 p3 k3 o h6 hf h hx hl
  ·exact wop_6t w W bs vs p1 k1 p2 k2 p3 k3 o h6 hf h hx hl
 by_cases h7 : o.kind = 7
 ·exact wop_7 w W bs vs p1 k1 p2 k2 p3 k3 o h7 h hx hl
 by_cases h8 : o.kind = 8
 ·exact wop_8 w W bs vs p1 k1 p2 k2 p3 k3 o h8 h hx hl
 by_cases h9 : o.kind = 9
 ·exact wop_9 w W bs vs p1 k1 p2 k2 p3 k3 o h9 h hx hl
 by_cases h10 : o.kind = 10
 ·rcases hf : o.look.hasFilt with _ | _
  ·exact wop_10f w W bs vs p1 k1 p2 k2 p3 k3 o h10 hf h hx hl
  ·exact wop_10t w W bs vs p1 k1 p2 k2 p3 k3 o h10 hf h hx hl
 by_cases h11 : o.kind = 11
 ·rcases hf : o.look.hasBack with _ | _
  ·exact wop_11f w W bs vs p1 k1 p2 k2 p3 k3 o h11 hf h hx hl
  ·exact wop_11t w W bs vs p1 k1 p2 k2 p3 k3 o h11 hf h hx hl
 exact wop_0 w W bs vs p1 k1 p2 k2 p3 k3 o h1 h3 h4 h5 h6 h7 h8 h9 h10 h11 h hx hl
end Go.Proofs.YtgolafbneiffpaaGreatDoor
