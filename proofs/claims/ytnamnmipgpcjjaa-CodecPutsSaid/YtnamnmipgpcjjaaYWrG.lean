/- Texts of the codec's proofs, laid together: WrG. -/
import Derived.Test.YtnamnmipgpcjjaaZe
set_option linter.unusedSimpArgs false
set_option linter.unusedVariables false
set_option linter.unusedSectionVars false
set_option linter.constructorNameAsVariable false

/- Acts as bytes: an operation is written. -/
namespace Go.Gou
open Go.RowKit

def encOpr (o : Opr) : Option (List Nat) := (if o.kind = 1 then some [] else encNums [o.id.1, o.id.2]).bind fun a =>
  if o.kind = 1 ∨ o.kind = 3 then (encNums [o.to.1, o.to.2]).bind fun b => (encNums [o.at_]).bind fun c => some (a ++ (b ++ c))
  else if o.kind = 4 then (encNums [o.at_]).bind fun b => some (a ++ b)
  else if o.kind = 5 then (encNums [o.look.dx, o.look.dy]).bind fun b => some (a ++ b)
  else if o.kind = 6 then (encNums [if o.look.hasClip then 1 else 0]).bind fun b => if o.look.hasClip then (encNums [o.look.clip.x0, o.look.clip.y0, o.look.clip.x1, o.look.clip.y1]).bind fun c => some (a ++ (b ++ c)) else some (a ++ b)
  else if o.kind = 7 then (encNums [o.look.opacity]).bind fun b => some (a ++ b)
  else if o.kind = 8 then (encNums [o.look.mode]).bind fun b => some (a ++ b)
  else if o.kind = 9 then (encContent o.look.content).bind fun b => some (a ++ b)
  else if o.kind = 10 then (encNums [if o.look.hasFilt then 1 else 0]).bind fun b => if o.look.hasFilt then (encGraph o.look.filt).bind fun c => some (a ++ (b ++ c)) else some (a ++ b)
  else if o.kind = 11 then (encNums [if o.look.hasBack then 1 else 0]).bind fun b => if o.look.hasBack then (encGraph o.look.back).bind fun c => some (a ++ (b ++ c)) else some (a ++ b)
  else some a

theorem opr_look (o : Opr) (vp vf vb : Value) : (oprC o vp vf vb).toList = [.int .i64 o.kind, .int .i64 o.id.1, .int .i64 o.id.2, .int .i64 o.to.1, .int .i64 o.to.2, .int .i64 o.at_] ++ (lookC o.look vp vf vb).toList := rfl
theorem look_cont (l : Lk) (vp vf vb : Value) : (lookC l vp vf vb).toList = [.int .i64 l.dx, .int .i64 l.dy, .bool l.hasClip, .int .i64 l.clip.x0, .int .i64 l.clip.y0, .int .i64 l.clip.x1, .int .i64 l.clip.y1, .int .i64 l.opacity, .int .i64 l.mode] ++ ((contC l.content vp).toList ++ [.bool l.hasFilt, vf, .int .i64 l.filt.out, .bool l.hasBack, vb, .int .i64 l.back.out]) := rfl

theorem Blk.range {w : World} {b : Nat} {T : TypeId} {cs : Array Value} (h : Blk w b T cs) {pre mid post : List Value} (hc : cs.toList = pre ++ (mid ++ post)) {k : Nat} (hk : k = pre.length) : w.rangeAt b k mid := fun j v hv => by
  subst hk
  refine h.cell _ ?_
  have hj : j < mid.length := (List.getElem?_eq_some_iff.1 hv).1
  rw [← Array.getElem?_toList, hc, List.getElem?_append_right (by omega), Nat.add_sub_cancel_left, List.getElem?_append_left hj]
  exact hv

theorem lookC_size (l : Lk) (vp vf vb : Value) : (lookC l vp vf vb).size = 28 := by simp [lookC]

end Go.Gou
namespace Go.Proofs.Ytnamnmipgpcjjaa
open Go.RowKit Go.Gou

set_option linter.constructorNameAsVariable false
/-- What stands often. -/
def LkO (o : Opr) (p1 p2 p3 : Option Addr) (k1 k2 k3 : Nat) : Array Value := lookC o.look (.slice p1 o.look.content.pix.length k1) (.slice p2 o.look.filt.nodes.length k2) (.slice p3 o.look.back.nodes.length k3)
def OpO (o : Opr) (p1 p2 p3 : Option Addr) (k1 k2 k3 : Nat) : Array Value := oprC o (.slice p1 o.look.content.pix.length k1) (.slice p2 o.look.filt.nodes.length k2) (.slice p3 o.look.back.nodes.length k3)
theorem LkO_size (o : Opr) (p1 p2 p3 : Option Addr) (k1 k2 k3 : Nat) : (LkO o p1 p2 p3 k1 k2 k3).size = 28 := lookC_size _ _ _ _
theorem LkO_one (o : Opr) (p1 p2 p3 : Option Addr) (k1 k2 k3 : Nat) : (LkO o p1 p2 p3 k1 k2 k3).all (·.oneCell') = true := lookC_one _ _ _ _ _ _ _ _ _ _

set_option maxRecDepth 100000

set_option maxHeartbeats 2000000 in
theorem wop_5 (w : World) (W : Nat) (bs : List Nat) (vs : Value) (p1 : Option Addr) (k1 : Nat) (p2 : Option Addr) (k2 : Nat) (p3 : Option Addr) (k3 : Nat) (o : Opr) (hk : o.kind = 5) (h : Wr w W bs vs) (hx : LookR (fun b => b < W) w o.look (.slice p1 o.look.content.pix.length k1) (.slice p2 o.look.filt.nodes.length k2) (.slice p3 o.look.back.nodes.length k3)) (hl : bs.length ≤ 700000000) :
    Calls Try.prog 32 #[.pointer (some ⟨W, 0, none⟩), .agg (OpO o p1 p2 p3 k1 k2 k3)] w (WrP w W bs vs (encOpr o)) := by
  have H := Lib.hid h
  have HB0 : Hid (Blk (w.alloc (.cells (OpO o p1 p2 p3 k1 k2 k3) 37)) w.heap.size 37 (OpO o p1 p2 p3 k1 k2 k3)) := Lib.hid (heap_alloc_new w _)
  have HW0 : Hid (Wr (w.alloc (.cells (OpO o p1 p2 p3 k1 k2 k3) 37)) W bs vs) := Lib.hid (h.alloc _)
  have HT0 : Hid (WTo W w vs (w.alloc (.cells (OpO o p1 p2 p3 k1 k2 k3) 37)) vs) := Lib.hid (WTo.other (Gou.Mod.alloc _ _ _) vs)
  have HR0 : Hid (LookR (fun b => b < W) (w.alloc (.cells (OpO o p1 p2 p3 k1 k2 k3) 37)) o.look (.slice p1 o.look.content.pix.length k1) (.slice p2 o.look.filt.nodes.length k2) (.slice p3 o.look.back.nodes.length k3)) := Lib.hid (hx.mod (Gou.Mod.alloc (fun _ => False) _ _) (fun _ _ _ h => h))
  have HS0 : Hid (((w.alloc (.cells (OpO o p1 p2 p3 k1 k2 k3) 37))).heap.size = w.heap.size + 1) := Lib.hid (by simp)
  have hWlt := Blk.lt h.box
  have HiL : Hid ((Try.prog.info? 35).map (·.size) = some (LkO o p1 p2 p3 k1 k2 k3).toList.length) := Lib.hid (size_look.trans (by simp [LkO, lookC]))
  have hvs := fun k hk => (H.out.own.lt k hk).2
  have Hvs := Lib.hid hvs
  clear h hx hvs
  have HK := Lib.hid hk
  clear hk
  go_enter Try.func32, Try.ntmps32
  have ka : ((w.alloc (.cells (OpO o p1 p2 p3 k1 k2 k3) 37))).cell? ⟨w.heap.size, 1, none⟩ = some (.int .i64 o.id.1) := HB0.out.cell 1 rfl
  have kb : ((w.alloc (.cells (OpO o p1 p2 p3 k1 k2 k3) 37))).cell? ⟨w.heap.size, 2, none⟩ = some (.int .i64 o.id.2) := HB0.out.cell 2 rfl
  have kc : ((w.alloc (.cells (OpO o p1 p2 p3 k1 k2 k3) 37))).cell? ⟨w.heap.size, 0, none⟩ = some (.int .i64 5) := (by rw [← HK.out]; exact HB0.out.cell 0 rfl)
  go_wp2_with fail
  generalize hW0 : (w.alloc (.cells (OpO o p1 p2 p3 k1 k2 k3) 37)) = w0 at *
  clear hW0
  refine (wid_any _ W bs vs o.id.1 o.id.2 HW0.out (by omega)).mono ?_
  rintro e w1 ⟨v1, t1, h1⟩
  have T1 := Lib.hid (HT0.out.trans t1)
  rcases hr1 : encNums [o.id.1, o.id.2] with _ | es1
  · rw [hr1] at h1
    subst h1
    exact ⟨rfl, v1, T1.out, by have hk := HK.out; simp [encOpr, hk, hr1]⟩
  rw [hr1] at h1
  obtain ⟨rfl, hw1⟩ := h1
  have Hr1 := Lib.hid hr1
  have Hw1 := Lib.hid hw1
  have Tk1 := Lib.hid t1
  clear hr1 hw1 t1
  have hE1 := encNums_len Hr1.out
  have HB1 : Hid (Blk w1 w.heap.size 37 (OpO o p1 p2 p3 k1 k2 k3)) := Lib.hid (HB0.out.mod Tk1.out.mod (fun e => by
    rcases e with e | e
    · omega
    · have := Hvs.out _ e; omega))
  have HR1 : Hid (LookR (fun b => b < W) w1 o.look (.slice p1 o.look.content.pix.length k1) (.slice p2 o.look.filt.nodes.length k2) (.slice p3 o.look.back.nodes.length k3)) := Lib.hid (HR0.out.mod (WTo.far Tk1.out HW0.out) (fun k _ hG hk => by omega))
  have Hv1 : Hid (∀ k, v1.ownBlock = some k → k ≠ w.heap.size ∧ k < w1.heap.size) := Lib.hid (fun k hk => ⟨fun e => by
    rcases Tk1.out.fresh _ hk with e2 | e2
    · have := Hvs.out _ e2; omega
    · have := HS0.out; omega, (Hw1.out.own.lt _ hk).2⟩)
  have hB1 := Blk.lt HB1.out
  clear ka kb kc
  have Hrg : Hid (w1.rangeAt w.heap.size 6 (LkO o p1 p2 p3 k1 k2 k3).toList) := Lib.hid (Blk.range (post := []) HB1.out (by rw [List.append_nil]; exact opr_look o _ _ _) rfl)
  have hA : Blk (w1.alloc (.cells LkZ 35)) w1.heap.size 35 LkZ := heap_alloc_new w1 _
  have Hth : Hid ((w1.alloc (.cells LkZ 35)).there w1.heap.size 0 (LkO o p1 p2 p3 k1 k2 k3).size) := Lib.hid (hA.there 0 _ (by rw [LkO_size]; simp))
  have HiL2 : Hid ((Try.prog.info? 35).map (·.size) = some (LkO o p1 p2 p3 k1 k2 k3).size) := Lib.hid (size_look.trans (by rw [LkO_size]))
  have hA2 := hA.sets 0 (LkO o p1 p2 p3 k1 k2 k3).toList
  rw [setMany_all _ _ (by simp [LkO, lookC])] at hA2
  have hM2 : Gou.Mod (fun k => k = w1.heap.size) w1 ((w1.alloc (.cells LkZ 35)).setCells w1.heap.size 0 (LkO o p1 p2 p3 k1 k2 k3).toList) := (Gou.Mod.alloc _ _ _).trans' (Blk.setMod _ _ _ _)
  have HW2 : Hid (Wr ((w1.alloc (.cells LkZ 35)).setCells w1.heap.size 0 (LkO o p1 p2 p3 k1 k2 k3).toList) W _ v1) := Lib.hid (Hw1.out.other hM2 (by have := Blk.lt Hw1.out.box; omega) (fun k hk e => by have := (Hv1.out k hk).2; omega))
  have HL2 : Hid (Blk ((w1.alloc (.cells LkZ 35)).setCells w1.heap.size 0 (LkO o p1 p2 p3 k1 k2 k3).toList) w1.heap.size 35 (LkO o p1 p2 p3 k1 k2 k3)) := Lib.hid hA2
  have HB2 : Hid (Blk ((w1.alloc (.cells LkZ 35)).setCells w1.heap.size 0 (LkO o p1 p2 p3 k1 k2 k3).toList) w.heap.size 37 (OpO o p1 p2 p3 k1 k2 k3)) := Lib.hid (HB1.out.mod hM2 (by omega))
  have HR2 : Hid (LookR (fun b => b < W) ((w1.alloc (.cells LkZ 35)).setCells w1.heap.size 0 (LkO o p1 p2 p3 k1 k2 k3).toList) o.look (.slice p1 o.look.content.pix.length k1) (.slice p2 o.look.filt.nodes.length k2) (.slice p3 o.look.back.nodes.length k3)) := Lib.hid (HR1.out.mod hM2 (fun k _ hG e => by have := Blk.lt Hw1.out.box; omega))
  have T2a : Hid (WTo W w vs ((w1.alloc (.cells LkZ 35)).setCells w1.heap.size 0 (LkO o p1 p2 p3 k1 k2 k3).toList) v1) := Lib.hid (T1.out.trans ⟨((Gou.Mod.alloc (fun _ => False) w1 _).trans (Blk.setMod _ w1.heap.size 0 _) (fun i hi e => by omega)).imp (fun _ _ h => h.elim), fun g hg => .inl hg⟩)
  have HS2 : Hid ((((w1.alloc (.cells LkZ 35)).setCells w1.heap.size 0 (LkO o p1 p2 p3 k1 k2 k3).toList)).heap.size = w1.heap.size + 1) := Lib.hid (by rw [size_setCells]; simp)
  have kd : (((w1.alloc (.cells LkZ 35)).setCells w1.heap.size 0 (LkO o p1 p2 p3 k1 k2 k3).toList)).cell? ⟨w.heap.size, 0, none⟩ = some (.int .i64 5) := (by rw [← HK.out]; exact HB2.out.cell 0 rfl)
  clear hA hA2 hM2
  have c0 : (((w1.alloc (.cells LkZ 35)).setCells w1.heap.size 0 (LkO o p1 p2 p3 k1 k2 k3).toList)).cell? ⟨w1.heap.size, 0, none⟩ = some (.int .i64 o.look.dx) := HL2.out.cell 0 rfl
  have c1 : (((w1.alloc (.cells LkZ 35)).setCells w1.heap.size 0 (LkO o p1 p2 p3 k1 k2 k3).toList)).cell? ⟨w1.heap.size, 1, none⟩ = some (.int .i64 o.look.dy) := HL2.out.cell 1 rfl
  go_wp2_with (first | ((with_reducible refine wpList_load_mid ?g_1 35 ?x_1 ?o_1 w.heap.size 6 ?h_1 (LkO o p1 p2 p3 k1 k2 k3).toList ?d_1 ?c_1 ?u_1 ?s_1 ?i_1 ?r_1); (case g_1 | o_1 | h_1 => exact rfl); (case c_1 => exact Hrg.out); (case u_1 => exact Try.underlying35); (case s_1 => exact rfl); (case i_1 => exact HiL.out)) | ((with_reducible refine wpList_store_mid ?g_2 35 ?x_2 ?y_2 ?o_2 w1.heap.size 0 (LkO o p1 p2 p3 k1 k2 k3) ?h_2 ?j_2 ?t_2 ?i_2 ?s_2 ?r_2); (case g_2 | o_2 | h_2 | j_2 => exact rfl); (case t_2 => exact Hth.out); (case i_2 => exact HiL2.out); (case s_2 => exact LkO_one _ _ _ _ _ _ _)) | fail)
  generalize hW2 : ((w1.alloc (.cells LkZ 35)).setCells w1.heap.size 0 (LkO o p1 p2 p3 k1 k2 k3).toList) = wq at *
  clear hW2 kd
  refine (numbers_any _ W _ v1 _ [o.look.dx, o.look.dy] (HW2.out.alloc _) (HW2.out.lit [o.look.dx, o.look.dy] _ rfl 2 rfl _ (by first | rfl | exact HS2.out.symm)) (by (try simp only [List.length_append, List.length_cons, List.length_nil] at *); omega)).mono ?_
  rintro e w2 ⟨v2, t2, h2⟩
  have T2 := Lib.hid ((T2a.out.trans (WTo.other (Gou.Mod.alloc _ _ _) v1)).trans t2)
  rcases hr2 : encNums [o.look.dx, o.look.dy] with _ | es2
  · rw [hr2] at h2
    subst h2
    exact ⟨rfl, v2, T2.out, by have g1 := Hr1.out; simp [encOpr, HK.out, g1, hr2]⟩
  rw [hr2] at h2
  obtain ⟨rfl, hw2⟩ := h2
  have Hr2 := Lib.hid hr2
  have Hw2 := Lib.hid hw2
  have Tk2 := Lib.hid t2
  clear hr2 hw2 t2
  go_wp2_with fail
  go_end0
  exact ⟨v2, T2.out, by
    have g1 := Hr1.out
    have g2 := Hr2.out
    simp [encOpr, HK.out, g1, g2]
    simpa using Hw2.out⟩

set_option maxHeartbeats 2000000 in
theorem wop_7 (w : World) (W : Nat) (bs : List Nat) (vs : Value) (p1 : Option Addr) (k1 : Nat) (p2 : Option Addr) (k2 : Nat) (p3 : Option Addr) (k3 : Nat) (o : Opr) (hk : o.kind = 7) (h : Wr w W bs vs) (hx : LookR (fun b => b < W) w o.look (.slice p1 o.look.content.pix.length k1) (.slice p2 o.look.filt.nodes.length k2) (.slice p3 o.look.back.nodes.length k3)) (hl : bs.length ≤ 700000000) :
    Calls Try.prog 32 #[.pointer (some ⟨W, 0, none⟩), .agg (OpO o p1 p2 p3 k1 k2 k3)] w (WrP w W bs vs (encOpr o)) := by
  have H := Lib.hid h
  have HB0 : Hid (Blk (w.alloc (.cells (OpO o p1 p2 p3 k1 k2 k3) 37)) w.heap.size 37 (OpO o p1 p2 p3 k1 k2 k3)) := Lib.hid (heap_alloc_new w _)
  have HW0 : Hid (Wr (w.alloc (.cells (OpO o p1 p2 p3 k1 k2 k3) 37)) W bs vs) := Lib.hid (h.alloc _)
  have HT0 : Hid (WTo W w vs (w.alloc (.cells (OpO o p1 p2 p3 k1 k2 k3) 37)) vs) := Lib.hid (WTo.other (Gou.Mod.alloc _ _ _) vs)
  have HR0 : Hid (LookR (fun b => b < W) (w.alloc (.cells (OpO o p1 p2 p3 k1 k2 k3) 37)) o.look (.slice p1 o.look.content.pix.length k1) (.slice p2 o.look.filt.nodes.length k2) (.slice p3 o.look.back.nodes.length k3)) := Lib.hid (hx.mod (Gou.Mod.alloc (fun _ => False) _ _) (fun _ _ _ h => h))
  have HS0 : Hid (((w.alloc (.cells (OpO o p1 p2 p3 k1 k2 k3) 37))).heap.size = w.heap.size + 1) := Lib.hid (by simp)
  have hWlt := Blk.lt h.box
  have HiL : Hid ((Try.prog.info? 35).map (·.size) = some (LkO o p1 p2 p3 k1 k2 k3).toList.length) := Lib.hid (size_look.trans (by simp [LkO, lookC]))
  have hvs := fun k hk => (H.out.own.lt k hk).2
  have Hvs := Lib.hid hvs
  clear h hx hvs
  have HK := Lib.hid hk
  clear hk
  go_enter Try.func32, Try.ntmps32
  have ka : ((w.alloc (.cells (OpO o p1 p2 p3 k1 k2 k3) 37))).cell? ⟨w.heap.size, 1, none⟩ = some (.int .i64 o.id.1) := HB0.out.cell 1 rfl
  have kb : ((w.alloc (.cells (OpO o p1 p2 p3 k1 k2 k3) 37))).cell? ⟨w.heap.size, 2, none⟩ = some (.int .i64 o.id.2) := HB0.out.cell 2 rfl
  have kc : ((w.alloc (.cells (OpO o p1 p2 p3 k1 k2 k3) 37))).cell? ⟨w.heap.size, 0, none⟩ = some (.int .i64 7) := (by rw [← HK.out]; exact HB0.out.cell 0 rfl)
  go_wp2_with fail
  generalize hW0 : (w.alloc (.cells (OpO o p1 p2 p3 k1 k2 k3) 37)) = w0 at *
  clear hW0
  refine (wid_any _ W bs vs o.id.1 o.id.2 HW0.out (by omega)).mono ?_
  rintro e w1 ⟨v1, t1, h1⟩
  have T1 := Lib.hid (HT0.out.trans t1)
  rcases hr1 : encNums [o.id.1, o.id.2] with _ | es1
  · rw [hr1] at h1
    subst h1
    exact ⟨rfl, v1, T1.out, by have hk := HK.out; simp [encOpr, hk, hr1]⟩
  rw [hr1] at h1
  obtain ⟨rfl, hw1⟩ := h1
  have Hr1 := Lib.hid hr1
  have Hw1 := Lib.hid hw1
  have Tk1 := Lib.hid t1
  clear hr1 hw1 t1
  have hE1 := encNums_len Hr1.out
  have HB1 : Hid (Blk w1 w.heap.size 37 (OpO o p1 p2 p3 k1 k2 k3)) := Lib.hid (HB0.out.mod Tk1.out.mod (fun e => by
    rcases e with e | e
    · omega
    · have := Hvs.out _ e; omega))
  have HR1 : Hid (LookR (fun b => b < W) w1 o.look (.slice p1 o.look.content.pix.length k1) (.slice p2 o.look.filt.nodes.length k2) (.slice p3 o.look.back.nodes.length k3)) := Lib.hid (HR0.out.mod (WTo.far Tk1.out HW0.out) (fun k _ hG hk => by omega))
  have Hv1 : Hid (∀ k, v1.ownBlock = some k → k ≠ w.heap.size ∧ k < w1.heap.size) := Lib.hid (fun k hk => ⟨fun e => by
    rcases Tk1.out.fresh _ hk with e2 | e2
    · have := Hvs.out _ e2; omega
    · have := HS0.out; omega, (Hw1.out.own.lt _ hk).2⟩)
  have hB1 := Blk.lt HB1.out
  clear ka kb kc
  have Hrg : Hid (w1.rangeAt w.heap.size 6 (LkO o p1 p2 p3 k1 k2 k3).toList) := Lib.hid (Blk.range (post := []) HB1.out (by rw [List.append_nil]; exact opr_look o _ _ _) rfl)
  have hA : Blk (w1.alloc (.cells LkZ 35)) w1.heap.size 35 LkZ := heap_alloc_new w1 _
  have Hth : Hid ((w1.alloc (.cells LkZ 35)).there w1.heap.size 0 (LkO o p1 p2 p3 k1 k2 k3).size) := Lib.hid (hA.there 0 _ (by rw [LkO_size]; simp))
  have HiL2 : Hid ((Try.prog.info? 35).map (·.size) = some (LkO o p1 p2 p3 k1 k2 k3).size) := Lib.hid (size_look.trans (by rw [LkO_size]))
  have hA2 := hA.sets 0 (LkO o p1 p2 p3 k1 k2 k3).toList
  rw [setMany_all _ _ (by simp [LkO, lookC])] at hA2
  have hM2 : Gou.Mod (fun k => k = w1.heap.size) w1 ((w1.alloc (.cells LkZ 35)).setCells w1.heap.size 0 (LkO o p1 p2 p3 k1 k2 k3).toList) := (Gou.Mod.alloc _ _ _).trans' (Blk.setMod _ _ _ _)
  have HW2 : Hid (Wr ((w1.alloc (.cells LkZ 35)).setCells w1.heap.size 0 (LkO o p1 p2 p3 k1 k2 k3).toList) W _ v1) := Lib.hid (Hw1.out.other hM2 (by have := Blk.lt Hw1.out.box; omega) (fun k hk e => by have := (Hv1.out k hk).2; omega))
  have HL2 : Hid (Blk ((w1.alloc (.cells LkZ 35)).setCells w1.heap.size 0 (LkO o p1 p2 p3 k1 k2 k3).toList) w1.heap.size 35 (LkO o p1 p2 p3 k1 k2 k3)) := Lib.hid hA2
  have HB2 : Hid (Blk ((w1.alloc (.cells LkZ 35)).setCells w1.heap.size 0 (LkO o p1 p2 p3 k1 k2 k3).toList) w.heap.size 37 (OpO o p1 p2 p3 k1 k2 k3)) := Lib.hid (HB1.out.mod hM2 (by omega))
  have HR2 : Hid (LookR (fun b => b < W) ((w1.alloc (.cells LkZ 35)).setCells w1.heap.size 0 (LkO o p1 p2 p3 k1 k2 k3).toList) o.look (.slice p1 o.look.content.pix.length k1) (.slice p2 o.look.filt.nodes.length k2) (.slice p3 o.look.back.nodes.length k3)) := Lib.hid (HR1.out.mod hM2 (fun k _ hG e => by have := Blk.lt Hw1.out.box; omega))
  have T2a : Hid (WTo W w vs ((w1.alloc (.cells LkZ 35)).setCells w1.heap.size 0 (LkO o p1 p2 p3 k1 k2 k3).toList) v1) := Lib.hid (T1.out.trans ⟨((Gou.Mod.alloc (fun _ => False) w1 _).trans (Blk.setMod _ w1.heap.size 0 _) (fun i hi e => by omega)).imp (fun _ _ h => h.elim), fun g hg => .inl hg⟩)
  have HS2 : Hid ((((w1.alloc (.cells LkZ 35)).setCells w1.heap.size 0 (LkO o p1 p2 p3 k1 k2 k3).toList)).heap.size = w1.heap.size + 1) := Lib.hid (by rw [size_setCells]; simp)
  have kd : (((w1.alloc (.cells LkZ 35)).setCells w1.heap.size 0 (LkO o p1 p2 p3 k1 k2 k3).toList)).cell? ⟨w.heap.size, 0, none⟩ = some (.int .i64 7) := (by rw [← HK.out]; exact HB2.out.cell 0 rfl)
  clear hA hA2 hM2
  have c7 : (((w1.alloc (.cells LkZ 35)).setCells w1.heap.size 0 (LkO o p1 p2 p3 k1 k2 k3).toList)).cell? ⟨w1.heap.size, 7, none⟩ = some (.int .i64 o.look.opacity) := HL2.out.cell 7 rfl
  go_wp2_with (first | ((with_reducible refine wpList_load_mid ?g_3 35 ?x_3 ?o_3 w.heap.size 6 ?h_3 (LkO o p1 p2 p3 k1 k2 k3).toList ?d_3 ?c_3 ?u_3 ?s_3 ?i_3 ?r_3); (case g_3 | o_3 | h_3 => exact rfl); (case c_3 => exact Hrg.out); (case u_3 => exact Try.underlying35); (case s_3 => exact rfl); (case i_3 => exact HiL.out)) | ((with_reducible refine wpList_store_mid ?g_4 35 ?x_4 ?y_4 ?o_4 w1.heap.size 0 (LkO o p1 p2 p3 k1 k2 k3) ?h_4 ?j_4 ?t_4 ?i_4 ?s_4 ?r_4); (case g_4 | o_4 | h_4 | j_4 => exact rfl); (case t_4 => exact Hth.out); (case i_4 => exact HiL2.out); (case s_4 => exact LkO_one _ _ _ _ _ _ _)) | fail)
  generalize hW2 : ((w1.alloc (.cells LkZ 35)).setCells w1.heap.size 0 (LkO o p1 p2 p3 k1 k2 k3).toList) = wq at *
  clear hW2 kd
  refine (numbers_any _ W _ v1 _ [o.look.opacity] (HW2.out.alloc _) (HW2.out.lit [o.look.opacity] _ rfl 1 rfl _ (by first | rfl | exact HS2.out.symm)) (by (try simp only [List.length_append, List.length_cons, List.length_nil] at *); omega)).mono ?_
  rintro e w2 ⟨v2, t2, h2⟩
  have T2 := Lib.hid ((T2a.out.trans (WTo.other (Gou.Mod.alloc _ _ _) v1)).trans t2)
  rcases hr2 : encNums [o.look.opacity] with _ | es2
  · rw [hr2] at h2
    subst h2
    exact ⟨rfl, v2, T2.out, by have g1 := Hr1.out; simp [encOpr, HK.out, g1, hr2]⟩
  rw [hr2] at h2
  obtain ⟨rfl, hw2⟩ := h2
  have Hr2 := Lib.hid hr2
  have Hw2 := Lib.hid hw2
  have Tk2 := Lib.hid t2
  clear hr2 hw2 t2
  go_wp2_with fail
  go_end0
  exact ⟨v2, T2.out, by
    have g1 := Hr1.out
    have g2 := Hr2.out
    simp [encOpr, HK.out, g1, g2]
    simpa using Hw2.out⟩

set_option maxHeartbeats 2000000 in
theorem wop_8 (w : World) (W : Nat) (bs : List Nat) (vs : Value) (p1 : Option Addr) (k1 : Nat) (p2 : Option Addr) (k2 : Nat) (p3 : Option Addr) (k3 : Nat) (o : Opr) (hk : o.kind = 8) (h : Wr w W bs vs) (hx : LookR (fun b => b < W) w o.look (.slice p1 o.look.content.pix.length k1) (.slice p2 o.look.filt.nodes.length k2) (.slice p3 o.look.back.nodes.length k3)) (hl : bs.length ≤ 700000000) :
    Calls Try.prog 32 #[.pointer (some ⟨W, 0, none⟩), .agg (OpO o p1 p2 p3 k1 k2 k3)] w (WrP w W bs vs (encOpr o)) := by
  have H := Lib.hid h
  have HB0 : Hid (Blk (w.alloc (.cells (OpO o p1 p2 p3 k1 k2 k3) 37)) w.heap.size 37 (OpO o p1 p2 p3 k1 k2 k3)) := Lib.hid (heap_alloc_new w _)
  have HW0 : Hid (Wr (w.alloc (.cells (OpO o p1 p2 p3 k1 k2 k3) 37)) W bs vs) := Lib.hid (h.alloc _)
  have HT0 : Hid (WTo W w vs (w.alloc (.cells (OpO o p1 p2 p3 k1 k2 k3) 37)) vs) := Lib.hid (WTo.other (Gou.Mod.alloc _ _ _) vs)
  have HR0 : Hid (LookR (fun b => b < W) (w.alloc (.cells (OpO o p1 p2 p3 k1 k2 k3) 37)) o.look (.slice p1 o.look.content.pix.length k1) (.slice p2 o.look.filt.nodes.length k2) (.slice p3 o.look.back.nodes.length k3)) := Lib.hid (hx.mod (Gou.Mod.alloc (fun _ => False) _ _) (fun _ _ _ h => h))
  have HS0 : Hid (((w.alloc (.cells (OpO o p1 p2 p3 k1 k2 k3) 37))).heap.size = w.heap.size + 1) := Lib.hid (by simp)
  have hWlt := Blk.lt h.box
  have HiL : Hid ((Try.prog.info? 35).map (·.size) = some (LkO o p1 p2 p3 k1 k2 k3).toList.length) := Lib.hid (size_look.trans (by simp [LkO, lookC]))
  have hvs := fun k hk => (H.out.own.lt k hk).2
  have Hvs := Lib.hid hvs
  clear h hx hvs
  have HK := Lib.hid hk
  clear hk
  go_enter Try.func32, Try.ntmps32
  have ka : ((w.alloc (.cells (OpO o p1 p2 p3 k1 k2 k3) 37))).cell? ⟨w.heap.size, 1, none⟩ = some (.int .i64 o.id.1) := HB0.out.cell 1 rfl
  have kb : ((w.alloc (.cells (OpO o p1 p2 p3 k1 k2 k3) 37))).cell? ⟨w.heap.size, 2, none⟩ = some (.int .i64 o.id.2) := HB0.out.cell 2 rfl
  have kc : ((w.alloc (.cells (OpO o p1 p2 p3 k1 k2 k3) 37))).cell? ⟨w.heap.size, 0, none⟩ = some (.int .i64 8) := (by rw [← HK.out]; exact HB0.out.cell 0 rfl)
  go_wp2_with fail
  generalize hW0 : (w.alloc (.cells (OpO o p1 p2 p3 k1 k2 k3) 37)) = w0 at *
  clear hW0
  refine (wid_any _ W bs vs o.id.1 o.id.2 HW0.out (by omega)).mono ?_
  rintro e w1 ⟨v1, t1, h1⟩
  have T1 := Lib.hid (HT0.out.trans t1)
  rcases hr1 : encNums [o.id.1, o.id.2] with _ | es1
  · rw [hr1] at h1
    subst h1
    exact ⟨rfl, v1, T1.out, by have hk := HK.out; simp [encOpr, hk, hr1]⟩
  rw [hr1] at h1
  obtain ⟨rfl, hw1⟩ := h1
  have Hr1 := Lib.hid hr1
  have Hw1 := Lib.hid hw1
  have Tk1 := Lib.hid t1
  clear hr1 hw1 t1
  have hE1 := encNums_len Hr1.out
  have HB1 : Hid (Blk w1 w.heap.size 37 (OpO o p1 p2 p3 k1 k2 k3)) := Lib.hid (HB0.out.mod Tk1.out.mod (fun e => by
    rcases e with e | e
    · omega
    · have := Hvs.out _ e; omega))
  have HR1 : Hid (LookR (fun b => b < W) w1 o.look (.slice p1 o.look.content.pix.length k1) (.slice p2 o.look.filt.nodes.length k2) (.slice p3 o.look.back.nodes.length k3)) := Lib.hid (HR0.out.mod (WTo.far Tk1.out HW0.out) (fun k _ hG hk => by omega))
  have Hv1 : Hid (∀ k, v1.ownBlock = some k → k ≠ w.heap.size ∧ k < w1.heap.size) := Lib.hid (fun k hk => ⟨fun e => by
    rcases Tk1.out.fresh _ hk with e2 | e2
    · have := Hvs.out _ e2; omega
    · have := HS0.out; omega, (Hw1.out.own.lt _ hk).2⟩)
  have hB1 := Blk.lt HB1.out
  clear ka kb kc
  have Hrg : Hid (w1.rangeAt w.heap.size 6 (LkO o p1 p2 p3 k1 k2 k3).toList) := Lib.hid (Blk.range (post := []) HB1.out (by rw [List.append_nil]; exact opr_look o _ _ _) rfl)
  have hA : Blk (w1.alloc (.cells LkZ 35)) w1.heap.size 35 LkZ := heap_alloc_new w1 _
  have Hth : Hid ((w1.alloc (.cells LkZ 35)).there w1.heap.size 0 (LkO o p1 p2 p3 k1 k2 k3).size) := Lib.hid (hA.there 0 _ (by rw [LkO_size]; simp))
  have HiL2 : Hid ((Try.prog.info? 35).map (·.size) = some (LkO o p1 p2 p3 k1 k2 k3).size) := Lib.hid (size_look.trans (by rw [LkO_size]))
  have hA2 := hA.sets 0 (LkO o p1 p2 p3 k1 k2 k3).toList
  rw [setMany_all _ _ (by simp [LkO, lookC])] at hA2
  have hM2 : Gou.Mod (fun k => k = w1.heap.size) w1 ((w1.alloc (.cells LkZ 35)).setCells w1.heap.size 0 (LkO o p1 p2 p3 k1 k2 k3).toList) := (Gou.Mod.alloc _ _ _).trans' (Blk.setMod _ _ _ _)
  have HW2 : Hid (Wr ((w1.alloc (.cells LkZ 35)).setCells w1.heap.size 0 (LkO o p1 p2 p3 k1 k2 k3).toList) W _ v1) := Lib.hid (Hw1.out.other hM2 (by have := Blk.lt Hw1.out.box; omega) (fun k hk e => by have := (Hv1.out k hk).2; omega))
  have HL2 : Hid (Blk ((w1.alloc (.cells LkZ 35)).setCells w1.heap.size 0 (LkO o p1 p2 p3 k1 k2 k3).toList) w1.heap.size 35 (LkO o p1 p2 p3 k1 k2 k3)) := Lib.hid hA2
  have HB2 : Hid (Blk ((w1.alloc (.cells LkZ 35)).setCells w1.heap.size 0 (LkO o p1 p2 p3 k1 k2 k3).toList) w.heap.size 37 (OpO o p1 p2 p3 k1 k2 k3)) := Lib.hid (HB1.out.mod hM2 (by omega))
  have HR2 : Hid (LookR (fun b => b < W) ((w1.alloc (.cells LkZ 35)).setCells w1.heap.size 0 (LkO o p1 p2 p3 k1 k2 k3).toList) o.look (.slice p1 o.look.content.pix.length k1) (.slice p2 o.look.filt.nodes.length k2) (.slice p3 o.look.back.nodes.length k3)) := Lib.hid (HR1.out.mod hM2 (fun k _ hG e => by have := Blk.lt Hw1.out.box; omega))
  have T2a : Hid (WTo W w vs ((w1.alloc (.cells LkZ 35)).setCells w1.heap.size 0 (LkO o p1 p2 p3 k1 k2 k3).toList) v1) := Lib.hid (T1.out.trans ⟨((Gou.Mod.alloc (fun _ => False) w1 _).trans (Blk.setMod _ w1.heap.size 0 _) (fun i hi e => by omega)).imp (fun _ _ h => h.elim), fun g hg => .inl hg⟩)
  have HS2 : Hid ((((w1.alloc (.cells LkZ 35)).setCells w1.heap.size 0 (LkO o p1 p2 p3 k1 k2 k3).toList)).heap.size = w1.heap.size + 1) := Lib.hid (by rw [size_setCells]; simp)
  have kd : (((w1.alloc (.cells LkZ 35)).setCells w1.heap.size 0 (LkO o p1 p2 p3 k1 k2 k3).toList)).cell? ⟨w.heap.size, 0, none⟩ = some (.int .i64 8) := (by rw [← HK.out]; exact HB2.out.cell 0 rfl)
  clear hA hA2 hM2
  have c8 : (((w1.alloc (.cells LkZ 35)).setCells w1.heap.size 0 (LkO o p1 p2 p3 k1 k2 k3).toList)).cell? ⟨w1.heap.size, 8, none⟩ = some (.int .i64 o.look.mode) := HL2.out.cell 8 rfl
  go_wp2_with (first | ((with_reducible refine wpList_load_mid ?g_5 35 ?x_5 ?o_5 w.heap.size 6 ?h_5 (LkO o p1 p2 p3 k1 k2 k3).toList ?d_5 ?c_5 ?u_5 ?s_5 ?i_5 ?r_5); (case g_5 | o_5 | h_5 => exact rfl); (case c_5 => exact Hrg.out); (case u_5 => exact Try.underlying35); (case s_5 => exact rfl); (case i_5 => exact HiL.out)) | ((with_reducible refine wpList_store_mid ?g_6 35 ?x_6 ?y_6 ?o_6 w1.heap.size 0 (LkO o p1 p2 p3 k1 k2 k3) ?h_6 ?j_6 ?t_6 ?i_6 ?s_6 ?r_6); (case g_6 | o_6 | h_6 | j_6 => exact rfl); (case t_6 => exact Hth.out); (case i_6 => exact HiL2.out); (case s_6 => exact LkO_one _ _ _ _ _ _ _)) | fail)
  generalize hW2 : ((w1.alloc (.cells LkZ 35)).setCells w1.heap.size 0 (LkO o p1 p2 p3 k1 k2 k3).toList) = wq at *
  clear hW2 kd
  refine (numbers_any _ W _ v1 _ [o.look.mode] (HW2.out.alloc _) (HW2.out.lit [o.look.mode] _ rfl 1 rfl _ (by first | rfl | exact HS2.out.symm)) (by (try simp only [List.length_append, List.length_cons, List.length_nil] at *); omega)).mono ?_
  rintro e w2 ⟨v2, t2, h2⟩
  have T2 := Lib.hid ((T2a.out.trans (WTo.other (Gou.Mod.alloc _ _ _) v1)).trans t2)
  rcases hr2 : encNums [o.look.mode] with _ | es2
  · rw [hr2] at h2
    subst h2
    exact ⟨rfl, v2, T2.out, by have g1 := Hr1.out; simp [encOpr, HK.out, g1, hr2]⟩
  rw [hr2] at h2
  obtain ⟨rfl, hw2⟩ := h2
  have Hr2 := Lib.hid hr2
  have Hw2 := Lib.hid hw2
  have Tk2 := Lib.hid t2
  clear hr2 hw2 t2
  go_wp2_with fail
  go_end0
  exact ⟨v2, T2.out, by
    have g1 := Hr1.out
    have g2 := Hr2.out
    simp [encOpr, HK.out, g1, g2]
    simpa using Hw2.out⟩

set_option maxHeartbeats 2000000 in
theorem wop_4 (w : World) (W : Nat) (bs : List Nat) (vs : Value) (p1 : Option Addr) (k1 : Nat) (p2 : Option Addr) (k2 : Nat) (p3 : Option Addr) (k3 : Nat) (o : Opr) (hk : o.kind = 4) (h : Wr w W bs vs) (hx : LookR (fun b => b < W) w o.look (.slice p1 o.look.content.pix.length k1) (.slice p2 o.look.filt.nodes.length k2) (.slice p3 o.look.back.nodes.length k3)) (hl : bs.length ≤ 700000000) :
    Calls Try.prog 32 #[.pointer (some ⟨W, 0, none⟩), .agg (OpO o p1 p2 p3 k1 k2 k3)] w (WrP w W bs vs (encOpr o)) := by
  have H := Lib.hid h
  have HB0 : Hid (Blk (w.alloc (.cells (OpO o p1 p2 p3 k1 k2 k3) 37)) w.heap.size 37 (OpO o p1 p2 p3 k1 k2 k3)) := Lib.hid (heap_alloc_new w _)
  have HW0 : Hid (Wr (w.alloc (.cells (OpO o p1 p2 p3 k1 k2 k3) 37)) W bs vs) := Lib.hid (h.alloc _)
  have HT0 : Hid (WTo W w vs (w.alloc (.cells (OpO o p1 p2 p3 k1 k2 k3) 37)) vs) := Lib.hid (WTo.other (Gou.Mod.alloc _ _ _) vs)
  have HR0 : Hid (LookR (fun b => b < W) (w.alloc (.cells (OpO o p1 p2 p3 k1 k2 k3) 37)) o.look (.slice p1 o.look.content.pix.length k1) (.slice p2 o.look.filt.nodes.length k2) (.slice p3 o.look.back.nodes.length k3)) := Lib.hid (hx.mod (Gou.Mod.alloc (fun _ => False) _ _) (fun _ _ _ h => h))
  have HS0 : Hid (((w.alloc (.cells (OpO o p1 p2 p3 k1 k2 k3) 37))).heap.size = w.heap.size + 1) := Lib.hid (by simp)
  have hWlt := Blk.lt h.box
  have HiL : Hid ((Try.prog.info? 35).map (·.size) = some (LkO o p1 p2 p3 k1 k2 k3).toList.length) := Lib.hid (size_look.trans (by simp [LkO, lookC]))
  have hvs := fun k hk => (H.out.own.lt k hk).2
  have Hvs := Lib.hid hvs
  clear h hx hvs
  have HK := Lib.hid hk
  clear hk
  go_enter Try.func32, Try.ntmps32
  have ka : ((w.alloc (.cells (OpO o p1 p2 p3 k1 k2 k3) 37))).cell? ⟨w.heap.size, 1, none⟩ = some (.int .i64 o.id.1) := HB0.out.cell 1 rfl
  have kb : ((w.alloc (.cells (OpO o p1 p2 p3 k1 k2 k3) 37))).cell? ⟨w.heap.size, 2, none⟩ = some (.int .i64 o.id.2) := HB0.out.cell 2 rfl
  have kc : ((w.alloc (.cells (OpO o p1 p2 p3 k1 k2 k3) 37))).cell? ⟨w.heap.size, 0, none⟩ = some (.int .i64 4) := (by rw [← HK.out]; exact HB0.out.cell 0 rfl)
  go_wp2_with fail
  generalize hW0 : (w.alloc (.cells (OpO o p1 p2 p3 k1 k2 k3) 37)) = w0 at *
  clear hW0
  refine (wid_any _ W bs vs o.id.1 o.id.2 HW0.out (by omega)).mono ?_
  rintro e w1 ⟨v1, t1, h1⟩
  have T1 := Lib.hid (HT0.out.trans t1)
  rcases hr1 : encNums [o.id.1, o.id.2] with _ | es1
  · rw [hr1] at h1
    subst h1
    exact ⟨rfl, v1, T1.out, by have hk := HK.out; simp [encOpr, hk, hr1]⟩
  rw [hr1] at h1
  obtain ⟨rfl, hw1⟩ := h1
  have Hr1 := Lib.hid hr1
  have Hw1 := Lib.hid hw1
  have Tk1 := Lib.hid t1
  clear hr1 hw1 t1
  have hE1 := encNums_len Hr1.out
  have HB1 : Hid (Blk w1 w.heap.size 37 (OpO o p1 p2 p3 k1 k2 k3)) := Lib.hid (HB0.out.mod Tk1.out.mod (fun e => by
    rcases e with e | e
    · omega
    · have := Hvs.out _ e; omega))
  have HR1 : Hid (LookR (fun b => b < W) w1 o.look (.slice p1 o.look.content.pix.length k1) (.slice p2 o.look.filt.nodes.length k2) (.slice p3 o.look.back.nodes.length k3)) := Lib.hid (HR0.out.mod (WTo.far Tk1.out HW0.out) (fun k _ hG hk => by omega))
  have Hv1 : Hid (∀ k, v1.ownBlock = some k → k ≠ w.heap.size ∧ k < w1.heap.size) := Lib.hid (fun k hk => ⟨fun e => by
    rcases Tk1.out.fresh _ hk with e2 | e2
    · have := Hvs.out _ e2; omega
    · have := HS0.out; omega, (Hw1.out.own.lt _ hk).2⟩)
  have hB1 := Blk.lt HB1.out
  clear ka kb kc
  have Hrg : Hid (w1.rangeAt w.heap.size 6 (LkO o p1 p2 p3 k1 k2 k3).toList) := Lib.hid (Blk.range (post := []) HB1.out (by rw [List.append_nil]; exact opr_look o _ _ _) rfl)
  have hA : Blk (w1.alloc (.cells LkZ 35)) w1.heap.size 35 LkZ := heap_alloc_new w1 _
  have Hth : Hid ((w1.alloc (.cells LkZ 35)).there w1.heap.size 0 (LkO o p1 p2 p3 k1 k2 k3).size) := Lib.hid (hA.there 0 _ (by rw [LkO_size]; simp))
  have HiL2 : Hid ((Try.prog.info? 35).map (·.size) = some (LkO o p1 p2 p3 k1 k2 k3).size) := Lib.hid (size_look.trans (by rw [LkO_size]))
  have hA2 := hA.sets 0 (LkO o p1 p2 p3 k1 k2 k3).toList
  rw [setMany_all _ _ (by simp [LkO, lookC])] at hA2
  have hM2 : Gou.Mod (fun k => k = w1.heap.size) w1 ((w1.alloc (.cells LkZ 35)).setCells w1.heap.size 0 (LkO o p1 p2 p3 k1 k2 k3).toList) := (Gou.Mod.alloc _ _ _).trans' (Blk.setMod _ _ _ _)
  have HW2 : Hid (Wr ((w1.alloc (.cells LkZ 35)).setCells w1.heap.size 0 (LkO o p1 p2 p3 k1 k2 k3).toList) W _ v1) := Lib.hid (Hw1.out.other hM2 (by have := Blk.lt Hw1.out.box; omega) (fun k hk e => by have := (Hv1.out k hk).2; omega))
  have HL2 : Hid (Blk ((w1.alloc (.cells LkZ 35)).setCells w1.heap.size 0 (LkO o p1 p2 p3 k1 k2 k3).toList) w1.heap.size 35 (LkO o p1 p2 p3 k1 k2 k3)) := Lib.hid hA2
  have HB2 : Hid (Blk ((w1.alloc (.cells LkZ 35)).setCells w1.heap.size 0 (LkO o p1 p2 p3 k1 k2 k3).toList) w.heap.size 37 (OpO o p1 p2 p3 k1 k2 k3)) := Lib.hid (HB1.out.mod hM2 (by omega))
  have HR2 : Hid (LookR (fun b => b < W) ((w1.alloc (.cells LkZ 35)).setCells w1.heap.size 0 (LkO o p1 p2 p3 k1 k2 k3).toList) o.look (.slice p1 o.look.content.pix.length k1) (.slice p2 o.look.filt.nodes.length k2) (.slice p3 o.look.back.nodes.length k3)) := Lib.hid (HR1.out.mod hM2 (fun k _ hG e => by have := Blk.lt Hw1.out.box; omega))
  have T2a : Hid (WTo W w vs ((w1.alloc (.cells LkZ 35)).setCells w1.heap.size 0 (LkO o p1 p2 p3 k1 k2 k3).toList) v1) := Lib.hid (T1.out.trans ⟨((Gou.Mod.alloc (fun _ => False) w1 _).trans (Blk.setMod _ w1.heap.size 0 _) (fun i hi e => by omega)).imp (fun _ _ h => h.elim), fun g hg => .inl hg⟩)
  have HS2 : Hid ((((w1.alloc (.cells LkZ 35)).setCells w1.heap.size 0 (LkO o p1 p2 p3 k1 k2 k3).toList)).heap.size = w1.heap.size + 1) := Lib.hid (by rw [size_setCells]; simp)
  have kd : (((w1.alloc (.cells LkZ 35)).setCells w1.heap.size 0 (LkO o p1 p2 p3 k1 k2 k3).toList)).cell? ⟨w.heap.size, 0, none⟩ = some (.int .i64 4) := (by rw [← HK.out]; exact HB2.out.cell 0 rfl)
  clear hA hA2 hM2
  have q5 : (((w1.alloc (.cells LkZ 35)).setCells w1.heap.size 0 (LkO o p1 p2 p3 k1 k2 k3).toList)).cell? ⟨w.heap.size, 5, none⟩ = some (.int .i64 o.at_) := HB2.out.cell 5 rfl
  go_wp2_with (first | ((with_reducible refine wpList_load_mid ?g_7 35 ?x_7 ?o_7 w.heap.size 6 ?h_7 (LkO o p1 p2 p3 k1 k2 k3).toList ?d_7 ?c_7 ?u_7 ?s_7 ?i_7 ?r_7); (case g_7 | o_7 | h_7 => exact rfl); (case c_7 => exact Hrg.out); (case u_7 => exact Try.underlying35); (case s_7 => exact rfl); (case i_7 => exact HiL.out)) | ((with_reducible refine wpList_store_mid ?g_8 35 ?x_8 ?y_8 ?o_8 w1.heap.size 0 (LkO o p1 p2 p3 k1 k2 k3) ?h_8 ?j_8 ?t_8 ?i_8 ?s_8 ?r_8); (case g_8 | o_8 | h_8 | j_8 => exact rfl); (case t_8 => exact Hth.out); (case i_8 => exact HiL2.out); (case s_8 => exact LkO_one _ _ _ _ _ _ _)) | fail)
  generalize hW2 : ((w1.alloc (.cells LkZ 35)).setCells w1.heap.size 0 (LkO o p1 p2 p3 k1 k2 k3).toList) = wq at *
  clear hW2 kd
  refine (numbers_any _ W _ v1 _ [o.at_] (HW2.out.alloc _) (HW2.out.lit [o.at_] _ rfl 1 rfl _ (by first | rfl | exact HS2.out.symm)) (by (try simp only [List.length_append, List.length_cons, List.length_nil] at *); omega)).mono ?_
  rintro e w2 ⟨v2, t2, h2⟩
  have T2 := Lib.hid ((T2a.out.trans (WTo.other (Gou.Mod.alloc _ _ _) v1)).trans t2)
  rcases hr2 : encNums [o.at_] with _ | es2
  · rw [hr2] at h2
    subst h2
    exact ⟨rfl, v2, T2.out, by have g1 := Hr1.out; simp [encOpr, HK.out, g1, hr2]⟩
  rw [hr2] at h2
  obtain ⟨rfl, hw2⟩ := h2
  have Hr2 := Lib.hid hr2
  have Hw2 := Lib.hid hw2
  have Tk2 := Lib.hid t2
  clear hr2 hw2 t2
  go_wp2_with fail
  go_end0
  exact ⟨v2, T2.out, by
    have g1 := Hr1.out
    have g2 := Hr2.out
    simp [encOpr, HK.out, g1, g2]
    simpa using Hw2.out⟩

set_option maxHeartbeats 2000000 in
theorem wop_3 (w : World) (W : Nat) (bs : List Nat) (vs : Value) (p1 : Option Addr) (k1 : Nat) (p2 : Option Addr) (k2 : Nat) (p3 : Option Addr) (k3 : Nat) (o : Opr) (hk : o.kind = 3) (h : Wr w W bs vs) (hx : LookR (fun b => b < W) w o.look (.slice p1 o.look.content.pix.length k1) (.slice p2 o.look.filt.nodes.length k2) (.slice p3 o.look.back.nodes.length k3)) (hl : bs.length ≤ 700000000) :
    Calls Try.prog 32 #[.pointer (some ⟨W, 0, none⟩), .agg (OpO o p1 p2 p3 k1 k2 k3)] w (WrP w W bs vs (encOpr o)) := by
  have H := Lib.hid h
  have HB0 : Hid (Blk (w.alloc (.cells (OpO o p1 p2 p3 k1 k2 k3) 37)) w.heap.size 37 (OpO o p1 p2 p3 k1 k2 k3)) := Lib.hid (heap_alloc_new w _)
  have HW0 : Hid (Wr (w.alloc (.cells (OpO o p1 p2 p3 k1 k2 k3) 37)) W bs vs) := Lib.hid (h.alloc _)
  have HT0 : Hid (WTo W w vs (w.alloc (.cells (OpO o p1 p2 p3 k1 k2 k3) 37)) vs) := Lib.hid (WTo.other (Gou.Mod.alloc _ _ _) vs)
  have HR0 : Hid (LookR (fun b => b < W) (w.alloc (.cells (OpO o p1 p2 p3 k1 k2 k3) 37)) o.look (.slice p1 o.look.content.pix.length k1) (.slice p2 o.look.filt.nodes.length k2) (.slice p3 o.look.back.nodes.length k3)) := Lib.hid (hx.mod (Gou.Mod.alloc (fun _ => False) _ _) (fun _ _ _ h => h))
  have HS0 : Hid (((w.alloc (.cells (OpO o p1 p2 p3 k1 k2 k3) 37))).heap.size = w.heap.size + 1) := Lib.hid (by simp)
  have hWlt := Blk.lt h.box
  have HiL : Hid ((Try.prog.info? 35).map (·.size) = some (LkO o p1 p2 p3 k1 k2 k3).toList.length) := Lib.hid (size_look.trans (by simp [LkO, lookC]))
  have hvs := fun k hk => (H.out.own.lt k hk).2
  have Hvs := Lib.hid hvs
  clear h hx hvs
  have HK := Lib.hid hk
  clear hk
  go_enter Try.func32, Try.ntmps32
  have ka : ((w.alloc (.cells (OpO o p1 p2 p3 k1 k2 k3) 37))).cell? ⟨w.heap.size, 1, none⟩ = some (.int .i64 o.id.1) := HB0.out.cell 1 rfl
  have kb : ((w.alloc (.cells (OpO o p1 p2 p3 k1 k2 k3) 37))).cell? ⟨w.heap.size, 2, none⟩ = some (.int .i64 o.id.2) := HB0.out.cell 2 rfl
  have kc : ((w.alloc (.cells (OpO o p1 p2 p3 k1 k2 k3) 37))).cell? ⟨w.heap.size, 0, none⟩ = some (.int .i64 3) := (by rw [← HK.out]; exact HB0.out.cell 0 rfl)
  go_wp2_with fail
  generalize hW0 : (w.alloc (.cells (OpO o p1 p2 p3 k1 k2 k3) 37)) = w0 at *
  clear hW0
  refine (wid_any _ W bs vs o.id.1 o.id.2 HW0.out (by omega)).mono ?_
  rintro e w1 ⟨v1, t1, h1⟩
  have T1 := Lib.hid (HT0.out.trans t1)
  rcases hr1 : encNums [o.id.1, o.id.2] with _ | es1
  · rw [hr1] at h1
    subst h1
    exact ⟨rfl, v1, T1.out, by have hk := HK.out; simp [encOpr, hk, hr1]⟩
  rw [hr1] at h1
  obtain ⟨rfl, hw1⟩ := h1
  have Hr1 := Lib.hid hr1
  have Hw1 := Lib.hid hw1
  have Tk1 := Lib.hid t1
  clear hr1 hw1 t1
  have hE1 := encNums_len Hr1.out
  have HB1 : Hid (Blk w1 w.heap.size 37 (OpO o p1 p2 p3 k1 k2 k3)) := Lib.hid (HB0.out.mod Tk1.out.mod (fun e => by
    rcases e with e | e
    · omega
    · have := Hvs.out _ e; omega))
  have HR1 : Hid (LookR (fun b => b < W) w1 o.look (.slice p1 o.look.content.pix.length k1) (.slice p2 o.look.filt.nodes.length k2) (.slice p3 o.look.back.nodes.length k3)) := Lib.hid (HR0.out.mod (WTo.far Tk1.out HW0.out) (fun k _ hG hk => by omega))
  have Hv1 : Hid (∀ k, v1.ownBlock = some k → k ≠ w.heap.size ∧ k < w1.heap.size) := Lib.hid (fun k hk => ⟨fun e => by
    rcases Tk1.out.fresh _ hk with e2 | e2
    · have := Hvs.out _ e2; omega
    · have := HS0.out; omega, (Hw1.out.own.lt _ hk).2⟩)
  have hB1 := Blk.lt HB1.out
  clear ka kb kc
  have Hrg : Hid (w1.rangeAt w.heap.size 6 (LkO o p1 p2 p3 k1 k2 k3).toList) := Lib.hid (Blk.range (post := []) HB1.out (by rw [List.append_nil]; exact opr_look o _ _ _) rfl)
  have hA : Blk (w1.alloc (.cells LkZ 35)) w1.heap.size 35 LkZ := heap_alloc_new w1 _
  have Hth : Hid ((w1.alloc (.cells LkZ 35)).there w1.heap.size 0 (LkO o p1 p2 p3 k1 k2 k3).size) := Lib.hid (hA.there 0 _ (by rw [LkO_size]; simp))
  have HiL2 : Hid ((Try.prog.info? 35).map (·.size) = some (LkO o p1 p2 p3 k1 k2 k3).size) := Lib.hid (size_look.trans (by rw [LkO_size]))
  have hA2 := hA.sets 0 (LkO o p1 p2 p3 k1 k2 k3).toList
  rw [setMany_all _ _ (by simp [LkO, lookC])] at hA2
  have hM2 : Gou.Mod (fun k => k = w1.heap.size) w1 ((w1.alloc (.cells LkZ 35)).setCells w1.heap.size 0 (LkO o p1 p2 p3 k1 k2 k3).toList) := (Gou.Mod.alloc _ _ _).trans' (Blk.setMod _ _ _ _)
  have HW2 : Hid (Wr ((w1.alloc (.cells LkZ 35)).setCells w1.heap.size 0 (LkO o p1 p2 p3 k1 k2 k3).toList) W _ v1) := Lib.hid (Hw1.out.other hM2 (by have := Blk.lt Hw1.out.box; omega) (fun k hk e => by have := (Hv1.out k hk).2; omega))
  have HL2 : Hid (Blk ((w1.alloc (.cells LkZ 35)).setCells w1.heap.size 0 (LkO o p1 p2 p3 k1 k2 k3).toList) w1.heap.size 35 (LkO o p1 p2 p3 k1 k2 k3)) := Lib.hid hA2
  have HB2 : Hid (Blk ((w1.alloc (.cells LkZ 35)).setCells w1.heap.size 0 (LkO o p1 p2 p3 k1 k2 k3).toList) w.heap.size 37 (OpO o p1 p2 p3 k1 k2 k3)) := Lib.hid (HB1.out.mod hM2 (by omega))
  have HR2 : Hid (LookR (fun b => b < W) ((w1.alloc (.cells LkZ 35)).setCells w1.heap.size 0 (LkO o p1 p2 p3 k1 k2 k3).toList) o.look (.slice p1 o.look.content.pix.length k1) (.slice p2 o.look.filt.nodes.length k2) (.slice p3 o.look.back.nodes.length k3)) := Lib.hid (HR1.out.mod hM2 (fun k _ hG e => by have := Blk.lt Hw1.out.box; omega))
  have T2a : Hid (WTo W w vs ((w1.alloc (.cells LkZ 35)).setCells w1.heap.size 0 (LkO o p1 p2 p3 k1 k2 k3).toList) v1) := Lib.hid (T1.out.trans ⟨((Gou.Mod.alloc (fun _ => False) w1 _).trans (Blk.setMod _ w1.heap.size 0 _) (fun i hi e => by omega)).imp (fun _ _ h => h.elim), fun g hg => .inl hg⟩)
  have HS2 : Hid ((((w1.alloc (.cells LkZ 35)).setCells w1.heap.size 0 (LkO o p1 p2 p3 k1 k2 k3).toList)).heap.size = w1.heap.size + 1) := Lib.hid (by rw [size_setCells]; simp)
  have kd : (((w1.alloc (.cells LkZ 35)).setCells w1.heap.size 0 (LkO o p1 p2 p3 k1 k2 k3).toList)).cell? ⟨w.heap.size, 0, none⟩ = some (.int .i64 3) := (by rw [← HK.out]; exact HB2.out.cell 0 rfl)
  clear hA hA2 hM2
  have q3 : (((w1.alloc (.cells LkZ 35)).setCells w1.heap.size 0 (LkO o p1 p2 p3 k1 k2 k3).toList)).cell? ⟨w.heap.size, 3, none⟩ = some (.int .i64 o.to.1) := HB2.out.cell 3 rfl
  have q4 : (((w1.alloc (.cells LkZ 35)).setCells w1.heap.size 0 (LkO o p1 p2 p3 k1 k2 k3).toList)).cell? ⟨w.heap.size, 4, none⟩ = some (.int .i64 o.to.2) := HB2.out.cell 4 rfl
  go_wp2_with (first | ((with_reducible refine wpList_load_mid ?g_9 35 ?x_9 ?o_9 w.heap.size 6 ?h_9 (LkO o p1 p2 p3 k1 k2 k3).toList ?d_9 ?c_9 ?u_9 ?s_9 ?i_9 ?r_9); (case g_9 | o_9 | h_9 => exact rfl); (case c_9 => exact Hrg.out); (case u_9 => exact Try.underlying35); (case s_9 => exact rfl); (case i_9 => exact HiL.out)) | ((with_reducible refine wpList_store_mid ?g_a 35 ?x_a ?y_a ?o_a w1.heap.size 0 (LkO o p1 p2 p3 k1 k2 k3) ?h_a ?j_a ?t_a ?i_a ?s_a ?r_a); (case g_a | o_a | h_a | j_a => exact rfl); (case t_a => exact Hth.out); (case i_a => exact HiL2.out); (case s_a => exact LkO_one _ _ _ _ _ _ _)) | fail)
  generalize hW2 : ((w1.alloc (.cells LkZ 35)).setCells w1.heap.size 0 (LkO o p1 p2 p3 k1 k2 k3).toList) = wq at *
  clear hW2 kd
  refine (wid_any _ W _ v1 o.to.1 o.to.2 HW2.out (by (try simp only [List.length_append, List.length_cons, List.length_nil] at *); omega)).mono ?_
  rintro e w2 ⟨v2, t2, h2⟩
  have T2 := Lib.hid (T2a.out.trans t2)
  rcases hr2 : encNums [o.to.1, o.to.2] with _ | es2
  · rw [hr2] at h2
    subst h2
    exact ⟨rfl, v2, T2.out, by have g1 := Hr1.out; simp [encOpr, HK.out, g1, hr2]⟩
  rw [hr2] at h2
  obtain ⟨rfl, hw2⟩ := h2
  have Hr2 := Lib.hid hr2
  have Hw2 := Lib.hid hw2
  have Tk2 := Lib.hid t2
  clear hr2 hw2 t2
  have HB3 : Hid (Blk w2 w.heap.size 37 (OpO o p1 p2 p3 k1 k2 k3)) := Lib.hid (HB2.out.mod Tk2.out.mod (fun e => by
    rcases e with e | e
    · omega
    · exact (Hv1.out _ e).1 rfl))
  have hE2 := encNums_len Hr2.out
  have q5 : w2.cell? ⟨w.heap.size, 5, none⟩ = some (.int .i64 o.at_) := HB3.out.cell 5 rfl
  clear q3 q4
  go_wp2_with fail
  refine (numbers_any _ W _ v2 _ [o.at_] (Hw2.out.alloc _) (Hw2.out.lit [o.at_] _ rfl 1 rfl _ rfl) (by (try simp only [List.length_append, List.length_cons, List.length_nil] at *); omega)).mono ?_
  rintro e w3 ⟨v3, t3, h3⟩
  have T3 := Lib.hid ((T2.out.trans (WTo.other (Gou.Mod.alloc _ _ _) v2)).trans t3)
  rcases hr3 : encNums [o.at_] with _ | es3
  · rw [hr3] at h3
    subst h3
    exact ⟨rfl, v3, T3.out, by have g1 := Hr1.out; have g2 := Hr2.out; simp [encOpr, HK.out, g1, g2, hr3]⟩
  rw [hr3] at h3
  obtain ⟨rfl, hw3⟩ := h3
  have Hr3 := Lib.hid hr3
  have Hw3 := Lib.hid hw3
  have Tk3 := Lib.hid t3
  clear hr3 hw3 t3
  go_wp2_with fail
  go_end0
  exact ⟨v3, T3.out, by
    have g1 := Hr1.out
    have g2 := Hr2.out
    have g3 := Hr3.out
    simp [encOpr, HK.out, g1, g2, g3]
    simpa using Hw3.out⟩

set_option maxHeartbeats 2000000 in
theorem wop_6f (w : World) (W : Nat) (bs : List Nat) (vs : Value) (p1 : Option Addr) (k1 : Nat) (p2 : Option Addr) (k2 : Nat) (p3 : Option Addr) (k3 : Nat) (o : Opr) (hk : o.kind = 6) (hf : o.look.hasClip = false) (h : Wr w W bs vs) (hx : LookR (fun b => b < W) w o.look (.slice p1 o.look.content.pix.length k1) (.slice p2 o.look.filt.nodes.length k2) (.slice p3 o.look.back.nodes.length k3)) (hl : bs.length ≤ 700000000) :
    Calls Try.prog 32 #[.pointer (some ⟨W, 0, none⟩), .agg (OpO o p1 p2 p3 k1 k2 k3)] w (WrP w W bs vs (encOpr o)) := by
  have H := Lib.hid h
  have HB0 : Hid (Blk (w.alloc (.cells (OpO o p1 p2 p3 k1 k2 k3) 37)) w.heap.size 37 (OpO o p1 p2 p3 k1 k2 k3)) := Lib.hid (heap_alloc_new w _)
  have HW0 : Hid (Wr (w.alloc (.cells (OpO o p1 p2 p3 k1 k2 k3) 37)) W bs vs) := Lib.hid (h.alloc _)
  have HT0 : Hid (WTo W w vs (w.alloc (.cells (OpO o p1 p2 p3 k1 k2 k3) 37)) vs) := Lib.hid (WTo.other (Gou.Mod.alloc _ _ _) vs)
  have HR0 : Hid (LookR (fun b => b < W) (w.alloc (.cells (OpO o p1 p2 p3 k1 k2 k3) 37)) o.look (.slice p1 o.look.content.pix.length k1) (.slice p2 o.look.filt.nodes.length k2) (.slice p3 o.look.back.nodes.length k3)) := Lib.hid (hx.mod (Gou.Mod.alloc (fun _ => False) _ _) (fun _ _ _ h => h))
  have HS0 : Hid (((w.alloc (.cells (OpO o p1 p2 p3 k1 k2 k3) 37))).heap.size = w.heap.size + 1) := Lib.hid (by simp)
  have hWlt := Blk.lt h.box
  have HiL : Hid ((Try.prog.info? 35).map (·.size) = some (LkO o p1 p2 p3 k1 k2 k3).toList.length) := Lib.hid (size_look.trans (by simp [LkO, lookC]))
  have hvs := fun k hk => (H.out.own.lt k hk).2
  have Hvs := Lib.hid hvs
  clear h hx hvs
  have HK := Lib.hid hk
  clear hk
  have HF := Lib.hid hf
  clear hf
  go_enter Try.func32, Try.ntmps32
  have ka : ((w.alloc (.cells (OpO o p1 p2 p3 k1 k2 k3) 37))).cell? ⟨w.heap.size, 1, none⟩ = some (.int .i64 o.id.1) := HB0.out.cell 1 rfl
  have kb : ((w.alloc (.cells (OpO o p1 p2 p3 k1 k2 k3) 37))).cell? ⟨w.heap.size, 2, none⟩ = some (.int .i64 o.id.2) := HB0.out.cell 2 rfl
  have kc : ((w.alloc (.cells (OpO o p1 p2 p3 k1 k2 k3) 37))).cell? ⟨w.heap.size, 0, none⟩ = some (.int .i64 6) := (by rw [← HK.out]; exact HB0.out.cell 0 rfl)
  go_wp2_with fail
  generalize hW0 : (w.alloc (.cells (OpO o p1 p2 p3 k1 k2 k3) 37)) = w0 at *
  clear hW0
  refine (wid_any _ W bs vs o.id.1 o.id.2 HW0.out (by omega)).mono ?_
  rintro e w1 ⟨v1, t1, h1⟩
  have T1 := Lib.hid (HT0.out.trans t1)
  rcases hr1 : encNums [o.id.1, o.id.2] with _ | es1
  · rw [hr1] at h1
    subst h1
    exact ⟨rfl, v1, T1.out, by have hk := HK.out; simp [encOpr, hk, hr1]⟩
  rw [hr1] at h1
  obtain ⟨rfl, hw1⟩ := h1
  have Hr1 := Lib.hid hr1
  have Hw1 := Lib.hid hw1
  have Tk1 := Lib.hid t1
  clear hr1 hw1 t1
  have hE1 := encNums_len Hr1.out
  have HB1 : Hid (Blk w1 w.heap.size 37 (OpO o p1 p2 p3 k1 k2 k3)) := Lib.hid (HB0.out.mod Tk1.out.mod (fun e => by
    rcases e with e | e
    · omega
    · have := Hvs.out _ e; omega))
  have HR1 : Hid (LookR (fun b => b < W) w1 o.look (.slice p1 o.look.content.pix.length k1) (.slice p2 o.look.filt.nodes.length k2) (.slice p3 o.look.back.nodes.length k3)) := Lib.hid (HR0.out.mod (WTo.far Tk1.out HW0.out) (fun k _ hG hk => by omega))
  have Hv1 : Hid (∀ k, v1.ownBlock = some k → k ≠ w.heap.size ∧ k < w1.heap.size) := Lib.hid (fun k hk => ⟨fun e => by
    rcases Tk1.out.fresh _ hk with e2 | e2
    · have := Hvs.out _ e2; omega
    · have := HS0.out; omega, (Hw1.out.own.lt _ hk).2⟩)
  have hB1 := Blk.lt HB1.out
  clear ka kb kc
  have Hrg : Hid (w1.rangeAt w.heap.size 6 (LkO o p1 p2 p3 k1 k2 k3).toList) := Lib.hid (Blk.range (post := []) HB1.out (by rw [List.append_nil]; exact opr_look o _ _ _) rfl)
  have hA : Blk (w1.alloc (.cells LkZ 35)) w1.heap.size 35 LkZ := heap_alloc_new w1 _
  have Hth : Hid ((w1.alloc (.cells LkZ 35)).there w1.heap.size 0 (LkO o p1 p2 p3 k1 k2 k3).size) := Lib.hid (hA.there 0 _ (by rw [LkO_size]; simp))
  have HiL2 : Hid ((Try.prog.info? 35).map (·.size) = some (LkO o p1 p2 p3 k1 k2 k3).size) := Lib.hid (size_look.trans (by rw [LkO_size]))
  have hA2 := hA.sets 0 (LkO o p1 p2 p3 k1 k2 k3).toList
  rw [setMany_all _ _ (by simp [LkO, lookC])] at hA2
  have hM2 : Gou.Mod (fun k => k = w1.heap.size) w1 ((w1.alloc (.cells LkZ 35)).setCells w1.heap.size 0 (LkO o p1 p2 p3 k1 k2 k3).toList) := (Gou.Mod.alloc _ _ _).trans' (Blk.setMod _ _ _ _)
  have HW2 : Hid (Wr ((w1.alloc (.cells LkZ 35)).setCells w1.heap.size 0 (LkO o p1 p2 p3 k1 k2 k3).toList) W _ v1) := Lib.hid (Hw1.out.other hM2 (by have := Blk.lt Hw1.out.box; omega) (fun k hk e => by have := (Hv1.out k hk).2; omega))
  have HL2 : Hid (Blk ((w1.alloc (.cells LkZ 35)).setCells w1.heap.size 0 (LkO o p1 p2 p3 k1 k2 k3).toList) w1.heap.size 35 (LkO o p1 p2 p3 k1 k2 k3)) := Lib.hid hA2
  have HB2 : Hid (Blk ((w1.alloc (.cells LkZ 35)).setCells w1.heap.size 0 (LkO o p1 p2 p3 k1 k2 k3).toList) w.heap.size 37 (OpO o p1 p2 p3 k1 k2 k3)) := Lib.hid (HB1.out.mod hM2 (by omega))
  have HR2 : Hid (LookR (fun b => b < W) ((w1.alloc (.cells LkZ 35)).setCells w1.heap.size 0 (LkO o p1 p2 p3 k1 k2 k3).toList) o.look (.slice p1 o.look.content.pix.length k1) (.slice p2 o.look.filt.nodes.length k2) (.slice p3 o.look.back.nodes.length k3)) := Lib.hid (HR1.out.mod hM2 (fun k _ hG e => by have := Blk.lt Hw1.out.box; omega))
  have T2a : Hid (WTo W w vs ((w1.alloc (.cells LkZ 35)).setCells w1.heap.size 0 (LkO o p1 p2 p3 k1 k2 k3).toList) v1) := Lib.hid (T1.out.trans ⟨((Gou.Mod.alloc (fun _ => False) w1 _).trans (Blk.setMod _ w1.heap.size 0 _) (fun i hi e => by omega)).imp (fun _ _ h => h.elim), fun g hg => .inl hg⟩)
  have HS2 : Hid ((((w1.alloc (.cells LkZ 35)).setCells w1.heap.size 0 (LkO o p1 p2 p3 k1 k2 k3).toList)).heap.size = w1.heap.size + 1) := Lib.hid (by rw [size_setCells]; simp)
  have kd : (((w1.alloc (.cells LkZ 35)).setCells w1.heap.size 0 (LkO o p1 p2 p3 k1 k2 k3).toList)).cell? ⟨w.heap.size, 0, none⟩ = some (.int .i64 6) := (by rw [← HK.out]; exact HB2.out.cell 0 rfl)
  clear hA hA2 hM2
  have c2 : (((w1.alloc (.cells LkZ 35)).setCells w1.heap.size 0 (LkO o p1 p2 p3 k1 k2 k3).toList)).cell? ⟨w1.heap.size, 2, none⟩ = some (.bool false) := (HL2.out.cell (u := .bool o.look.hasClip) 2 rfl).trans (congrArg (fun b => some (Value.bool b)) HF.out)
  go_wp2_with (first | ((with_reducible refine wpList_load_mid ?g_b 35 ?x_b ?o_b w.heap.size 6 ?h_b (LkO o p1 p2 p3 k1 k2 k3).toList ?d_b ?c_b ?u_b ?s_b ?i_b ?r_b); (case g_b | o_b | h_b => exact rfl); (case c_b => exact Hrg.out); (case u_b => exact Try.underlying35); (case s_b => exact rfl); (case i_b => exact HiL.out)) | ((with_reducible refine wpList_store_mid ?g_c 35 ?x_c ?y_c ?o_c w1.heap.size 0 (LkO o p1 p2 p3 k1 k2 k3) ?h_c ?j_c ?t_c ?i_c ?s_c ?r_c); (case g_c | o_c | h_c | j_c => exact rfl); (case t_c => exact Hth.out); (case i_c => exact HiL2.out); (case s_c => exact LkO_one _ _ _ _ _ _ _)) | fail)
  generalize hW2 : ((w1.alloc (.cells LkZ 35)).setCells w1.heap.size 0 (LkO o p1 p2 p3 k1 k2 k3).toList) = wq at *
  clear hW2 kd
  refine (wflag_any _ W _ v1 false HW2.out (by (try simp only [List.length_append, List.length_cons, List.length_nil] at *); omega)).mono ?_
  rintro e w2 ⟨v2, t2, h2⟩
  have T2 := Lib.hid (T2a.out.trans t2)
  rcases hr2 : encNums [if false = true then 1 else 0] with _ | es2
  · rw [hr2] at h2
    subst h2
    exact ⟨rfl, v2, T2.out, by have g1 := Hr1.out; have g2 := hr2; simp at g2; simp [encOpr, HK.out, HF.out, g1, g2]⟩
  rw [hr2] at h2
  obtain ⟨rfl, hw2⟩ := h2
  have Hr2 := Lib.hid hr2
  have Hw2 := Lib.hid hw2
  have Tk2 := Lib.hid t2
  clear hr2 hw2 t2
  have HL3 : Hid (Blk w2 w1.heap.size 35 (LkO o p1 p2 p3 k1 k2 k3)) := Lib.hid (HL2.out.mod Tk2.out.mod (fun e => by
    rcases e with e | e
    · have := Blk.lt Hw1.out.box; omega
    · have := (Hv1.out _ e).2; omega))
  have HR3 : Hid (LookR (fun b => b < W) w2 o.look (.slice p1 o.look.content.pix.length k1) (.slice p2 o.look.filt.nodes.length k2) (.slice p3 o.look.back.nodes.length k3)) := Lib.hid (HR2.out.mod (WTo.far Tk2.out HW2.out) (fun k _ hG hk => by omega))
  have hE2 := encNums_len Hr2.out
  have d2 : w2.cell? ⟨w1.heap.size, 2, none⟩ = some (.bool false) := (HL3.out.cell (u := .bool o.look.hasClip) 2 rfl).trans (congrArg (fun b => some (Value.bool b)) HF.out)
  clear c2
  go_wp2_with fail
  go_end0
  exact ⟨v2, T2.out, by
    have g1 := Hr1.out
    have g2 := Hr2.out
    simp at g2
    simp [encOpr, HK.out, HF.out, g1, g2]
    simpa using Hw2.out⟩

set_option maxHeartbeats 2000000 in
theorem wop_6t (w : World) (W : Nat) (bs : List Nat) (vs : Value) (p1 : Option Addr) (k1 : Nat) (p2 : Option Addr) (k2 : Nat) (p3 : Option Addr) (k3 : Nat) (o : Opr) (hk : o.kind = 6) (hf : o.look.hasClip = true) (h : Wr w W bs vs) (hx : LookR (fun b => b < W) w o.look (.slice p1 o.look.content.pix.length k1) (.slice p2 o.look.filt.nodes.length k2) (.slice p3 o.look.back.nodes.length k3)) (hl : bs.length ≤ 700000000) :
    Calls Try.prog 32 #[.pointer (some ⟨W, 0, none⟩), .agg (OpO o p1 p2 p3 k1 k2 k3)] w (WrP w W bs vs (encOpr o)) := by
  have H := Lib.hid h
  have HB0 : Hid (Blk (w.alloc (.cells (OpO o p1 p2 p3 k1 k2 k3) 37)) w.heap.size 37 (OpO o p1 p2 p3 k1 k2 k3)) := Lib.hid (heap_alloc_new w _)
  have HW0 : Hid (Wr (w.alloc (.cells (OpO o p1 p2 p3 k1 k2 k3) 37)) W bs vs) := Lib.hid (h.alloc _)
  have HT0 : Hid (WTo W w vs (w.alloc (.cells (OpO o p1 p2 p3 k1 k2 k3) 37)) vs) := Lib.hid (WTo.other (Gou.Mod.alloc _ _ _) vs)
  have HR0 : Hid (LookR (fun b => b < W) (w.alloc (.cells (OpO o p1 p2 p3 k1 k2 k3) 37)) o.look (.slice p1 o.look.content.pix.length k1) (.slice p2 o.look.filt.nodes.length k2) (.slice p3 o.look.back.nodes.length k3)) := Lib.hid (hx.mod (Gou.Mod.alloc (fun _ => False) _ _) (fun _ _ _ h => h))
  have HS0 : Hid (((w.alloc (.cells (OpO o p1 p2 p3 k1 k2 k3) 37))).heap.size = w.heap.size + 1) := Lib.hid (by simp)
  have hWlt := Blk.lt h.box
  have HiL : Hid ((Try.prog.info? 35).map (·.size) = some (LkO o p1 p2 p3 k1 k2 k3).toList.length) := Lib.hid (size_look.trans (by simp [LkO, lookC]))
  have hvs := fun k hk => (H.out.own.lt k hk).2
  have Hvs := Lib.hid hvs
  clear h hx hvs
  have HK := Lib.hid hk
  clear hk
  have HF := Lib.hid hf
  clear hf
  go_enter Try.func32, Try.ntmps32
  have ka : ((w.alloc (.cells (OpO o p1 p2 p3 k1 k2 k3) 37))).cell? ⟨w.heap.size, 1, none⟩ = some (.int .i64 o.id.1) := HB0.out.cell 1 rfl
  have kb : ((w.alloc (.cells (OpO o p1 p2 p3 k1 k2 k3) 37))).cell? ⟨w.heap.size, 2, none⟩ = some (.int .i64 o.id.2) := HB0.out.cell 2 rfl
  have kc : ((w.alloc (.cells (OpO o p1 p2 p3 k1 k2 k3) 37))).cell? ⟨w.heap.size, 0, none⟩ = some (.int .i64 6) := (by rw [← HK.out]; exact HB0.out.cell 0 rfl)
  go_wp2_with fail
  generalize hW0 : (w.alloc (.cells (OpO o p1 p2 p3 k1 k2 k3) 37)) = w0 at *
  clear hW0
  refine (wid_any _ W bs vs o.id.1 o.id.2 HW0.out (by omega)).mono ?_
  rintro e w1 ⟨v1, t1, h1⟩
  have T1 := Lib.hid (HT0.out.trans t1)
  rcases hr1 : encNums [o.id.1, o.id.2] with _ | es1
  · rw [hr1] at h1
    subst h1
    exact ⟨rfl, v1, T1.out, by have hk := HK.out; simp [encOpr, hk, hr1]⟩
  rw [hr1] at h1
  obtain ⟨rfl, hw1⟩ := h1
  have Hr1 := Lib.hid hr1
  have Hw1 := Lib.hid hw1
  have Tk1 := Lib.hid t1
  clear hr1 hw1 t1
  have hE1 := encNums_len Hr1.out
  have HB1 : Hid (Blk w1 w.heap.size 37 (OpO o p1 p2 p3 k1 k2 k3)) := Lib.hid (HB0.out.mod Tk1.out.mod (fun e => by
    rcases e with e | e
    · omega
    · have := Hvs.out _ e; omega))
  have HR1 : Hid (LookR (fun b => b < W) w1 o.look (.slice p1 o.look.content.pix.length k1) (.slice p2 o.look.filt.nodes.length k2) (.slice p3 o.look.back.nodes.length k3)) := Lib.hid (HR0.out.mod (WTo.far Tk1.out HW0.out) (fun k _ hG hk => by omega))
  have Hv1 : Hid (∀ k, v1.ownBlock = some k → k ≠ w.heap.size ∧ k < w1.heap.size) := Lib.hid (fun k hk => ⟨fun e => by
    rcases Tk1.out.fresh _ hk with e2 | e2
    · have := Hvs.out _ e2; omega
    · have := HS0.out; omega, (Hw1.out.own.lt _ hk).2⟩)
  have hB1 := Blk.lt HB1.out
  clear ka kb kc
  have Hrg : Hid (w1.rangeAt w.heap.size 6 (LkO o p1 p2 p3 k1 k2 k3).toList) := Lib.hid (Blk.range (post := []) HB1.out (by rw [List.append_nil]; exact opr_look o _ _ _) rfl)
  have hA : Blk (w1.alloc (.cells LkZ 35)) w1.heap.size 35 LkZ := heap_alloc_new w1 _
  have Hth : Hid ((w1.alloc (.cells LkZ 35)).there w1.heap.size 0 (LkO o p1 p2 p3 k1 k2 k3).size) := Lib.hid (hA.there 0 _ (by rw [LkO_size]; simp))
  have HiL2 : Hid ((Try.prog.info? 35).map (·.size) = some (LkO o p1 p2 p3 k1 k2 k3).size) := Lib.hid (size_look.trans (by rw [LkO_size]))
  have hA2 := hA.sets 0 (LkO o p1 p2 p3 k1 k2 k3).toList
  rw [setMany_all _ _ (by simp [LkO, lookC])] at hA2
  have hM2 : Gou.Mod (fun k => k = w1.heap.size) w1 ((w1.alloc (.cells LkZ 35)).setCells w1.heap.size 0 (LkO o p1 p2 p3 k1 k2 k3).toList) := (Gou.Mod.alloc _ _ _).trans' (Blk.setMod _ _ _ _)
  have HW2 : Hid (Wr ((w1.alloc (.cells LkZ 35)).setCells w1.heap.size 0 (LkO o p1 p2 p3 k1 k2 k3).toList) W _ v1) := Lib.hid (Hw1.out.other hM2 (by have := Blk.lt Hw1.out.box; omega) (fun k hk e => by have := (Hv1.out k hk).2; omega))
  have HL2 : Hid (Blk ((w1.alloc (.cells LkZ 35)).setCells w1.heap.size 0 (LkO o p1 p2 p3 k1 k2 k3).toList) w1.heap.size 35 (LkO o p1 p2 p3 k1 k2 k3)) := Lib.hid hA2
  have HB2 : Hid (Blk ((w1.alloc (.cells LkZ 35)).setCells w1.heap.size 0 (LkO o p1 p2 p3 k1 k2 k3).toList) w.heap.size 37 (OpO o p1 p2 p3 k1 k2 k3)) := Lib.hid (HB1.out.mod hM2 (by omega))
  have HR2 : Hid (LookR (fun b => b < W) ((w1.alloc (.cells LkZ 35)).setCells w1.heap.size 0 (LkO o p1 p2 p3 k1 k2 k3).toList) o.look (.slice p1 o.look.content.pix.length k1) (.slice p2 o.look.filt.nodes.length k2) (.slice p3 o.look.back.nodes.length k3)) := Lib.hid (HR1.out.mod hM2 (fun k _ hG e => by have := Blk.lt Hw1.out.box; omega))
  have T2a : Hid (WTo W w vs ((w1.alloc (.cells LkZ 35)).setCells w1.heap.size 0 (LkO o p1 p2 p3 k1 k2 k3).toList) v1) := Lib.hid (T1.out.trans ⟨((Gou.Mod.alloc (fun _ => False) w1 _).trans (Blk.setMod _ w1.heap.size 0 _) (fun i hi e => by omega)).imp (fun _ _ h => h.elim), fun g hg => .inl hg⟩)
  have HS2 : Hid ((((w1.alloc (.cells LkZ 35)).setCells w1.heap.size 0 (LkO o p1 p2 p3 k1 k2 k3).toList)).heap.size = w1.heap.size + 1) := Lib.hid (by rw [size_setCells]; simp)
  have kd : (((w1.alloc (.cells LkZ 35)).setCells w1.heap.size 0 (LkO o p1 p2 p3 k1 k2 k3).toList)).cell? ⟨w.heap.size, 0, none⟩ = some (.int .i64 6) := (by rw [← HK.out]; exact HB2.out.cell 0 rfl)
  clear hA hA2 hM2
  have c2 : (((w1.alloc (.cells LkZ 35)).setCells w1.heap.size 0 (LkO o p1 p2 p3 k1 k2 k3).toList)).cell? ⟨w1.heap.size, 2, none⟩ = some (.bool true) := (HL2.out.cell (u := .bool o.look.hasClip) 2 rfl).trans (congrArg (fun b => some (Value.bool b)) HF.out)
  go_wp2_with (first | ((with_reducible refine wpList_load_mid ?g_d 35 ?x_d ?o_d w.heap.size 6 ?h_d (LkO o p1 p2 p3 k1 k2 k3).toList ?d_d ?c_d ?u_d ?s_d ?i_d ?r_d); (case g_d | o_d | h_d => exact rfl); (case c_d => exact Hrg.out); (case u_d => exact Try.underlying35); (case s_d => exact rfl); (case i_d => exact HiL.out)) | ((with_reducible refine wpList_store_mid ?g_e 35 ?x_e ?y_e ?o_e w1.heap.size 0 (LkO o p1 p2 p3 k1 k2 k3) ?h_e ?j_e ?t_e ?i_e ?s_e ?r_e); (case g_e | o_e | h_e | j_e => exact rfl); (case t_e => exact Hth.out); (case i_e => exact HiL2.out); (case s_e => exact LkO_one _ _ _ _ _ _ _)) | fail)
  generalize hW2 : ((w1.alloc (.cells LkZ 35)).setCells w1.heap.size 0 (LkO o p1 p2 p3 k1 k2 k3).toList) = wq at *
  clear hW2 kd
  refine (wflag_any _ W _ v1 true HW2.out (by (try simp only [List.length_append, List.length_cons, List.length_nil] at *); omega)).mono ?_
  rintro e w2 ⟨v2, t2, h2⟩
  have T2 := Lib.hid (T2a.out.trans t2)
  rcases hr2 : encNums [if true = true then 1 else 0] with _ | es2
  · rw [hr2] at h2
    subst h2
    exact ⟨rfl, v2, T2.out, by have g1 := Hr1.out; have g2 := hr2; simp at g2; simp [encOpr, HK.out, HF.out, g1, g2]⟩
  rw [hr2] at h2
  obtain ⟨rfl, hw2⟩ := h2
  have Hr2 := Lib.hid hr2
  have Hw2 := Lib.hid hw2
  have Tk2 := Lib.hid t2
  clear hr2 hw2 t2
  have HL3 : Hid (Blk w2 w1.heap.size 35 (LkO o p1 p2 p3 k1 k2 k3)) := Lib.hid (HL2.out.mod Tk2.out.mod (fun e => by
    rcases e with e | e
    · have := Blk.lt Hw1.out.box; omega
    · have := (Hv1.out _ e).2; omega))
  have HR3 : Hid (LookR (fun b => b < W) w2 o.look (.slice p1 o.look.content.pix.length k1) (.slice p2 o.look.filt.nodes.length k2) (.slice p3 o.look.back.nodes.length k3)) := Lib.hid (HR2.out.mod (WTo.far Tk2.out HW2.out) (fun k _ hG hk => by omega))
  have hE2 := encNums_len Hr2.out
  have d2 : w2.cell? ⟨w1.heap.size, 2, none⟩ = some (.bool true) := (HL3.out.cell (u := .bool o.look.hasClip) 2 rfl).trans (congrArg (fun b => some (Value.bool b)) HF.out)
  have d3 : w2.cell? ⟨w1.heap.size, 3, none⟩ = some (.int .i64 o.look.clip.x0) := HL3.out.cell 3 rfl
  have d4 : w2.cell? ⟨w1.heap.size, 4, none⟩ = some (.int .i64 o.look.clip.y0) := HL3.out.cell 4 rfl
  have d5 : w2.cell? ⟨w1.heap.size, 5, none⟩ = some (.int .i64 o.look.clip.x1) := HL3.out.cell 5 rfl
  have d6 : w2.cell? ⟨w1.heap.size, 6, none⟩ = some (.int .i64 o.look.clip.y1) := HL3.out.cell 6 rfl
  clear c2
  go_wp2_with fail
  refine (wbox_any _ W _ v2 o.look.clip.x0 o.look.clip.y0 o.look.clip.x1 o.look.clip.y1 Hw2.out (by (try simp only [List.length_append, List.length_cons, List.length_nil] at *); omega)).mono ?_
  rintro e w3 ⟨v3, t3, h3⟩
  have T3 := Lib.hid (T2.out.trans t3)
  rcases hr3 : encNums [o.look.clip.x0, o.look.clip.y0, o.look.clip.x1, o.look.clip.y1] with _ | es3
  · rw [hr3] at h3
    subst h3
    exact ⟨rfl, v3, T3.out, by have g1 := Hr1.out; have g2 := Hr2.out; simp at g2; simp [encOpr, HK.out, HF.out, g1, g2, hr3]⟩
  rw [hr3] at h3
  obtain ⟨rfl, hw3⟩ := h3
  have Hr3 := Lib.hid hr3
  have Hw3 := Lib.hid hw3
  have Tk3 := Lib.hid t3
  clear hr3 hw3 t3
  go_wp2_with fail
  go_end0
  exact ⟨v3, T3.out, by
    have g1 := Hr1.out
    have g2 := Hr2.out
    have g3 := Hr3.out
    simp at g2
    simp [encOpr, HK.out, HF.out, g1, g2, g3]
    simpa using Hw3.out⟩

set_option maxHeartbeats 2000000 in
theorem wop_10f (w : World) (W : Nat) (bs : List Nat) (vs : Value) (p1 : Option Addr) (k1 : Nat) (p2 : Option Addr) (k2 : Nat) (p3 : Option Addr) (k3 : Nat) (o : Opr) (hk : o.kind = 10) (hf : o.look.hasFilt = false) (h : Wr w W bs vs) (hx : LookR (fun b => b < W) w o.look (.slice p1 o.look.content.pix.length k1) (.slice p2 o.look.filt.nodes.length k2) (.slice p3 o.look.back.nodes.length k3)) (hl : bs.length ≤ 700000000) :
    Calls Try.prog 32 #[.pointer (some ⟨W, 0, none⟩), .agg (OpO o p1 p2 p3 k1 k2 k3)] w (WrP w W bs vs (encOpr o)) := by
  have H := Lib.hid h
  have HB0 : Hid (Blk (w.alloc (.cells (OpO o p1 p2 p3 k1 k2 k3) 37)) w.heap.size 37 (OpO o p1 p2 p3 k1 k2 k3)) := Lib.hid (heap_alloc_new w _)
  have HW0 : Hid (Wr (w.alloc (.cells (OpO o p1 p2 p3 k1 k2 k3) 37)) W bs vs) := Lib.hid (h.alloc _)
  have HT0 : Hid (WTo W w vs (w.alloc (.cells (OpO o p1 p2 p3 k1 k2 k3) 37)) vs) := Lib.hid (WTo.other (Gou.Mod.alloc _ _ _) vs)
  have HR0 : Hid (LookR (fun b => b < W) (w.alloc (.cells (OpO o p1 p2 p3 k1 k2 k3) 37)) o.look (.slice p1 o.look.content.pix.length k1) (.slice p2 o.look.filt.nodes.length k2) (.slice p3 o.look.back.nodes.length k3)) := Lib.hid (hx.mod (Gou.Mod.alloc (fun _ => False) _ _) (fun _ _ _ h => h))
  have HS0 : Hid (((w.alloc (.cells (OpO o p1 p2 p3 k1 k2 k3) 37))).heap.size = w.heap.size + 1) := Lib.hid (by simp)
  have hWlt := Blk.lt h.box
  have HiL : Hid ((Try.prog.info? 35).map (·.size) = some (LkO o p1 p2 p3 k1 k2 k3).toList.length) := Lib.hid (size_look.trans (by simp [LkO, lookC]))
  have hvs := fun k hk => (H.out.own.lt k hk).2
  have Hvs := Lib.hid hvs
  clear h hx hvs
  have HK := Lib.hid hk
  clear hk
  have HF := Lib.hid hf
  clear hf
  go_enter Try.func32, Try.ntmps32
  have ka : ((w.alloc (.cells (OpO o p1 p2 p3 k1 k2 k3) 37))).cell? ⟨w.heap.size, 1, none⟩ = some (.int .i64 o.id.1) := HB0.out.cell 1 rfl
  have kb : ((w.alloc (.cells (OpO o p1 p2 p3 k1 k2 k3) 37))).cell? ⟨w.heap.size, 2, none⟩ = some (.int .i64 o.id.2) := HB0.out.cell 2 rfl
  have kc : ((w.alloc (.cells (OpO o p1 p2 p3 k1 k2 k3) 37))).cell? ⟨w.heap.size, 0, none⟩ = some (.int .i64 10) := (by rw [← HK.out]; exact HB0.out.cell 0 rfl)
  go_wp2_with fail
  generalize hW0 : (w.alloc (.cells (OpO o p1 p2 p3 k1 k2 k3) 37)) = w0 at *
  clear hW0
  refine (wid_any _ W bs vs o.id.1 o.id.2 HW0.out (by omega)).mono ?_
  rintro e w1 ⟨v1, t1, h1⟩
  have T1 := Lib.hid (HT0.out.trans t1)
  rcases hr1 : encNums [o.id.1, o.id.2] with _ | es1
  · rw [hr1] at h1
    subst h1
    exact ⟨rfl, v1, T1.out, by have hk := HK.out; simp [encOpr, hk, hr1]⟩
  rw [hr1] at h1
  obtain ⟨rfl, hw1⟩ := h1
  have Hr1 := Lib.hid hr1
  have Hw1 := Lib.hid hw1
  have Tk1 := Lib.hid t1
  clear hr1 hw1 t1
  have hE1 := encNums_len Hr1.out
  have HB1 : Hid (Blk w1 w.heap.size 37 (OpO o p1 p2 p3 k1 k2 k3)) := Lib.hid (HB0.out.mod Tk1.out.mod (fun e => by
    rcases e with e | e
    · omega
    · have := Hvs.out _ e; omega))
  have HR1 : Hid (LookR (fun b => b < W) w1 o.look (.slice p1 o.look.content.pix.length k1) (.slice p2 o.look.filt.nodes.length k2) (.slice p3 o.look.back.nodes.length k3)) := Lib.hid (HR0.out.mod (WTo.far Tk1.out HW0.out) (fun k _ hG hk => by omega))
  have Hv1 : Hid (∀ k, v1.ownBlock = some k → k ≠ w.heap.size ∧ k < w1.heap.size) := Lib.hid (fun k hk => ⟨fun e => by
    rcases Tk1.out.fresh _ hk with e2 | e2
    · have := Hvs.out _ e2; omega
    · have := HS0.out; omega, (Hw1.out.own.lt _ hk).2⟩)
  have hB1 := Blk.lt HB1.out
  clear ka kb kc
  have Hrg : Hid (w1.rangeAt w.heap.size 6 (LkO o p1 p2 p3 k1 k2 k3).toList) := Lib.hid (Blk.range (post := []) HB1.out (by rw [List.append_nil]; exact opr_look o _ _ _) rfl)
  have hA : Blk (w1.alloc (.cells LkZ 35)) w1.heap.size 35 LkZ := heap_alloc_new w1 _
  have Hth : Hid ((w1.alloc (.cells LkZ 35)).there w1.heap.size 0 (LkO o p1 p2 p3 k1 k2 k3).size) := Lib.hid (hA.there 0 _ (by rw [LkO_size]; simp))
  have HiL2 : Hid ((Try.prog.info? 35).map (·.size) = some (LkO o p1 p2 p3 k1 k2 k3).size) := Lib.hid (size_look.trans (by rw [LkO_size]))
  have hA2 := hA.sets 0 (LkO o p1 p2 p3 k1 k2 k3).toList
  rw [setMany_all _ _ (by simp [LkO, lookC])] at hA2
  have hM2 : Gou.Mod (fun k => k = w1.heap.size) w1 ((w1.alloc (.cells LkZ 35)).setCells w1.heap.size 0 (LkO o p1 p2 p3 k1 k2 k3).toList) := (Gou.Mod.alloc _ _ _).trans' (Blk.setMod _ _ _ _)
  have HW2 : Hid (Wr ((w1.alloc (.cells LkZ 35)).setCells w1.heap.size 0 (LkO o p1 p2 p3 k1 k2 k3).toList) W _ v1) := Lib.hid (Hw1.out.other hM2 (by have := Blk.lt Hw1.out.box; omega) (fun k hk e => by have := (Hv1.out k hk).2; omega))
  have HL2 : Hid (Blk ((w1.alloc (.cells LkZ 35)).setCells w1.heap.size 0 (LkO o p1 p2 p3 k1 k2 k3).toList) w1.heap.size 35 (LkO o p1 p2 p3 k1 k2 k3)) := Lib.hid hA2
  have HB2 : Hid (Blk ((w1.alloc (.cells LkZ 35)).setCells w1.heap.size 0 (LkO o p1 p2 p3 k1 k2 k3).toList) w.heap.size 37 (OpO o p1 p2 p3 k1 k2 k3)) := Lib.hid (HB1.out.mod hM2 (by omega))
  have HR2 : Hid (LookR (fun b => b < W) ((w1.alloc (.cells LkZ 35)).setCells w1.heap.size 0 (LkO o p1 p2 p3 k1 k2 k3).toList) o.look (.slice p1 o.look.content.pix.length k1) (.slice p2 o.look.filt.nodes.length k2) (.slice p3 o.look.back.nodes.length k3)) := Lib.hid (HR1.out.mod hM2 (fun k _ hG e => by have := Blk.lt Hw1.out.box; omega))
  have T2a : Hid (WTo W w vs ((w1.alloc (.cells LkZ 35)).setCells w1.heap.size 0 (LkO o p1 p2 p3 k1 k2 k3).toList) v1) := Lib.hid (T1.out.trans ⟨((Gou.Mod.alloc (fun _ => False) w1 _).trans (Blk.setMod _ w1.heap.size 0 _) (fun i hi e => by omega)).imp (fun _ _ h => h.elim), fun g hg => .inl hg⟩)
  have HS2 : Hid ((((w1.alloc (.cells LkZ 35)).setCells w1.heap.size 0 (LkO o p1 p2 p3 k1 k2 k3).toList)).heap.size = w1.heap.size + 1) := Lib.hid (by rw [size_setCells]; simp)
  have kd : (((w1.alloc (.cells LkZ 35)).setCells w1.heap.size 0 (LkO o p1 p2 p3 k1 k2 k3).toList)).cell? ⟨w.heap.size, 0, none⟩ = some (.int .i64 10) := (by rw [← HK.out]; exact HB2.out.cell 0 rfl)
  clear hA hA2 hM2
  have c22 : (((w1.alloc (.cells LkZ 35)).setCells w1.heap.size 0 (LkO o p1 p2 p3 k1 k2 k3).toList)).cell? ⟨w1.heap.size, 22, none⟩ = some (.bool false) := (HL2.out.cell (u := .bool o.look.hasFilt) 22 rfl).trans (congrArg (fun b => some (Value.bool b)) HF.out)
  go_wp2_with (first | ((with_reducible refine wpList_load_mid ?g_f 35 ?x_f ?o_f w.heap.size 6 ?h_f (LkO o p1 p2 p3 k1 k2 k3).toList ?d_f ?c_f ?u_f ?s_f ?i_f ?r_f); (case g_f | o_f | h_f => exact rfl); (case c_f => exact Hrg.out); (case u_f => exact Try.underlying35); (case s_f => exact rfl); (case i_f => exact HiL.out)) | ((with_reducible refine wpList_store_mid ?g_g 35 ?x_g ?y_g ?o_g w1.heap.size 0 (LkO o p1 p2 p3 k1 k2 k3) ?h_g ?j_g ?t_g ?i_g ?s_g ?r_g); (case g_g | o_g | h_g | j_g => exact rfl); (case t_g => exact Hth.out); (case i_g => exact HiL2.out); (case s_g => exact LkO_one _ _ _ _ _ _ _)) | fail)
  generalize hW2 : ((w1.alloc (.cells LkZ 35)).setCells w1.heap.size 0 (LkO o p1 p2 p3 k1 k2 k3).toList) = wq at *
  clear hW2 kd
  refine (wflag_any _ W _ v1 false HW2.out (by (try simp only [List.length_append, List.length_cons, List.length_nil] at *); omega)).mono ?_
  rintro e w2 ⟨v2, t2, h2⟩
  have T2 := Lib.hid (T2a.out.trans t2)
  rcases hr2 : encNums [if false = true then 1 else 0] with _ | es2
  · rw [hr2] at h2
    subst h2
    exact ⟨rfl, v2, T2.out, by have g1 := Hr1.out; have g2 := hr2; simp at g2; simp [encOpr, HK.out, HF.out, g1, g2]⟩
  rw [hr2] at h2
  obtain ⟨rfl, hw2⟩ := h2
  have Hr2 := Lib.hid hr2
  have Hw2 := Lib.hid hw2
  have Tk2 := Lib.hid t2
  clear hr2 hw2 t2
  have HL3 : Hid (Blk w2 w1.heap.size 35 (LkO o p1 p2 p3 k1 k2 k3)) := Lib.hid (HL2.out.mod Tk2.out.mod (fun e => by
    rcases e with e | e
    · have := Blk.lt Hw1.out.box; omega
    · have := (Hv1.out _ e).2; omega))
  have HR3 : Hid (LookR (fun b => b < W) w2 o.look (.slice p1 o.look.content.pix.length k1) (.slice p2 o.look.filt.nodes.length k2) (.slice p3 o.look.back.nodes.length k3)) := Lib.hid (HR2.out.mod (WTo.far Tk2.out HW2.out) (fun k _ hG hk => by omega))
  have hE2 := encNums_len Hr2.out
  have d22 : w2.cell? ⟨w1.heap.size, 22, none⟩ = some (.bool false) := (HL3.out.cell (u := .bool o.look.hasFilt) 22 rfl).trans (congrArg (fun b => some (Value.bool b)) HF.out)
  clear c22
  go_wp2_with fail
  go_end0
  exact ⟨v2, T2.out, by
    have g1 := Hr1.out
    have g2 := Hr2.out
    simp at g2
    simp [encOpr, HK.out, HF.out, g1, g2]
    simpa using Hw2.out⟩

set_option maxHeartbeats 2000000 in
theorem wop_10t (w : World) (W : Nat) (bs : List Nat) (vs : Value) (p1 : Option Addr) (k1 : Nat) (p2 : Option Addr) (k2 : Nat) (p3 : Option Addr) (k3 : Nat) (o : Opr) (hk : o.kind = 10) (hf : o.look.hasFilt = true) (h : Wr w W bs vs) (hx : LookR (fun b => b < W) w o.look (.slice p1 o.look.content.pix.length k1) (.slice p2 o.look.filt.nodes.length k2) (.slice p3 o.look.back.nodes.length k3)) (hl : bs.length ≤ 700000000) :
    Calls Try.prog 32 #[.pointer (some ⟨W, 0, none⟩), .agg (OpO o p1 p2 p3 k1 k2 k3)] w (WrP w W bs vs (encOpr o)) := by
  have H := Lib.hid h
  have HB0 : Hid (Blk (w.alloc (.cells (OpO o p1 p2 p3 k1 k2 k3) 37)) w.heap.size 37 (OpO o p1 p2 p3 k1 k2 k3)) := Lib.hid (heap_alloc_new w _)
  have HW0 : Hid (Wr (w.alloc (.cells (OpO o p1 p2 p3 k1 k2 k3) 37)) W bs vs) := Lib.hid (h.alloc _)
  have HT0 : Hid (WTo W w vs (w.alloc (.cells (OpO o p1 p2 p3 k1 k2 k3) 37)) vs) := Lib.hid (WTo.other (Gou.Mod.alloc _ _ _) vs)
  have HR0 : Hid (LookR (fun b => b < W) (w.alloc (.cells (OpO o p1 p2 p3 k1 k2 k3) 37)) o.look (.slice p1 o.look.content.pix.length k1) (.slice p2 o.look.filt.nodes.length k2) (.slice p3 o.look.back.nodes.length k3)) := Lib.hid (hx.mod (Gou.Mod.alloc (fun _ => False) _ _) (fun _ _ _ h => h))
  have HS0 : Hid (((w.alloc (.cells (OpO o p1 p2 p3 k1 k2 k3) 37))).heap.size = w.heap.size + 1) := Lib.hid (by simp)
  have hWlt := Blk.lt h.box
  have HiL : Hid ((Try.prog.info? 35).map (·.size) = some (LkO o p1 p2 p3 k1 k2 k3).toList.length) := Lib.hid (size_look.trans (by simp [LkO, lookC]))
  have hvs := fun k hk => (H.out.own.lt k hk).2
  have Hvs := Lib.hid hvs
  clear h hx hvs
  have HK := Lib.hid hk
  clear hk
  have HF := Lib.hid hf
  clear hf
  go_enter Try.func32, Try.ntmps32
  have ka : ((w.alloc (.cells (OpO o p1 p2 p3 k1 k2 k3) 37))).cell? ⟨w.heap.size, 1, none⟩ = some (.int .i64 o.id.1) := HB0.out.cell 1 rfl
  have kb : ((w.alloc (.cells (OpO o p1 p2 p3 k1 k2 k3) 37))).cell? ⟨w.heap.size, 2, none⟩ = some (.int .i64 o.id.2) := HB0.out.cell 2 rfl
  have kc : ((w.alloc (.cells (OpO o p1 p2 p3 k1 k2 k3) 37))).cell? ⟨w.heap.size, 0, none⟩ = some (.int .i64 10) := (by rw [← HK.out]; exact HB0.out.cell 0 rfl)
  go_wp2_with fail
  generalize hW0 : (w.alloc (.cells (OpO o p1 p2 p3 k1 k2 k3) 37)) = w0 at *
  clear hW0
  refine (wid_any _ W bs vs o.id.1 o.id.2 HW0.out (by omega)).mono ?_
  rintro e w1 ⟨v1, t1, h1⟩
  have T1 := Lib.hid (HT0.out.trans t1)
  rcases hr1 : encNums [o.id.1, o.id.2] with _ | es1
  · rw [hr1] at h1
    subst h1
    exact ⟨rfl, v1, T1.out, by have hk := HK.out; simp [encOpr, hk, hr1]⟩
  rw [hr1] at h1
  obtain ⟨rfl, hw1⟩ := h1
  have Hr1 := Lib.hid hr1
  have Hw1 := Lib.hid hw1
  have Tk1 := Lib.hid t1
  clear hr1 hw1 t1
  have hE1 := encNums_len Hr1.out
  have HB1 : Hid (Blk w1 w.heap.size 37 (OpO o p1 p2 p3 k1 k2 k3)) := Lib.hid (HB0.out.mod Tk1.out.mod (fun e => by
    rcases e with e | e
    · omega
    · have := Hvs.out _ e; omega))
  have HR1 : Hid (LookR (fun b => b < W) w1 o.look (.slice p1 o.look.content.pix.length k1) (.slice p2 o.look.filt.nodes.length k2) (.slice p3 o.look.back.nodes.length k3)) := Lib.hid (HR0.out.mod (WTo.far Tk1.out HW0.out) (fun k _ hG hk => by omega))
  have Hv1 : Hid (∀ k, v1.ownBlock = some k → k ≠ w.heap.size ∧ k < w1.heap.size) := Lib.hid (fun k hk => ⟨fun e => by
    rcases Tk1.out.fresh _ hk with e2 | e2
    · have := Hvs.out _ e2; omega
    · have := HS0.out; omega, (Hw1.out.own.lt _ hk).2⟩)
  have hB1 := Blk.lt HB1.out
  clear ka kb kc
  have Hrg : Hid (w1.rangeAt w.heap.size 6 (LkO o p1 p2 p3 k1 k2 k3).toList) := Lib.hid (Blk.range (post := []) HB1.out (by rw [List.append_nil]; exact opr_look o _ _ _) rfl)
  have hA : Blk (w1.alloc (.cells LkZ 35)) w1.heap.size 35 LkZ := heap_alloc_new w1 _
  have Hth : Hid ((w1.alloc (.cells LkZ 35)).there w1.heap.size 0 (LkO o p1 p2 p3 k1 k2 k3).size) := Lib.hid (hA.there 0 _ (by rw [LkO_size]; simp))
  have HiL2 : Hid ((Try.prog.info? 35).map (·.size) = some (LkO o p1 p2 p3 k1 k2 k3).size) := Lib.hid (size_look.trans (by rw [LkO_size]))
  have hA2 := hA.sets 0 (LkO o p1 p2 p3 k1 k2 k3).toList
  rw [setMany_all _ _ (by simp [LkO, lookC])] at hA2
  have hM2 : Gou.Mod (fun k => k = w1.heap.size) w1 ((w1.alloc (.cells LkZ 35)).setCells w1.heap.size 0 (LkO o p1 p2 p3 k1 k2 k3).toList) := (Gou.Mod.alloc _ _ _).trans' (Blk.setMod _ _ _ _)
  have HW2 : Hid (Wr ((w1.alloc (.cells LkZ 35)).setCells w1.heap.size 0 (LkO o p1 p2 p3 k1 k2 k3).toList) W _ v1) := Lib.hid (Hw1.out.other hM2 (by have := Blk.lt Hw1.out.box; omega) (fun k hk e => by have := (Hv1.out k hk).2; omega))
  have HL2 : Hid (Blk ((w1.alloc (.cells LkZ 35)).setCells w1.heap.size 0 (LkO o p1 p2 p3 k1 k2 k3).toList) w1.heap.size 35 (LkO o p1 p2 p3 k1 k2 k3)) := Lib.hid hA2
  have HB2 : Hid (Blk ((w1.alloc (.cells LkZ 35)).setCells w1.heap.size 0 (LkO o p1 p2 p3 k1 k2 k3).toList) w.heap.size 37 (OpO o p1 p2 p3 k1 k2 k3)) := Lib.hid (HB1.out.mod hM2 (by omega))
  have HR2 : Hid (LookR (fun b => b < W) ((w1.alloc (.cells LkZ 35)).setCells w1.heap.size 0 (LkO o p1 p2 p3 k1 k2 k3).toList) o.look (.slice p1 o.look.content.pix.length k1) (.slice p2 o.look.filt.nodes.length k2) (.slice p3 o.look.back.nodes.length k3)) := Lib.hid (HR1.out.mod hM2 (fun k _ hG e => by have := Blk.lt Hw1.out.box; omega))
  have T2a : Hid (WTo W w vs ((w1.alloc (.cells LkZ 35)).setCells w1.heap.size 0 (LkO o p1 p2 p3 k1 k2 k3).toList) v1) := Lib.hid (T1.out.trans ⟨((Gou.Mod.alloc (fun _ => False) w1 _).trans (Blk.setMod _ w1.heap.size 0 _) (fun i hi e => by omega)).imp (fun _ _ h => h.elim), fun g hg => .inl hg⟩)
  have HS2 : Hid ((((w1.alloc (.cells LkZ 35)).setCells w1.heap.size 0 (LkO o p1 p2 p3 k1 k2 k3).toList)).heap.size = w1.heap.size + 1) := Lib.hid (by rw [size_setCells]; simp)
  have kd : (((w1.alloc (.cells LkZ 35)).setCells w1.heap.size 0 (LkO o p1 p2 p3 k1 k2 k3).toList)).cell? ⟨w.heap.size, 0, none⟩ = some (.int .i64 10) := (by rw [← HK.out]; exact HB2.out.cell 0 rfl)
  clear hA hA2 hM2
  have c22 : (((w1.alloc (.cells LkZ 35)).setCells w1.heap.size 0 (LkO o p1 p2 p3 k1 k2 k3).toList)).cell? ⟨w1.heap.size, 22, none⟩ = some (.bool true) := (HL2.out.cell (u := .bool o.look.hasFilt) 22 rfl).trans (congrArg (fun b => some (Value.bool b)) HF.out)
  go_wp2_with (first | ((with_reducible refine wpList_load_mid ?g_h 35 ?x_h ?o_h w.heap.size 6 ?h_h (LkO o p1 p2 p3 k1 k2 k3).toList ?d_h ?c_h ?u_h ?s_h ?i_h ?r_h); (case g_h | o_h | h_h => exact rfl); (case c_h => exact Hrg.out); (case u_h => exact Try.underlying35); (case s_h => exact rfl); (case i_h => exact HiL.out)) | ((with_reducible refine wpList_store_mid ?g_i 35 ?x_i ?y_i ?o_i w1.heap.size 0 (LkO o p1 p2 p3 k1 k2 k3) ?h_i ?j_i ?t_i ?i_i ?s_i ?r_i); (case g_i | o_i | h_i | j_i => exact rfl); (case t_i => exact Hth.out); (case i_i => exact HiL2.out); (case s_i => exact LkO_one _ _ _ _ _ _ _)) | fail)
  generalize hW2 : ((w1.alloc (.cells LkZ 35)).setCells w1.heap.size 0 (LkO o p1 p2 p3 k1 k2 k3).toList) = wq at *
  clear hW2 kd
  refine (wflag_any _ W _ v1 true HW2.out (by (try simp only [List.length_append, List.length_cons, List.length_nil] at *); omega)).mono ?_
  rintro e w2 ⟨v2, t2, h2⟩
  have T2 := Lib.hid (T2a.out.trans t2)
  rcases hr2 : encNums [if true = true then 1 else 0] with _ | es2
  · rw [hr2] at h2
    subst h2
    exact ⟨rfl, v2, T2.out, by have g1 := Hr1.out; have g2 := hr2; simp at g2; simp [encOpr, HK.out, HF.out, g1, g2]⟩
  rw [hr2] at h2
  obtain ⟨rfl, hw2⟩ := h2
  have Hr2 := Lib.hid hr2
  have Hw2 := Lib.hid hw2
  have Tk2 := Lib.hid t2
  clear hr2 hw2 t2
  have HL3 : Hid (Blk w2 w1.heap.size 35 (LkO o p1 p2 p3 k1 k2 k3)) := Lib.hid (HL2.out.mod Tk2.out.mod (fun e => by
    rcases e with e | e
    · have := Blk.lt Hw1.out.box; omega
    · have := (Hv1.out _ e).2; omega))
  have HR3 : Hid (LookR (fun b => b < W) w2 o.look (.slice p1 o.look.content.pix.length k1) (.slice p2 o.look.filt.nodes.length k2) (.slice p3 o.look.back.nodes.length k3)) := Lib.hid (HR2.out.mod (WTo.far Tk2.out HW2.out) (fun k _ hG hk => by omega))
  have hE2 := encNums_len Hr2.out
  have d22 : w2.cell? ⟨w1.heap.size, 22, none⟩ = some (.bool true) := (HL3.out.cell (u := .bool o.look.hasFilt) 22 rfl).trans (congrArg (fun b => some (Value.bool b)) HF.out)
  have d23 : w2.cell? ⟨w1.heap.size, 23, none⟩ = some (.slice p2 o.look.filt.nodes.length k2) := HL3.out.cell 23 rfl
  have d24 : w2.cell? ⟨w1.heap.size, 24, none⟩ = some (.int .i64 o.look.filt.out) := HL3.out.cell 24 rfl
  clear c22
  go_wp2_with fail
  refine (wgraph_any _ W _ v2 p2 k2 o.look.filt Hw2.out HR3.out.filt (by (try simp only [List.length_append, List.length_cons, List.length_nil] at *); omega)).mono ?_
  rintro e w3 ⟨v3, t3, h3⟩
  have T3 := Lib.hid (T2.out.trans t3)
  rcases hr3 : encGraph o.look.filt with _ | es3
  · rw [hr3] at h3
    subst h3
    exact ⟨rfl, v3, T3.out, by have g1 := Hr1.out; have g2 := Hr2.out; simp at g2; simp [encOpr, HK.out, HF.out, g1, g2, hr3]⟩
  rw [hr3] at h3
  obtain ⟨rfl, hw3⟩ := h3
  have Hr3 := Lib.hid hr3
  have Hw3 := Lib.hid hw3
  have Tk3 := Lib.hid t3
  clear hr3 hw3 t3
  go_wp2_with fail
  go_end0
  exact ⟨v3, T3.out, by
    have g1 := Hr1.out
    have g2 := Hr2.out
    have g3 := Hr3.out
    simp at g2
    simp [encOpr, HK.out, HF.out, g1, g2, g3]
    simpa using Hw3.out⟩

set_option maxHeartbeats 2000000 in
theorem wop_11f (w : World) (W : Nat) (bs : List Nat) (vs : Value) (p1 : Option Addr) (k1 : Nat) (p2 : Option Addr) (k2 : Nat) (p3 : Option Addr) (k3 : Nat) (o : Opr) (hk : o.kind = 11) (hf : o.look.hasBack = false) (h : Wr w W bs vs) (hx : LookR (fun b => b < W) w o.look (.slice p1 o.look.content.pix.length k1) (.slice p2 o.look.filt.nodes.length k2) (.slice p3 o.look.back.nodes.length k3)) (hl : bs.length ≤ 700000000) :
    Calls Try.prog 32 #[.pointer (some ⟨W, 0, none⟩), .agg (OpO o p1 p2 p3 k1 k2 k3)] w (WrP w W bs vs (encOpr o)) := by
  have H := Lib.hid h
  have HB0 : Hid (Blk (w.alloc (.cells (OpO o p1 p2 p3 k1 k2 k3) 37)) w.heap.size 37 (OpO o p1 p2 p3 k1 k2 k3)) := Lib.hid (heap_alloc_new w _)
  have HW0 : Hid (Wr (w.alloc (.cells (OpO o p1 p2 p3 k1 k2 k3) 37)) W bs vs) := Lib.hid (h.alloc _)
  have HT0 : Hid (WTo W w vs (w.alloc (.cells (OpO o p1 p2 p3 k1 k2 k3) 37)) vs) := Lib.hid (WTo.other (Gou.Mod.alloc _ _ _) vs)
  have HR0 : Hid (LookR (fun b => b < W) (w.alloc (.cells (OpO o p1 p2 p3 k1 k2 k3) 37)) o.look (.slice p1 o.look.content.pix.length k1) (.slice p2 o.look.filt.nodes.length k2) (.slice p3 o.look.back.nodes.length k3)) := Lib.hid (hx.mod (Gou.Mod.alloc (fun _ => False) _ _) (fun _ _ _ h => h))
  have HS0 : Hid (((w.alloc (.cells (OpO o p1 p2 p3 k1 k2 k3) 37))).heap.size = w.heap.size + 1) := Lib.hid (by simp)
  have hWlt := Blk.lt h.box
  have HiL : Hid ((Try.prog.info? 35).map (·.size) = some (LkO o p1 p2 p3 k1 k2 k3).toList.length) := Lib.hid (size_look.trans (by simp [LkO, lookC]))
  have hvs := fun k hk => (H.out.own.lt k hk).2
  have Hvs := Lib.hid hvs
  clear h hx hvs
  have HK := Lib.hid hk
  clear hk
  have HF := Lib.hid hf
  clear hf
  go_enter Try.func32, Try.ntmps32
  have ka : ((w.alloc (.cells (OpO o p1 p2 p3 k1 k2 k3) 37))).cell? ⟨w.heap.size, 1, none⟩ = some (.int .i64 o.id.1) := HB0.out.cell 1 rfl
  have kb : ((w.alloc (.cells (OpO o p1 p2 p3 k1 k2 k3) 37))).cell? ⟨w.heap.size, 2, none⟩ = some (.int .i64 o.id.2) := HB0.out.cell 2 rfl
  have kc : ((w.alloc (.cells (OpO o p1 p2 p3 k1 k2 k3) 37))).cell? ⟨w.heap.size, 0, none⟩ = some (.int .i64 11) := (by rw [← HK.out]; exact HB0.out.cell 0 rfl)
  go_wp2_with fail
  generalize hW0 : (w.alloc (.cells (OpO o p1 p2 p3 k1 k2 k3) 37)) = w0 at *
  clear hW0
  refine (wid_any _ W bs vs o.id.1 o.id.2 HW0.out (by omega)).mono ?_
  rintro e w1 ⟨v1, t1, h1⟩
  have T1 := Lib.hid (HT0.out.trans t1)
  rcases hr1 : encNums [o.id.1, o.id.2] with _ | es1
  · rw [hr1] at h1
    subst h1
    exact ⟨rfl, v1, T1.out, by have hk := HK.out; simp [encOpr, hk, hr1]⟩
  rw [hr1] at h1
  obtain ⟨rfl, hw1⟩ := h1
  have Hr1 := Lib.hid hr1
  have Hw1 := Lib.hid hw1
  have Tk1 := Lib.hid t1
  clear hr1 hw1 t1
  have hE1 := encNums_len Hr1.out
  have HB1 : Hid (Blk w1 w.heap.size 37 (OpO o p1 p2 p3 k1 k2 k3)) := Lib.hid (HB0.out.mod Tk1.out.mod (fun e => by
    rcases e with e | e
    · omega
    · have := Hvs.out _ e; omega))
  have HR1 : Hid (LookR (fun b => b < W) w1 o.look (.slice p1 o.look.content.pix.length k1) (.slice p2 o.look.filt.nodes.length k2) (.slice p3 o.look.back.nodes.length k3)) := Lib.hid (HR0.out.mod (WTo.far Tk1.out HW0.out) (fun k _ hG hk => by omega))
  have Hv1 : Hid (∀ k, v1.ownBlock = some k → k ≠ w.heap.size ∧ k < w1.heap.size) := Lib.hid (fun k hk => ⟨fun e => by
    rcases Tk1.out.fresh _ hk with e2 | e2
    · have := Hvs.out _ e2; omega
    · have := HS0.out; omega, (Hw1.out.own.lt _ hk).2⟩)
  have hB1 := Blk.lt HB1.out
  clear ka kb kc
  have Hrg : Hid (w1.rangeAt w.heap.size 6 (LkO o p1 p2 p3 k1 k2 k3).toList) := Lib.hid (Blk.range (post := []) HB1.out (by rw [List.append_nil]; exact opr_look o _ _ _) rfl)
  have hA : Blk (w1.alloc (.cells LkZ 35)) w1.heap.size 35 LkZ := heap_alloc_new w1 _
  have Hth : Hid ((w1.alloc (.cells LkZ 35)).there w1.heap.size 0 (LkO o p1 p2 p3 k1 k2 k3).size) := Lib.hid (hA.there 0 _ (by rw [LkO_size]; simp))
  have HiL2 : Hid ((Try.prog.info? 35).map (·.size) = some (LkO o p1 p2 p3 k1 k2 k3).size) := Lib.hid (size_look.trans (by rw [LkO_size]))
  have hA2 := hA.sets 0 (LkO o p1 p2 p3 k1 k2 k3).toList
  rw [setMany_all _ _ (by simp [LkO, lookC])] at hA2
  have hM2 : Gou.Mod (fun k => k = w1.heap.size) w1 ((w1.alloc (.cells LkZ 35)).setCells w1.heap.size 0 (LkO o p1 p2 p3 k1 k2 k3).toList) := (Gou.Mod.alloc _ _ _).trans' (Blk.setMod _ _ _ _)
  have HW2 : Hid (Wr ((w1.alloc (.cells LkZ 35)).setCells w1.heap.size 0 (LkO o p1 p2 p3 k1 k2 k3).toList) W _ v1) := Lib.hid (Hw1.out.other hM2 (by have := Blk.lt Hw1.out.box; omega) (fun k hk e => by have := (Hv1.out k hk).2; omega))
  have HL2 : Hid (Blk ((w1.alloc (.cells LkZ 35)).setCells w1.heap.size 0 (LkO o p1 p2 p3 k1 k2 k3).toList) w1.heap.size 35 (LkO o p1 p2 p3 k1 k2 k3)) := Lib.hid hA2
  have HB2 : Hid (Blk ((w1.alloc (.cells LkZ 35)).setCells w1.heap.size 0 (LkO o p1 p2 p3 k1 k2 k3).toList) w.heap.size 37 (OpO o p1 p2 p3 k1 k2 k3)) := Lib.hid (HB1.out.mod hM2 (by omega))
  have HR2 : Hid (LookR (fun b => b < W) ((w1.alloc (.cells LkZ 35)).setCells w1.heap.size 0 (LkO o p1 p2 p3 k1 k2 k3).toList) o.look (.slice p1 o.look.content.pix.length k1) (.slice p2 o.look.filt.nodes.length k2) (.slice p3 o.look.back.nodes.length k3)) := Lib.hid (HR1.out.mod hM2 (fun k _ hG e => by have := Blk.lt Hw1.out.box; omega))
  have T2a : Hid (WTo W w vs ((w1.alloc (.cells LkZ 35)).setCells w1.heap.size 0 (LkO o p1 p2 p3 k1 k2 k3).toList) v1) := Lib.hid (T1.out.trans ⟨((Gou.Mod.alloc (fun _ => False) w1 _).trans (Blk.setMod _ w1.heap.size 0 _) (fun i hi e => by omega)).imp (fun _ _ h => h.elim), fun g hg => .inl hg⟩)
  have HS2 : Hid ((((w1.alloc (.cells LkZ 35)).setCells w1.heap.size 0 (LkO o p1 p2 p3 k1 k2 k3).toList)).heap.size = w1.heap.size + 1) := Lib.hid (by rw [size_setCells]; simp)
  have kd : (((w1.alloc (.cells LkZ 35)).setCells w1.heap.size 0 (LkO o p1 p2 p3 k1 k2 k3).toList)).cell? ⟨w.heap.size, 0, none⟩ = some (.int .i64 11) := (by rw [← HK.out]; exact HB2.out.cell 0 rfl)
  clear hA hA2 hM2
  have c25 : (((w1.alloc (.cells LkZ 35)).setCells w1.heap.size 0 (LkO o p1 p2 p3 k1 k2 k3).toList)).cell? ⟨w1.heap.size, 25, none⟩ = some (.bool false) := (HL2.out.cell (u := .bool o.look.hasBack) 25 rfl).trans (congrArg (fun b => some (Value.bool b)) HF.out)
  go_wp2_with (first | ((with_reducible refine wpList_load_mid ?g_j 35 ?x_j ?o_j w.heap.size 6 ?h_j (LkO o p1 p2 p3 k1 k2 k3).toList ?d_j ?c_j ?u_j ?s_j ?i_j ?r_j); (case g_j | o_j | h_j => exact rfl); (case c_j => exact Hrg.out); (case u_j => exact Try.underlying35); (case s_j => exact rfl); (case i_j => exact HiL.out)) | ((with_reducible refine wpList_store_mid ?g_k 35 ?x_k ?y_k ?o_k w1.heap.size 0 (LkO o p1 p2 p3 k1 k2 k3) ?h_k ?j_k ?t_k ?i_k ?s_k ?r_k); (case g_k | o_k | h_k | j_k => exact rfl); (case t_k => exact Hth.out); (case i_k => exact HiL2.out); (case s_k => exact LkO_one _ _ _ _ _ _ _)) | fail)
  generalize hW2 : ((w1.alloc (.cells LkZ 35)).setCells w1.heap.size 0 (LkO o p1 p2 p3 k1 k2 k3).toList) = wq at *
  clear hW2 kd
  refine (wflag_any _ W _ v1 false HW2.out (by (try simp only [List.length_append, List.length_cons, List.length_nil] at *); omega)).mono ?_
  rintro e w2 ⟨v2, t2, h2⟩
  have T2 := Lib.hid (T2a.out.trans t2)
  rcases hr2 : encNums [if false = true then 1 else 0] with _ | es2
  · rw [hr2] at h2
    subst h2
    exact ⟨rfl, v2, T2.out, by have g1 := Hr1.out; have g2 := hr2; simp at g2; simp [encOpr, HK.out, HF.out, g1, g2]⟩
  rw [hr2] at h2
  obtain ⟨rfl, hw2⟩ := h2
  have Hr2 := Lib.hid hr2
  have Hw2 := Lib.hid hw2
  have Tk2 := Lib.hid t2
  clear hr2 hw2 t2
  have HL3 : Hid (Blk w2 w1.heap.size 35 (LkO o p1 p2 p3 k1 k2 k3)) := Lib.hid (HL2.out.mod Tk2.out.mod (fun e => by
    rcases e with e | e
    · have := Blk.lt Hw1.out.box; omega
    · have := (Hv1.out _ e).2; omega))
  have HR3 : Hid (LookR (fun b => b < W) w2 o.look (.slice p1 o.look.content.pix.length k1) (.slice p2 o.look.filt.nodes.length k2) (.slice p3 o.look.back.nodes.length k3)) := Lib.hid (HR2.out.mod (WTo.far Tk2.out HW2.out) (fun k _ hG hk => by omega))
  have hE2 := encNums_len Hr2.out
  have d25 : w2.cell? ⟨w1.heap.size, 25, none⟩ = some (.bool false) := (HL3.out.cell (u := .bool o.look.hasBack) 25 rfl).trans (congrArg (fun b => some (Value.bool b)) HF.out)
  clear c25
  go_wp2_with fail
  go_end0
  exact ⟨v2, T2.out, by
    have g1 := Hr1.out
    have g2 := Hr2.out
    simp at g2
    simp [encOpr, HK.out, HF.out, g1, g2]
    simpa using Hw2.out⟩

set_option maxHeartbeats 2000000 in
theorem wop_11t (w : World) (W : Nat) (bs : List Nat) (vs : Value) (p1 : Option Addr) (k1 : Nat) (p2 : Option Addr) (k2 : Nat) (p3 : Option Addr) (k3 : Nat) (o : Opr) (hk : o.kind = 11) (hf : o.look.hasBack = true) (h : Wr w W bs vs) (hx : LookR (fun b => b < W) w o.look (.slice p1 o.look.content.pix.length k1) (.slice p2 o.look.filt.nodes.length k2) (.slice p3 o.look.back.nodes.length k3)) (hl : bs.length ≤ 700000000) :
    Calls Try.prog 32 #[.pointer (some ⟨W, 0, none⟩), .agg (OpO o p1 p2 p3 k1 k2 k3)] w (WrP w W bs vs (encOpr o)) := by
  have H := Lib.hid h
  have HB0 : Hid (Blk (w.alloc (.cells (OpO o p1 p2 p3 k1 k2 k3) 37)) w.heap.size 37 (OpO o p1 p2 p3 k1 k2 k3)) := Lib.hid (heap_alloc_new w _)
  have HW0 : Hid (Wr (w.alloc (.cells (OpO o p1 p2 p3 k1 k2 k3) 37)) W bs vs) := Lib.hid (h.alloc _)
  have HT0 : Hid (WTo W w vs (w.alloc (.cells (OpO o p1 p2 p3 k1 k2 k3) 37)) vs) := Lib.hid (WTo.other (Gou.Mod.alloc _ _ _) vs)
  have HR0 : Hid (LookR (fun b => b < W) (w.alloc (.cells (OpO o p1 p2 p3 k1 k2 k3) 37)) o.look (.slice p1 o.look.content.pix.length k1) (.slice p2 o.look.filt.nodes.length k2) (.slice p3 o.look.back.nodes.length k3)) := Lib.hid (hx.mod (Gou.Mod.alloc (fun _ => False) _ _) (fun _ _ _ h => h))
  have HS0 : Hid (((w.alloc (.cells (OpO o p1 p2 p3 k1 k2 k3) 37))).heap.size = w.heap.size + 1) := Lib.hid (by simp)
  have hWlt := Blk.lt h.box
  have HiL : Hid ((Try.prog.info? 35).map (·.size) = some (LkO o p1 p2 p3 k1 k2 k3).toList.length) := Lib.hid (size_look.trans (by simp [LkO, lookC]))
  have hvs := fun k hk => (H.out.own.lt k hk).2
  have Hvs := Lib.hid hvs
  clear h hx hvs
  have HK := Lib.hid hk
  clear hk
  have HF := Lib.hid hf
  clear hf
  go_enter Try.func32, Try.ntmps32
  have ka : ((w.alloc (.cells (OpO o p1 p2 p3 k1 k2 k3) 37))).cell? ⟨w.heap.size, 1, none⟩ = some (.int .i64 o.id.1) := HB0.out.cell 1 rfl
  have kb : ((w.alloc (.cells (OpO o p1 p2 p3 k1 k2 k3) 37))).cell? ⟨w.heap.size, 2, none⟩ = some (.int .i64 o.id.2) := HB0.out.cell 2 rfl
  have kc : ((w.alloc (.cells (OpO o p1 p2 p3 k1 k2 k3) 37))).cell? ⟨w.heap.size, 0, none⟩ = some (.int .i64 11) := (by rw [← HK.out]; exact HB0.out.cell 0 rfl)
  go_wp2_with fail
  generalize hW0 : (w.alloc (.cells (OpO o p1 p2 p3 k1 k2 k3) 37)) = w0 at *
  clear hW0
  refine (wid_any _ W bs vs o.id.1 o.id.2 HW0.out (by omega)).mono ?_
  rintro e w1 ⟨v1, t1, h1⟩
  have T1 := Lib.hid (HT0.out.trans t1)
  rcases hr1 : encNums [o.id.1, o.id.2] with _ | es1
  · rw [hr1] at h1
    subst h1
    exact ⟨rfl, v1, T1.out, by have hk := HK.out; simp [encOpr, hk, hr1]⟩
  rw [hr1] at h1
  obtain ⟨rfl, hw1⟩ := h1
  have Hr1 := Lib.hid hr1
  have Hw1 := Lib.hid hw1
  have Tk1 := Lib.hid t1
  clear hr1 hw1 t1
  have hE1 := encNums_len Hr1.out
  have HB1 : Hid (Blk w1 w.heap.size 37 (OpO o p1 p2 p3 k1 k2 k3)) := Lib.hid (HB0.out.mod Tk1.out.mod (fun e => by
    rcases e with e | e
    · omega
    · have := Hvs.out _ e; omega))
  have HR1 : Hid (LookR (fun b => b < W) w1 o.look (.slice p1 o.look.content.pix.length k1) (.slice p2 o.look.filt.nodes.length k2) (.slice p3 o.look.back.nodes.length k3)) := Lib.hid (HR0.out.mod (WTo.far Tk1.out HW0.out) (fun k _ hG hk => by omega))
  have Hv1 : Hid (∀ k, v1.ownBlock = some k → k ≠ w.heap.size ∧ k < w1.heap.size) := Lib.hid (fun k hk => ⟨fun e => by
    rcases Tk1.out.fresh _ hk with e2 | e2
    · have := Hvs.out _ e2; omega
    · have := HS0.out; omega, (Hw1.out.own.lt _ hk).2⟩)
  have hB1 := Blk.lt HB1.out
  clear ka kb kc
  have Hrg : Hid (w1.rangeAt w.heap.size 6 (LkO o p1 p2 p3 k1 k2 k3).toList) := Lib.hid (Blk.range (post := []) HB1.out (by rw [List.append_nil]; exact opr_look o _ _ _) rfl)
  have hA : Blk (w1.alloc (.cells LkZ 35)) w1.heap.size 35 LkZ := heap_alloc_new w1 _
  have Hth : Hid ((w1.alloc (.cells LkZ 35)).there w1.heap.size 0 (LkO o p1 p2 p3 k1 k2 k3).size) := Lib.hid (hA.there 0 _ (by rw [LkO_size]; simp))
  have HiL2 : Hid ((Try.prog.info? 35).map (·.size) = some (LkO o p1 p2 p3 k1 k2 k3).size) := Lib.hid (size_look.trans (by rw [LkO_size]))
  have hA2 := hA.sets 0 (LkO o p1 p2 p3 k1 k2 k3).toList
  rw [setMany_all _ _ (by simp [LkO, lookC])] at hA2
  have hM2 : Gou.Mod (fun k => k = w1.heap.size) w1 ((w1.alloc (.cells LkZ 35)).setCells w1.heap.size 0 (LkO o p1 p2 p3 k1 k2 k3).toList) := (Gou.Mod.alloc _ _ _).trans' (Blk.setMod _ _ _ _)
  have HW2 : Hid (Wr ((w1.alloc (.cells LkZ 35)).setCells w1.heap.size 0 (LkO o p1 p2 p3 k1 k2 k3).toList) W _ v1) := Lib.hid (Hw1.out.other hM2 (by have := Blk.lt Hw1.out.box; omega) (fun k hk e => by have := (Hv1.out k hk).2; omega))
  have HL2 : Hid (Blk ((w1.alloc (.cells LkZ 35)).setCells w1.heap.size 0 (LkO o p1 p2 p3 k1 k2 k3).toList) w1.heap.size 35 (LkO o p1 p2 p3 k1 k2 k3)) := Lib.hid hA2
  have HB2 : Hid (Blk ((w1.alloc (.cells LkZ 35)).setCells w1.heap.size 0 (LkO o p1 p2 p3 k1 k2 k3).toList) w.heap.size 37 (OpO o p1 p2 p3 k1 k2 k3)) := Lib.hid (HB1.out.mod hM2 (by omega))
  have HR2 : Hid (LookR (fun b => b < W) ((w1.alloc (.cells LkZ 35)).setCells w1.heap.size 0 (LkO o p1 p2 p3 k1 k2 k3).toList) o.look (.slice p1 o.look.content.pix.length k1) (.slice p2 o.look.filt.nodes.length k2) (.slice p3 o.look.back.nodes.length k3)) := Lib.hid (HR1.out.mod hM2 (fun k _ hG e => by have := Blk.lt Hw1.out.box; omega))
  have T2a : Hid (WTo W w vs ((w1.alloc (.cells LkZ 35)).setCells w1.heap.size 0 (LkO o p1 p2 p3 k1 k2 k3).toList) v1) := Lib.hid (T1.out.trans ⟨((Gou.Mod.alloc (fun _ => False) w1 _).trans (Blk.setMod _ w1.heap.size 0 _) (fun i hi e => by omega)).imp (fun _ _ h => h.elim), fun g hg => .inl hg⟩)
  have HS2 : Hid ((((w1.alloc (.cells LkZ 35)).setCells w1.heap.size 0 (LkO o p1 p2 p3 k1 k2 k3).toList)).heap.size = w1.heap.size + 1) := Lib.hid (by rw [size_setCells]; simp)
  have kd : (((w1.alloc (.cells LkZ 35)).setCells w1.heap.size 0 (LkO o p1 p2 p3 k1 k2 k3).toList)).cell? ⟨w.heap.size, 0, none⟩ = some (.int .i64 11) := (by rw [← HK.out]; exact HB2.out.cell 0 rfl)
  clear hA hA2 hM2
  have c25 : (((w1.alloc (.cells LkZ 35)).setCells w1.heap.size 0 (LkO o p1 p2 p3 k1 k2 k3).toList)).cell? ⟨w1.heap.size, 25, none⟩ = some (.bool true) := (HL2.out.cell (u := .bool o.look.hasBack) 25 rfl).trans (congrArg (fun b => some (Value.bool b)) HF.out)
  go_wp2_with (first | ((with_reducible refine wpList_load_mid ?g_l 35 ?x_l ?o_l w.heap.size 6 ?h_l (LkO o p1 p2 p3 k1 k2 k3).toList ?d_l ?c_l ?u_l ?s_l ?i_l ?r_l); (case g_l | o_l | h_l => exact rfl); (case c_l => exact Hrg.out); (case u_l => exact Try.underlying35); (case s_l => exact rfl); (case i_l => exact HiL.out)) | ((with_reducible refine wpList_store_mid ?g_m 35 ?x_m ?y_m ?o_m w1.heap.size 0 (LkO o p1 p2 p3 k1 k2 k3) ?h_m ?j_m ?t_m ?i_m ?s_m ?r_m); (case g_m | o_m | h_m | j_m => exact rfl); (case t_m => exact Hth.out); (case i_m => exact HiL2.out); (case s_m => exact LkO_one _ _ _ _ _ _ _)) | fail)
  generalize hW2 : ((w1.alloc (.cells LkZ 35)).setCells w1.heap.size 0 (LkO o p1 p2 p3 k1 k2 k3).toList) = wq at *
  clear hW2 kd
  refine (wflag_any _ W _ v1 true HW2.out (by (try simp only [List.length_append, List.length_cons, List.length_nil] at *); omega)).mono ?_
  rintro e w2 ⟨v2, t2, h2⟩
  have T2 := Lib.hid (T2a.out.trans t2)
  rcases hr2 : encNums [if true = true then 1 else 0] with _ | es2
  · rw [hr2] at h2
    subst h2
    exact ⟨rfl, v2, T2.out, by have g1 := Hr1.out; have g2 := hr2; simp at g2; simp [encOpr, HK.out, HF.out, g1, g2]⟩
  rw [hr2] at h2
  obtain ⟨rfl, hw2⟩ := h2
  have Hr2 := Lib.hid hr2
  have Hw2 := Lib.hid hw2
  have Tk2 := Lib.hid t2
  clear hr2 hw2 t2
  have HL3 : Hid (Blk w2 w1.heap.size 35 (LkO o p1 p2 p3 k1 k2 k3)) := Lib.hid (HL2.out.mod Tk2.out.mod (fun e => by
    rcases e with e | e
    · have := Blk.lt Hw1.out.box; omega
    · have := (Hv1.out _ e).2; omega))
  have HR3 : Hid (LookR (fun b => b < W) w2 o.look (.slice p1 o.look.content.pix.length k1) (.slice p2 o.look.filt.nodes.length k2) (.slice p3 o.look.back.nodes.length k3)) := Lib.hid (HR2.out.mod (WTo.far Tk2.out HW2.out) (fun k _ hG hk => by omega))
  have hE2 := encNums_len Hr2.out
  have d25 : w2.cell? ⟨w1.heap.size, 25, none⟩ = some (.bool true) := (HL3.out.cell (u := .bool o.look.hasBack) 25 rfl).trans (congrArg (fun b => some (Value.bool b)) HF.out)
  have d26 : w2.cell? ⟨w1.heap.size, 26, none⟩ = some (.slice p3 o.look.back.nodes.length k3) := HL3.out.cell 26 rfl
  have d27 : w2.cell? ⟨w1.heap.size, 27, none⟩ = some (.int .i64 o.look.back.out) := HL3.out.cell 27 rfl
  clear c25
  go_wp2_with fail
  refine (wgraph_any _ W _ v2 p3 k3 o.look.back Hw2.out HR3.out.back (by (try simp only [List.length_append, List.length_cons, List.length_nil] at *); omega)).mono ?_
  rintro e w3 ⟨v3, t3, h3⟩
  have T3 := Lib.hid (T2.out.trans t3)
  rcases hr3 : encGraph o.look.back with _ | es3
  · rw [hr3] at h3
    subst h3
    exact ⟨rfl, v3, T3.out, by have g1 := Hr1.out; have g2 := Hr2.out; simp at g2; simp [encOpr, HK.out, HF.out, g1, g2, hr3]⟩
  rw [hr3] at h3
  obtain ⟨rfl, hw3⟩ := h3
  have Hr3 := Lib.hid hr3
  have Hw3 := Lib.hid hw3
  have Tk3 := Lib.hid t3
  clear hr3 hw3 t3
  go_wp2_with fail
  go_end0
  exact ⟨v3, T3.out, by
    have g1 := Hr1.out
    have g2 := Hr2.out
    have g3 := Hr3.out
    simp at g2
    simp [encOpr, HK.out, HF.out, g1, g2, g3]
    simpa using Hw3.out⟩

set_option maxHeartbeats 2000000 in
theorem wop_0 (w : World) (W : Nat) (bs : List Nat) (vs : Value) (p1 : Option Addr) (k1 : Nat) (p2 : Option Addr) (k2 : Nat) (p3 : Option Addr) (k3 : Nat) (o : Opr) (h1 : o.kind ≠ 1) (h3 : o.kind ≠ 3) (h4 : o.kind ≠ 4) (h5 : o.kind ≠ 5) (h6 : o.kind ≠ 6) (h7 : o.kind ≠ 7) (h8 : o.kind ≠ 8) (h9 : o.kind ≠ 9) (h10 : o.kind ≠ 10) (h11 : o.kind ≠ 11) (h : Wr w W bs vs) (hx : LookR (fun b => b < W) w o.look (.slice p1 o.look.content.pix.length k1) (.slice p2 o.look.filt.nodes.length k2) (.slice p3 o.look.back.nodes.length k3)) (hl : bs.length ≤ 700000000) :
    Calls Try.prog 32 #[.pointer (some ⟨W, 0, none⟩), .agg (OpO o p1 p2 p3 k1 k2 k3)] w (WrP w W bs vs (encOpr o)) := by
  have H := Lib.hid h
  have HB0 : Hid (Blk (w.alloc (.cells (OpO o p1 p2 p3 k1 k2 k3) 37)) w.heap.size 37 (OpO o p1 p2 p3 k1 k2 k3)) := Lib.hid (heap_alloc_new w _)
  have HW0 : Hid (Wr (w.alloc (.cells (OpO o p1 p2 p3 k1 k2 k3) 37)) W bs vs) := Lib.hid (h.alloc _)
  have HT0 : Hid (WTo W w vs (w.alloc (.cells (OpO o p1 p2 p3 k1 k2 k3) 37)) vs) := Lib.hid (WTo.other (Gou.Mod.alloc _ _ _) vs)
  have HR0 : Hid (LookR (fun b => b < W) (w.alloc (.cells (OpO o p1 p2 p3 k1 k2 k3) 37)) o.look (.slice p1 o.look.content.pix.length k1) (.slice p2 o.look.filt.nodes.length k2) (.slice p3 o.look.back.nodes.length k3)) := Lib.hid (hx.mod (Gou.Mod.alloc (fun _ => False) _ _) (fun _ _ _ h => h))
  have HS0 : Hid (((w.alloc (.cells (OpO o p1 p2 p3 k1 k2 k3) 37))).heap.size = w.heap.size + 1) := Lib.hid (by simp)
  have hWlt := Blk.lt h.box
  have HiL : Hid ((Try.prog.info? 35).map (·.size) = some (LkO o p1 p2 p3 k1 k2 k3).toList.length) := Lib.hid (size_look.trans (by simp [LkO, lookC]))
  have hvs := fun k hk => (H.out.own.lt k hk).2
  have Hvs := Lib.hid hvs
  clear h hx hvs
  have e1 : (o.kind == 1) = false := beq_eq_false_iff_ne.2 h1
  have e3 : (o.kind == 3) = false := beq_eq_false_iff_ne.2 h3
  have e4 : (o.kind == 4) = false := beq_eq_false_iff_ne.2 h4
  have e5 : (o.kind == 5) = false := beq_eq_false_iff_ne.2 h5
  have e6 : (o.kind == 6) = false := beq_eq_false_iff_ne.2 h6
  have e7 : (o.kind == 7) = false := beq_eq_false_iff_ne.2 h7
  have e8 : (o.kind == 8) = false := beq_eq_false_iff_ne.2 h8
  have e9 : (o.kind == 9) = false := beq_eq_false_iff_ne.2 h9
  have e10 : (o.kind == 10) = false := beq_eq_false_iff_ne.2 h10
  have e11 : (o.kind == 11) = false := beq_eq_false_iff_ne.2 h11
  have en : (o.kind != 1) = true := by simp [h1]
  have N1 := Lib.hid h1
  clear h1
  have N3 := Lib.hid h3
  clear h3
  have N4 := Lib.hid h4
  clear h4
  have N5 := Lib.hid h5
  clear h5
  have N6 := Lib.hid h6
  clear h6
  have N7 := Lib.hid h7
  clear h7
  have N8 := Lib.hid h8
  clear h8
  have N9 := Lib.hid h9
  clear h9
  have N10 := Lib.hid h10
  clear h10
  have N11 := Lib.hid h11
  clear h11
  go_enter Try.func32, Try.ntmps32
  have ka : ((w.alloc (.cells (OpO o p1 p2 p3 k1 k2 k3) 37))).cell? ⟨w.heap.size, 1, none⟩ = some (.int .i64 o.id.1) := HB0.out.cell 1 rfl
  have kb : ((w.alloc (.cells (OpO o p1 p2 p3 k1 k2 k3) 37))).cell? ⟨w.heap.size, 2, none⟩ = some (.int .i64 o.id.2) := HB0.out.cell 2 rfl
  have kc : ((w.alloc (.cells (OpO o p1 p2 p3 k1 k2 k3) 37))).cell? ⟨w.heap.size, 0, none⟩ = some (.int .i64 o.kind) := HB0.out.cell 0 rfl
  go_wp2_with fail
  generalize hW0 : (w.alloc (.cells (OpO o p1 p2 p3 k1 k2 k3) 37)) = w0 at *
  clear hW0
  refine (wid_any _ W bs vs o.id.1 o.id.2 HW0.out (by omega)).mono ?_
  rintro e w1 ⟨v1, t1, h1⟩
  have T1 := Lib.hid (HT0.out.trans t1)
  rcases hr1 : encNums [o.id.1, o.id.2] with _ | es1
  · rw [hr1] at h1
    subst h1
    exact ⟨rfl, v1, T1.out, by simp [encOpr, N1.out, hr1]⟩
  rw [hr1] at h1
  obtain ⟨rfl, hw1⟩ := h1
  have Hr1 := Lib.hid hr1
  have Hw1 := Lib.hid hw1
  have Tk1 := Lib.hid t1
  clear hr1 hw1 t1
  have hE1 := encNums_len Hr1.out
  have HB1 : Hid (Blk w1 w.heap.size 37 (OpO o p1 p2 p3 k1 k2 k3)) := Lib.hid (HB0.out.mod Tk1.out.mod (fun e => by
    rcases e with e | e
    · omega
    · have := Hvs.out _ e; omega))
  have HR1 : Hid (LookR (fun b => b < W) w1 o.look (.slice p1 o.look.content.pix.length k1) (.slice p2 o.look.filt.nodes.length k2) (.slice p3 o.look.back.nodes.length k3)) := Lib.hid (HR0.out.mod (WTo.far Tk1.out HW0.out) (fun k _ hG hk => by omega))
  have Hv1 : Hid (∀ k, v1.ownBlock = some k → k ≠ w.heap.size ∧ k < w1.heap.size) := Lib.hid (fun k hk => ⟨fun e => by
    rcases Tk1.out.fresh _ hk with e2 | e2
    · have := Hvs.out _ e2; omega
    · have := HS0.out; omega, (Hw1.out.own.lt _ hk).2⟩)
  have hB1 := Blk.lt HB1.out
  clear ka kb kc
  have Hrg : Hid (w1.rangeAt w.heap.size 6 (LkO o p1 p2 p3 k1 k2 k3).toList) := Lib.hid (Blk.range (post := []) HB1.out (by rw [List.append_nil]; exact opr_look o _ _ _) rfl)
  have hA : Blk (w1.alloc (.cells LkZ 35)) w1.heap.size 35 LkZ := heap_alloc_new w1 _
  have Hth : Hid ((w1.alloc (.cells LkZ 35)).there w1.heap.size 0 (LkO o p1 p2 p3 k1 k2 k3).size) := Lib.hid (hA.there 0 _ (by rw [LkO_size]; simp))
  have HiL2 : Hid ((Try.prog.info? 35).map (·.size) = some (LkO o p1 p2 p3 k1 k2 k3).size) := Lib.hid (size_look.trans (by rw [LkO_size]))
  have hA2 := hA.sets 0 (LkO o p1 p2 p3 k1 k2 k3).toList
  rw [setMany_all _ _ (by simp [LkO, lookC])] at hA2
  have hM2 : Gou.Mod (fun k => k = w1.heap.size) w1 ((w1.alloc (.cells LkZ 35)).setCells w1.heap.size 0 (LkO o p1 p2 p3 k1 k2 k3).toList) := (Gou.Mod.alloc _ _ _).trans' (Blk.setMod _ _ _ _)
  have HW2 : Hid (Wr ((w1.alloc (.cells LkZ 35)).setCells w1.heap.size 0 (LkO o p1 p2 p3 k1 k2 k3).toList) W _ v1) := Lib.hid (Hw1.out.other hM2 (by have := Blk.lt Hw1.out.box; omega) (fun k hk e => by have := (Hv1.out k hk).2; omega))
  have HL2 : Hid (Blk ((w1.alloc (.cells LkZ 35)).setCells w1.heap.size 0 (LkO o p1 p2 p3 k1 k2 k3).toList) w1.heap.size 35 (LkO o p1 p2 p3 k1 k2 k3)) := Lib.hid hA2
  have HB2 : Hid (Blk ((w1.alloc (.cells LkZ 35)).setCells w1.heap.size 0 (LkO o p1 p2 p3 k1 k2 k3).toList) w.heap.size 37 (OpO o p1 p2 p3 k1 k2 k3)) := Lib.hid (HB1.out.mod hM2 (by omega))
  have HR2 : Hid (LookR (fun b => b < W) ((w1.alloc (.cells LkZ 35)).setCells w1.heap.size 0 (LkO o p1 p2 p3 k1 k2 k3).toList) o.look (.slice p1 o.look.content.pix.length k1) (.slice p2 o.look.filt.nodes.length k2) (.slice p3 o.look.back.nodes.length k3)) := Lib.hid (HR1.out.mod hM2 (fun k _ hG e => by have := Blk.lt Hw1.out.box; omega))
  have T2a : Hid (WTo W w vs ((w1.alloc (.cells LkZ 35)).setCells w1.heap.size 0 (LkO o p1 p2 p3 k1 k2 k3).toList) v1) := Lib.hid (T1.out.trans ⟨((Gou.Mod.alloc (fun _ => False) w1 _).trans (Blk.setMod _ w1.heap.size 0 _) (fun i hi e => by omega)).imp (fun _ _ h => h.elim), fun g hg => .inl hg⟩)
  have HS2 : Hid ((((w1.alloc (.cells LkZ 35)).setCells w1.heap.size 0 (LkO o p1 p2 p3 k1 k2 k3).toList)).heap.size = w1.heap.size + 1) := Lib.hid (by rw [size_setCells]; simp)
  have kd : (((w1.alloc (.cells LkZ 35)).setCells w1.heap.size 0 (LkO o p1 p2 p3 k1 k2 k3).toList)).cell? ⟨w.heap.size, 0, none⟩ = some (.int .i64 o.kind) := HB2.out.cell 0 rfl
  clear hA hA2 hM2
  skip
  go_wp2_with (first | ((with_reducible refine wpList_load_mid ?g_n 35 ?x_n ?o_n w.heap.size 6 ?h_n (LkO o p1 p2 p3 k1 k2 k3).toList ?d_n ?c_n ?u_n ?s_n ?i_n ?r_n); (case g_n | o_n | h_n => exact rfl); (case c_n => exact Hrg.out); (case u_n => exact Try.underlying35); (case s_n => exact rfl); (case i_n => exact HiL.out)) | ((with_reducible refine wpList_store_mid ?g_o 35 ?x_o ?y_o ?o_o w1.heap.size 0 (LkO o p1 p2 p3 k1 k2 k3) ?h_o ?j_o ?t_o ?i_o ?s_o ?r_o); (case g_o | o_o | h_o | j_o => exact rfl); (case t_o => exact Hth.out); (case i_o => exact HiL2.out); (case s_o => exact LkO_one _ _ _ _ _ _ _)) | fail)
  generalize hW2 : ((w1.alloc (.cells LkZ 35)).setCells w1.heap.size 0 (LkO o p1 p2 p3 k1 k2 k3).toList) = wq at *
  clear hW2 kd
  go_end0
  exact ⟨v1, T2a.out, by
    have g1 := Hr1.out
    simp [encOpr, g1, N1.out, N3.out, N4.out, N5.out, N6.out, N7.out, N8.out, N9.out, N10.out, N11.out]
    exact HW2.out⟩

set_option maxHeartbeats 2000000 in
theorem wop_1 (w : World) (W : Nat) (bs : List Nat) (vs : Value) (p1 : Option Addr) (k1 : Nat) (p2 : Option Addr) (k2 : Nat) (p3 : Option Addr) (k3 : Nat) (o : Opr) (hk : o.kind = 1) (h : Wr w W bs vs) (hx : LookR (fun b => b < W) w o.look (.slice p1 o.look.content.pix.length k1) (.slice p2 o.look.filt.nodes.length k2) (.slice p3 o.look.back.nodes.length k3)) (hl : bs.length ≤ 700000000) :
    Calls Try.prog 32 #[.pointer (some ⟨W, 0, none⟩), .agg (OpO o p1 p2 p3 k1 k2 k3)] w (WrP w W bs vs (encOpr o)) := by
  have H := Lib.hid h
  have HB0 : Hid (Blk (w.alloc (.cells (OpO o p1 p2 p3 k1 k2 k3) 37)) w.heap.size 37 (OpO o p1 p2 p3 k1 k2 k3)) := Lib.hid (heap_alloc_new w _)
  have HW0 : Hid (Wr (w.alloc (.cells (OpO o p1 p2 p3 k1 k2 k3) 37)) W bs vs) := Lib.hid (h.alloc _)
  have HT0 : Hid (WTo W w vs (w.alloc (.cells (OpO o p1 p2 p3 k1 k2 k3) 37)) vs) := Lib.hid (WTo.other (Gou.Mod.alloc _ _ _) vs)
  have HR0 : Hid (LookR (fun b => b < W) (w.alloc (.cells (OpO o p1 p2 p3 k1 k2 k3) 37)) o.look (.slice p1 o.look.content.pix.length k1) (.slice p2 o.look.filt.nodes.length k2) (.slice p3 o.look.back.nodes.length k3)) := Lib.hid (hx.mod (Gou.Mod.alloc (fun _ => False) _ _) (fun _ _ _ h => h))
  have HS0 : Hid (((w.alloc (.cells (OpO o p1 p2 p3 k1 k2 k3) 37))).heap.size = w.heap.size + 1) := Lib.hid (by simp)
  have hWlt := Blk.lt h.box
  have HiL : Hid ((Try.prog.info? 35).map (·.size) = some (LkO o p1 p2 p3 k1 k2 k3).toList.length) := Lib.hid (size_look.trans (by simp [LkO, lookC]))
  have hvs := fun k hk => (H.out.own.lt k hk).2
  have Hvs := Lib.hid hvs
  clear h hx hvs
  have HK := Lib.hid hk
  clear hk
  go_enter Try.func32, Try.ntmps32
  have HB1 := HB0
  have HR1 := HR0
  have Hw1 := HW0
  have T1 := HT0
  have hB1 := Blk.lt HB0.out
  have Hv1 : Hid (∀ k, vs.ownBlock = some k → k ≠ w.heap.size ∧ k < (w.heap.size + 1)) := Lib.hid (fun k hk => by have := Hvs.out _ hk; omega)
  have kc : ((w.alloc (.cells (OpO o p1 p2 p3 k1 k2 k3) 37))).cell? ⟨w.heap.size, 0, none⟩ = some (.int .i64 1) := (by rw [← HK.out]; exact HB0.out.cell 0 rfl)
  have Hrg : Hid (((w.alloc (.cells (OpO o p1 p2 p3 k1 k2 k3) 37))).rangeAt w.heap.size 6 (LkO o p1 p2 p3 k1 k2 k3).toList) := Lib.hid (Blk.range (post := []) HB1.out (by rw [List.append_nil]; exact opr_look o _ _ _) rfl)
  have hA : Blk (((w.alloc (.cells (OpO o p1 p2 p3 k1 k2 k3) 37))).alloc (.cells LkZ 35)) (w.heap.size + 1) 35 LkZ := (by have := heap_alloc_new ((w.alloc (.cells (OpO o p1 p2 p3 k1 k2 k3) 37))) (.cells LkZ 35); rw [HS0.out] at this; exact this)
  have Hth : Hid ((((w.alloc (.cells (OpO o p1 p2 p3 k1 k2 k3) 37))).alloc (.cells LkZ 35)).there (w.heap.size + 1) 0 (LkO o p1 p2 p3 k1 k2 k3).size) := Lib.hid (hA.there 0 _ (by rw [LkO_size]; simp))
  have HiL2 : Hid ((Try.prog.info? 35).map (·.size) = some (LkO o p1 p2 p3 k1 k2 k3).size) := Lib.hid (size_look.trans (by rw [LkO_size]))
  have hA2 := hA.sets 0 (LkO o p1 p2 p3 k1 k2 k3).toList
  rw [setMany_all _ _ (by simp [LkO, lookC])] at hA2
  have hM2 : Gou.Mod (fun k => k = (w.heap.size + 1)) ((w.alloc (.cells (OpO o p1 p2 p3 k1 k2 k3) 37))) ((((w.alloc (.cells (OpO o p1 p2 p3 k1 k2 k3) 37))).alloc (.cells LkZ 35)).setCells (w.heap.size + 1) 0 (LkO o p1 p2 p3 k1 k2 k3).toList) := (Gou.Mod.alloc _ _ _).trans' (Blk.setMod _ _ _ _)
  have HW2 : Hid (Wr ((((w.alloc (.cells (OpO o p1 p2 p3 k1 k2 k3) 37))).alloc (.cells LkZ 35)).setCells (w.heap.size + 1) 0 (LkO o p1 p2 p3 k1 k2 k3).toList) W _ vs) := Lib.hid (Hw1.out.other hM2 (by have := Blk.lt Hw1.out.box; omega) (fun k hk e => by have := (Hv1.out k hk).2; omega))
  have HL2 : Hid (Blk ((((w.alloc (.cells (OpO o p1 p2 p3 k1 k2 k3) 37))).alloc (.cells LkZ 35)).setCells (w.heap.size + 1) 0 (LkO o p1 p2 p3 k1 k2 k3).toList) (w.heap.size + 1) 35 (LkO o p1 p2 p3 k1 k2 k3)) := Lib.hid hA2
  have HB2 : Hid (Blk ((((w.alloc (.cells (OpO o p1 p2 p3 k1 k2 k3) 37))).alloc (.cells LkZ 35)).setCells (w.heap.size + 1) 0 (LkO o p1 p2 p3 k1 k2 k3).toList) w.heap.size 37 (OpO o p1 p2 p3 k1 k2 k3)) := Lib.hid (HB1.out.mod hM2 (by omega))
  have HR2 : Hid (LookR (fun b => b < W) ((((w.alloc (.cells (OpO o p1 p2 p3 k1 k2 k3) 37))).alloc (.cells LkZ 35)).setCells (w.heap.size + 1) 0 (LkO o p1 p2 p3 k1 k2 k3).toList) o.look (.slice p1 o.look.content.pix.length k1) (.slice p2 o.look.filt.nodes.length k2) (.slice p3 o.look.back.nodes.length k3)) := Lib.hid (HR1.out.mod hM2 (fun k _ hG e => by have := Blk.lt Hw1.out.box; omega))
  have T2a : Hid (WTo W w vs ((((w.alloc (.cells (OpO o p1 p2 p3 k1 k2 k3) 37))).alloc (.cells LkZ 35)).setCells (w.heap.size + 1) 0 (LkO o p1 p2 p3 k1 k2 k3).toList) vs) := Lib.hid (T1.out.trans ⟨((Gou.Mod.alloc (fun _ => False) ((w.alloc (.cells (OpO o p1 p2 p3 k1 k2 k3) 37))) _).trans (Blk.setMod _ (w.heap.size + 1) 0 _) (fun i hi e => by have := HS0.out; omega)).imp (fun _ _ h => h.elim), fun g hg => .inl hg⟩)
  have HS2 : Hid ((((((w.alloc (.cells (OpO o p1 p2 p3 k1 k2 k3) 37))).alloc (.cells LkZ 35)).setCells (w.heap.size + 1) 0 (LkO o p1 p2 p3 k1 k2 k3).toList)).heap.size = (w.heap.size + 1) + 1) := Lib.hid (by rw [size_setCells]; simp)
  have kd : (((((w.alloc (.cells (OpO o p1 p2 p3 k1 k2 k3) 37))).alloc (.cells LkZ 35)).setCells (w.heap.size + 1) 0 (LkO o p1 p2 p3 k1 k2 k3).toList)).cell? ⟨w.heap.size, 0, none⟩ = some (.int .i64 1) := (by rw [← HK.out]; exact HB2.out.cell 0 rfl)
  clear hA hA2 hM2
  have q3 : (((((w.alloc (.cells (OpO o p1 p2 p3 k1 k2 k3) 37))).alloc (.cells LkZ 35)).setCells (w.heap.size + 1) 0 (LkO o p1 p2 p3 k1 k2 k3).toList)).cell? ⟨w.heap.size, 3, none⟩ = some (.int .i64 o.to.1) := HB2.out.cell 3 rfl
  have q4 : (((((w.alloc (.cells (OpO o p1 p2 p3 k1 k2 k3) 37))).alloc (.cells LkZ 35)).setCells (w.heap.size + 1) 0 (LkO o p1 p2 p3 k1 k2 k3).toList)).cell? ⟨w.heap.size, 4, none⟩ = some (.int .i64 o.to.2) := HB2.out.cell 4 rfl
  go_wp2_with (first | ((with_reducible refine wpList_load_mid ?g_p 35 ?x_p ?o_p w.heap.size 6 ?h_p (LkO o p1 p2 p3 k1 k2 k3).toList ?d_p ?c_p ?u_p ?s_p ?i_p ?r_p); (case g_p | o_p | h_p => exact rfl); (case c_p => exact Hrg.out); (case u_p => exact Try.underlying35); (case s_p => exact rfl); (case i_p => exact HiL.out)) | ((with_reducible refine wpList_store_mid ?g_q 35 ?x_q ?y_q ?o_q (w.heap.size + 1) 0 (LkO o p1 p2 p3 k1 k2 k3) ?h_q ?j_q ?t_q ?i_q ?s_q ?r_q); (case g_q | o_q | h_q | j_q => exact rfl); (case t_q => exact Hth.out); (case i_q => exact HiL2.out); (case s_q => exact LkO_one _ _ _ _ _ _ _)) | fail)
  generalize hW2 : ((((w.alloc (.cells (OpO o p1 p2 p3 k1 k2 k3) 37))).alloc (.cells LkZ 35)).setCells (w.heap.size + 1) 0 (LkO o p1 p2 p3 k1 k2 k3).toList) = wq at *
  clear hW2 kd kc
  refine (wid_any _ W _ vs o.to.1 o.to.2 HW2.out (by (try simp only [List.length_append, List.length_cons, List.length_nil] at *); omega)).mono ?_
  rintro e w2 ⟨v2, t2, h2⟩
  have T2 := Lib.hid (T2a.out.trans t2)
  rcases hr2 : encNums [o.to.1, o.to.2] with _ | es2
  · rw [hr2] at h2
    subst h2
    exact ⟨rfl, v2, T2.out, by simp [encOpr, HK.out, hr2]⟩
  rw [hr2] at h2
  obtain ⟨rfl, hw2⟩ := h2
  have Hr2 := Lib.hid hr2
  have Hw2 := Lib.hid hw2
  have Tk2 := Lib.hid t2
  clear hr2 hw2 t2
  have HB3 : Hid (Blk w2 w.heap.size 37 (OpO o p1 p2 p3 k1 k2 k3)) := Lib.hid (HB2.out.mod Tk2.out.mod (fun e => by
    rcases e with e | e
    · omega
    · exact (Hv1.out _ e).1 rfl))
  have hE2 := encNums_len Hr2.out
  have q5 : w2.cell? ⟨w.heap.size, 5, none⟩ = some (.int .i64 o.at_) := HB3.out.cell 5 rfl
  clear q3 q4
  go_wp2_with fail
  refine (numbers_any _ W _ v2 _ [o.at_] (Hw2.out.alloc _) (Hw2.out.lit [o.at_] _ rfl 1 rfl _ rfl) (by (try simp only [List.length_append, List.length_cons, List.length_nil] at *); omega)).mono ?_
  rintro e w3 ⟨v3, t3, h3⟩
  have T3 := Lib.hid ((T2.out.trans (WTo.other (Gou.Mod.alloc _ _ _) v2)).trans t3)
  rcases hr3 : encNums [o.at_] with _ | es3
  · rw [hr3] at h3
    subst h3
    exact ⟨rfl, v3, T3.out, by have g2 := Hr2.out; simp [encOpr, HK.out, g2, hr3]⟩
  rw [hr3] at h3
  obtain ⟨rfl, hw3⟩ := h3
  have Hr3 := Lib.hid hr3
  have Hw3 := Lib.hid hw3
  have Tk3 := Lib.hid t3
  clear hr3 hw3 t3
  go_wp2_with fail
  go_end0
  exact ⟨v3, T3.out, by
    have g2 := Hr2.out
    have g3 := Hr3.out
    simp [encOpr, HK.out, g2, g3]
    simpa using Hw3.out⟩

set_option maxHeartbeats 2000000 in
theorem wop_9 (w : World) (W : Nat) (bs : List Nat) (vs : Value) (p1 : Option Addr) (k1 : Nat) (p2 : Option Addr) (k2 : Nat) (p3 : Option Addr) (k3 : Nat) (o : Opr) (hk : o.kind = 9) (h : Wr w W bs vs) (hx : LookR (fun b => b < W) w o.look (.slice p1 o.look.content.pix.length k1) (.slice p2 o.look.filt.nodes.length k2) (.slice p3 o.look.back.nodes.length k3)) (hl : bs.length ≤ 700000000) :
    Calls Try.prog 32 #[.pointer (some ⟨W, 0, none⟩), .agg (OpO o p1 p2 p3 k1 k2 k3)] w (WrP w W bs vs (encOpr o)) := by
  have H := Lib.hid h
  have HB0 : Hid (Blk (w.alloc (.cells (OpO o p1 p2 p3 k1 k2 k3) 37)) w.heap.size 37 (OpO o p1 p2 p3 k1 k2 k3)) := Lib.hid (heap_alloc_new w _)
  have HW0 : Hid (Wr (w.alloc (.cells (OpO o p1 p2 p3 k1 k2 k3) 37)) W bs vs) := Lib.hid (h.alloc _)
  have HT0 : Hid (WTo W w vs (w.alloc (.cells (OpO o p1 p2 p3 k1 k2 k3) 37)) vs) := Lib.hid (WTo.other (Gou.Mod.alloc _ _ _) vs)
  have HR0 : Hid (LookR (fun b => b < W) (w.alloc (.cells (OpO o p1 p2 p3 k1 k2 k3) 37)) o.look (.slice p1 o.look.content.pix.length k1) (.slice p2 o.look.filt.nodes.length k2) (.slice p3 o.look.back.nodes.length k3)) := Lib.hid (hx.mod (Gou.Mod.alloc (fun _ => False) _ _) (fun _ _ _ h => h))
  have HS0 : Hid (((w.alloc (.cells (OpO o p1 p2 p3 k1 k2 k3) 37))).heap.size = w.heap.size + 1) := Lib.hid (by simp)
  have hWlt := Blk.lt h.box
  have HiL : Hid ((Try.prog.info? 35).map (·.size) = some (LkO o p1 p2 p3 k1 k2 k3).toList.length) := Lib.hid (size_look.trans (by simp [LkO, lookC]))
  have hvs := fun k hk => (H.out.own.lt k hk).2
  have Hvs := Lib.hid hvs
  clear h hx hvs
  have HK := Lib.hid hk
  clear hk
  go_enter Try.func32, Try.ntmps32
  have ka : ((w.alloc (.cells (OpO o p1 p2 p3 k1 k2 k3) 37))).cell? ⟨w.heap.size, 1, none⟩ = some (.int .i64 o.id.1) := HB0.out.cell 1 rfl
  have kb : ((w.alloc (.cells (OpO o p1 p2 p3 k1 k2 k3) 37))).cell? ⟨w.heap.size, 2, none⟩ = some (.int .i64 o.id.2) := HB0.out.cell 2 rfl
  have kc : ((w.alloc (.cells (OpO o p1 p2 p3 k1 k2 k3) 37))).cell? ⟨w.heap.size, 0, none⟩ = some (.int .i64 9) := (by rw [← HK.out]; exact HB0.out.cell 0 rfl)
  go_wp2_with fail
  generalize hW0 : (w.alloc (.cells (OpO o p1 p2 p3 k1 k2 k3) 37)) = w0 at *
  clear hW0
  refine (wid_any _ W bs vs o.id.1 o.id.2 HW0.out (by omega)).mono ?_
  rintro e w1 ⟨v1, t1, h1⟩
  have T1 := Lib.hid (HT0.out.trans t1)
  rcases hr1 : encNums [o.id.1, o.id.2] with _ | es1
  · rw [hr1] at h1
    subst h1
    exact ⟨rfl, v1, T1.out, by have hk := HK.out; simp [encOpr, hk, hr1]⟩
  rw [hr1] at h1
  obtain ⟨rfl, hw1⟩ := h1
  have Hr1 := Lib.hid hr1
  have Hw1 := Lib.hid hw1
  have Tk1 := Lib.hid t1
  clear hr1 hw1 t1
  have hE1 := encNums_len Hr1.out
  have HB1 : Hid (Blk w1 w.heap.size 37 (OpO o p1 p2 p3 k1 k2 k3)) := Lib.hid (HB0.out.mod Tk1.out.mod (fun e => by
    rcases e with e | e
    · omega
    · have := Hvs.out _ e; omega))
  have HR1 : Hid (LookR (fun b => b < W) w1 o.look (.slice p1 o.look.content.pix.length k1) (.slice p2 o.look.filt.nodes.length k2) (.slice p3 o.look.back.nodes.length k3)) := Lib.hid (HR0.out.mod (WTo.far Tk1.out HW0.out) (fun k _ hG hk => by omega))
  have Hv1 : Hid (∀ k, v1.ownBlock = some k → k ≠ w.heap.size ∧ k < w1.heap.size) := Lib.hid (fun k hk => ⟨fun e => by
    rcases Tk1.out.fresh _ hk with e2 | e2
    · have := Hvs.out _ e2; omega
    · have := HS0.out; omega, (Hw1.out.own.lt _ hk).2⟩)
  have hB1 := Blk.lt HB1.out
  clear ka kb kc
  have Hrg : Hid (w1.rangeAt w.heap.size 6 (LkO o p1 p2 p3 k1 k2 k3).toList) := Lib.hid (Blk.range (post := []) HB1.out (by rw [List.append_nil]; exact opr_look o _ _ _) rfl)
  have hA : Blk (w1.alloc (.cells LkZ 35)) w1.heap.size 35 LkZ := heap_alloc_new w1 _
  have Hth : Hid ((w1.alloc (.cells LkZ 35)).there w1.heap.size 0 (LkO o p1 p2 p3 k1 k2 k3).size) := Lib.hid (hA.there 0 _ (by rw [LkO_size]; simp))
  have HiL2 : Hid ((Try.prog.info? 35).map (·.size) = some (LkO o p1 p2 p3 k1 k2 k3).size) := Lib.hid (size_look.trans (by rw [LkO_size]))
  have hA2 := hA.sets 0 (LkO o p1 p2 p3 k1 k2 k3).toList
  rw [setMany_all _ _ (by simp [LkO, lookC])] at hA2
  have hM2 : Gou.Mod (fun k => k = w1.heap.size) w1 ((w1.alloc (.cells LkZ 35)).setCells w1.heap.size 0 (LkO o p1 p2 p3 k1 k2 k3).toList) := (Gou.Mod.alloc _ _ _).trans' (Blk.setMod _ _ _ _)
  have HW2 : Hid (Wr ((w1.alloc (.cells LkZ 35)).setCells w1.heap.size 0 (LkO o p1 p2 p3 k1 k2 k3).toList) W _ v1) := Lib.hid (Hw1.out.other hM2 (by have := Blk.lt Hw1.out.box; omega) (fun k hk e => by have := (Hv1.out k hk).2; omega))
  have HL2 : Hid (Blk ((w1.alloc (.cells LkZ 35)).setCells w1.heap.size 0 (LkO o p1 p2 p3 k1 k2 k3).toList) w1.heap.size 35 (LkO o p1 p2 p3 k1 k2 k3)) := Lib.hid hA2
  have HB2 : Hid (Blk ((w1.alloc (.cells LkZ 35)).setCells w1.heap.size 0 (LkO o p1 p2 p3 k1 k2 k3).toList) w.heap.size 37 (OpO o p1 p2 p3 k1 k2 k3)) := Lib.hid (HB1.out.mod hM2 (by omega))
  have HR2 : Hid (LookR (fun b => b < W) ((w1.alloc (.cells LkZ 35)).setCells w1.heap.size 0 (LkO o p1 p2 p3 k1 k2 k3).toList) o.look (.slice p1 o.look.content.pix.length k1) (.slice p2 o.look.filt.nodes.length k2) (.slice p3 o.look.back.nodes.length k3)) := Lib.hid (HR1.out.mod hM2 (fun k _ hG e => by have := Blk.lt Hw1.out.box; omega))
  have T2a : Hid (WTo W w vs ((w1.alloc (.cells LkZ 35)).setCells w1.heap.size 0 (LkO o p1 p2 p3 k1 k2 k3).toList) v1) := Lib.hid (T1.out.trans ⟨((Gou.Mod.alloc (fun _ => False) w1 _).trans (Blk.setMod _ w1.heap.size 0 _) (fun i hi e => by omega)).imp (fun _ _ h => h.elim), fun g hg => .inl hg⟩)
  have HS2 : Hid ((((w1.alloc (.cells LkZ 35)).setCells w1.heap.size 0 (LkO o p1 p2 p3 k1 k2 k3).toList)).heap.size = w1.heap.size + 1) := Lib.hid (by rw [size_setCells]; simp)
  have kd : (((w1.alloc (.cells LkZ 35)).setCells w1.heap.size 0 (LkO o p1 p2 p3 k1 k2 k3).toList)).cell? ⟨w.heap.size, 0, none⟩ = some (.int .i64 9) := (by rw [← HK.out]; exact HB2.out.cell 0 rfl)
  clear hA hA2 hM2
  have Hrc : Hid ((((w1.alloc (.cells LkZ 35)).setCells w1.heap.size 0 (LkO o p1 p2 p3 k1 k2 k3).toList)).rangeAt w1.heap.size 9 (contC o.look.content (.slice p1 o.look.content.pix.length k1)).toList) := Lib.hid (Blk.range HL2.out (look_cont o.look _ _ _) rfl)
  have HiC : Hid ((Try.prog.info? 30).map (·.size) = some (contC o.look.content (.slice p1 o.look.content.pix.length k1)).toList.length) := Lib.hid (size_content.trans (by simp [contC]))
  go_wp2_with (first | ((with_reducible refine wpList_load_mid ?g_s 35 ?x_s ?o_s w.heap.size 6 ?h_s (LkO o p1 p2 p3 k1 k2 k3).toList ?d_s ?c_s ?u_s ?s_s ?i_s ?r_s); (case g_s | o_s | h_s => exact rfl); (case c_s => exact Hrg.out); (case u_s => exact Try.underlying35); (case s_s => exact rfl); (case i_s => exact HiL.out)) | ((with_reducible refine wpList_store_mid ?g_t 35 ?x_t ?y_t ?o_t w1.heap.size 0 (LkO o p1 p2 p3 k1 k2 k3) ?h_t ?j_t ?t_t ?i_t ?s_t ?r_t); (case g_t | o_t | h_t | j_t => exact rfl); (case t_t => exact Hth.out); (case i_t => exact HiL2.out); (case s_t => exact LkO_one _ _ _ _ _ _ _)) | ((with_reducible refine wpList_load_mid ?g_r 30 ?x_r ?o_r w1.heap.size 9 ?h_r (contC o.look.content (.slice p1 o.look.content.pix.length k1)).toList ?d_r ?c_r ?u_r ?s_r ?i_r ?r_r); (case g_r | o_r | h_r => exact rfl); (case c_r => exact Hrc.out); (case u_r => exact Try.underlying30); (case s_r => exact rfl); (case i_r => exact HiC.out)) | fail)
  generalize hW2 : ((w1.alloc (.cells LkZ 35)).setCells w1.heap.size 0 (LkO o p1 p2 p3 k1 k2 k3).toList) = wq at *
  clear hW2 kd
  refine (wcontent_any _ W _ v1 p1 k1 o.look.content HW2.out HR2.out.pix (by (try simp only [List.length_append, List.length_cons, List.length_nil] at *); omega)).mono ?_
  rintro e w2 ⟨v2, t2, h2⟩
  have T2 := Lib.hid (T2a.out.trans t2)
  rcases hr2 : encContent o.look.content with _ | es2
  · rw [hr2] at h2
    subst h2
    exact ⟨rfl, v2, T2.out, by have g1 := Hr1.out; simp [encOpr, HK.out, g1, hr2]⟩
  rw [hr2] at h2
  obtain ⟨rfl, hw2⟩ := h2
  have Hr2 := Lib.hid hr2
  have Hw2 := Lib.hid hw2
  have Tk2 := Lib.hid t2
  clear hr2 hw2 t2
  go_wp2_with fail
  go_end0
  exact ⟨v2, T2.out, by
    have g1 := Hr1.out
    have g2 := Hr2.out
    simp [encOpr, HK.out, g1, g2]
    simpa using Hw2.out⟩

theorem wop_any (w : World) (W : Nat) (bs : List Nat) (vs : Value) (p1 : Option Addr) (k1 : Nat) (p2 : Option Addr) (k2 : Nat) (p3 : Option Addr) (k3 : Nat) (o : Opr) (h : Wr w W bs vs) (hx : LookR (fun b => b < W) w o.look (.slice p1 o.look.content.pix.length k1) (.slice p2 o.look.filt.nodes.length k2) (.slice p3 o.look.back.nodes.length k3)) (hl : bs.length ≤ 700000000) :
    Calls Try.prog 32 #[.pointer (some ⟨W, 0, none⟩), .agg (OpO o p1 p2 p3 k1 k2 k3)] w (WrP w W bs vs (encOpr o)) := by
  by_cases h1 : o.kind = 1
  · exact wop_1 w W bs vs p1 k1 p2 k2 p3 k3 o h1 h hx hl
  by_cases h3 : o.kind = 3
  · exact wop_3 w W bs vs p1 k1 p2 k2 p3 k3 o h3 h hx hl
  by_cases h4 : o.kind = 4
  · exact wop_4 w W bs vs p1 k1 p2 k2 p3 k3 o h4 h hx hl
  by_cases h5 : o.kind = 5
  · exact wop_5 w W bs vs p1 k1 p2 k2 p3 k3 o h5 h hx hl
  by_cases h6 : o.kind = 6
  · rcases hf : o.look.hasClip with _ | _
    · exact wop_6f w W bs vs p1 k1 p2 k2 p3 k3 o h6 hf h hx hl
    · exact wop_6t w W bs vs p1 k1 p2 k2 p3 k3 o h6 hf h hx hl
  by_cases h7 : o.kind = 7
  · exact wop_7 w W bs vs p1 k1 p2 k2 p3 k3 o h7 h hx hl
  by_cases h8 : o.kind = 8
  · exact wop_8 w W bs vs p1 k1 p2 k2 p3 k3 o h8 h hx hl
  by_cases h9 : o.kind = 9
  · exact wop_9 w W bs vs p1 k1 p2 k2 p3 k3 o h9 h hx hl
  by_cases h10 : o.kind = 10
  · rcases hf : o.look.hasFilt with _ | _
    · exact wop_10f w W bs vs p1 k1 p2 k2 p3 k3 o h10 hf h hx hl
    · exact wop_10t w W bs vs p1 k1 p2 k2 p3 k3 o h10 hf h hx hl
  by_cases h11 : o.kind = 11
  · rcases hf : o.look.hasBack with _ | _
    · exact wop_11f w W bs vs p1 k1 p2 k2 p3 k3 o h11 hf h hx hl
    · exact wop_11t w W bs vs p1 k1 p2 k2 p3 k3 o h11 hf h hx hl
  exact wop_0 w W bs vs p1 k1 p2 k2 p3 k3 o h1 h3 h4 h5 h6 h7 h8 h9 h10 h11 h hx hl

end Go.Proofs.Ytnamnmipgpcjjaa

