/- Regions moved and grown; the bounds of regions: the code's and the document's. -/
import Derived.Test.YtapeafokcailkaaRqD
set_option linter.unusedSimpArgs false
set_option linter.unusedVariables false
set_option linter.unusedSectionVars false
set_option linter.constructorNameAsVariable false
namespace Go.Proofs.Ytapeafokcailkaa
open Go.RowKit Go.Gou Go.Reg Go.Shelf
set_option maxRecDepth 100000
theorem move_x {l : List Rt} {dx dy : Int} : ∀ r ∈ l, Near (moveP dx dy r).x0 := fun r _ => (moveP_right dx dy r).1
theorem grow_x {l : List Rt} {a b c d : Int} : ∀ r ∈ l, Near (growP a b c d r).x0 := fun r _ => (growP_right a b c d r).1

set_option maxHeartbeats 8000000 in
theorem regMove_any (w : World) (p : Option Addr) (c : Nat) (l : List Rt) (dx dy : Int) (hl : RtR (fun _ => True) w (.slice p l.length c) l) (hr : ∀ r ∈ l, r.Right) (hdx : Near dx) (hdy : Near dy) (hn : l.length ≤ 20) :
    Calls Try.prog 21 #[.slice p l.length c, .int .i64 dx, .int .i64 dy] w (CombP w (l.map (moveP dx dy)) [] orF) := by
  have k0 : ((w.alloc (.cells #[.int .i64 dx] 3)).alloc (.cells #[.int .i64 dy] 3)).cell? ⟨w.heap.size, 0, none⟩ = some (.int .i64 dx) := by
    have h : Blk ((w.alloc (.cells #[.int .i64 dx] 3)).alloc (.cells #[.int .i64 dy] 3)) w.heap.size 3 #[.int .i64 dx] := ((show Blk (w.alloc (.cells #[.int .i64 dx] 3)) w.heap.size 3 #[.int .i64 dx] from (Blk.new w 3 #[.int .i64 dx])).al _)
    exact h.cell 0 rfl
  have z0 := World.block_lt_of_cell? _ _ k0
  have k1 : ((w.alloc (.cells #[.int .i64 dx] 3)).alloc (.cells #[.int .i64 dy] 3)).cell? ⟨(w.heap.size + 1), 0, none⟩ = some (.int .i64 dy) := by
    have h : Blk ((w.alloc (.cells #[.int .i64 dx] 3)).alloc (.cells #[.int .i64 dy] 3)) (w.heap.size + 1) 3 #[.int .i64 dy] := (show Blk ((w.alloc (.cells #[.int .i64 dx] 3)).alloc (.cells #[.int .i64 dy] 3)) (w.heap.size + 1) 3 #[.int .i64 dy] from (by have h := Blk.new (w.alloc (.cells #[.int .i64 dx] 3)) 3 #[.int .i64 dy]; simpa only [World.size_alloc] using h))
    exact h.cell 0 rfl
  have z1 := World.block_lt_of_cell? _ _ k1
  have hm : Gou.Mod (fun _ => False) w ((w.alloc (.cells #[.int .i64 dx] 3)).alloc (.cells #[.int .i64 dy] 3)) := (Gou.Mod.alloc0 _ _).trans' (Gou.Mod.alloc0 _ _)
  have HE := Lib.hid (fun (X0 X1 : Nat) (W : World) (hm : Gou.Mod (fun _ => False) w W) (kk0 : W.cell? ⟨X0, 0, none⟩ = some (.int .i64 dx)) (zz0 : X0 < W.heap.size) (kk1 : W.cell? ⟨X1, 0, none⟩ = some (.int .i64 dy)) (zz1 : X1 < W.heap.size) => eachMove_any W p c l X0 X1 (moveP dx dy) (hl.under hm) (fun w' r hm2 hr2 => moveC_any r dx dy X0 X1 w' (hr r hr2) hdx hdy ((hm2.cell (p := ⟨X0, 0, none⟩) zz0 (fun h => h)).trans kk0) ((hm2.cell (p := ⟨X1, 0, none⟩) zz1 (fun h => h)).trans kk1)) move_x hn)
  clear hl hr hn
  go_enter Try.func21, Try.ntmps21
  go_wp2_with fail
  refine (HE.out _ _ _ hm k0 z0 k1 z1).mono ?_
  rintro e w2 hc
  have Hend := Lib.hid (hc.under hm)
  obtain ⟨p2, c2, out, rfl, -⟩ := hc.got
  clear hm HE k0 z0 k1 z1
  go_wp2_with fail
  go_ret
  exact Hend.out

set_option maxHeartbeats 8000000 in
theorem regGrow_any (w : World) (p : Option Addr) (c : Nat) (l : List Rt) (a b c' d : Int) (hl : RtR (fun _ => True) w (.slice p l.length c) l) (hr : ∀ r ∈ l, r.Right) (ha : Near a) (hb : Near b) (hc : Near c') (hd : Near d) (hn : l.length ≤ 20) :
    Calls Try.prog 24 #[.slice p l.length c, .int .i64 a, .int .i64 b, .int .i64 c', .int .i64 d] w (CombP w (l.map (growP a b c' d)) [] orF) := by
  have k0 : ((((w.alloc (.cells #[.int .i64 a] 3)).alloc (.cells #[.int .i64 b] 3)).alloc (.cells #[.int .i64 c'] 3)).alloc (.cells #[.int .i64 d] 3)).cell? ⟨w.heap.size, 0, none⟩ = some (.int .i64 a) := by
    have h : Blk ((((w.alloc (.cells #[.int .i64 a] 3)).alloc (.cells #[.int .i64 b] 3)).alloc (.cells #[.int .i64 c'] 3)).alloc (.cells #[.int .i64 d] 3)) w.heap.size 3 #[.int .i64 a] := ((((show Blk (w.alloc (.cells #[.int .i64 a] 3)) w.heap.size 3 #[.int .i64 a] from (Blk.new w 3 #[.int .i64 a])).al _).al _).al _)
    exact h.cell 0 rfl
  have z0 := World.block_lt_of_cell? _ _ k0
  have k1 : ((((w.alloc (.cells #[.int .i64 a] 3)).alloc (.cells #[.int .i64 b] 3)).alloc (.cells #[.int .i64 c'] 3)).alloc (.cells #[.int .i64 d] 3)).cell? ⟨(w.heap.size + 1), 0, none⟩ = some (.int .i64 b) := by
    have h : Blk ((((w.alloc (.cells #[.int .i64 a] 3)).alloc (.cells #[.int .i64 b] 3)).alloc (.cells #[.int .i64 c'] 3)).alloc (.cells #[.int .i64 d] 3)) (w.heap.size + 1) 3 #[.int .i64 b] := (((show Blk ((w.alloc (.cells #[.int .i64 a] 3)).alloc (.cells #[.int .i64 b] 3)) (w.heap.size + 1) 3 #[.int .i64 b] from (by have h := Blk.new (w.alloc (.cells #[.int .i64 a] 3)) 3 #[.int .i64 b]; simpa only [World.size_alloc] using h)).al _).al _)
    exact h.cell 0 rfl
  have z1 := World.block_lt_of_cell? _ _ k1
  have k2 : ((((w.alloc (.cells #[.int .i64 a] 3)).alloc (.cells #[.int .i64 b] 3)).alloc (.cells #[.int .i64 c'] 3)).alloc (.cells #[.int .i64 d] 3)).cell? ⟨(w.heap.size + 1 + 1), 0, none⟩ = some (.int .i64 c') := by
    have h : Blk ((((w.alloc (.cells #[.int .i64 a] 3)).alloc (.cells #[.int .i64 b] 3)).alloc (.cells #[.int .i64 c'] 3)).alloc (.cells #[.int .i64 d] 3)) (w.heap.size + 1 + 1) 3 #[.int .i64 c'] := ((show Blk (((w.alloc (.cells #[.int .i64 a] 3)).alloc (.cells #[.int .i64 b] 3)).alloc (.cells #[.int .i64 c'] 3)) (w.heap.size + 1 + 1) 3 #[.int .i64 c'] from (by have h := Blk.new ((w.alloc (.cells #[.int .i64 a] 3)).alloc (.cells #[.int .i64 b] 3)) 3 #[.int .i64 c']; simpa only [World.size_alloc] using h)).al _)
    exact h.cell 0 rfl
  have z2 := World.block_lt_of_cell? _ _ k2
  have k3 : ((((w.alloc (.cells #[.int .i64 a] 3)).alloc (.cells #[.int .i64 b] 3)).alloc (.cells #[.int .i64 c'] 3)).alloc (.cells #[.int .i64 d] 3)).cell? ⟨(w.heap.size + 1 + 1 + 1), 0, none⟩ = some (.int .i64 d) := by
    have h : Blk ((((w.alloc (.cells #[.int .i64 a] 3)).alloc (.cells #[.int .i64 b] 3)).alloc (.cells #[.int .i64 c'] 3)).alloc (.cells #[.int .i64 d] 3)) (w.heap.size + 1 + 1 + 1) 3 #[.int .i64 d] := (show Blk ((((w.alloc (.cells #[.int .i64 a] 3)).alloc (.cells #[.int .i64 b] 3)).alloc (.cells #[.int .i64 c'] 3)).alloc (.cells #[.int .i64 d] 3)) (w.heap.size + 1 + 1 + 1) 3 #[.int .i64 d] from (by have h := Blk.new (((w.alloc (.cells #[.int .i64 a] 3)).alloc (.cells #[.int .i64 b] 3)).alloc (.cells #[.int .i64 c'] 3)) 3 #[.int .i64 d]; simpa only [World.size_alloc] using h))
    exact h.cell 0 rfl
  have z3 := World.block_lt_of_cell? _ _ k3
  have hm : Gou.Mod (fun _ => False) w ((((w.alloc (.cells #[.int .i64 a] 3)).alloc (.cells #[.int .i64 b] 3)).alloc (.cells #[.int .i64 c'] 3)).alloc (.cells #[.int .i64 d] 3)) := (((Gou.Mod.alloc0 _ _).trans' (Gou.Mod.alloc0 _ _)).trans' (Gou.Mod.alloc0 _ _)).trans' (Gou.Mod.alloc0 _ _)
  have HE := Lib.hid (fun (X0 X1 X2 X3 : Nat) (W : World) (hm : Gou.Mod (fun _ => False) w W) (kk0 : W.cell? ⟨X0, 0, none⟩ = some (.int .i64 a)) (zz0 : X0 < W.heap.size) (kk1 : W.cell? ⟨X1, 0, none⟩ = some (.int .i64 b)) (zz1 : X1 < W.heap.size) (kk2 : W.cell? ⟨X2, 0, none⟩ = some (.int .i64 c')) (zz2 : X2 < W.heap.size) (kk3 : W.cell? ⟨X3, 0, none⟩ = some (.int .i64 d)) (zz3 : X3 < W.heap.size) => eachGrow_any W p c l X0 X1 X2 X3 (growP a b c' d) (hl.under hm) (fun w' r hm2 hr2 => growC_any r a b c' d X0 X1 X2 X3 w' (hr r hr2) ha hb hc hd ((hm2.cell (p := ⟨X0, 0, none⟩) zz0 (fun h => h)).trans kk0) ((hm2.cell (p := ⟨X1, 0, none⟩) zz1 (fun h => h)).trans kk1) ((hm2.cell (p := ⟨X2, 0, none⟩) zz2 (fun h => h)).trans kk2) ((hm2.cell (p := ⟨X3, 0, none⟩) zz3 (fun h => h)).trans kk3)) grow_x hn)
  clear hl hr hn
  go_enter Try.func24, Try.ntmps24
  go_wp2_with fail
  refine (HE.out _ _ _ _ _ hm k0 z0 k1 z1 k2 z2 k3 z3).mono ?_
  rintro e w2 hc
  have Hend := Lib.hid (hc.under hm)
  obtain ⟨p2, c2, out, rfl, -⟩ := hc.got
  clear hm HE k0 z0 k1 z1 k2 z2 k3 z3
  go_wp2_with fail
  go_ret
  exact Hend.out

set_option maxHeartbeats 8000000 in
theorem refRMove_any (w : World) (p : Option Addr) (c : Nat) (l : List Rt) (dx dy : Int) (hl : RtR (fun _ => True) w (.slice p l.length c) l) (hr : ∀ r ∈ l, r.Right) (hdx : Near dx) (hdy : Near dy) (hn : l.length ≤ 20) :
    Calls Try.prog 23 #[.slice p l.length c, .int .i64 dx, .int .i64 dy] w (CombP w (l.map (moveP dx dy)) [] orF) := by
  obtain ⟨F, hFe⟩ : ∃ F, F = moveP dx dy := ⟨_, rfl⟩
  have HF : Hid (∀ (w' : World) (r : Rt), Gou.Mod (fun _ => False) w w' → r ∈ l → Calls Try.prog 46 #[rtV r, .int .i64 dx, .int .i64 dy] w' fun e w'' => e = .returned (rtV (F r)) ∧ Gou.Mod (fun _ => False) w' w'') := Lib.hid (fun w' r _ hr2 => by
    rw [hFe]
    refine (refMove_any r dx dy w' (hr r hr2) hdx hdy).mono ?_
    rintro e w2 ⟨rfl, hb⟩
    exact ⟨rfl, Gou.Mod.of_below hb (fun _ => False)⟩)
  have Hx : Hid (∀ r ∈ l, Near (F r).x0) := Lib.hid (by rw [hFe]; exact move_x)
  rw [← hFe]
  have HL := Lib.hid hl
  have Hn := Lib.hid hn
  clear hl hr hn hFe
  go_enter Try.func23, Try.ntmps23
  go_wp2_with fail
  go_loopw [7, 8] (fun vo vi wr => ∃ (i : Nat) (o : List Rt), vi = .int .i64 i ∧ i ≤ l.length ∧ o = (l.take i).map F ∧ o.length = i ∧ wr.ownsRow w.heap.size 36 4 vo o.length (rts o) ∧ Gou.Mod (fun _ => False) w wr) (fun _ vi _ => l.length - (intOf vi).toNat)
  case atStart => exact ⟨0, [], rfl, by omega, by simp, rfl, World.ownsRow_nil _ _ _ _, Gou.Mod.refl _ _⟩
  case round =>
    obtain ⟨i, o, rfl, hi, ho, hol, hown, hm⟩ := hrel
    obtain ⟨po, co, rfl⟩ := Gou.ownsRow_form hown
    have Ho := Lib.hid ho
    have Hol := Lib.hid hol
    have Hown := Lib.hid hown
    have Hm := Lib.hid hm
    clear ho hol hown hm
    by_cases hil : i < l.length
    · have e1 : decide ((i : Int) < (l.length : Int)) = true := decide_eq_true (by omega)
      obtain ⟨-, bl, off, rfl, hb, -, hc⟩ := HL.out.cells (by omega)
      obtain ⟨k0, k1, k2, k3⟩ := hc i hil
      rw [← Hm.out.cell (p := ⟨bl, off + i * 4, none⟩) hb (fun h => h)] at k0
      rw [← Hm.out.cell (p := ⟨bl, off + i * 4 + 1, none⟩) hb (fun h => h)] at k1
      rw [← Hm.out.cell (p := ⟨bl, off + i * 4 + 2, none⟩) hb (fun h => h)] at k2
      rw [← Hm.out.cell (p := ⟨bl, off + i * 4 + 3, none⟩) hb (fun h => h)] at k3
      have hi1 : (i : Int) < (l.length : Int) := by omega
      have hi0 : (0 : Int) ≤ (i : Int) := by omega
      have wi : IntKind.i64.wrap ((i : Int) + 1) = (i : Int) + 1 := wrap_id (by omega) (by have := Hn.out; omega)
      clear hc
      have Hin := Lib.hid (And.intro hi hil)
      have HFi := Lib.hid (fun (w' : World) (hm : Gou.Mod (fun _ => False) w w') => HF.out w' _ hm (List.getElem_mem hil))
      have Hst : Hid (o ++ [F l[i]] = (l.take (i + 1)).map F) := Lib.hid (by rw [Ho.out, List.take_succ_eq_append_getElem hil, List.map_append]; rfl)
      generalize l[i] = s at *
      generalize F s = fs at *
      obtain ⟨ra, rb, rc, rd⟩ := s
      simp only at k0 k1 k2 k3
      go_wp2_with fail
      have Hm3 := Hm
      have Hown3 := Hown
      clear k0 k1 k2 k3
      refine (HFi.out _ Hm3.out).mono ?_
      rintro e w4 ⟨rfl, hm4⟩
      have Hm4 := Lib.hid (Hm3.out.trans' hm4)
      have Hown4 := Lib.hid (own_up Hown3.out hm4)
      clear hm4 HFi Hm3 Hown3
      obtain ⟨fa, fb, fc, fd⟩ := fs
      go_wp2_with (first | ((with_reducible show wpList _ _ _ (⟨_, Op.call ⟨.builtin .append, _, _⟩, _, _, _, _⟩ :: _) _ _); refine halt ?_) | fail)
      refine wpList_append_row T_rt rfl _ _ rfl (w.heap.size) (.slice po o.length co) (o.length) (rts o) (fun _ => True) (.slice (some ⟨w4.heap.size, 0, none⟩) 1 1) (1) ([.int .i64 fa, .int .i64 fb, .int .i64 fc, .int .i64 fd]) rfl rfl (by have := Hm4.out.size; simp; omega) (own_up Hown4.out (Gou.Mod.alloc0 _ _)) (RowG.of_blk (Blk.new _ _ #[.int .i64 fa, .int .i64 fb, .int .i64 fc, .int .i64 fd]) 4 1 rfl _ trivial) (rtC_one ⟨fa, fb, fc, fd⟩) (by have := Hol.out; have := Hn.out; first | (unfold maxLen; omega) | omega) (by have := Hol.out; have := Hn.out; first | (unfold maxLen; omega) | omega) ?_
      intro v5 w5 G5
      have Hm5 := Lib.hid (G5.mod0 (Hm4.out.trans' (Gou.Mod.alloc0 _ _)) (own_ge Hown4.out))
      have Hown5 := Lib.hid (own_snoc (s := ⟨fa, fb, fc, fd⟩) G5.own)
      clear G5 Hm4 Hown4
      obtain ⟨p5, c5, rfl⟩ := Gou.ownsRow_form Hown5.out
      go_wp2_with fail
      go_roundw
      case rel => exact ⟨i + 1, o ++ [⟨fa, fb, fc, fd⟩], by go_num, by have := Hin.out; omega, Hst.out, by have := Hol.out; simp; omega, by rw [show o.length + 1 = (o ++ [(⟨fa, fb, fc, fd⟩ : Rt)]).length from by simp]; exact Hown5.out, Hm5.out⟩
      case measure => have := Hin.out; simp [intOf, wi]; omega
    · have hil' : i = l.length := by omega
      have e1 : decide ((i : Int) < (l.length : Int)) = false := decide_eq_false (by omega)
      rw [hil', List.take_length] at Ho
      have Ho2 : Hid (o.length = l.length) := Lib.hid (by rw [Hol.out, hil'])
      go_wp2_with fail
      refine (refOf_any _ po co o (RowG.own_of Hown.out (fun _ _ _ => trivial)) (by have := Ho2.out; have := Hn.out; omega)).mono ?_
      rintro e w2 hc
      have Hend := Lib.hid ((hc.under Hm.out))
      obtain ⟨p2, c2, out, rfl, -⟩ := hc.got
      rw [Ho.out] at Hend
      go_wp2_with fail
      go_ret
      exact Hend.out

set_option maxHeartbeats 8000000 in
theorem refRGrow_any (w : World) (p : Option Addr) (c : Nat) (l : List Rt) (a b c' d : Int) (hl : RtR (fun _ => True) w (.slice p l.length c) l) (hr : ∀ r ∈ l, r.Right) (ha : Near a) (hb : Near b) (hc : Near c') (hd : Near d) (hn : l.length ≤ 20) :
    Calls Try.prog 25 #[.slice p l.length c, .int .i64 a, .int .i64 b, .int .i64 c', .int .i64 d] w (CombP w (l.map (growP a b c' d)) [] orF) := by
  obtain ⟨F, hFe⟩ : ∃ F, F = growP a b c' d := ⟨_, rfl⟩
  have HF : Hid (∀ (w' : World) (r : Rt), Gou.Mod (fun _ => False) w w' → r ∈ l → Calls Try.prog 49 #[rtV r, .int .i64 a, .int .i64 b, .int .i64 c', .int .i64 d] w' fun e w'' => e = .returned (rtV (F r)) ∧ Gou.Mod (fun _ => False) w' w'') := Lib.hid (fun w' r _ hr2 => by
    rw [hFe]
    refine (refGrow_any r a b c' d w' (hr r hr2) ha hb hc hd).mono ?_
    rintro e w2 ⟨rfl, hb⟩
    exact ⟨rfl, Gou.Mod.of_below hb (fun _ => False)⟩)
  have Hx : Hid (∀ r ∈ l, Near (F r).x0) := Lib.hid (by rw [hFe]; exact grow_x)
  rw [← hFe]
  have HL := Lib.hid hl
  have Hn := Lib.hid hn
  clear hl hr hn hFe
  go_enter Try.func25, Try.ntmps25
  go_wp2_with fail
  go_loopw [11, 12] (fun vo vi wr => ∃ (i : Nat) (o : List Rt), vi = .int .i64 i ∧ i ≤ l.length ∧ o = (l.take i).map F ∧ o.length = i ∧ wr.ownsRow w.heap.size 36 4 vo o.length (rts o) ∧ Gou.Mod (fun _ => False) w wr) (fun _ vi _ => l.length - (intOf vi).toNat)
  case atStart => exact ⟨0, [], rfl, by omega, by simp, rfl, World.ownsRow_nil _ _ _ _, Gou.Mod.refl _ _⟩
  case round =>
    obtain ⟨i, o, rfl, hi, ho, hol, hown, hm⟩ := hrel
    obtain ⟨po, co, rfl⟩ := Gou.ownsRow_form hown
    have Ho := Lib.hid ho
    have Hol := Lib.hid hol
    have Hown := Lib.hid hown
    have Hm := Lib.hid hm
    clear ho hol hown hm
    by_cases hil : i < l.length
    · have e1 : decide ((i : Int) < (l.length : Int)) = true := decide_eq_true (by omega)
      obtain ⟨-, bl, off, rfl, hb, -, hc⟩ := HL.out.cells (by omega)
      obtain ⟨k0, k1, k2, k3⟩ := hc i hil
      rw [← Hm.out.cell (p := ⟨bl, off + i * 4, none⟩) hb (fun h => h)] at k0
      rw [← Hm.out.cell (p := ⟨bl, off + i * 4 + 1, none⟩) hb (fun h => h)] at k1
      rw [← Hm.out.cell (p := ⟨bl, off + i * 4 + 2, none⟩) hb (fun h => h)] at k2
      rw [← Hm.out.cell (p := ⟨bl, off + i * 4 + 3, none⟩) hb (fun h => h)] at k3
      have hi1 : (i : Int) < (l.length : Int) := by omega
      have hi0 : (0 : Int) ≤ (i : Int) := by omega
      have wi : IntKind.i64.wrap ((i : Int) + 1) = (i : Int) + 1 := wrap_id (by omega) (by have := Hn.out; omega)
      clear hc
      have Hin := Lib.hid (And.intro hi hil)
      have HFi := Lib.hid (fun (w' : World) (hm : Gou.Mod (fun _ => False) w w') => HF.out w' _ hm (List.getElem_mem hil))
      have Hst : Hid (o ++ [F l[i]] = (l.take (i + 1)).map F) := Lib.hid (by rw [Ho.out, List.take_succ_eq_append_getElem hil, List.map_append]; rfl)
      generalize l[i] = s at *
      generalize F s = fs at *
      obtain ⟨ra, rb, rc, rd⟩ := s
      simp only at k0 k1 k2 k3
      go_wp2_with fail
      have Hm3 := Hm
      have Hown3 := Hown
      clear k0 k1 k2 k3
      refine (HFi.out _ Hm3.out).mono ?_
      rintro e w4 ⟨rfl, hm4⟩
      have Hm4 := Lib.hid (Hm3.out.trans' hm4)
      have Hown4 := Lib.hid (own_up Hown3.out hm4)
      clear hm4 HFi Hm3 Hown3
      obtain ⟨fa, fb, fc, fd⟩ := fs
      go_wp2_with (first | ((with_reducible show wpList _ _ _ (⟨_, Op.call ⟨.builtin .append, _, _⟩, _, _, _, _⟩ :: _) _ _); refine halt ?_) | fail)
      refine wpList_append_row T_rt rfl _ _ rfl (w.heap.size) (.slice po o.length co) (o.length) (rts o) (fun _ => True) (.slice (some ⟨w4.heap.size, 0, none⟩) 1 1) (1) ([.int .i64 fa, .int .i64 fb, .int .i64 fc, .int .i64 fd]) rfl rfl (by have := Hm4.out.size; simp; omega) (own_up Hown4.out (Gou.Mod.alloc0 _ _)) (RowG.of_blk (Blk.new _ _ #[.int .i64 fa, .int .i64 fb, .int .i64 fc, .int .i64 fd]) 4 1 rfl _ trivial) (rtC_one ⟨fa, fb, fc, fd⟩) (by have := Hol.out; have := Hn.out; first | (unfold maxLen; omega) | omega) (by have := Hol.out; have := Hn.out; first | (unfold maxLen; omega) | omega) ?_
      intro v5 w5 G5
      have Hm5 := Lib.hid (G5.mod0 (Hm4.out.trans' (Gou.Mod.alloc0 _ _)) (own_ge Hown4.out))
      have Hown5 := Lib.hid (own_snoc (s := ⟨fa, fb, fc, fd⟩) G5.own)
      clear G5 Hm4 Hown4
      obtain ⟨p5, c5, rfl⟩ := Gou.ownsRow_form Hown5.out
      go_wp2_with fail
      go_roundw
      case rel => exact ⟨i + 1, o ++ [⟨fa, fb, fc, fd⟩], by go_num, by have := Hin.out; omega, Hst.out, by have := Hol.out; simp; omega, by rw [show o.length + 1 = (o ++ [(⟨fa, fb, fc, fd⟩ : Rt)]).length from by simp]; exact Hown5.out, Hm5.out⟩
      case measure => have := Hin.out; simp [intOf, wi]; omega
    · have hil' : i = l.length := by omega
      have e1 : decide ((i : Int) < (l.length : Int)) = false := decide_eq_false (by omega)
      rw [hil', List.take_length] at Ho
      have Ho2 : Hid (o.length = l.length) := Lib.hid (by rw [Hol.out, hil'])
      go_wp2_with fail
      refine (refOf_any _ po co o (RowG.own_of Hown.out (fun _ _ _ => trivial)) (by have := Ho2.out; have := Hn.out; omega)).mono ?_
      rintro e w2 hc
      have Hend := Lib.hid ((hc.under Hm.out))
      obtain ⟨p2, c2, out, rfl, -⟩ := hc.got
      rw [Ho.out] at Hend
      go_wp2_with fail
      go_ret
      exact Hend.out

end Go.Proofs.Ytapeafokcailkaa
