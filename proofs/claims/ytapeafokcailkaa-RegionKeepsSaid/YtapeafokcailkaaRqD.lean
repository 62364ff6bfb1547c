/- Regions moved and grown, the code's and the document's. -/
import Derived.Test.YtapeafokcailkaaRqB
set_option linter.unusedSimpArgs false
set_option linter.unusedVariables false
set_option linter.unusedSectionVars false
set_option linter.constructorNameAsVariable false
namespace Go.Gou
open Go.RowKit Go.Reg
theorem own_snoc {w : World} {B : Nat} {T : TypeId} {v : Value} {o : List Rt} {s : Rt} (h : w.ownsRow B T 4 v (o.length + 1) (rts o ++ [.int .i64 s.x0, .int .i64 s.y0, .int .i64 s.x1, .int .i64 s.y1])) : w.ownsRow B T 4 v (o ++ [s]).length (rts (o ++ [s])) := by
  rw [rts_app, List.length_append]
  exact h
end Go.Gou
namespace Go.Proofs.Ytapeafokcailkaa
open Go.RowKit Go.Gou Go.Reg Go.Shelf
set_option maxRecDepth 100000

theorem CombP.under {w w1 : World} {a b : List Rt} {f : Bool → Bool → Bool} {e : Ending} {w' : World} (h : CombP w1 a b f e w') (hm : Gou.Mod (fun _ => False) w w1) : CombP w a b f e w' := by
  obtain ⟨h1, v, o, rfl, hown, h2, h3⟩ := h
  exact ⟨hm.trans' h1, v, o, rfl, ownsRow_base hown hm.size, h2, h3⟩

set_option maxHeartbeats 400000 in
theorem moveC_any (r : Rt) (dx dy : Int) (X Y : Nat) (w : World) (hr : r.Right) (hdx : Near dx) (hdy : Near dy) (g0 : w.cell? ⟨X, 0, none⟩ = some (.int .i64 dx)) (g1 : w.cell? ⟨Y, 0, none⟩ = some (.int .i64 dy)) :
    Calls Try.prog 44 #[rtV r, .pointer (some ⟨X, 0, none⟩), .pointer (some ⟨Y, 0, none⟩)] w fun e w' => e = .returned (rtV (moveP dx dy r)) ∧ Gou.Mod (fun _ => False) w w' := by
  have hX0 := World.block_lt_of_cell? w _ g0
  have hX1 := World.block_lt_of_cell? w _ g1
  go_enter Try.func44, Try.ntmps44
  go_wp2_with fail
  obtain ⟨H1, H2⟩ := two_new w 36 36 #[.int .i64 r.x0, .int .i64 r.y0, .int .i64 r.x1, .int .i64 r.y1] #[.int .i64 0, .int .i64 0, .int .i64 0, .int .i64 0]
  have hb2 := below2 w (.cells #[.int .i64 r.x0, .int .i64 r.y0, .int .i64 r.x1, .int .i64 r.y1] 36) (.cells #[.int .i64 0, .int .i64 0, .int .i64 0, .int .i64 0] 36)
  have hz : w.heap.size + 1 < ((w.alloc (.cells #[.int .i64 r.x0, .int .i64 r.y0, .int .i64 r.x1, .int .i64 r.y1] 36)).alloc (.cells #[.int .i64 0, .int .i64 0, .int .i64 0, .int .i64 0] 36)).heap.size := by simp
  have HH2 := Lib.hid H2
  have Hb2 := Lib.hid hb2
  have Hz := Lib.hid hz
  clear H1 H2 hb2 hz
  generalize (w.alloc (.cells #[.int .i64 r.x0, .int .i64 r.y0, .int .i64 r.x1, .int .i64 r.y1] 36)).alloc (.cells #[.int .i64 0, .int .i64 0, .int .i64 0, .int .i64 0] 36) = W2 at *
  refine (rectMove_any r dx dy _ hr hdx hdy).mono ?_
  rintro e w3 ⟨rfl, hb3⟩
  have Hm3 := Lib.hid (Gou.Mod.of_below hb3 (fun _ => False))
  clear hb3
  have HB3 := Lib.hid (HH2.out.mod0 Hm3.out)
  obtain ⟨t, ht⟩ : ∃ t, t = moveP dx dy r := ⟨_, rfl⟩
  rw [← ht]
  have Ht := Lib.hid ht
  clear ht
  have Hth := Lib.hid (HB3.out.there 0 4 (by simp))
  go_wp2_with (first | ((with_reducible refine wpList_store_mid ?g1 36 ?x1 ?y1 ?o1 (w.heap.size + 1) 0 #[.int .i64 t.x0, .int .i64 t.y0, .int .i64 t.x1, .int .i64 t.y1] ?h1 ?j1 ?t1 ?i1 ?s1 ?r1); (case g1 => exact rfl); (case o1 => exact rfl); (case h1 => exact rfl); (case j1 => exact rfl); (case t1 => exact Hth.out); (case i1 => exact size_rect); (case s1 => exact one4 _ _ _ _)) | fail)
  have h := store_end (N := w.heap.size + 1) Hb2.out (by omega) (by have := Hz.out; omega) HH2.out Hm3.out (.int .i64 t.x0) (.int .i64 t.y0) (.int .i64 t.x1) (.int .i64 t.y1)
  refine ret_rect t rfl rfl rfl h.1 Try.underlying36 rfl size_rect ?_
  exact ⟨by rw [Ht.out], Gou.Mod.of_below h.2 (fun _ => False)⟩

set_option maxHeartbeats 400000 in
theorem growC_any (r : Rt) (l u x y : Int) (X Y Z U : Nat) (w : World) (hr : r.Right) (hl : Near l) (hu : Near u) (hx : Near x) (hy : Near y) (g0 : w.cell? ⟨X, 0, none⟩ = some (.int .i64 l)) (g1 : w.cell? ⟨Y, 0, none⟩ = some (.int .i64 u)) (g2 : w.cell? ⟨Z, 0, none⟩ = some (.int .i64 x)) (g3 : w.cell? ⟨U, 0, none⟩ = some (.int .i64 y)) :
    Calls Try.prog 47 #[rtV r, .pointer (some ⟨X, 0, none⟩), .pointer (some ⟨Y, 0, none⟩), .pointer (some ⟨Z, 0, none⟩), .pointer (some ⟨U, 0, none⟩)] w fun e w' => e = .returned (rtV (growP l u x y r)) ∧ Gou.Mod (fun _ => False) w w' := by
  have hX0 := World.block_lt_of_cell? w _ g0
  have hX1 := World.block_lt_of_cell? w _ g1
  have hX2 := World.block_lt_of_cell? w _ g2
  have hX3 := World.block_lt_of_cell? w _ g3
  go_enter Try.func47, Try.ntmps47
  go_wp2_with fail
  obtain ⟨H1, H2⟩ := two_new w 36 36 #[.int .i64 r.x0, .int .i64 r.y0, .int .i64 r.x1, .int .i64 r.y1] #[.int .i64 0, .int .i64 0, .int .i64 0, .int .i64 0]
  have hb2 := below2 w (.cells #[.int .i64 r.x0, .int .i64 r.y0, .int .i64 r.x1, .int .i64 r.y1] 36) (.cells #[.int .i64 0, .int .i64 0, .int .i64 0, .int .i64 0] 36)
  have hz : w.heap.size + 1 < ((w.alloc (.cells #[.int .i64 r.x0, .int .i64 r.y0, .int .i64 r.x1, .int .i64 r.y1] 36)).alloc (.cells #[.int .i64 0, .int .i64 0, .int .i64 0, .int .i64 0] 36)).heap.size := by simp
  have HH2 := Lib.hid H2
  have Hb2 := Lib.hid hb2
  have Hz := Lib.hid hz
  clear H1 H2 hb2 hz
  generalize (w.alloc (.cells #[.int .i64 r.x0, .int .i64 r.y0, .int .i64 r.x1, .int .i64 r.y1] 36)).alloc (.cells #[.int .i64 0, .int .i64 0, .int .i64 0, .int .i64 0] 36) = W2 at *
  refine (rectGrow_any r l u x y _ hr hl hu hx hy).mono ?_
  rintro e w3 ⟨rfl, hb3⟩
  have Hm3 := Lib.hid (Gou.Mod.of_below hb3 (fun _ => False))
  clear hb3
  have HB3 := Lib.hid (HH2.out.mod0 Hm3.out)
  obtain ⟨t, ht⟩ : ∃ t, t = growP l u x y r := ⟨_, rfl⟩
  rw [← ht]
  have Ht := Lib.hid ht
  clear ht
  have Hth := Lib.hid (HB3.out.there 0 4 (by simp))
  go_wp2_with (first | ((with_reducible refine wpList_store_mid ?g1 36 ?x1 ?y1 ?o1 (w.heap.size + 1) 0 #[.int .i64 t.x0, .int .i64 t.y0, .int .i64 t.x1, .int .i64 t.y1] ?h1 ?j1 ?t1 ?i1 ?s1 ?r1); (case g1 => exact rfl); (case o1 => exact rfl); (case h1 => exact rfl); (case j1 => exact rfl); (case t1 => exact Hth.out); (case i1 => exact size_rect); (case s1 => exact one4 _ _ _ _)) | fail)
  have h := store_end (N := w.heap.size + 1) Hb2.out (by omega) (by have := Hz.out; omega) HH2.out Hm3.out (.int .i64 t.x0) (.int .i64 t.y0) (.int .i64 t.x1) (.int .i64 t.y1)
  refine ret_rect t rfl rfl rfl h.1 Try.underlying36 rfl size_rect ?_
  exact ⟨by rw [Ht.out], Gou.Mod.of_below h.2 (fun _ => False)⟩

set_option maxHeartbeats 8000000 in
theorem eachMove_any (w : World) (p : Option Addr) (c : Nat) (l : List Rt) (X Y : Nat) (F : Rt → Rt) (hl : RtR (fun _ => True) w (.slice p l.length c) l)
    (hF : ∀ (w' : World) (r : Rt), Gou.Mod (fun _ => False) w w' → r ∈ l → Calls Try.prog 44 #[rtV r, .pointer (some ⟨X, 0, none⟩), .pointer (some ⟨Y, 0, none⟩)] w' fun e w'' => e = .returned (rtV (F r)) ∧ Gou.Mod (fun _ => False) w' w'') (hx : ∀ r ∈ l, Near (F r).x0) (hn : l.length ≤ 20) :
    Calls Try.prog 43 #[.slice p l.length c, .func (.func 44) #[] #[.pointer (some ⟨X, 0, none⟩), .pointer (some ⟨Y, 0, none⟩)]] w (CombP w (l.map F) [] orF) := by
  have HL := Lib.hid hl
  have HF := Lib.hid hF
  have Hx := Lib.hid hx
  have Hn := Lib.hid hn
  clear hl hF hx hn
  go_enter Try.func43, Try.ntmps43
  go_wp2_with fail
  go_loopw [5, 10] (fun vo vi wr => ∃ (i : Nat) (o : List Rt), vi = .int .i64 i ∧ i ≤ l.length ∧ o = (l.take i).map F ∧ o.length = i ∧ wr.ownsRow w.heap.size 36 4 vo o.length (rts o) ∧ Gou.Mod (fun _ => False) w wr) (fun _ vi _ => l.length - (intOf vi).toNat)
  case atStart => exact ⟨0, [], rfl, by omega, by simp, rfl, World.ownsRow_nil _ _ _ _, Gou.Mod.refl _ _⟩
  case round =>
    obtain ⟨i, o, rfl, hi, ho, hol, hown, hm⟩ := hrel
    obtain ⟨po, co, rfl⟩ := Gou.ownsRow_form hown
    have Ho := Lib.hid ho
    have Hol := Lib.hid hol
    have Hown := Lib.hid hown
    have Hm := Lib.hid hm
    clear ho hol hown hm
    by_cases hil : i < l.length
    · have e1 : decide ((i : Int) < (l.length : Int)) = true := decide_eq_true (by omega)
      obtain ⟨-, bl, off, rfl, hb, -, hc⟩ := HL.out.cells (by omega)
      obtain ⟨k0, k1, k2, k3⟩ := hc i hil
      rw [← Hm.out.cell (p := ⟨bl, off + i * 4, none⟩) hb (fun h => h)] at k0
      rw [← Hm.out.cell (p := ⟨bl, off + i * 4 + 1, none⟩) hb (fun h => h)] at k1
      rw [← Hm.out.cell (p := ⟨bl, off + i * 4 + 2, none⟩) hb (fun h => h)] at k2
      rw [← Hm.out.cell (p := ⟨bl, off + i * 4 + 3, none⟩) hb (fun h => h)] at k3
      have hi1 : (i : Int) < (l.length : Int) := by omega
      have hi0 : (0 : Int) ≤ (i : Int) := by omega
      have wi : IntKind.i64.wrap ((i : Int) + 1) = (i : Int) + 1 := wrap_id (by omega) (by have := Hn.out; omega)
      clear hc
      have Hin := Lib.hid (And.intro hi hil)
      have HFi := Lib.hid (fun (w' : World) (hm : Gou.Mod (fun _ => False) w w') => HF.out w' _ hm (List.getElem_mem hil))
      have Hst : Hid (o ++ [F l[i]] = (l.take (i + 1)).map F) := Lib.hid (by rw [Ho.out, List.take_succ_eq_append_getElem hil, List.map_append]; rfl)
      generalize l[i] = s at *
      generalize F s = fs at *
      obtain ⟨a, b, c', d⟩ := s
      simp only at k0 k1 k2 k3
      go_wp2_with fail
      have HN := Lib.hid (Blk.new wr 36 #[.int .i64 a, .int .i64 b, .int .i64 c', .int .i64 d])
      have Hm3 : Hid (Gou.Mod (fun _ => False) w (wr.alloc (.cells #[.int .i64 a, .int .i64 b, .int .i64 c', .int .i64 d] 36))) := Lib.hid (Hm.out.trans' (Gou.Mod.alloc0 _ _))
      have Hown3 := Lib.hid (own_up Hown.out (Gou.Mod.alloc0 wr (.cells #[.int .i64 a, .int .i64 b, .int .i64 c', .int .i64 d] 36)))
      clear k0 k1 k2 k3 Hm Hown
      generalize wr.alloc (.cells #[.int .i64 a, .int .i64 b, .int .i64 c', .int .i64 d] 36) = W3 at *
      generalize wr.heap.size = N at *
      obtain ⟨⟨cb0, cb1, cb2, cb3⟩, -⟩ := four HN.out
      go_wp2_with fail
      refine (HFi.out _ Hm3.out).mono ?_
      rintro e w4 ⟨rfl, hm4⟩
      have Hm4 := Lib.hid (Hm3.out.trans' hm4)
      have Hown4 := Lib.hid (own_up Hown3.out hm4)
      clear hm4 HFi Hm3 Hown3
      obtain ⟨fa, fb, fc, fd⟩ := fs
      go_wp2_with (first | ((with_reducible show wpList _ _ _ (⟨_, Op.call ⟨.builtin .append, _, _⟩, _, _, _, _⟩ :: _) _ _); refine halt ?_) | fail)
      refine wpList_append_row T_rt rfl _ _ rfl (w.heap.size) (.slice po o.length co) (o.length) (rts o) (fun _ => True) (.slice (some ⟨w4.heap.size, 0, none⟩) 1 1) (1) ([.int .i64 fa, .int .i64 fb, .int .i64 fc, .int .i64 fd]) rfl rfl (by have := Hm4.out.size; simp; omega) (own_up Hown4.out (Gou.Mod.alloc0 _ _)) (RowG.of_blk (Blk.new _ _ #[.int .i64 fa, .int .i64 fb, .int .i64 fc, .int .i64 fd]) 4 1 rfl _ trivial) (rtC_one ⟨fa, fb, fc, fd⟩) (by have := Hol.out; have := Hn.out; first | (unfold maxLen; omega) | omega) (by have := Hol.out; have := Hn.out; first | (unfold maxLen; omega) | omega) ?_
      intro v5 w5 G5
      have Hm5 := Lib.hid (G5.mod0 (Hm4.out.trans' (Gou.Mod.alloc0 _ _)) (own_ge Hown4.out))
      have Hown5 := Lib.hid (own_snoc (s := ⟨fa, fb, fc, fd⟩) G5.own)
      clear G5 Hm4 Hown4
      obtain ⟨p5, c5, rfl⟩ := Gou.ownsRow_form Hown5.out
      go_wp2_with fail
      go_roundw
      case rel => exact ⟨i + 1, o ++ [⟨fa, fb, fc, fd⟩], by go_num, by have := Hin.out; omega, Hst.out, by have := Hol.out; simp; omega, by rw [show o.length + 1 = (o ++ [(⟨fa, fb, fc, fd⟩ : Rt)]).length from by simp]; exact Hown5.out, Hm5.out⟩
      case measure => have := Hin.out; simp [intOf, wi]; omega
    · have hil' : i = l.length := by omega
      have e1 : decide ((i : Int) < (l.length : Int)) = false := decide_eq_false (by omega)
      rw [hil', List.take_length] at Ho
      have Ho2 : Hid (o.length = l.length) := Lib.hid (by rw [Hol.out, hil'])
      go_wp2_with fail
      refine (regOf_any _ po co o (RowG.own_of Hown.out (fun _ _ _ => trivial)) (by
        rw [Ho.out]
        intro r hr
        obtain ⟨q, hq, rfl⟩ := List.mem_map.1 hr
        exact Hx.out q hq) (by have := Ho2.out; have := Hn.out; omega)).mono ?_
      rintro e w2 hc
      have Hend := Lib.hid ((hc.under Hm.out))
      obtain ⟨p2, c2, out, rfl, -⟩ := hc.got
      rw [Ho.out] at Hend
      go_wp2_with fail
      go_ret
      exact Hend.out

set_option maxHeartbeats 8000000 in
theorem eachGrow_any (w : World) (p : Option Addr) (c : Nat) (l : List Rt) (X Y Z U : Nat) (F : Rt → Rt) (hl : RtR (fun _ => True) w (.slice p l.length c) l)
    (hF : ∀ (w' : World) (r : Rt), Gou.Mod (fun _ => False) w w' → r ∈ l → Calls Try.prog 47 #[rtV r, .pointer (some ⟨X, 0, none⟩), .pointer (some ⟨Y, 0, none⟩), .pointer (some ⟨Z, 0, none⟩), .pointer (some ⟨U, 0, none⟩)] w' fun e w'' => e = .returned (rtV (F r)) ∧ Gou.Mod (fun _ => False) w' w'') (hx : ∀ r ∈ l, Near (F r).x0) (hn : l.length ≤ 20) :
    Calls Try.prog 43 #[.slice p l.length c, .func (.func 47) #[] #[.pointer (some ⟨X, 0, none⟩), .pointer (some ⟨Y, 0, none⟩), .pointer (some ⟨Z, 0, none⟩), .pointer (some ⟨U, 0, none⟩)]] w (CombP w (l.map F) [] orF) := by
  have HL := Lib.hid hl
  have HF := Lib.hid hF
  have Hx := Lib.hid hx
  have Hn := Lib.hid hn
  clear hl hF hx hn
  go_enter Try.func43, Try.ntmps43
  go_wp2_with fail
  go_loopw [5, 10] (fun vo vi wr => ∃ (i : Nat) (o : List Rt), vi = .int .i64 i ∧ i ≤ l.length ∧ o = (l.take i).map F ∧ o.length = i ∧ wr.ownsRow w.heap.size 36 4 vo o.length (rts o) ∧ Gou.Mod (fun _ => False) w wr) (fun _ vi _ => l.length - (intOf vi).toNat)
  case atStart => exact ⟨0, [], rfl, by omega, by simp, rfl, World.ownsRow_nil _ _ _ _, Gou.Mod.refl _ _⟩
  case round =>
    obtain ⟨i, o, rfl, hi, ho, hol, hown, hm⟩ := hrel
    obtain ⟨po, co, rfl⟩ := Gou.ownsRow_form hown
    have Ho := Lib.hid ho
    have Hol := Lib.hid hol
    have Hown := Lib.hid hown
    have Hm := Lib.hid hm
    clear ho hol hown hm
    by_cases hil : i < l.length
    · have e1 : decide ((i : Int) < (l.length : Int)) = true := decide_eq_true (by omega)
      obtain ⟨-, bl, off, rfl, hb, -, hc⟩ := HL.out.cells (by omega)
      obtain ⟨k0, k1, k2, k3⟩ := hc i hil
      rw [← Hm.out.cell (p := ⟨bl, off + i * 4, none⟩) hb (fun h => h)] at k0
      rw [← Hm.out.cell (p := ⟨bl, off + i * 4 + 1, none⟩) hb (fun h => h)] at k1
      rw [← Hm.out.cell (p := ⟨bl, off + i * 4 + 2, none⟩) hb (fun h => h)] at k2
      rw [← Hm.out.cell (p := ⟨bl, off + i * 4 + 3, none⟩) hb (fun h => h)] at k3
      have hi1 : (i : Int) < (l.length : Int) := by omega
      have hi0 : (0 : Int) ≤ (i : Int) := by omega
      have wi : IntKind.i64.wrap ((i : Int) + 1) = (i : Int) + 1 := wrap_id (by omega) (by have := Hn.out; omega)
      clear hc
      have Hin := Lib.hid (And.intro hi hil)
      have HFi := Lib.hid (fun (w' : World) (hm : Gou.Mod (fun _ => False) w w') => HF.out w' _ hm (List.getElem_mem hil))
      have Hst : Hid (o ++ [F l[i]] = (l.take (i + 1)).map F) := Lib.hid (by rw [Ho.out, List.take_succ_eq_append_getElem hil, List.map_append]; rfl)
      generalize l[i] = s at *
      generalize F s = fs at *
      obtain ⟨a, b, c', d⟩ := s
      simp only at k0 k1 k2 k3
      go_wp2_with fail
      have HN := Lib.hid (Blk.new wr 36 #[.int .i64 a, .int .i64 b, .int .i64 c', .int .i64 d])
      have Hm3 : Hid (Gou.Mod (fun _ => False) w (wr.alloc (.cells #[.int .i64 a, .int .i64 b, .int .i64 c', .int .i64 d] 36))) := Lib.hid (Hm.out.trans' (Gou.Mod.alloc0 _ _))
      have Hown3 := Lib.hid (own_up Hown.out (Gou.Mod.alloc0 wr (.cells #[.int .i64 a, .int .i64 b, .int .i64 c', .int .i64 d] 36)))
      clear k0 k1 k2 k3 Hm Hown
      generalize wr.alloc (.cells #[.int .i64 a, .int .i64 b, .int .i64 c', .int .i64 d] 36) = W3 at *
      generalize wr.heap.size = N at *
      obtain ⟨⟨cb0, cb1, cb2, cb3⟩, -⟩ := four HN.out
      go_wp2_with fail
      refine (HFi.out _ Hm3.out).mono ?_
      rintro e w4 ⟨rfl, hm4⟩
      have Hm4 := Lib.hid (Hm3.out.trans' hm4)
      have Hown4 := Lib.hid (own_up Hown3.out hm4)
      clear hm4 HFi Hm3 Hown3
      obtain ⟨fa, fb, fc, fd⟩ := fs
      go_wp2_with (first | ((with_reducible show wpList _ _ _ (⟨_, Op.call ⟨.builtin .append, _, _⟩, _, _, _, _⟩ :: _) _ _); refine halt ?_) | fail)
      refine wpList_append_row T_rt rfl _ _ rfl (w.heap.size) (.slice po o.length co) (o.length) (rts o) (fun _ => True) (.slice (some ⟨w4.heap.size, 0, none⟩) 1 1) (1) ([.int .i64 fa, .int .i64 fb, .int .i64 fc, .int .i64 fd]) rfl rfl (by have := Hm4.out.size; simp; omega) (own_up Hown4.out (Gou.Mod.alloc0 _ _)) (RowG.of_blk (Blk.new _ _ #[.int .i64 fa, .int .i64 fb, .int .i64 fc, .int .i64 fd]) 4 1 rfl _ trivial) (rtC_one ⟨fa, fb, fc, fd⟩) (by have := Hol.out; have := Hn.out; first | (unfold maxLen; omega) | omega) (by have := Hol.out; have := Hn.out; first | (unfold maxLen; omega) | omega) ?_
      intro v5 w5 G5
      have Hm5 := Lib.hid (G5.mod0 (Hm4.out.trans' (Gou.Mod.alloc0 _ _)) (own_ge Hown4.out))
      have Hown5 := Lib.hid (own_snoc (s := ⟨fa, fb, fc, fd⟩) G5.own)
      clear G5 Hm4 Hown4
      obtain ⟨p5, c5, rfl⟩ := Gou.ownsRow_form Hown5.out
      go_wp2_with fail
      go_roundw
      case rel => exact ⟨i + 1, o ++ [⟨fa, fb, fc, fd⟩], by go_num, by have := Hin.out; omega, Hst.out, by have := Hol.out; simp; omega, by rw [show o.length + 1 = (o ++ [(⟨fa, fb, fc, fd⟩ : Rt)]).length from by simp]; exact Hown5.out, Hm5.out⟩
      case measure => have := Hin.out; simp [intOf, wi]; omega
    · have hil' : i = l.length := by omega
      have e1 : decide ((i : Int) < (l.length : Int)) = false := decide_eq_false (by omega)
      rw [hil', List.take_length] at Ho
      have Ho2 : Hid (o.length = l.length) := Lib.hid (by rw [Hol.out, hil'])
      go_wp2_with fail
      refine (regOf_any _ po co o (RowG.own_of Hown.out (fun _ _ _ => trivial)) (by
        rw [Ho.out]
        intro r hr
        obtain ⟨q, hq, rfl⟩ := List.mem_map.1 hr
        exact Hx.out q hq) (by have := Ho2.out; have := Hn.out; omega)).mono ?_
      rintro e w2 hc
      have Hend := Lib.hid ((hc.under Hm.out))
      obtain ⟨p2, c2, out, rfl, -⟩ := hc.got
      rw [Ho.out] at Hend
      go_wp2_with fail
      go_ret
      exact Hend.out

end Go.Proofs.Ytapeafokcailkaa
