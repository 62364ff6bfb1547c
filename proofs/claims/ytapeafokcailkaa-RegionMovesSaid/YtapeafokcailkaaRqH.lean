/- The bounds of regions: the code's and the document's. -/
import Derived.Test.YtapeafokcailkaaRqF
set_option linter.unusedSimpArgs false
set_option linter.unusedVariables false
set_option linter.unusedSectionVars false
set_option linter.constructorNameAsVariable false
namespace Go.Reg
theorem boundsP_take {l : List Rt} {i : Nat} (h : i < l.length) : boundsP (l.take (i + 1)) = hullP (boundsP (l.take i)) l[i] := by
  unfold boundsP
  rw [List.take_succ_eq_append_getElem h, List.foldl_append]
  rfl
end Go.Reg
namespace Go.Proofs.Ytapeafokcailkaa
open Go.RowKit Go.Gou Go.Reg Go.Shelf
set_option maxRecDepth 100000

/-- The result's box, and the box of what was joined so far. -/
structure BBox (w w1 : World) (t : Rt) : Prop where
  R : Blk w1 w.heap.size 36 #[.int .i64 0, .int .i64 0, .int .i64 0, .int .i64 0]
  O : Blk w1 (w.heap.size + 1) 36 #[.int .i64 t.x0, .int .i64 t.y0, .int .i64 t.x1, .int .i64 t.y1]
  M : Below w.heap.size w w1
theorem BBox.up {w w1 w2 : World} {t : Rt} (h : BBox w w1 t) (hm : Gou.Mod (fun _ => False) w1 w2) : BBox w w2 t :=
  ⟨h.R.mod0 hm, h.O.mod0 hm, h.M.trans (hm.below (by have := h.R.lt; omega) (fun _ _ h => h))⟩
theorem BBox.mod {w w1 : World} {t : Rt} (h : BBox w w1 t) : Gou.Mod (fun _ => False) w w1 := Gou.Mod.of_below h.M _
theorem BBox.start (w : World) : BBox w ((w.alloc (.cells #[.int .i64 0, .int .i64 0, .int .i64 0, .int .i64 0] 36)).alloc (.cells #[.int .i64 0, .int .i64 0, .int .i64 0, .int .i64 0] 36)) Rt.zero :=
  ⟨(two_new w _ _ _ _).1, (two_new w _ _ _ _).2, below2 w _ _⟩
theorem BBox.put {w w1 : World} {t : Rt} (h : BBox w w1 t) (s : Rt) : BBox w (w1.setCells (w.heap.size + 1) 0 [.int .i64 s.x0, .int .i64 s.y0, .int .i64 s.x1, .int .i64 s.y1]) s := by
  have k := store_end (N := w.heap.size + 1) h.M (by omega) (by have := h.R.lt; omega) h.O (Gou.Mod.refl _ _) (.int .i64 s.x0) (.int .i64 s.y0) (.int .i64 s.x1) (.int .i64 s.y1)
  exact ⟨h.R.mod (Blk.setMod _ _ _ _) (by omega), k.1, k.2⟩

set_option maxHeartbeats 8000000 in
theorem regBounds_any (w : World) (p : Option Addr) (c : Nat) (l : List Rt) (hl : RtR (fun _ => True) w (.slice p l.length c) l) (hn : l.length ≤ 1000000000) :
    Calls Try.prog 26 #[.slice p l.length c] w fun e w' => e = .returned (rtV (boundsP l)) ∧ Gou.Mod (fun _ => False) w w' := by
  have HL := Lib.hid hl
  have Hn := Lib.hid hn
  clear hl hn
  go_enter Try.func26, Try.ntmps26
  have HZ := Lib.hid ((two_new w 36 36 #[.int .i64 0, .int .i64 0, .int .i64 0, .int .i64 0] #[.int .i64 0, .int .i64 0, .int .i64 0, .int .i64 0]).2.there 0 4 (by simp))
  go_wp2_with (first | ((with_reducible refine wpList_store_mid ?g1_2 36 ?x1_2 ?y1_2 ?o1_2 (w.heap.size + 1) 0 #[.int .i64 Rt.zero.x0, .int .i64 Rt.zero.y0, .int .i64 Rt.zero.x1, .int .i64 Rt.zero.y1] ?h1_2 ?j1_2 ?t1_2 ?i1_2 ?s1_2 ?r1_2); (case g1_2 => exact rfl); (case o1_2 => exact rfl); (case h1_2 => exact rfl); (case j1_2 => exact rfl); (case t1_2 => exact HZ.out); (case i1_2 => exact size_rect); (case s1_2 => exact one4 _ _ _ _)) | fail)
  have HB0 := Lib.hid ((BBox.start w).put Rt.zero)
  clear HZ
  generalize ((w.alloc (.cells #[.int .i64 0, .int .i64 0, .int .i64 0, .int .i64 0] 36)).alloc (.cells #[.int .i64 0, .int .i64 0, .int .i64 0, .int .i64 0] 36)).setCells (w.heap.size + 1) 0 [.int .i64 Rt.zero.x0, .int .i64 Rt.zero.y0, .int .i64 Rt.zero.x1, .int .i64 Rt.zero.y1] = W0 at *
  go_loopw [9] (fun vi wr => ∃ i : Nat, vi = .int .i64 i ∧ i ≤ l.length ∧ BBox w wr (boundsP (l.take i))) (fun vi _ => l.length - (intOf vi).toNat)
  case atStart => exact ⟨0, rfl, by omega, HB0.out⟩
  case round =>
    obtain ⟨i, rfl, hi, hbx⟩ := hrel
    have HB := Lib.hid hbx
    have Hm := Lib.hid hbx.mod
    clear hbx HB0
    by_cases hil : i < l.length
    · have e1 : decide ((i : Int) < (l.length : Int)) = true := decide_eq_true (by omega)
      obtain ⟨-, bl, off, rfl, hb, -, hc⟩ := HL.out.cells (by omega)
      obtain ⟨k0, k1, k2, k3⟩ := hc i hil
      rw [← Hm.out.cell (p := ⟨bl, off + i * 4, none⟩) hb (fun h => h)] at k0
      rw [← Hm.out.cell (p := ⟨bl, off + i * 4 + 1, none⟩) hb (fun h => h)] at k1
      rw [← Hm.out.cell (p := ⟨bl, off + i * 4 + 2, none⟩) hb (fun h => h)] at k2
      rw [← Hm.out.cell (p := ⟨bl, off + i * 4 + 3, none⟩) hb (fun h => h)] at k3
      have hi1 : (i : Int) < (l.length : Int) := by omega
      have hi0 : (0 : Int) ≤ (i : Int) := by omega
      have wi : IntKind.i64.wrap ((i : Int) + 1) = (i : Int) + 1 := wrap_id (by omega) (by have := Hn.out; omega)
      clear hc
      have Ht := Lib.hid (boundsP_take hil)
      have Hin := Lib.hid (And.intro hi hil)
      generalize l[i] = s at *
      generalize boundsP (l.take i) = t at *
      have HJ : Hid (∀ w' : World, Calls Try.prog 50 #[rtV t, rtV s] w' fun e w'' => e = .returned (rtV (hullP t s)) ∧ Below w'.heap.size w' w'') := Lib.hid (fun w' => rectJoin_any t s w')
      generalize hullP t s = u at *
      obtain ⟨a, b, c', d⟩ := s
      obtain ⟨ta, tb, tc, td⟩ := t
      simp only at k0 k1 k2 k3
      have HB3 := Lib.hid (HB.out.up (Gou.Mod.alloc0 wr (.cells #[.int .i64 a, .int .i64 b, .int .i64 c', .int .i64 d] 36)))
      obtain ⟨⟨o0, o1, o2, o3⟩, -⟩ := four HB3.out.O
      go_wp2_with fail
      refine (HJ.out _).mono ?_
      rintro e w4 ⟨rfl, hb4⟩
      have HB4 := Lib.hid (HB3.out.up (Gou.Mod.of_below hb4 (fun _ => False)))
      have Hth := Lib.hid (HB4.out.O.there 0 4 (by simp))
      clear hb4 HB3 HB o0 o1 o2 o3 k0 k1 k2 k3
      go_wp2_with (first | ((with_reducible refine wpList_store_mid ?g1_1 36 ?x1_1 ?y1_1 ?o1_1 (w.heap.size + 1) 0 #[.int .i64 u.x0, .int .i64 u.y0, .int .i64 u.x1, .int .i64 u.y1] ?h1_1 ?j1_1 ?t1_1 ?i1_1 ?s1_1 ?r1_1); (case g1_1 => exact rfl); (case o1_1 => exact rfl); (case h1_1 => exact rfl); (case j1_1 => exact rfl); (case t1_1 => exact Hth.out); (case i1_1 => exact size_rect); (case s1_1 => exact one4 _ _ _ _)) | fail)
      have HB5 := Lib.hid (HB4.out.put u)
      go_roundw
      case rel => exact ⟨i + 1, by go_num, by have := Hin.out; omega, by rw [Ht.out]; exact HB5.out⟩
      case measure => have := Hin.out; simp [intOf, wi]; omega
    · have hil' : i = l.length := by omega
      have e1 : decide ((i : Int) < (l.length : Int)) = false := decide_eq_false (by omega)
      rw [hil', List.take_length] at HB
      obtain ⟨t, ht⟩ : ∃ t, t = boundsP l := ⟨_, rfl⟩
      rw [← ht] at HB
      have Htt := Lib.hid ht
      clear ht
      obtain ⟨⟨o0, o1, o2, o3⟩, -⟩ := four HB.out.O
      have Hth := Lib.hid (HB.out.R.there 0 4 (by simp))
      go_wp2_with (first | ((with_reducible refine wpList_store_mid ?g1_3 36 ?x1_3 ?y1_3 ?o1_3 (w.heap.size) 0 #[.int .i64 t.x0, .int .i64 t.y0, .int .i64 t.x1, .int .i64 t.y1] ?h1_3 ?j1_3 ?t1_3 ?i1_3 ?s1_3 ?r1_3); (case g1_3 => exact rfl); (case o1_3 => exact rfl); (case h1_3 => exact rfl); (case j1_3 => exact rfl); (case t1_3 => exact Hth.out); (case i1_3 => exact size_rect); (case s1_3 => exact one4 _ _ _ _)) | fail)
      have h := store_end (N := w.heap.size) HB.out.M (by omega) (by have := HB.out.R.lt; omega) HB.out.R (Gou.Mod.refl _ _) (.int .i64 t.x0) (.int .i64 t.y0) (.int .i64 t.x1) (.int .i64 t.y1)
      refine ret_rect t rfl rfl rfl h.1 Try.underlying36 rfl size_rect ?_
      exact ⟨by rw [Htt.out], Gou.Mod.of_below h.2 (fun _ => False)⟩

set_option maxHeartbeats 8000000 in
theorem refBoundsL_any (w : World) (p : Option Addr) (c : Nat) (l : List Rt) (hl : RtR (fun _ => True) w (.slice p l.length c) l) (hn : l.length ≤ 1000000000) :
    Calls Try.prog 27 #[.slice p l.length c] w fun e w' => e = .returned (rtV (boundsP l)) ∧ Gou.Mod (fun _ => False) w w' := by
  have HL := Lib.hid hl
  have Hn := Lib.hid hn
  clear hl hn
  go_enter Try.func27, Try.ntmps27
  have HZ := Lib.hid ((two_new w 36 36 #[.int .i64 0, .int .i64 0, .int .i64 0, .int .i64 0] #[.int .i64 0, .int .i64 0, .int .i64 0, .int .i64 0]).2.there 0 4 (by simp))
  go_wp2_with (first | ((with_reducible refine wpList_store_mid ?g1_4 36 ?x1_4 ?y1_4 ?o1_4 (w.heap.size + 1) 0 #[.int .i64 Rt.zero.x0, .int .i64 Rt.zero.y0, .int .i64 Rt.zero.x1, .int .i64 Rt.zero.y1] ?h1_4 ?j1_4 ?t1_4 ?i1_4 ?s1_4 ?r1_4); (case g1_4 => exact rfl); (case o1_4 => exact rfl); (case h1_4 => exact rfl); (case j1_4 => exact rfl); (case t1_4 => exact HZ.out); (case i1_4 => exact size_rect); (case s1_4 => exact one4 _ _ _ _)) | fail)
  have HB0 := Lib.hid ((BBox.start w).put Rt.zero)
  clear HZ
  generalize ((w.alloc (.cells #[.int .i64 0, .int .i64 0, .int .i64 0, .int .i64 0] 36)).alloc (.cells #[.int .i64 0, .int .i64 0, .int .i64 0, .int .i64 0] 36)).setCells (w.heap.size + 1) 0 [.int .i64 Rt.zero.x0, .int .i64 Rt.zero.y0, .int .i64 Rt.zero.x1, .int .i64 Rt.zero.y1] = W0 at *
  go_loopw [4] (fun vi wr => ∃ i : Nat, vi = .int .i64 i ∧ i ≤ l.length ∧ BBox w wr (boundsP (l.take i))) (fun vi _ => l.length - (intOf vi).toNat)
  case atStart => exact ⟨0, rfl, by omega, HB0.out⟩
  case round =>
    obtain ⟨i, rfl, hi, hbx⟩ := hrel
    have HB := Lib.hid hbx
    have Hm := Lib.hid hbx.mod
    clear hbx HB0
    by_cases hil : i < l.length
    · have e1 : decide ((i : Int) < (l.length : Int)) = true := decide_eq_true (by omega)
      obtain ⟨-, bl, off, rfl, hb, -, hc⟩ := HL.out.cells (by omega)
      obtain ⟨k0, k1, k2, k3⟩ := hc i hil
      rw [← Hm.out.cell (p := ⟨bl, off + i * 4, none⟩) hb (fun h => h)] at k0
      rw [← Hm.out.cell (p := ⟨bl, off + i * 4 + 1, none⟩) hb (fun h => h)] at k1
      rw [← Hm.out.cell (p := ⟨bl, off + i * 4 + 2, none⟩) hb (fun h => h)] at k2
      rw [← Hm.out.cell (p := ⟨bl, off + i * 4 + 3, none⟩) hb (fun h => h)] at k3
      have hi1 : (i : Int) < (l.length : Int) := by omega
      have hi0 : (0 : Int) ≤ (i : Int) := by omega
      have wi : IntKind.i64.wrap ((i : Int) + 1) = (i : Int) + 1 := wrap_id (by omega) (by have := Hn.out; omega)
      clear hc
      have Ht := Lib.hid (boundsP_take hil)
      have Hin := Lib.hid (And.intro hi hil)
      generalize l[i] = s at *
      generalize boundsP (l.take i) = t at *
      have HJ : Hid (∀ w' : World, Calls Try.prog 51 #[rtV t, rtV s] w' fun e w'' => e = .returned (rtV (hullP t s)) ∧ Below w'.heap.size w' w'') := Lib.hid (fun w' => refJoin_any t s w')
      generalize hullP t s = u at *
      obtain ⟨a, b, c', d⟩ := s
      obtain ⟨ta, tb, tc, td⟩ := t
      simp only at k0 k1 k2 k3
      have Hblr := Lib.hid (Nat.lt_of_lt_of_le hb Hm.out.size)
      obtain ⟨⟨o0, o1, o2, o3⟩, -⟩ := four HB.out.O
      go_wp2_with fail
      refine wp_region_defer (S := fun w' => Gou.Mod (fun _ => False) wr w') 6 ({ dst := none, op := Op.store 36 (Operand.tmp 3) (Operand.tmp 17), type := 0, pos := "ref.go:140", after := #[{ on := 5, ground := Ground.data }, { on := 5, ground := Ground.chain }, { on := 0, ground := Ground.phase }, { on := 1, ground := Ground.phase }, { on := 2, ground := Ground.phase }, { on := 3, ground := Ground.phase }, { on := 4, ground := Ground.phase }, { on := 5, ground := Ground.phase }], guard := none } : Oper) rfl (by kernel_rfl) rfl rfl (by kernel_rfl) (by kernel_rfl) (Gou.Mod.drew _ _) (fun hHeld => ?_)
      refine wpAnyH_take (i := 0) (oi := ({ dst := some 12, op := Op.load 36 (Operand.tmp 3), type := 36, pos := "ref.go:140", after := #[], guard := none } : Oper)) (v := .agg #[.int .i64 ta, .int .i64 tb, .int .i64 tc, .int .i64 td]) rfl (by kernel_rfl) (by kernel_rfl) (by kernel_rfl) (fun _ _ _ h => h) (Or.inl ⟨by rfl, ?_⟩) hHeld ?_
      · (intro w' hSw; (try dsimp only at hSw); have g0 := (hSw.cell (p := ⟨w.heap.size + 1, 0, none⟩) HB.out.O.lt (fun h => h)).trans o0; have g1 := (hSw.cell (p := ⟨w.heap.size + 1, 1, none⟩) HB.out.O.lt (fun h => h)).trans o1; have g2 := (hSw.cell (p := ⟨w.heap.size + 1, 2, none⟩) HB.out.O.lt (fun h => h)).trans o2; have g3 := (hSw.cell (p := ⟨w.heap.size + 1, 3, none⟩) HB.out.O.lt (fun h => h)).trans o3; clear hSw hHeld; go_simp; (try with_reducible rfl))
      try simp only [Act.put, List.setIfInBounds_toArray, List.set_cons_zero, List.set_cons_succ]
      refine wpAnyH_take (i := 1) (oi := ({ dst := some 13, op := Op.move (Operand.tmp 0), type := 27, pos := "ref.go:140", after := #[], guard := none } : Oper)) (v := .slice (some ⟨bl, off, none⟩) l.length c) rfl (by kernel_rfl) (by kernel_rfl) (by kernel_rfl) (fun _ _ _ h => h) (Or.inl ⟨by rfl, ?_⟩) hHeld ?_
      · (intro w' hSw; (try dsimp only at hSw); clear hSw hHeld; go_simp; (try with_reducible rfl))
      try simp only [Act.put, List.setIfInBounds_toArray, List.set_cons_zero, List.set_cons_succ]
      refine wpAnyH_take (i := 2) (oi := ({ dst := some 14, op := Op.move (Operand.tmp 4), type := 3, pos := "ref.go:140", after := #[], guard := none } : Oper)) (v := .int .i64 (i : Int)) rfl (by kernel_rfl) (by kernel_rfl) (by kernel_rfl) (fun _ _ _ h => h) (Or.inl ⟨by rfl, ?_⟩) hHeld ?_
      · (intro w' hSw; (try dsimp only at hSw); clear hSw hHeld; go_simp; (try with_reducible rfl))
      try simp only [Act.put, List.setIfInBounds_toArray, List.set_cons_zero, List.set_cons_succ]
      refine wpAnyH_take (i := 3) (oi := ({ dst := some 15, op := Op.indexAddr 27 (Operand.tmp 13) (Operand.tmp 14), type := 0, pos := "ref.go:140", after := #[{ on := 1, ground := Ground.data }, { on := 2, ground := Ground.data }], guard := none } : Oper)) (v := .pointer (some ⟨bl, (off + i * 4), none⟩)) rfl (by kernel_rfl) (by kernel_rfl) (by kernel_rfl) (fun _ _ _ h => h) (Or.inl ⟨by rfl, ?_⟩) hHeld ?_
      · (intro w' hSw; (try dsimp only at hSw); clear hSw hHeld; go_simp; (try with_reducible rfl))
      try simp only [Act.put, List.setIfInBounds_toArray, List.set_cons_zero, List.set_cons_succ]
      refine wpAnyH_take (i := 4) (oi := ({ dst := some 16, op := Op.load 36 (Operand.tmp 15), type := 36, pos := "ref.go:140", after := #[{ on := 3, ground := Ground.data }], guard := none } : Oper)) (v := .agg #[.int .i64 a, .int .i64 b, .int .i64 c', .int .i64 d]) rfl (by kernel_rfl) (by kernel_rfl) (by kernel_rfl) (fun _ _ _ h => h) (Or.inl ⟨by rfl, ?_⟩) hHeld ?_
      · (intro w' hSw; (try dsimp only at hSw); have g0 := (hSw.cell (p := ⟨bl, off + i * 4, none⟩) Hblr.out (fun h => h)).trans k0; have g1 := (hSw.cell (p := ⟨bl, off + i * 4 + 1, none⟩) Hblr.out (fun h => h)).trans k1; have g2 := (hSw.cell (p := ⟨bl, off + i * 4 + 2, none⟩) Hblr.out (fun h => h)).trans k2; have g3 := (hSw.cell (p := ⟨bl, off + i * 4 + 3, none⟩) Hblr.out (fun h => h)).trans k3; clear hSw hHeld; go_simp; (try with_reducible rfl))
      try simp only [Act.put, List.setIfInBounds_toArray, List.set_cons_zero, List.set_cons_succ]
      refine wpAnyH_ready (rs := [5]) (by kernel_rfl) (by simp) (AllReadyH.cons (o := ({ dst := some 17, op := Op.call { callee := Callee.value (Operand.func 51), args := #[Operand.tmp 12, Operand.tmp 16], argTypes := #[36, 36] }, type := 36, pos := "ref.go:140", after := #[{ on := 0, ground := Ground.data }, { on := 4, ground := Ground.data }], guard := none } : Oper)) rfl (fun K hK => ?_) AllReadyH.nil)
      go_simp
      refine (HJ.out _).mono ?_
      rintro e w4 ⟨rfl, hb4⟩
      have M4 := Lib.hid (hHeld.trans' (Gou.Mod.of_below hb4 (fun _ => False)))
      clear hb4 hHeld
      refine hK _ _ M4.out (fun hHeld => ?_)
      clear hK K
      try simp only [Act.put, List.setIfInBounds_toArray, List.set_cons_zero, List.set_cons_succ]
      refine wpAnyH_take (i := 6) (oi := ({ dst := none, op := Op.assign (Operand.const (Value.bool true)), type := 0, pos := "ref.go:140", after := #[{ on := 5, ground := Ground.data }, { on := 5, ground := Ground.chain }, { on := 0, ground := Ground.phase }, { on := 1, ground := Ground.phase }, { on := 2, ground := Ground.phase }, { on := 3, ground := Ground.phase }, { on := 4, ground := Ground.phase }, { on := 5, ground := Ground.phase }], guard := none } : Oper)) (v := .bool true) rfl (by kernel_rfl) (by kernel_rfl) (by kernel_rfl) (fun _ _ _ h => h) (Or.inl ⟨by rfl, ?_⟩) hHeld ?_
      · (intro w' hSw; clear hSw hHeld; go_simp; (try with_reducible rfl))
      try simp only [Act.put, List.setIfInBounds_toArray, List.set_cons_zero, List.set_cons_succ]
      refine wpAnyH_done (by kernel_rfl) ?_ _
      clear hHeld
      show Oper.wp _ _ _ _ _ _
      have HB4 := Lib.hid (HB.out.up M4.out)
      clear HB M4 o0 o1 o2 o3 k0 k1 k2 k3
      refine wp_store_mid 36 _ _ rfl (w.heap.size + 1) 0 #[.int .i64 u.x0, .int .i64 u.y0, .int .i64 u.x1, .int .i64 u.y1] rfl rfl (HB4.out.O.there 0 4 (by simp)) size_rect (one4 _ _ _ _) ?_
      have HB5 := Lib.hid (HB4.out.put u)
      clear HB4
      try simp only [Act.put]
      go_wp2_with fail
      go_roundw
      case rel => exact ⟨i + 1, by go_num, by have := Hin.out; omega, by rw [Ht.out]; exact HB5.out⟩
      case measure => have := Hin.out; simp [intOf, wi]; omega
    · have hil' : i = l.length := by omega
      have e1 : decide ((i : Int) < (l.length : Int)) = false := decide_eq_false (by omega)
      rw [hil', List.take_length] at HB
      obtain ⟨t, ht⟩ : ∃ t, t = boundsP l := ⟨_, rfl⟩
      rw [← ht] at HB
      have Htt := Lib.hid ht
      clear ht
      obtain ⟨⟨o0, o1, o2, o3⟩, -⟩ := four HB.out.O
      have Hth := Lib.hid (HB.out.R.there 0 4 (by simp))
      go_wp2_with (first | ((with_reducible refine wpList_store_mid ?g1_5 36 ?x1_5 ?y1_5 ?o1_5 (w.heap.size) 0 #[.int .i64 t.x0, .int .i64 t.y0, .int .i64 t.x1, .int .i64 t.y1] ?h1_5 ?j1_5 ?t1_5 ?i1_5 ?s1_5 ?r1_5); (case g1_5 => exact rfl); (case o1_5 => exact rfl); (case h1_5 => exact rfl); (case j1_5 => exact rfl); (case t1_5 => exact Hth.out); (case i1_5 => exact size_rect); (case s1_5 => exact one4 _ _ _ _)) | fail)
      have h := store_end (N := w.heap.size) HB.out.M (by omega) (by have := HB.out.R.lt; omega) HB.out.R (Gou.Mod.refl _ _) (.int .i64 t.x0) (.int .i64 t.y0) (.int .i64 t.x1) (.int .i64 t.y1)
      refine ret_rect t rfl rfl rfl h.1 Try.underlying36 rfl size_rect ?_
      exact ⟨by rw [Htt.out], Gou.Mod.of_below h.2 (fun _ => False)⟩

end Go.Proofs.Ytapeafokcailkaa
