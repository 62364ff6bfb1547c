/- Regions: the document's rectangles moved, grown, joined; their areas. -/
import Derived.Test.YtapeafokcailkaaRiA
import Derived.Deep.RegionHeld
import Derived.Deep.MidRow
set_option linter.unusedSimpArgs false
set_option linter.unusedVariables false
set_option linter.unusedSectionVars false
set_option linter.constructorNameAsVariable false
namespace Go.Proofs.Ytapeafokcailkaa
open Go.RowKit Go.Gou Go.Reg
set_option maxRecDepth 100000

set_option maxHeartbeats 4000000 in
theorem refMove_any (r : Rt) (dx dy : Int) (w : World) (hr : r.Right) (hx : Near dx) (hy : Near dy) :
    Calls Try.prog 46 #[rtV r, .int .i64 dx, .int .i64 dy] w fun e w' => e = .returned (rtV (moveP dx dy r)) ∧ Below w.heap.size w w' := by
  obtain ⟨a, b, c, d⟩ := r
  have key : ∀ s : Bool, decide (Rt.Some ⟨a, b, c, d⟩) = s → Calls Try.prog 46 #[.agg #[.int .i64 a, .int .i64 b, .int .i64 c, .int .i64 d], .int .i64 dx, .int .i64 dy] w fun e w' => e = .returned (rtV (if s then someP ⟨edgeP a dx, edgeP b dy, edgeP c dx, edgeP d dy⟩ else Rt.zero)) ∧ Below w.heap.size w w' := by
    intro s hh
    obtain ⟨ha, hb', hc, hd⟩ := hr
    go_enter Try.func46, Try.ntmps46
    go_wp2_with fail
    refine (refEmpty_any ⟨a, b, c, d⟩ _).mono ?_
    rintro e w1 ⟨rfl, hb⟩
    rw [hh]
    obtain ⟨B0, B1⟩ := two_new w 36 36 #[.int .i64 a, .int .i64 b, .int .i64 c, .int .i64 d] #[.int .i64 0, .int .i64 0, .int .i64 0, .int .i64 0]
    have HB1 := Lib.hid (B1.up hb)
    have Hm : Hid (Below w.heap.size w w1) := Lib.hid ((below2 _ _ _).trans (hb.mono (by simp; omega)))
    obtain ⟨⟨d0, d1, d2, d3⟩, ⟨f0, f1, f2, f3⟩⟩ := four (B1.up hb)
    obtain ⟨⟨c0, c1, c2, c3⟩, -⟩ := four (B0.up hb)
    have Hz : Hid (w.heap.size + 1 < w1.heap.size) := Lib.hid (Blk.lt HB1.out)
    clear hb B0 B1 hh
    cases s with
    | true =>
      clear d0 d1 d2 d3 f0 f1 f2 f3
      go_wp2_with fail
      refine wp_region_held_drew (S := fun w' => Gou.Mod (fun k => k = w.heap.size + 1) w1 w') (by kernel_rfl) (Gou.Mod.drew _ _) (fun hHeld => ?_)
      refine wpAnyH_take (i := 0) (oi := ({ dst := some 10, op := Op.fieldAddr 36 (Operand.tmp 3) 0, type := 0, pos := "ref.go:81", after := #[], guard := none } : Oper)) (v := .pointer (some ⟨w.heap.size, 0, none⟩)) rfl (by kernel_rfl) (by kernel_rfl) (by kernel_rfl) (fun _ _ _ h => h) (Or.inl ⟨by rfl, ?_⟩) hHeld ?_
      · (intro w' hSw; (try dsimp only at hSw); clear hSw; go_simp; (try with_reducible rfl))
      try simp only [Act.put, List.setIfInBounds_toArray, List.set_cons_zero, List.set_cons_succ]
      refine wpAnyH_take (i := 1) (oi := ({ dst := some 11, op := Op.load 3 (Operand.tmp 10), type := 3, pos := "ref.go:81", after := #[{ on := 0, ground := Ground.data }], guard := none } : Oper)) (v := .int .i64 a) rfl (by kernel_rfl) (by kernel_rfl) (by kernel_rfl) (fun _ _ _ h => h) (Or.inl ⟨by rfl, ?_⟩) hHeld ?_
      · (intro w' hSw; (try dsimp only at hSw); have g := (hSw.cell (p := ⟨w.heap.size, 0, none⟩) (by show w.heap.size < _; have := Hz.out; omega) (by show ¬ (w.heap.size = _); omega)).trans c0; clear hSw; go_simp; (try with_reducible rfl))
      try simp only [Act.put, List.setIfInBounds_toArray, List.set_cons_zero, List.set_cons_succ]
      refine wpAnyH_take (i := 2) (oi := ({ dst := some 12, op := Op.move (Operand.tmp 1), type := 3, pos := "ref.go:81", after := #[], guard := none } : Oper)) (v := .int .i64 dx) rfl (by kernel_rfl) (by kernel_rfl) (by kernel_rfl) (fun _ _ _ h => h) (Or.inl ⟨by rfl, ?_⟩) hHeld ?_
      · (intro w' hSw; (try dsimp only at hSw); clear hSw; go_simp; (try with_reducible rfl))
      try simp only [Act.put, List.setIfInBounds_toArray, List.set_cons_zero, List.set_cons_succ]
      refine wpAnyH_take (i := 4) (oi := ({ dst := some 14, op := Op.fieldAddr 36 (Operand.tmp 3) 1, type := 0, pos := "ref.go:81", after := #[], guard := none } : Oper)) (v := .pointer (some ⟨w.heap.size, 1, none⟩)) rfl (by kernel_rfl) (by kernel_rfl) (by kernel_rfl) (fun _ _ _ h => h) (Or.inl ⟨by rfl, ?_⟩) hHeld ?_
      · (intro w' hSw; (try dsimp only at hSw); clear hSw; go_simp; (try with_reducible rfl))
      try simp only [Act.put, List.setIfInBounds_toArray, List.set_cons_zero, List.set_cons_succ]
      refine wpAnyH_take (i := 5) (oi := ({ dst := some 15, op := Op.load 3 (Operand.tmp 14), type := 3, pos := "ref.go:81", after := #[{ on := 4, ground := Ground.data }], guard := none } : Oper)) (v := .int .i64 b) rfl (by kernel_rfl) (by kernel_rfl) (by kernel_rfl) (fun _ _ _ h => h) (Or.inl ⟨by rfl, ?_⟩) hHeld ?_
      · (intro w' hSw; (try dsimp only at hSw); have g := (hSw.cell (p := ⟨w.heap.size, 1, none⟩) (by show w.heap.size < _; have := Hz.out; omega) (by show ¬ (w.heap.size = _); omega)).trans c1; clear hSw; go_simp; (try with_reducible rfl))
      try simp only [Act.put, List.setIfInBounds_toArray, List.set_cons_zero, List.set_cons_succ]
      refine wpAnyH_take (i := 6) (oi := ({ dst := some 16, op := Op.move (Operand.tmp 2), type := 3, pos := "ref.go:81", after := #[], guard := none } : Oper)) (v := .int .i64 dy) rfl (by kernel_rfl) (by kernel_rfl) (by kernel_rfl) (fun _ _ _ h => h) (Or.inl ⟨by rfl, ?_⟩) hHeld ?_
      · (intro w' hSw; (try dsimp only at hSw); clear hSw; go_simp; (try with_reducible rfl))
      try simp only [Act.put, List.setIfInBounds_toArray, List.set_cons_zero, List.set_cons_succ]
      refine wpAnyH_take (i := 8) (oi := ({ dst := some 18, op := Op.fieldAddr 36 (Operand.tmp 3) 2, type := 0, pos := "ref.go:81", after := #[], guard := none } : Oper)) (v := .pointer (some ⟨w.heap.size, 2, none⟩)) rfl (by kernel_rfl) (by kernel_rfl) (by kernel_rfl) (fun _ _ _ h => h) (Or.inl ⟨by rfl, ?_⟩) hHeld ?_
      · (intro w' hSw; (try dsimp only at hSw); clear hSw; go_simp; (try with_reducible rfl))
      try simp only [Act.put, List.setIfInBounds_toArray, List.set_cons_zero, List.set_cons_succ]
      refine wpAnyH_take (i := 9) (oi := ({ dst := some 19, op := Op.load 3 (Operand.tmp 18), type := 3, pos := "ref.go:81", after := #[{ on := 8, ground := Ground.data }], guard := none } : Oper)) (v := .int .i64 c) rfl (by kernel_rfl) (by kernel_rfl) (by kernel_rfl) (fun _ _ _ h => h) (Or.inl ⟨by rfl, ?_⟩) hHeld ?_
      · (intro w' hSw; (try dsimp only at hSw); have g := (hSw.cell (p := ⟨w.heap.size, 2, none⟩) (by show w.heap.size < _; have := Hz.out; omega) (by show ¬ (w.heap.size = _); omega)).trans c2; clear hSw; go_simp; (try with_reducible rfl))
      try simp only [Act.put, List.setIfInBounds_toArray, List.set_cons_zero, List.set_cons_succ]
      refine wpAnyH_take (i := 10) (oi := ({ dst := some 20, op := Op.move (Operand.tmp 1), type := 3, pos := "ref.go:81", after := #[], guard := none } : Oper)) (v := .int .i64 dx) rfl (by kernel_rfl) (by kernel_rfl) (by kernel_rfl) (fun _ _ _ h => h) (Or.inl ⟨by rfl, ?_⟩) hHeld ?_
      · (intro w' hSw; (try dsimp only at hSw); clear hSw; go_simp; (try with_reducible rfl))
      try simp only [Act.put, List.setIfInBounds_toArray, List.set_cons_zero, List.set_cons_succ]
      refine wpAnyH_take (i := 12) (oi := ({ dst := some 22, op := Op.fieldAddr 36 (Operand.tmp 3) 3, type := 0, pos := "ref.go:81", after := #[], guard := none } : Oper)) (v := .pointer (some ⟨w.heap.size, 3, none⟩)) rfl (by kernel_rfl) (by kernel_rfl) (by kernel_rfl) (fun _ _ _ h => h) (Or.inl ⟨by rfl, ?_⟩) hHeld ?_
      · (intro w' hSw; (try dsimp only at hSw); clear hSw; go_simp; (try with_reducible rfl))
      try simp only [Act.put, List.setIfInBounds_toArray, List.set_cons_zero, List.set_cons_succ]
      refine wpAnyH_take (i := 13) (oi := ({ dst := some 23, op := Op.load 3 (Operand.tmp 22), type := 3, pos := "ref.go:81", after := #[{ on := 12, ground := Ground.data }], guard := none } : Oper)) (v := .int .i64 d) rfl (by kernel_rfl) (by kernel_rfl) (by kernel_rfl) (fun _ _ _ h => h) (Or.inl ⟨by rfl, ?_⟩) hHeld ?_
      · (intro w' hSw; (try dsimp only at hSw); have g := (hSw.cell (p := ⟨w.heap.size, 3, none⟩) (by show w.heap.size < _; have := Hz.out; omega) (by show ¬ (w.heap.size = _); omega)).trans c3; clear hSw; go_simp; (try with_reducible rfl))
      try simp only [Act.put, List.setIfInBounds_toArray, List.set_cons_zero, List.set_cons_succ]
      refine wpAnyH_take (i := 14) (oi := ({ dst := some 24, op := Op.move (Operand.tmp 2), type := 3, pos := "ref.go:81", after := #[], guard := none } : Oper)) (v := .int .i64 dy) rfl (by kernel_rfl) (by kernel_rfl) (by kernel_rfl) (fun _ _ _ h => h) (Or.inl ⟨by rfl, ?_⟩) hHeld ?_
      · (intro w' hSw; (try dsimp only at hSw); clear hSw; go_simp; (try with_reducible rfl))
      try simp only [Act.put, List.setIfInBounds_toArray, List.set_cons_zero, List.set_cons_succ]
      refine wpAnyH_ready (rs := [3]) (by kernel_rfl) (by simp) (AllReadyH.cons (o := ({ dst := some 13, op := Op.call { callee := Callee.value (Operand.func 61), args := #[Operand.tmp 11, Operand.tmp 12], argTypes := #[3, 3] }, type := 3, pos := "ref.go:81", after := #[{ on := 1, ground := Ground.data }, { on := 2, ground := Ground.data }], guard := none } : Oper)) rfl (fun K hK => ?_) AllReadyH.nil)
      go_simp
      refine (refEdge_any a dx _ ha hx).mono ?_
      rintro e w' ⟨rfl, rfl⟩
      refine hK _ _ hHeld (fun hHeld => ?_)
      clear hK K
      try simp only [Act.put, List.setIfInBounds_toArray, List.set_cons_zero, List.set_cons_succ]
      refine wpAnyH_ready (rs := [7]) (by kernel_rfl) (by simp) (AllReadyH.cons (o := ({ dst := some 17, op := Op.call { callee := Callee.value (Operand.func 61), args := #[Operand.tmp 15, Operand.tmp 16], argTypes := #[3, 3] }, type := 3, pos := "ref.go:81", after := #[{ on := 5, ground := Ground.data }, { on := 6, ground := Ground.data }, { on := 3, ground := Ground.chain }], guard := none } : Oper)) rfl (fun K hK => ?_) AllReadyH.nil)
      go_simp
      refine (refEdge_any b dy _ hb' hy).mono ?_
      rintro e w' ⟨rfl, rfl⟩
      refine hK _ _ hHeld (fun hHeld => ?_)
      clear hK K
      try simp only [Act.put, List.setIfInBounds_toArray, List.set_cons_zero, List.set_cons_succ]
      refine wpAnyH_ready (rs := [11]) (by kernel_rfl) (by simp) (AllReadyH.cons (o := ({ dst := some 21, op := Op.call { callee := Callee.value (Operand.func 61), args := #[Operand.tmp 19, Operand.tmp 20], argTypes := #[3, 3] }, type := 3, pos := "ref.go:81", after := #[{ on := 9, ground := Ground.data }, { on := 10, ground := Ground.data }, { on := 7, ground := Ground.chain }], guard := none } : Oper)) rfl (fun K hK => ?_) AllReadyH.nil)
      go_simp
      refine (refEdge_any c dx _ hc hx).mono ?_
      rintro e w' ⟨rfl, rfl⟩
      refine hK _ _ hHeld (fun hHeld => ?_)
      clear hK K
      try simp only [Act.put, List.setIfInBounds_toArray, List.set_cons_zero, List.set_cons_succ]
      refine wpAnyH_ready (rs := [15]) (by kernel_rfl) (by simp) (AllReadyH.cons (o := ({ dst := some 25, op := Op.call { callee := Callee.value (Operand.func 61), args := #[Operand.tmp 23, Operand.tmp 24], argTypes := #[3, 3] }, type := 3, pos := "ref.go:81", after := #[{ on := 13, ground := Ground.data }, { on := 14, ground := Ground.data }, { on := 11, ground := Ground.chain }], guard := none } : Oper)) rfl (fun K hK => ?_) AllReadyH.nil)
      go_simp
      refine (refEdge_any d dy _ hd hy).mono ?_
      rintro e w' ⟨rfl, rfl⟩
      refine hK _ _ hHeld (fun hHeld => ?_)
      clear hK K
      try simp only [Act.put, List.setIfInBounds_toArray, List.set_cons_zero, List.set_cons_succ]
      refine wpAnyH_ready (rs := [16]) (by kernel_rfl) (by simp) (AllReadyH.cons (o := ({ dst := some 26, op := Op.call { callee := Callee.value (Operand.func 60), args := #[Operand.tmp 13, Operand.tmp 17, Operand.tmp 21, Operand.tmp 25], argTypes := #[3, 3, 3, 3] }, type := 36, pos := "ref.go:81", after := #[{ on := 3, ground := Ground.data }, { on := 7, ground := Ground.data }, { on := 11, ground := Ground.data }, { on := 15, ground := Ground.data }, { on := 15, ground := Ground.chain }], guard := none } : Oper)) rfl (fun K hK => ?_) AllReadyH.nil)
      go_simp
      refine (refSome_any _ _ _ _ _).mono ?_
      rintro e w3 ⟨rfl, hb3⟩
      have M3 : Hid (Gou.Mod (fun _ => False) w1 w3) := Lib.hid ((Gou.Mod.drew _ _).trans' (Gou.Mod.of_below hb3 _))
      clear hb3 hHeld
      refine hK _ _ (M3.out.imp (fun _ _ h => h.elim)) (fun hHeld => ?_)
      clear hK K
      try simp only [Act.put, List.setIfInBounds_toArray, List.set_cons_zero, List.set_cons_succ]
      refine wpAnyH_ready (rs := [17]) (by kernel_rfl) (by simp) (AllReadyH.cons (o := ({ dst := none, op := Op.store 36 (Operand.tmp 6) (Operand.tmp 26), type := 0, pos := "ref.go:81", after := #[{ on := 16, ground := Ground.data }, { on := 16, ground := Ground.chain }, { on := 0, ground := Ground.phase }, { on := 1, ground := Ground.phase }, { on := 2, ground := Ground.phase }, { on := 3, ground := Ground.phase }, { on := 4, ground := Ground.phase }, { on := 5, ground := Ground.phase }, { on := 6, ground := Ground.phase }, { on := 7, ground := Ground.phase }, { on := 8, ground := Ground.phase }, { on := 9, ground := Ground.phase }, { on := 10, ground := Ground.phase }, { on := 11, ground := Ground.phase }, { on := 12, ground := Ground.phase }, { on := 13, ground := Ground.phase }, { on := 14, ground := Ground.phase }, { on := 15, ground := Ground.phase }, { on := 16, ground := Ground.phase }], guard := none } : Oper)) rfl (fun K hK => ?_) AllReadyH.nil)
      refine wp_store_mid 36 _ _ rfl (w.heap.size + 1) 0 #[.int .i64 (someP ⟨edgeP a dx, edgeP b dy, edgeP c dx, edgeP d dy⟩).x0, .int .i64 (someP ⟨edgeP a dx, edgeP b dy, edgeP c dx, edgeP d dy⟩).y0, .int .i64 (someP ⟨edgeP a dx, edgeP b dy, edgeP c dx, edgeP d dy⟩).x1, .int .i64 (someP ⟨edgeP a dx, edgeP b dy, edgeP c dx, edgeP d dy⟩).y1] rfl rfl ((HB1.out.mod0 M3.out).there 0 4 (by simp)) size_rect (one4 _ _ _ _) ?_
      refine hK _ _ ((M3.out.imp (fun _ _ h => h.elim)).trans' (Blk.setMod _ _ _ _)) (fun hHeld => ?_)
      clear hK K
      try simp only [Act.put, List.setIfInBounds_toArray, List.set_cons_zero, List.set_cons_succ]
      refine wpAnyH_done (by kernel_rfl) ?_ _
      clear hHeld
      go_wp2_with fail
      have h := store_end (N := w.heap.size + 1) Hm.out (by omega) (Nat.le_of_lt (Nat.lt_of_lt_of_le (by omega) Hz.out)) HB1.out M3.out (.int .i64 (someP ⟨edgeP a dx, edgeP b dy, edgeP c dx, edgeP d dy⟩).x0) (.int .i64 (someP ⟨edgeP a dx, edgeP b dy, edgeP c dx, edgeP d dy⟩).y0) (.int .i64 (someP ⟨edgeP a dx, edgeP b dy, edgeP c dx, edgeP d dy⟩).x1) (.int .i64 (someP ⟨edgeP a dx, edgeP b dy, edgeP c dx, edgeP d dy⟩).y1)
      exact ret_rect (someP ⟨edgeP a dx, edgeP b dy, edgeP c dx, edgeP d dy⟩) rfl rfl rfl h.1 Try.underlying36 rfl size_rect ⟨rfl, h.2⟩
    | false =>
      clear c0 c1 c2 c3
      go_wp2_with fail
      have h := set4 HB1.out Hm.out (by omega) (.int .i64 0) (.int .i64 0) (.int .i64 0) (.int .i64 0)
      exact ret_rect ⟨0, 0, 0, 0⟩ rfl rfl rfl h.1 Try.underlying36 rfl size_rect ⟨rfl, h.2⟩
  refine (key _ rfl).mono ?_
  rintro e w' ⟨rfl, hb⟩
  exact ⟨by simp only [decide_eq_true_eq]; rfl, hb⟩

set_option maxHeartbeats 4000000 in
theorem refGrow_any (r : Rt) (l u x y : Int) (w : World) (hr : r.Right) (hl : Near l) (hu : Near u) (hx : Near x) (hy : Near y) :
    Calls Try.prog 49 #[rtV r, .int .i64 l, .int .i64 u, .int .i64 x, .int .i64 y] w fun e w' => e = .returned (rtV (growP l u x y r)) ∧ Below w.heap.size w w' := by
  obtain ⟨a, b, c, d⟩ := r
  have key : ∀ s : Bool, decide (Rt.Some ⟨a, b, c, d⟩) = s → Calls Try.prog 49 #[.agg #[.int .i64 a, .int .i64 b, .int .i64 c, .int .i64 d], .int .i64 l, .int .i64 u, .int .i64 x, .int .i64 y] w fun e w' => e = .returned (rtV (if s then someP ⟨cutN (a - l), cutN (b - u), cutN (c + x), cutN (d + y)⟩ else Rt.zero)) ∧ Below w.heap.size w w' := by
    intro s hh
    obtain ⟨ha, hb', hc, hd⟩ := hr
    have e1 : IntKind.i64.wrap (a - l) = a - l := wrap_id (by simp only [Near, far] at *; omega) (by simp only [Near, far] at *; omega)
    have e2 : IntKind.i64.wrap (b - u) = b - u := wrap_id (by simp only [Near, far] at *; omega) (by simp only [Near, far] at *; omega)
    have e3 : IntKind.i64.wrap (c + x) = c + x := wrap_id (by simp only [Near, far] at *; omega) (by simp only [Near, far] at *; omega)
    have e4 : IntKind.i64.wrap (d + y) = d + y := wrap_id (by simp only [Near, far] at *; omega) (by simp only [Near, far] at *; omega)
    clear ha hb' hc hd hl hu hx hy
    go_enter Try.func49, Try.ntmps49
    go_wp2_with fail
    refine (refEmpty_any ⟨a, b, c, d⟩ _).mono ?_
    rintro e w1 ⟨rfl, hb⟩
    rw [hh]
    obtain ⟨B0, B1⟩ := two_new w 36 36 #[.int .i64 a, .int .i64 b, .int .i64 c, .int .i64 d] #[.int .i64 0, .int .i64 0, .int .i64 0, .int .i64 0]
    have HB1 := Lib.hid (B1.up hb)
    have Hm : Hid (Below w.heap.size w w1) := Lib.hid ((below2 _ _ _).trans (hb.mono (by simp; omega)))
    obtain ⟨⟨d0, d1, d2, d3⟩, ⟨f0, f1, f2, f3⟩⟩ := four (B1.up hb)
    obtain ⟨⟨c0, c1, c2, c3⟩, -⟩ := four (B0.up hb)
    have Hz : Hid (w.heap.size + 1 < w1.heap.size) := Lib.hid (Blk.lt HB1.out)
    clear hb B0 B1 hh
    cases s with
    | true =>
      clear d0 d1 d2 d3 f0 f1 f2 f3
      go_wp2_with fail
      refine wp_region_held_drew (S := fun w' => Gou.Mod (fun k => k = w.heap.size + 1) w1 w') (by kernel_rfl) (Gou.Mod.drew _ _) (fun hHeld => ?_)
      refine wpAnyH_take (i := 0) (oi := ({ dst := some 14, op := Op.fieldAddr 36 (Operand.tmp 5) 0, type := 0, pos := "ref.go:88", after := #[], guard := none } : Oper)) (v := .pointer (some ⟨w.heap.size, 0, none⟩)) rfl (by kernel_rfl) (by kernel_rfl) (by kernel_rfl) (fun _ _ _ h => h) (Or.inl ⟨by rfl, ?_⟩) hHeld ?_
      · (intro w' hSw; (try dsimp only at hSw); clear hSw; go_simp; (try with_reducible rfl))
      try simp only [Act.put, List.setIfInBounds_toArray, List.set_cons_zero, List.set_cons_succ]
      refine wpAnyH_take (i := 1) (oi := ({ dst := some 15, op := Op.load 3 (Operand.tmp 14), type := 3, pos := "ref.go:88", after := #[{ on := 0, ground := Ground.data }], guard := none } : Oper)) (v := .int .i64 a) rfl (by kernel_rfl) (by kernel_rfl) (by kernel_rfl) (fun _ _ _ h => h) (Or.inl ⟨by rfl, ?_⟩) hHeld ?_
      · (intro w' hSw; (try dsimp only at hSw); have g := (hSw.cell (p := ⟨w.heap.size, 0, none⟩) (by show w.heap.size < _; have := Hz.out; omega) (by show ¬ (w.heap.size = _); omega)).trans c0; clear hSw; go_simp; (try with_reducible rfl))
      try simp only [Act.put, List.setIfInBounds_toArray, List.set_cons_zero, List.set_cons_succ]
      refine wpAnyH_take (i := 2) (oi := ({ dst := some 16, op := Op.move (Operand.tmp 1), type := 3, pos := "ref.go:88", after := #[], guard := none } : Oper)) (v := .int .i64 l) rfl (by kernel_rfl) (by kernel_rfl) (by kernel_rfl) (fun _ _ _ h => h) (Or.inl ⟨by rfl, ?_⟩) hHeld ?_
      · (intro w' hSw; (try dsimp only at hSw); clear hSw; go_simp; (try with_reducible rfl))
      try simp only [Act.put, List.setIfInBounds_toArray, List.set_cons_zero, List.set_cons_succ]
      refine wpAnyH_take (i := 3) (oi := ({ dst := some 17, op := Op.binOp BinOp.sub 3 (Operand.tmp 15) (Operand.tmp 16) 3, type := 3, pos := "ref.go:88", after := #[{ on := 1, ground := Ground.data }, { on := 2, ground := Ground.data }], guard := none } : Oper)) (v := .int .i64 (a - l)) rfl (by kernel_rfl) (by kernel_rfl) (by kernel_rfl) (fun _ _ _ h => h) (Or.inl ⟨by rfl, ?_⟩) hHeld ?_
      · (intro w' hSw; (try dsimp only at hSw); clear hSw; go_simp; (try with_reducible rfl))
      try simp only [Act.put, List.setIfInBounds_toArray, List.set_cons_zero, List.set_cons_succ]
      refine wpAnyH_take (i := 5) (oi := ({ dst := some 19, op := Op.fieldAddr 36 (Operand.tmp 5) 1, type := 0, pos := "ref.go:88", after := #[], guard := none } : Oper)) (v := .pointer (some ⟨w.heap.size, 1, none⟩)) rfl (by kernel_rfl) (by kernel_rfl) (by kernel_rfl) (fun _ _ _ h => h) (Or.inl ⟨by rfl, ?_⟩) hHeld ?_
      · (intro w' hSw; (try dsimp only at hSw); clear hSw; go_simp; (try with_reducible rfl))
      try simp only [Act.put, List.setIfInBounds_toArray, List.set_cons_zero, List.set_cons_succ]
      refine wpAnyH_take (i := 6) (oi := ({ dst := some 20, op := Op.load 3 (Operand.tmp 19), type := 3, pos := "ref.go:88", after := #[{ on := 5, ground := Ground.data }], guard := none } : Oper)) (v := .int .i64 b) rfl (by kernel_rfl) (by kernel_rfl) (by kernel_rfl) (fun _ _ _ h => h) (Or.inl ⟨by rfl, ?_⟩) hHeld ?_
      · (intro w' hSw; (try dsimp only at hSw); have g := (hSw.cell (p := ⟨w.heap.size, 1, none⟩) (by show w.heap.size < _; have := Hz.out; omega) (by show ¬ (w.heap.size = _); omega)).trans c1; clear hSw; go_simp; (try with_reducible rfl))
      try simp only [Act.put, List.setIfInBounds_toArray, List.set_cons_zero, List.set_cons_succ]
      refine wpAnyH_take (i := 7) (oi := ({ dst := some 21, op := Op.move (Operand.tmp 2), type := 3, pos := "ref.go:88", after := #[], guard := none } : Oper)) (v := .int .i64 u) rfl (by kernel_rfl) (by kernel_rfl) (by kernel_rfl) (fun _ _ _ h => h) (Or.inl ⟨by rfl, ?_⟩) hHeld ?_
      · (intro w' hSw; (try dsimp only at hSw); clear hSw; go_simp; (try with_reducible rfl))
      try simp only [Act.put, List.setIfInBounds_toArray, List.set_cons_zero, List.set_cons_succ]
      refine wpAnyH_take (i := 8) (oi := ({ dst := some 22, op := Op.binOp BinOp.sub 3 (Operand.tmp 20) (Operand.tmp 21) 3, type := 3, pos := "ref.go:88", after := #[{ on := 6, ground := Ground.data }, { on := 7, ground := Ground.data }], guard := none } : Oper)) (v := .int .i64 (b - u)) rfl (by kernel_rfl) (by kernel_rfl) (by kernel_rfl) (fun _ _ _ h => h) (Or.inl ⟨by rfl, ?_⟩) hHeld ?_
      · (intro w' hSw; (try dsimp only at hSw); clear hSw; go_simp; (try with_reducible rfl))
      try simp only [Act.put, List.setIfInBounds_toArray, List.set_cons_zero, List.set_cons_succ]
      refine wpAnyH_take (i := 10) (oi := ({ dst := some 24, op := Op.fieldAddr 36 (Operand.tmp 5) 2, type := 0, pos := "ref.go:88", after := #[], guard := none } : Oper)) (v := .pointer (some ⟨w.heap.size, 2, none⟩)) rfl (by kernel_rfl) (by kernel_rfl) (by kernel_rfl) (fun _ _ _ h => h) (Or.inl ⟨by rfl, ?_⟩) hHeld ?_
      · (intro w' hSw; (try dsimp only at hSw); clear hSw; go_simp; (try with_reducible rfl))
      try simp only [Act.put, List.setIfInBounds_toArray, List.set_cons_zero, List.set_cons_succ]
      refine wpAnyH_take (i := 11) (oi := ({ dst := some 25, op := Op.load 3 (Operand.tmp 24), type := 3, pos := "ref.go:88", after := #[{ on := 10, ground := Ground.data }], guard := none } : Oper)) (v := .int .i64 c) rfl (by kernel_rfl) (by kernel_rfl) (by kernel_rfl) (fun _ _ _ h => h) (Or.inl ⟨by rfl, ?_⟩) hHeld ?_
      · (intro w' hSw; (try dsimp only at hSw); have g := (hSw.cell (p := ⟨w.heap.size, 2, none⟩) (by show w.heap.size < _; have := Hz.out; omega) (by show ¬ (w.heap.size = _); omega)).trans c2; clear hSw; go_simp; (try with_reducible rfl))
      try simp only [Act.put, List.setIfInBounds_toArray, List.set_cons_zero, List.set_cons_succ]
      refine wpAnyH_take (i := 12) (oi := ({ dst := some 26, op := Op.move (Operand.tmp 3), type := 3, pos := "ref.go:88", after := #[], guard := none } : Oper)) (v := .int .i64 x) rfl (by kernel_rfl) (by kernel_rfl) (by kernel_rfl) (fun _ _ _ h => h) (Or.inl ⟨by rfl, ?_⟩) hHeld ?_
      · (intro w' hSw; (try dsimp only at hSw); clear hSw; go_simp; (try with_reducible rfl))
      try simp only [Act.put, List.setIfInBounds_toArray, List.set_cons_zero, List.set_cons_succ]
      refine wpAnyH_take (i := 13) (oi := ({ dst := some 27, op := Op.binOp BinOp.add 3 (Operand.tmp 25) (Operand.tmp 26) 3, type := 3, pos := "ref.go:88", after := #[{ on := 11, ground := Ground.data }, { on := 12, ground := Ground.data }], guard := none } : Oper)) (v := .int .i64 (c + x)) rfl (by kernel_rfl) (by kernel_rfl) (by kernel_rfl) (fun _ _ _ h => h) (Or.inl ⟨by rfl, ?_⟩) hHeld ?_
      · (intro w' hSw; (try dsimp only at hSw); clear hSw; go_simp; (try with_reducible rfl))
      try simp only [Act.put, List.setIfInBounds_toArray, List.set_cons_zero, List.set_cons_succ]
      refine wpAnyH_take (i := 15) (oi := ({ dst := some 29, op := Op.fieldAddr 36 (Operand.tmp 5) 3, type := 0, pos := "ref.go:88", after := #[], guard := none } : Oper)) (v := .pointer (some ⟨w.heap.size, 3, none⟩)) rfl (by kernel_rfl) (by kernel_rfl) (by kernel_rfl) (fun _ _ _ h => h) (Or.inl ⟨by rfl, ?_⟩) hHeld ?_
      · (intro w' hSw; (try dsimp only at hSw); clear hSw; go_simp; (try with_reducible rfl))
      try simp only [Act.put, List.setIfInBounds_toArray, List.set_cons_zero, List.set_cons_succ]
      refine wpAnyH_take (i := 16) (oi := ({ dst := some 30, op := Op.load 3 (Operand.tmp 29), type := 3, pos := "ref.go:88", after := #[{ on := 15, ground := Ground.data }], guard := none } : Oper)) (v := .int .i64 d) rfl (by kernel_rfl) (by kernel_rfl) (by kernel_rfl) (fun _ _ _ h => h) (Or.inl ⟨by rfl, ?_⟩) hHeld ?_
      · (intro w' hSw; (try dsimp only at hSw); have g := (hSw.cell (p := ⟨w.heap.size, 3, none⟩) (by show w.heap.size < _; have := Hz.out; omega) (by show ¬ (w.heap.size = _); omega)).trans c3; clear hSw; go_simp; (try with_reducible rfl))
      try simp only [Act.put, List.setIfInBounds_toArray, List.set_cons_zero, List.set_cons_succ]
      refine wpAnyH_take (i := 17) (oi := ({ dst := some 31, op := Op.move (Operand.tmp 4), type := 3, pos := "ref.go:88", after := #[], guard := none } : Oper)) (v := .int .i64 y) rfl (by kernel_rfl) (by kernel_rfl) (by kernel_rfl) (fun _ _ _ h => h) (Or.inl ⟨by rfl, ?_⟩) hHeld ?_
      · (intro w' hSw; (try dsimp only at hSw); clear hSw; go_simp; (try with_reducible rfl))
      try simp only [Act.put, List.setIfInBounds_toArray, List.set_cons_zero, List.set_cons_succ]
      refine wpAnyH_take (i := 18) (oi := ({ dst := some 32, op := Op.binOp BinOp.add 3 (Operand.tmp 30) (Operand.tmp 31) 3, type := 3, pos := "ref.go:88", after := #[{ on := 16, ground := Ground.data }, { on := 17, ground := Ground.data }], guard := none } : Oper)) (v := .int .i64 (d + y)) rfl (by kernel_rfl) (by kernel_rfl) (by kernel_rfl) (fun _ _ _ h => h) (Or.inl ⟨by rfl, ?_⟩) hHeld ?_
      · (intro w' hSw; (try dsimp only at hSw); clear hSw; go_simp; (try with_reducible rfl))
      try simp only [Act.put, List.setIfInBounds_toArray, List.set_cons_zero, List.set_cons_succ]
      refine wpAnyH_ready (rs := [4]) (by kernel_rfl) (by simp) (AllReadyH.cons (o := ({ dst := some 18, op := Op.call { callee := Callee.value (Operand.func 62), args := #[Operand.tmp 17], argTypes := #[3] }, type := 3, pos := "ref.go:88", after := #[{ on := 3, ground := Ground.data }], guard := none } : Oper)) rfl (fun K hK => ?_) AllReadyH.nil)
      go_simp
      refine (refCut_any _ _).mono ?_
      rintro e w' ⟨rfl, rfl⟩
      refine hK _ _ hHeld (fun hHeld => ?_)
      clear hK K
      try simp only [Act.put, List.setIfInBounds_toArray, List.set_cons_zero, List.set_cons_succ]
      refine wpAnyH_ready (rs := [9]) (by kernel_rfl) (by simp) (AllReadyH.cons (o := ({ dst := some 23, op := Op.call { callee := Callee.value (Operand.func 62), args := #[Operand.tmp 22], argTypes := #[3] }, type := 3, pos := "ref.go:88", after := #[{ on := 8, ground := Ground.data }, { on := 4, ground := Ground.chain }], guard := none } : Oper)) rfl (fun K hK => ?_) AllReadyH.nil)
      go_simp
      refine (refCut_any _ _).mono ?_
      rintro e w' ⟨rfl, rfl⟩
      refine hK _ _ hHeld (fun hHeld => ?_)
      clear hK K
      try simp only [Act.put, List.setIfInBounds_toArray, List.set_cons_zero, List.set_cons_succ]
      refine wpAnyH_ready (rs := [14]) (by kernel_rfl) (by simp) (AllReadyH.cons (o := ({ dst := some 28, op := Op.call { callee := Callee.value (Operand.func 62), args := #[Operand.tmp 27], argTypes := #[3] }, type := 3, pos := "ref.go:88", after := #[{ on := 13, ground := Ground.data }, { on := 9, ground := Ground.chain }], guard := none } : Oper)) rfl (fun K hK => ?_) AllReadyH.nil)
      go_simp
      refine (refCut_any _ _).mono ?_
      rintro e w' ⟨rfl, rfl⟩
      refine hK _ _ hHeld (fun hHeld => ?_)
      clear hK K
      try simp only [Act.put, List.setIfInBounds_toArray, List.set_cons_zero, List.set_cons_succ]
      refine wpAnyH_ready (rs := [19]) (by kernel_rfl) (by simp) (AllReadyH.cons (o := ({ dst := some 33, op := Op.call { callee := Callee.value (Operand.func 62), args := #[Operand.tmp 32], argTypes := #[3] }, type := 3, pos := "ref.go:88", after := #[{ on := 18, ground := Ground.data }, { on := 14, ground := Ground.chain }], guard := none } : Oper)) rfl (fun K hK => ?_) AllReadyH.nil)
      go_simp
      refine (refCut_any _ _).mono ?_
      rintro e w' ⟨rfl, rfl⟩
      refine hK _ _ hHeld (fun hHeld => ?_)
      clear hK K
      try simp only [Act.put, List.setIfInBounds_toArray, List.set_cons_zero, List.set_cons_succ]
      refine wpAnyH_ready (rs := [20]) (by kernel_rfl) (by simp) (AllReadyH.cons (o := ({ dst := some 34, op := Op.call { callee := Callee.value (Operand.func 60), args := #[Operand.tmp 18, Operand.tmp 23, Operand.tmp 28, Operand.tmp 33], argTypes := #[3, 3, 3, 3] }, type := 36, pos := "ref.go:88", after := #[{ on := 4, ground := Ground.data }, { on := 9, ground := Ground.data }, { on := 14, ground := Ground.data }, { on := 19, ground := Ground.data }, { on := 19, ground := Ground.chain }], guard := none } : Oper)) rfl (fun K hK => ?_) AllReadyH.nil)
      go_simp
      refine (refSome_any _ _ _ _ _).mono ?_
      rintro e w3 ⟨rfl, hb3⟩
      have M3 : Hid (Gou.Mod (fun _ => False) w1 w3) := Lib.hid ((Gou.Mod.drew _ _).trans' (Gou.Mod.of_below hb3 _))
      clear hb3 hHeld
      refine hK _ _ (M3.out.imp (fun _ _ h => h.elim)) (fun hHeld => ?_)
      clear hK K
      try simp only [Act.put, List.setIfInBounds_toArray, List.set_cons_zero, List.set_cons_succ]
      refine wpAnyH_ready (rs := [21]) (by kernel_rfl) (by simp) (AllReadyH.cons (o := ({ dst := none, op := Op.store 36 (Operand.tmp 10) (Operand.tmp 34), type := 0, pos := "ref.go:88", after := #[{ on := 20, ground := Ground.data }, { on := 20, ground := Ground.chain }, { on := 0, ground := Ground.phase }, { on := 1, ground := Ground.phase }, { on := 2, ground := Ground.phase }, { on := 3, ground := Ground.phase }, { on := 4, ground := Ground.phase }, { on := 5, ground := Ground.phase }, { on := 6, ground := Ground.phase }, { on := 7, ground := Ground.phase }, { on := 8, ground := Ground.phase }, { on := 9, ground := Ground.phase }, { on := 10, ground := Ground.phase }, { on := 11, ground := Ground.phase }, { on := 12, ground := Ground.phase }, { on := 13, ground := Ground.phase }, { on := 14, ground := Ground.phase }, { on := 15, ground := Ground.phase }, { on := 16, ground := Ground.phase }, { on := 17, ground := Ground.phase }, { on := 18, ground := Ground.phase }, { on := 19, ground := Ground.phase }, { on := 20, ground := Ground.phase }], guard := none } : Oper)) rfl (fun K hK => ?_) AllReadyH.nil)
      refine wp_store_mid 36 _ _ rfl (w.heap.size + 1) 0 #[.int .i64 (someP ⟨cutN (a - l), cutN (b - u), cutN (c + x), cutN (d + y)⟩).x0, .int .i64 (someP ⟨cutN (a - l), cutN (b - u), cutN (c + x), cutN (d + y)⟩).y0, .int .i64 (someP ⟨cutN (a - l), cutN (b - u), cutN (c + x), cutN (d + y)⟩).x1, .int .i64 (someP ⟨cutN (a - l), cutN (b - u), cutN (c + x), cutN (d + y)⟩).y1] rfl rfl ((HB1.out.mod0 M3.out).there 0 4 (by simp)) size_rect (one4 _ _ _ _) ?_
      refine hK _ _ ((M3.out.imp (fun _ _ h => h.elim)).trans' (Blk.setMod _ _ _ _)) (fun hHeld => ?_)
      clear hK K
      try simp only [Act.put, List.setIfInBounds_toArray, List.set_cons_zero, List.set_cons_succ]
      refine wpAnyH_done (by kernel_rfl) ?_ _
      clear hHeld
      go_wp2_with fail
      have h := store_end (N := w.heap.size + 1) Hm.out (by omega) (Nat.le_of_lt (Nat.lt_of_lt_of_le (by omega) Hz.out)) HB1.out M3.out (.int .i64 (someP ⟨cutN (a - l), cutN (b - u), cutN (c + x), cutN (d + y)⟩).x0) (.int .i64 (someP ⟨cutN (a - l), cutN (b - u), cutN (c + x), cutN (d + y)⟩).y0) (.int .i64 (someP ⟨cutN (a - l), cutN (b - u), cutN (c + x), cutN (d + y)⟩).x1) (.int .i64 (someP ⟨cutN (a - l), cutN (b - u), cutN (c + x), cutN (d + y)⟩).y1)
      exact ret_rect (someP ⟨cutN (a - l), cutN (b - u), cutN (c + x), cutN (d + y)⟩) rfl rfl rfl h.1 Try.underlying36 rfl size_rect ⟨rfl, h.2⟩
    | false =>
      clear c0 c1 c2 c3
      go_wp2_with fail
      have h := set4 HB1.out Hm.out (by omega) (.int .i64 0) (.int .i64 0) (.int .i64 0) (.int .i64 0)
      exact ret_rect ⟨0, 0, 0, 0⟩ rfl rfl rfl h.1 Try.underlying36 rfl size_rect ⟨rfl, h.2⟩
  refine (key _ rfl).mono ?_
  rintro e w' ⟨rfl, hb⟩
  exact ⟨by simp only [decide_eq_true_eq]; rfl, hb⟩

set_option maxHeartbeats 4000000 in
theorem refJoin_any (a b : Rt) (w : World) :
    Calls Try.prog 51 #[rtV a, rtV b] w fun e w' => e = .returned (rtV (hullP a b)) ∧ Below w.heap.size w w' := by
  obtain ⟨a0, a1, a2, a3⟩ := a
  obtain ⟨b0, b1, b2, b3⟩ := b
  have key : ∀ s t : Bool, decide (Rt.Some ⟨a0, a1, a2, a3⟩) = s → decide (Rt.Some ⟨b0, b1, b2, b3⟩) = t → Calls Try.prog 51 #[.agg #[.int .i64 a0, .int .i64 a1, .int .i64 a2, .int .i64 a3], .agg #[.int .i64 b0, .int .i64 b1, .int .i64 b2, .int .i64 b3]] w
      fun e w' => e = .returned (rtV (if s then (if t then someP ⟨min a0 b0, min a1 b1, max a2 b2, max a3 b3⟩ else ⟨a0, a1, a2, a3⟩) else someP ⟨b0, b1, b2, b3⟩)) ∧ Below w.heap.size w w' := by
    intro s t hs ht
    go_enter Try.func51, Try.ntmps51
    go_wp2_with fail
    refine (refEmpty_any ⟨a0, a1, a2, a3⟩ _).mono ?_
    rintro e w0 ⟨rfl, hb0⟩
    rw [hs]
    obtain ⟨A0, A1, A2⟩ := three_new w 36 36 36 #[.int .i64 a0, .int .i64 a1, .int .i64 a2, .int .i64 a3] #[.int .i64 b0, .int .i64 b1, .int .i64 b2, .int .i64 b3] #[.int .i64 0, .int .i64 0, .int .i64 0, .int .i64 0]
    have D0 := Lib.hid (A0.up hb0)
    have D1 := Lib.hid (A1.up hb0)
    have D2 := Lib.hid (A2.up hb0)
    have Hm0 : Hid (Below w.heap.size w w0) := Lib.hid ((below3 _ _ _ _).trans (hb0.mono (by simp; omega)))
    have Hz0 : Hid (w.heap.size + 2 < w0.heap.size) := Lib.hid (Blk.lt D2.out)
    clear hb0 A0 A1 A2 hs
    cases s with
    | true =>
      obtain ⟨⟨c0, c1, c2, c3⟩, -⟩ := four D0.out
      obtain ⟨⟨k0, k1, k2, k3⟩, -⟩ := four D1.out
      go_wp2_with fail
      refine (refEmpty_any ⟨b0, b1, b2, b3⟩ _).mono ?_
      rintro e w1 ⟨rfl, hb⟩
      rw [ht]
      have HB1 := Lib.hid (D2.out.up hb)
      have HB0 := Lib.hid (D0.out.up hb)
      have HBb := Lib.hid (D1.out.up hb)
      have Hm : Hid (Below w.heap.size w w1) := Lib.hid (Hm0.out.trans (hb.mono (by have := Hz0.out; omega)))
      have Hz : Hid (w.heap.size + 2 < w1.heap.size) := Lib.hid (Blk.lt HB1.out)
      clear hb c0 c1 c2 c3 k0 k1 k2 k3 ht Hm0 Hz0 D0 D1 D2
      obtain ⟨⟨c0, c1, c2, c3⟩, -⟩ := four HB0.out
      cases t with
      | true =>
        obtain ⟨⟨k0, k1, k2, k3⟩, -⟩ := four HBb.out
        go_wp2_with fail
        refine wp_region_held_drew (S := fun w' => Gou.Mod (fun k => k = w.heap.size + 2) w1 w') (by kernel_rfl) (Gou.Mod.drew _ _) (fun hHeld => ?_)
        refine wpAnyH_take (i := 0) (oi := ({ dst := some 19, op := Op.fieldAddr 36 (Operand.tmp 2) 0, type := 0, pos := "ref.go:58", after := #[], guard := none } : Oper)) (v := .pointer (some ⟨w.heap.size, 0, none⟩)) rfl (by kernel_rfl) (by kernel_rfl) (by kernel_rfl) (fun _ _ _ h => h) (Or.inl ⟨by rfl, ?_⟩) hHeld ?_
        · (intro w' hSw; (try dsimp only at hSw); clear hSw; go_simp; (try with_reducible rfl))
        try simp only [Act.put, List.setIfInBounds_toArray, List.set_cons_zero, List.set_cons_succ]
        refine wpAnyH_take (i := 1) (oi := ({ dst := some 20, op := Op.load 3 (Operand.tmp 19), type := 3, pos := "ref.go:58", after := #[{ on := 0, ground := Ground.data }], guard := none } : Oper)) (v := .int .i64 a0) rfl (by kernel_rfl) (by kernel_rfl) (by kernel_rfl) (fun _ _ _ h => h) (Or.inl ⟨by rfl, ?_⟩) hHeld ?_
        · (intro w' hSw; (try dsimp only at hSw); have g := (hSw.cell (p := ⟨w.heap.size, 0, none⟩) (by show w.heap.size < _; have := Hz.out; omega) (by show ¬ (w.heap.size = _); omega)).trans c0; clear hSw; go_simp; (try with_reducible rfl))
        try simp only [Act.put, List.setIfInBounds_toArray, List.set_cons_zero, List.set_cons_succ]
        refine wpAnyH_take (i := 2) (oi := ({ dst := some 21, op := Op.fieldAddr 36 (Operand.tmp 3) 0, type := 0, pos := "ref.go:58", after := #[], guard := none } : Oper)) (v := .pointer (some ⟨w.heap.size + 1, 0, none⟩)) rfl (by kernel_rfl) (by kernel_rfl) (by kernel_rfl) (fun _ _ _ h => h) (Or.inl ⟨by rfl, ?_⟩) hHeld ?_
        · (intro w' hSw; (try dsimp only at hSw); clear hSw; go_simp; (try with_reducible rfl))
        try simp only [Act.put, List.setIfInBounds_toArray, List.set_cons_zero, List.set_cons_succ]
        refine wpAnyH_take (i := 3) (oi := ({ dst := some 22, op := Op.load 3 (Operand.tmp 21), type := 3, pos := "ref.go:58", after := #[{ on := 2, ground := Ground.data }], guard := none } : Oper)) (v := .int .i64 b0) rfl (by kernel_rfl) (by kernel_rfl) (by kernel_rfl) (fun _ _ _ h => h) (Or.inl ⟨by rfl, ?_⟩) hHeld ?_
        · (intro w' hSw; (try dsimp only at hSw); have g := (hSw.cell (p := ⟨w.heap.size + 1, 0, none⟩) (by show w.heap.size + 1 < _; have := Hz.out; omega) (by show ¬ (w.heap.size + 1 = _); omega)).trans k0; clear hSw; go_simp; (try with_reducible rfl))
        try simp only [Act.put, List.setIfInBounds_toArray, List.set_cons_zero, List.set_cons_succ]
        refine wpAnyH_take (i := 5) (oi := ({ dst := some 24, op := Op.fieldAddr 36 (Operand.tmp 2) 1, type := 0, pos := "ref.go:58", after := #[], guard := none } : Oper)) (v := .pointer (some ⟨w.heap.size, 1, none⟩)) rfl (by kernel_rfl) (by kernel_rfl) (by kernel_rfl) (fun _ _ _ h => h) (Or.inl ⟨by rfl, ?_⟩) hHeld ?_
        · (intro w' hSw; (try dsimp only at hSw); clear hSw; go_simp; (try with_reducible rfl))
        try simp only [Act.put, List.setIfInBounds_toArray, List.set_cons_zero, List.set_cons_succ]
        refine wpAnyH_take (i := 6) (oi := ({ dst := some 25, op := Op.load 3 (Operand.tmp 24), type := 3, pos := "ref.go:58", after := #[{ on := 5, ground := Ground.data }], guard := none } : Oper)) (v := .int .i64 a1) rfl (by kernel_rfl) (by kernel_rfl) (by kernel_rfl) (fun _ _ _ h => h) (Or.inl ⟨by rfl, ?_⟩) hHeld ?_
        · (intro w' hSw; (try dsimp only at hSw); have g := (hSw.cell (p := ⟨w.heap.size, 1, none⟩) (by show w.heap.size < _; have := Hz.out; omega) (by show ¬ (w.heap.size = _); omega)).trans c1; clear hSw; go_simp; (try with_reducible rfl))
        try simp only [Act.put, List.setIfInBounds_toArray, List.set_cons_zero, List.set_cons_succ]
        refine wpAnyH_take (i := 7) (oi := ({ dst := some 26, op := Op.fieldAddr 36 (Operand.tmp 3) 1, type := 0, pos := "ref.go:58", after := #[], guard := none } : Oper)) (v := .pointer (some ⟨w.heap.size + 1, 1, none⟩)) rfl (by kernel_rfl) (by kernel_rfl) (by kernel_rfl) (fun _ _ _ h => h) (Or.inl ⟨by rfl, ?_⟩) hHeld ?_
        · (intro w' hSw; (try dsimp only at hSw); clear hSw; go_simp; (try with_reducible rfl))
        try simp only [Act.put, List.setIfInBounds_toArray, List.set_cons_zero, List.set_cons_succ]
        refine wpAnyH_take (i := 8) (oi := ({ dst := some 27, op := Op.load 3 (Operand.tmp 26), type := 3, pos := "ref.go:58", after := #[{ on := 7, ground := Ground.data }], guard := none } : Oper)) (v := .int .i64 b1) rfl (by kernel_rfl) (by kernel_rfl) (by kernel_rfl) (fun _ _ _ h => h) (Or.inl ⟨by rfl, ?_⟩) hHeld ?_
        · (intro w' hSw; (try dsimp only at hSw); have g := (hSw.cell (p := ⟨w.heap.size + 1, 1, none⟩) (by show w.heap.size + 1 < _; have := Hz.out; omega) (by show ¬ (w.heap.size + 1 = _); omega)).trans k1; clear hSw; go_simp; (try with_reducible rfl))
        try simp only [Act.put, List.setIfInBounds_toArray, List.set_cons_zero, List.set_cons_succ]
        refine wpAnyH_take (i := 10) (oi := ({ dst := some 29, op := Op.fieldAddr 36 (Operand.tmp 2) 2, type := 0, pos := "ref.go:58", after := #[], guard := none } : Oper)) (v := .pointer (some ⟨w.heap.size, 2, none⟩)) rfl (by kernel_rfl) (by kernel_rfl) (by kernel_rfl) (fun _ _ _ h => h) (Or.inl ⟨by rfl, ?_⟩) hHeld ?_
        · (intro w' hSw; (try dsimp only at hSw); clear hSw; go_simp; (try with_reducible rfl))
        try simp only [Act.put, List.setIfInBounds_toArray, List.set_cons_zero, List.set_cons_succ]
        refine wpAnyH_take (i := 11) (oi := ({ dst := some 30, op := Op.load 3 (Operand.tmp 29), type := 3, pos := "ref.go:58", after := #[{ on := 10, ground := Ground.data }], guard := none } : Oper)) (v := .int .i64 a2) rfl (by kernel_rfl) (by kernel_rfl) (by kernel_rfl) (fun _ _ _ h => h) (Or.inl ⟨by rfl, ?_⟩) hHeld ?_
        · (intro w' hSw; (try dsimp only at hSw); have g := (hSw.cell (p := ⟨w.heap.size, 2, none⟩) (by show w.heap.size < _; have := Hz.out; omega) (by show ¬ (w.heap.size = _); omega)).trans c2; clear hSw; go_simp; (try with_reducible rfl))
        try simp only [Act.put, List.setIfInBounds_toArray, List.set_cons_zero, List.set_cons_succ]
        refine wpAnyH_take (i := 12) (oi := ({ dst := some 31, op := Op.fieldAddr 36 (Operand.tmp 3) 2, type := 0, pos := "ref.go:58", after := #[], guard := none } : Oper)) (v := .pointer (some ⟨w.heap.size + 1, 2, none⟩)) rfl (by kernel_rfl) (by kernel_rfl) (by kernel_rfl) (fun _ _ _ h => h) (Or.inl ⟨by rfl, ?_⟩) hHeld ?_
        · (intro w' hSw; (try dsimp only at hSw); clear hSw; go_simp; (try with_reducible rfl))
        try simp only [Act.put, List.setIfInBounds_toArray, List.set_cons_zero, List.set_cons_succ]
        refine wpAnyH_take (i := 13) (oi := ({ dst := some 32, op := Op.load 3 (Operand.tmp 31), type := 3, pos := "ref.go:58", after := #[{ on := 12, ground := Ground.data }], guard := none } : Oper)) (v := .int .i64 b2) rfl (by kernel_rfl) (by kernel_rfl) (by kernel_rfl) (fun _ _ _ h => h) (Or.inl ⟨by rfl, ?_⟩) hHeld ?_
        · (intro w' hSw; (try dsimp only at hSw); have g := (hSw.cell (p := ⟨w.heap.size + 1, 2, none⟩) (by show w.heap.size + 1 < _; have := Hz.out; omega) (by show ¬ (w.heap.size + 1 = _); omega)).trans k2; clear hSw; go_simp; (try with_reducible rfl))
        try simp only [Act.put, List.setIfInBounds_toArray, List.set_cons_zero, List.set_cons_succ]
        refine wpAnyH_take (i := 15) (oi := ({ dst := some 34, op := Op.fieldAddr 36 (Operand.tmp 2) 3, type := 0, pos := "ref.go:58", after := #[], guard := none } : Oper)) (v := .pointer (some ⟨w.heap.size, 3, none⟩)) rfl (by kernel_rfl) (by kernel_rfl) (by kernel_rfl) (fun _ _ _ h => h) (Or.inl ⟨by rfl, ?_⟩) hHeld ?_
        · (intro w' hSw; (try dsimp only at hSw); clear hSw; go_simp; (try with_reducible rfl))
        try simp only [Act.put, List.setIfInBounds_toArray, List.set_cons_zero, List.set_cons_succ]
        refine wpAnyH_take (i := 16) (oi := ({ dst := some 35, op := Op.load 3 (Operand.tmp 34), type := 3, pos := "ref.go:58", after := #[{ on := 15, ground := Ground.data }], guard := none } : Oper)) (v := .int .i64 a3) rfl (by kernel_rfl) (by kernel_rfl) (by kernel_rfl) (fun _ _ _ h => h) (Or.inl ⟨by rfl, ?_⟩) hHeld ?_
        · (intro w' hSw; (try dsimp only at hSw); have g := (hSw.cell (p := ⟨w.heap.size, 3, none⟩) (by show w.heap.size < _; have := Hz.out; omega) (by show ¬ (w.heap.size = _); omega)).trans c3; clear hSw; go_simp; (try with_reducible rfl))
        try simp only [Act.put, List.setIfInBounds_toArray, List.set_cons_zero, List.set_cons_succ]
        refine wpAnyH_take (i := 17) (oi := ({ dst := some 36, op := Op.fieldAddr 36 (Operand.tmp 3) 3, type := 0, pos := "ref.go:58", after := #[], guard := none } : Oper)) (v := .pointer (some ⟨w.heap.size + 1, 3, none⟩)) rfl (by kernel_rfl) (by kernel_rfl) (by kernel_rfl) (fun _ _ _ h => h) (Or.inl ⟨by rfl, ?_⟩) hHeld ?_
        · (intro w' hSw; (try dsimp only at hSw); clear hSw; go_simp; (try with_reducible rfl))
        try simp only [Act.put, List.setIfInBounds_toArray, List.set_cons_zero, List.set_cons_succ]
        refine wpAnyH_take (i := 18) (oi := ({ dst := some 37, op := Op.load 3 (Operand.tmp 36), type := 3, pos := "ref.go:58", after := #[{ on := 17, ground := Ground.data }], guard := none } : Oper)) (v := .int .i64 b3) rfl (by kernel_rfl) (by kernel_rfl) (by kernel_rfl) (fun _ _ _ h => h) (Or.inl ⟨by rfl, ?_⟩) hHeld ?_
        · (intro w' hSw; (try dsimp only at hSw); have g := (hSw.cell (p := ⟨w.heap.size + 1, 3, none⟩) (by show w.heap.size + 1 < _; have := Hz.out; omega) (by show ¬ (w.heap.size + 1 = _); omega)).trans k3; clear hSw; go_simp; (try with_reducible rfl))
        try simp only [Act.put, List.setIfInBounds_toArray, List.set_cons_zero, List.set_cons_succ]
        refine wpAnyH_ready (rs := [4]) (by kernel_rfl) (by simp) (AllReadyH.cons (o := ({ dst := some 23, op := Op.call { callee := Callee.value (Operand.func 63), args := #[Operand.tmp 20, Operand.tmp 22], argTypes := #[3, 3] }, type := 3, pos := "ref.go:58", after := #[{ on := 1, ground := Ground.data }, { on := 3, ground := Ground.data }], guard := none } : Oper)) rfl (fun K hK => ?_) AllReadyH.nil)
        go_simp
        refine (refLess_any _ _ _).mono ?_
        rintro e w' ⟨rfl, rfl⟩
        refine hK _ _ hHeld (fun hHeld => ?_)
        clear hK K
        try simp only [Act.put, List.setIfInBounds_toArray, List.set_cons_zero, List.set_cons_succ]
        refine wpAnyH_ready (rs := [9]) (by kernel_rfl) (by simp) (AllReadyH.cons (o := ({ dst := some 28, op := Op.call { callee := Callee.value (Operand.func 63), args := #[Operand.tmp 25, Operand.tmp 27], argTypes := #[3, 3] }, type := 3, pos := "ref.go:58", after := #[{ on := 6, ground := Ground.data }, { on := 8, ground := Ground.data }, { on := 4, ground := Ground.chain }], guard := none } : Oper)) rfl (fun K hK => ?_) AllReadyH.nil)
        go_simp
        refine (refLess_any _ _ _).mono ?_
        rintro e w' ⟨rfl, rfl⟩
        refine hK _ _ hHeld (fun hHeld => ?_)
        clear hK K
        try simp only [Act.put, List.setIfInBounds_toArray, List.set_cons_zero, List.set_cons_succ]
        refine wpAnyH_ready (rs := [14]) (by kernel_rfl) (by simp) (AllReadyH.cons (o := ({ dst := some 33, op := Op.call { callee := Callee.value (Operand.func 64), args := #[Operand.tmp 30, Operand.tmp 32], argTypes := #[3, 3] }, type := 3, pos := "ref.go:58", after := #[{ on := 11, ground := Ground.data }, { on := 13, ground := Ground.data }, { on := 9, ground := Ground.chain }], guard := none } : Oper)) rfl (fun K hK => ?_) AllReadyH.nil)
        go_simp
        refine (refMore_any _ _ _).mono ?_
        rintro e w' ⟨rfl, rfl⟩
        refine hK _ _ hHeld (fun hHeld => ?_)
        clear hK K
        try simp only [Act.put, List.setIfInBounds_toArray, List.set_cons_zero, List.set_cons_succ]
        refine wpAnyH_ready (rs := [19]) (by kernel_rfl) (by simp) (AllReadyH.cons (o := ({ dst := some 38, op := Op.call { callee := Callee.value (Operand.func 64), args := #[Operand.tmp 35, Operand.tmp 37], argTypes := #[3, 3] }, type := 3, pos := "ref.go:58", after := #[{ on := 16, ground := Ground.data }, { on := 18, ground := Ground.data }, { on := 14, ground := Ground.chain }], guard := none } : Oper)) rfl (fun K hK => ?_) AllReadyH.nil)
        go_simp
        refine (refMore_any _ _ _).mono ?_
        rintro e w' ⟨rfl, rfl⟩
        refine hK _ _ hHeld (fun hHeld => ?_)
        clear hK K
        try simp only [Act.put, List.setIfInBounds_toArray, List.set_cons_zero, List.set_cons_succ]
        refine wpAnyH_ready (rs := [20]) (by kernel_rfl) (by simp) (AllReadyH.cons (o := ({ dst := some 39, op := Op.call { callee := Callee.value (Operand.func 60), args := #[Operand.tmp 23, Operand.tmp 28, Operand.tmp 33, Operand.tmp 38], argTypes := #[3, 3, 3, 3] }, type := 36, pos := "ref.go:58", after := #[{ on := 4, ground := Ground.data }, { on := 9, ground := Ground.data }, { on := 14, ground := Ground.data }, { on := 19, ground := Ground.data }, { on := 19, ground := Ground.chain }], guard := none } : Oper)) rfl (fun K hK => ?_) AllReadyH.nil)
        go_simp
        refine (refSome_any _ _ _ _ _).mono ?_
        rintro e w3 ⟨rfl, hb3⟩
        have M3 : Hid (Gou.Mod (fun _ => False) w1 w3) := Lib.hid ((Gou.Mod.drew _ _).trans' (Gou.Mod.of_below hb3 _))
        clear hb3 hHeld
        refine hK _ _ (M3.out.imp (fun _ _ h => h.elim)) (fun hHeld => ?_)
        clear hK K
        try simp only [Act.put, List.setIfInBounds_toArray, List.set_cons_zero, List.set_cons_succ]
        refine wpAnyH_ready (rs := [21]) (by kernel_rfl) (by simp) (AllReadyH.cons (o := ({ dst := none, op := Op.store 36 (Operand.tmp 4) (Operand.tmp 39), type := 0, pos := "ref.go:58", after := #[{ on := 20, ground := Ground.data }, { on := 20, ground := Ground.chain }, { on := 0, ground := Ground.phase }, { on := 1, ground := Ground.phase }, { on := 2, ground := Ground.phase }, { on := 3, ground := Ground.phase }, { on := 4, ground := Ground.phase }, { on := 5, ground := Ground.phase }, { on := 6, ground := Ground.phase }, { on := 7, ground := Ground.phase }, { on := 8, ground := Ground.phase }, { on := 9, ground := Ground.phase }, { on := 10, ground := Ground.phase }, { on := 11, ground := Ground.phase }, { on := 12, ground := Ground.phase }, { on := 13, ground := Ground.phase }, { on := 14, ground := Ground.phase }, { on := 15, ground := Ground.phase }, { on := 16, ground := Ground.phase }, { on := 17, ground := Ground.phase }, { on := 18, ground := Ground.phase }, { on := 19, ground := Ground.phase }, { on := 20, ground := Ground.phase }], guard := none } : Oper)) rfl (fun K hK => ?_) AllReadyH.nil)
        refine wp_store_mid 36 _ _ rfl (w.heap.size + 2) 0 #[.int .i64 (someP ⟨min a0 b0, min a1 b1, max a2 b2, max a3 b3⟩).x0, .int .i64 (someP ⟨min a0 b0, min a1 b1, max a2 b2, max a3 b3⟩).y0, .int .i64 (someP ⟨min a0 b0, min a1 b1, max a2 b2, max a3 b3⟩).x1, .int .i64 (someP ⟨min a0 b0, min a1 b1, max a2 b2, max a3 b3⟩).y1] rfl rfl ((HB1.out.mod0 M3.out).there 0 4 (by simp)) size_rect (one4 _ _ _ _) ?_
        refine hK _ _ ((M3.out.imp (fun _ _ h => h.elim)).trans' (Blk.setMod _ _ _ _)) (fun hHeld => ?_)
        clear hK K
        try simp only [Act.put, List.setIfInBounds_toArray, List.set_cons_zero, List.set_cons_succ]
        refine wpAnyH_done (by kernel_rfl) ?_ _
        clear hHeld
        go_wp2_with fail
        have h := store_end (N := w.heap.size + 2) Hm.out (by omega) (Nat.le_of_lt (Nat.lt_of_lt_of_le (by omega) Hz.out)) HB1.out M3.out (.int .i64 (someP ⟨min a0 b0, min a1 b1, max a2 b2, max a3 b3⟩).x0) (.int .i64 (someP ⟨min a0 b0, min a1 b1, max a2 b2, max a3 b3⟩).y0) (.int .i64 (someP ⟨min a0 b0, min a1 b1, max a2 b2, max a3 b3⟩).x1) (.int .i64 (someP ⟨min a0 b0, min a1 b1, max a2 b2, max a3 b3⟩).y1)
        exact ret_rect (someP ⟨min a0 b0, min a1 b1, max a2 b2, max a3 b3⟩) rfl rfl rfl h.1 Try.underlying36 rfl size_rect ⟨rfl, h.2⟩
      | false =>
        obtain ⟨⟨d0, d1, d2, d3⟩, ⟨f0, f1, f2, f3⟩⟩ := four HB1.out
        go_wp2_with fail
        have h := set4 HB1.out Hm.out (by omega) (.int .i64 a0) (.int .i64 a1) (.int .i64 a2) (.int .i64 a3)
        exact ret_rect ⟨a0, a1, a2, a3⟩ rfl rfl rfl h.1 Try.underlying36 rfl size_rect ⟨rfl, h.2⟩
    | false =>
      obtain ⟨⟨k0, k1, k2, k3⟩, -⟩ := four D1.out
      go_wp2_with fail
      refine (refSome_any _ _ _ _ _).mono ?_
      rintro e w1 ⟨rfl, hb⟩
      have HB1 := Lib.hid (D2.out.up hb)
      have Hm : Hid (Below w.heap.size w w1) := Lib.hid (Hm0.out.trans (hb.mono (by have := Hz0.out; omega)))
      clear hb k0 k1 k2 k3 ht Hm0 Hz0 D0 D1 D2
      obtain ⟨⟨d0, d1, d2, d3⟩, ⟨f0, f1, f2, f3⟩⟩ := four HB1.out
      go_wp2_with fail
      have h := set4 HB1.out Hm.out (by omega) (.int .i64 (someP ⟨b0, b1, b2, b3⟩).x0) (.int .i64 (someP ⟨b0, b1, b2, b3⟩).y0) (.int .i64 (someP ⟨b0, b1, b2, b3⟩).x1) (.int .i64 (someP ⟨b0, b1, b2, b3⟩).y1)
      exact ret_rect (someP ⟨b0, b1, b2, b3⟩) rfl rfl rfl h.1 Try.underlying36 rfl size_rect ⟨rfl, h.2⟩
  refine (key _ _ rfl rfl).mono ?_
  rintro e w' ⟨rfl, hb⟩
  refine ⟨ret_val (congrArg rtV ?_), hb⟩
  by_cases h1 : Rt.Some ⟨a0, a1, a2, a3⟩ <;> by_cases h2 : Rt.Some ⟨b0, b1, b2, b3⟩
  · have h3 : Rt.Some ⟨min a0 b0, min a1 b1, max a2 b2, max a3 b3⟩ := by unfold Rt.Some at *; simp only at *; omega
    simp [hullP, h1, h2, someP, h3]
  all_goals simp [hullP, h1, h2]

end Go.Proofs.Ytapeafokcailkaa
