/- Regions: the code's rectangles moved, grown, joined. -/
import Derived.Test.YtapeafokcailkaaRiD
import Derived.Deep.RegionHeld
import Derived.Deep.MidRow
set_option linter.unusedSimpArgs false
set_option linter.unusedVariables false
set_option linter.unusedSectionVars false
set_option linter.constructorNameAsVariable false
namespace Go.Proofs.Ytapeafokcailkaa
open Go.RowKit Go.Gou Go.Reg
set_option maxRecDepth 100000

set_option maxHeartbeats 4000000 in
theorem rectMove_any (r : Rt) (dx dy : Int) (w : World) (hr : r.Right) (hx : Near dx) (hy : Near dy) :
    Calls Try.prog 45 #[rtV r, .int .i64 dx, .int .i64 dy] w fun e w' => e = .returned (rtV (moveP dx dy r)) ∧ Below w.heap.size w w' := by
  obtain ⟨a, b, c, d⟩ := r
  have key : ∀ s : Bool, decide (Rt.Some ⟨a, b, c, d⟩) = s → Calls Try.prog 45 #[.agg #[.int .i64 a, .int .i64 b, .int .i64 c, .int .i64 d], .int .i64 dx, .int .i64 dy] w fun e w' => e = .returned (rtV (if s then someP ⟨cutN (movedP a dx), cutN (movedP b dy), cutN (movedP c dx), cutN (movedP d dy)⟩ else Rt.zero)) ∧ Below w.heap.size w w' := by
    intro s hh
    obtain ⟨ha, hb', hc, hd⟩ := hr
    go_enter Try.func45, Try.ntmps45
    go_wp2_with fail
    refine (rectEmpty_any ⟨a, b, c, d⟩ _).mono ?_
    rintro e w1 ⟨rfl, hb⟩
    rw [hh]
    obtain ⟨B0, B1⟩ := two_new w 36 36 #[.int .i64 a, .int .i64 b, .int .i64 c, .int .i64 d] #[.int .i64 0, .int .i64 0, .int .i64 0, .int .i64 0]
    have HB1 := Lib.hid (B1.up hb)
    have Hm : Hid (Below w.heap.size w w1) := Lib.hid ((below2 _ _ _).trans (hb.mono (by simp; omega)))
    obtain ⟨⟨d0, d1, d2, d3⟩, ⟨f0, f1, f2, f3⟩⟩ := four (B1.up hb)
    obtain ⟨⟨c0, c1, c2, c3⟩, -⟩ := four (B0.up hb)
    have Hz : Hid (w.heap.size + 1 < w1.heap.size) := Lib.hid (Blk.lt HB1.out)
    clear hb B0 B1 hh
    cases s with
    | true =>
      clear d0 d1 d2 d3 f0 f1 f2 f3
      go_wp2_with fail
      refine wp_region_held_drew (S := fun w' => Gou.Mod (fun k => k = w.heap.size + 1) w1 w') (by kernel_rfl) (Gou.Mod.drew _ _) (fun hHeld => ?_)
      refine wpAnyH_take (i := 0) (oi := ({ dst := some 10, op := Op.fieldAddr 36 (Operand.tmp 3) 0, type := 0, pos := "rect.go:71", after := #[], guard := none } : Oper)) (v := .pointer (some ⟨w.heap.size, 0, none⟩)) rfl (by kernel_rfl) (by kernel_rfl) (by kernel_rfl) (fun _ _ _ h => h) (Or.inl ⟨by rfl, ?_⟩) hHeld ?_
      · (intro w' hSw; (try dsimp only at hSw); clear hSw; go_simp; (try with_reducible rfl))
      try simp only [Act.put, List.setIfInBounds_toArray, List.set_cons_zero, List.set_cons_succ]
      refine wpAnyH_take (i := 1) (oi := ({ dst := some 11, op := Op.load 3 (Operand.tmp 10), type := 3, pos := "rect.go:71", after := #[{ on := 0, ground := Ground.data }], guard := none } : Oper)) (v := .int .i64 a) rfl (by kernel_rfl) (by kernel_rfl) (by kernel_rfl) (fun _ _ _ h => h) (Or.inl ⟨by rfl, ?_⟩) hHeld ?_
      · (intro w' hSw; (try dsimp only at hSw); have g := (hSw.cell (p := ⟨w.heap.size, 0, none⟩) (by show w.heap.size < _; have := Hz.out; omega) (by show ¬ (w.heap.size = _); omega)).trans c0; clear hSw; go_simp; (try with_reducible rfl))
      try simp only [Act.put, List.setIfInBounds_toArray, List.set_cons_zero, List.set_cons_succ]
      refine wpAnyH_take (i := 2) (oi := ({ dst := some 12, op := Op.move (Operand.tmp 1), type := 3, pos := "rect.go:71", after := #[], guard := none } : Oper)) (v := .int .i64 dx) rfl (by kernel_rfl) (by kernel_rfl) (by kernel_rfl) (fun _ _ _ h => h) (Or.inl ⟨by rfl, ?_⟩) hHeld ?_
      · (intro w' hSw; (try dsimp only at hSw); clear hSw; go_simp; (try with_reducible rfl))
      try simp only [Act.put, List.setIfInBounds_toArray, List.set_cons_zero, List.set_cons_succ]
      refine wpAnyH_take (i := 4) (oi := ({ dst := some 14, op := Op.fieldAddr 36 (Operand.tmp 3) 1, type := 0, pos := "rect.go:71", after := #[], guard := none } : Oper)) (v := .pointer (some ⟨w.heap.size, 1, none⟩)) rfl (by kernel_rfl) (by kernel_rfl) (by kernel_rfl) (fun _ _ _ h => h) (Or.inl ⟨by rfl, ?_⟩) hHeld ?_
      · (intro w' hSw; (try dsimp only at hSw); clear hSw; go_simp; (try with_reducible rfl))
      try simp only [Act.put, List.setIfInBounds_toArray, List.set_cons_zero, List.set_cons_succ]
      refine wpAnyH_take (i := 5) (oi := ({ dst := some 15, op := Op.load 3 (Operand.tmp 14), type := 3, pos := "rect.go:71", after := #[{ on := 4, ground := Ground.data }], guard := none } : Oper)) (v := .int .i64 b) rfl (by kernel_rfl) (by kernel_rfl) (by kernel_rfl) (fun _ _ _ h => h) (Or.inl ⟨by rfl, ?_⟩) hHeld ?_
      · (intro w' hSw; (try dsimp only at hSw); have g := (hSw.cell (p := ⟨w.heap.size, 1, none⟩) (by show w.heap.size < _; have := Hz.out; omega) (by show ¬ (w.heap.size = _); omega)).trans c1; clear hSw; go_simp; (try with_reducible rfl))
      try simp only [Act.put, List.setIfInBounds_toArray, List.set_cons_zero, List.set_cons_succ]
      refine wpAnyH_take (i := 6) (oi := ({ dst := some 16, op := Op.move (Operand.tmp 2), type := 3, pos := "rect.go:71", after := #[], guard := none } : Oper)) (v := .int .i64 dy) rfl (by kernel_rfl) (by kernel_rfl) (by kernel_rfl) (fun _ _ _ h => h) (Or.inl ⟨by rfl, ?_⟩) hHeld ?_
      · (intro w' hSw; (try dsimp only at hSw); clear hSw; go_simp; (try with_reducible rfl))
      try simp only [Act.put, List.setIfInBounds_toArray, List.set_cons_zero, List.set_cons_succ]
      refine wpAnyH_take (i := 8) (oi := ({ dst := some 18, op := Op.fieldAddr 36 (Operand.tmp 3) 2, type := 0, pos := "rect.go:71", after := #[], guard := none } : Oper)) (v := .pointer (some ⟨w.heap.size, 2, none⟩)) rfl (by kernel_rfl) (by kernel_rfl) (by kernel_rfl) (fun _ _ _ h => h) (Or.inl ⟨by rfl, ?_⟩) hHeld ?_
      · (intro w' hSw; (try dsimp only at hSw); clear hSw; go_simp; (try with_reducible rfl))
      try simp only [Act.put, List.setIfInBounds_toArray, List.set_cons_zero, List.set_cons_succ]
      refine wpAnyH_take (i := 9) (oi := ({ dst := some 19, op := Op.load 3 (Operand.tmp 18), type := 3, pos := "rect.go:71", after := #[{ on := 8, ground := Ground.data }], guard := none } : Oper)) (v := .int .i64 c) rfl (by kernel_rfl) (by kernel_rfl) (by kernel_rfl) (fun _ _ _ h => h) (Or.inl ⟨by rfl, ?_⟩) hHeld ?_
      · (intro w' hSw; (try dsimp only at hSw); have g := (hSw.cell (p := ⟨w.heap.size, 2, none⟩) (by show w.heap.size < _; have := Hz.out; omega) (by show ¬ (w.heap.size = _); omega)).trans c2; clear hSw; go_simp; (try with_reducible rfl))
      try simp only [Act.put, List.setIfInBounds_toArray, List.set_cons_zero, List.set_cons_succ]
      refine wpAnyH_take (i := 10) (oi := ({ dst := some 20, op := Op.move (Operand.tmp 1), type := 3, pos := "rect.go:71", after := #[], guard := none } : Oper)) (v := .int .i64 dx) rfl (by kernel_rfl) (by kernel_rfl) (by kernel_rfl) (fun _ _ _ h => h) (Or.inl ⟨by rfl, ?_⟩) hHeld ?_
      · (intro w' hSw; (try dsimp only at hSw); clear hSw; go_simp; (try with_reducible rfl))
      try simp only [Act.put, List.setIfInBounds_toArray, List.set_cons_zero, List.set_cons_succ]
      refine wpAnyH_take (i := 12) (oi := ({ dst := some 22, op := Op.fieldAddr 36 (Operand.tmp 3) 3, type := 0, pos := "rect.go:71", after := #[], guard := none } : Oper)) (v := .pointer (some ⟨w.heap.size, 3, none⟩)) rfl (by kernel_rfl) (by kernel_rfl) (by kernel_rfl) (fun _ _ _ h => h) (Or.inl ⟨by rfl, ?_⟩) hHeld ?_
      · (intro w' hSw; (try dsimp only at hSw); clear hSw; go_simp; (try with_reducible rfl))
      try simp only [Act.put, List.setIfInBounds_toArray, List.set_cons_zero, List.set_cons_succ]
      refine wpAnyH_take (i := 13) (oi := ({ dst := some 23, op := Op.load 3 (Operand.tmp 22), type := 3, pos := "rect.go:71", after := #[{ on := 12, ground := Ground.data }], guard := none } : Oper)) (v := .int .i64 d) rfl (by kernel_rfl) (by kernel_rfl) (by kernel_rfl) (fun _ _ _ h => h) (Or.inl ⟨by rfl, ?_⟩) hHeld ?_
      · (intro w' hSw; (try dsimp only at hSw); have g := (hSw.cell (p := ⟨w.heap.size, 3, none⟩) (by show w.heap.size < _; have := Hz.out; omega) (by show ¬ (w.heap.size = _); omega)).trans c3; clear hSw; go_simp; (try with_reducible rfl))
      try simp only [Act.put, List.setIfInBounds_toArray, List.set_cons_zero, List.set_cons_succ]
      refine wpAnyH_take (i := 14) (oi := ({ dst := some 24, op := Op.move (Operand.tmp 2), type := 3, pos := "rect.go:71", after := #[], guard := none } : Oper)) (v := .int .i64 dy) rfl (by kernel_rfl) (by kernel_rfl) (by kernel_rfl) (fun _ _ _ h => h) (Or.inl ⟨by rfl, ?_⟩) hHeld ?_
      · (intro w' hSw; (try dsimp only at hSw); clear hSw; go_simp; (try with_reducible rfl))
      try simp only [Act.put, List.setIfInBounds_toArray, List.set_cons_zero, List.set_cons_succ]
      refine wpAnyH_ready (rs := [3]) (by kernel_rfl) (by simp) (AllReadyH.cons (o := ({ dst := some 13, op := Op.call { callee := Callee.value (Operand.func 59), args := #[Operand.tmp 11, Operand.tmp 12], argTypes := #[3, 3] }, type := 3, pos := "rect.go:71", after := #[{ on := 1, ground := Ground.data }, { on := 2, ground := Ground.data }], guard := none } : Oper)) rfl (fun K hK => ?_) AllReadyH.nil)
      go_simp
      refine (moved_any a dx _ ha hx).mono ?_
      rintro e w' ⟨rfl, rfl⟩
      refine hK _ _ hHeld (fun hHeld => ?_)
      clear hK K
      try simp only [Act.put, List.setIfInBounds_toArray, List.set_cons_zero, List.set_cons_succ]
      refine wpAnyH_ready (rs := [7]) (by kernel_rfl) (by simp) (AllReadyH.cons (o := ({ dst := some 17, op := Op.call { callee := Callee.value (Operand.func 59), args := #[Operand.tmp 15, Operand.tmp 16], argTypes := #[3, 3] }, type := 3, pos := "rect.go:71", after := #[{ on := 5, ground := Ground.data }, { on := 6, ground := Ground.data }, { on := 3, ground := Ground.chain }], guard := none } : Oper)) rfl (fun K hK => ?_) AllReadyH.nil)
      go_simp
      refine (moved_any b dy _ hb' hy).mono ?_
      rintro e w' ⟨rfl, rfl⟩
      refine hK _ _ hHeld (fun hHeld => ?_)
      clear hK K
      try simp only [Act.put, List.setIfInBounds_toArray, List.set_cons_zero, List.set_cons_succ]
      refine wpAnyH_ready (rs := [11]) (by kernel_rfl) (by simp) (AllReadyH.cons (o := ({ dst := some 21, op := Op.call { callee := Callee.value (Operand.func 59), args := #[Operand.tmp 19, Operand.tmp 20], argTypes := #[3, 3] }, type := 3, pos := "rect.go:71", after := #[{ on := 9, ground := Ground.data }, { on := 10, ground := Ground.data }, { on := 7, ground := Ground.chain }], guard := none } : Oper)) rfl (fun K hK => ?_) AllReadyH.nil)
      go_simp
      refine (moved_any c dx _ hc hx).mono ?_
      rintro e w' ⟨rfl, rfl⟩
      refine hK _ _ hHeld (fun hHeld => ?_)
      clear hK K
      try simp only [Act.put, List.setIfInBounds_toArray, List.set_cons_zero, List.set_cons_succ]
      refine wpAnyH_ready (rs := [15]) (by kernel_rfl) (by simp) (AllReadyH.cons (o := ({ dst := some 25, op := Op.call { callee := Callee.value (Operand.func 59), args := #[Operand.tmp 23, Operand.tmp 24], argTypes := #[3, 3] }, type := 3, pos := "rect.go:71", after := #[{ on := 13, ground := Ground.data }, { on := 14, ground := Ground.data }, { on := 11, ground := Ground.chain }], guard := none } : Oper)) rfl (fun K hK => ?_) AllReadyH.nil)
      go_simp
      refine (moved_any d dy _ hd hy).mono ?_
      rintro e w' ⟨rfl, rfl⟩
      refine hK _ _ hHeld (fun hHeld => ?_)
      clear hK K
      try simp only [Act.put, List.setIfInBounds_toArray, List.set_cons_zero, List.set_cons_succ]
      refine wpAnyH_take (i := 16) (oi := ({ dst := some 26, op := Op.build 36 #[(0, Operand.tmp 13), (1, Operand.tmp 17), (2, Operand.tmp 21), (3, Operand.tmp 25)], type := 36, pos := "rect.go:71", after := #[{ on := 3, ground := Ground.data }, { on := 7, ground := Ground.data }, { on := 11, ground := Ground.data }, { on := 15, ground := Ground.data }], guard := none } : Oper)) (v := .agg #[.int .i64 (movedP a dx), .int .i64 (movedP b dy), .int .i64 (movedP c dx), .int .i64 (movedP d dy)]) rfl (by kernel_rfl) (by kernel_rfl) (by kernel_rfl) (fun _ _ _ h => h) (Or.inl ⟨by rfl, ?_⟩) hHeld ?_
      · (intro w' hSw; (try dsimp only at hSw); clear hSw; go_simp; (try with_reducible rfl))
      try simp only [Act.put, List.setIfInBounds_toArray, List.set_cons_zero, List.set_cons_succ]
      refine wpAnyH_ready (rs := [17]) (by kernel_rfl) (by simp) (AllReadyH.cons (o := ({ dst := some 27, op := Op.call { callee := Callee.value (Operand.func 58), args := #[Operand.tmp 26], argTypes := #[36] }, type := 36, pos := "rect.go:71", after := #[{ on := 16, ground := Ground.data }, { on := 15, ground := Ground.chain }], guard := none } : Oper)) rfl (fun K hK => ?_) AllReadyH.nil)
      go_simp
      refine (whole_any ⟨movedP a dx, movedP b dy, movedP c dx, movedP d dy⟩ _).mono ?_
      rintro e w3 ⟨rfl, hb3⟩
      have M3 : Hid (Gou.Mod (fun _ => False) w1 w3) := Lib.hid ((Gou.Mod.drew _ _).trans' (hb3))
      clear hb3 hHeld
      refine hK _ _ (M3.out.imp (fun _ _ h => h.elim)) (fun hHeld => ?_)
      clear hK K
      try simp only [Act.put, List.setIfInBounds_toArray, List.set_cons_zero, List.set_cons_succ]
      refine wpAnyH_ready (rs := [18]) (by kernel_rfl) (by simp) (AllReadyH.cons (o := ({ dst := none, op := Op.store 36 (Operand.tmp 6) (Operand.tmp 27), type := 0, pos := "rect.go:71", after := #[{ on := 17, ground := Ground.data }, { on := 17, ground := Ground.chain }, { on := 0, ground := Ground.phase }, { on := 1, ground := Ground.phase }, { on := 2, ground := Ground.phase }, { on := 3, ground := Ground.phase }, { on := 4, ground := Ground.phase }, { on := 5, ground := Ground.phase }, { on := 6, ground := Ground.phase }, { on := 7, ground := Ground.phase }, { on := 8, ground := Ground.phase }, { on := 9, ground := Ground.phase }, { on := 10, ground := Ground.phase }, { on := 11, ground := Ground.phase }, { on := 12, ground := Ground.phase }, { on := 13, ground := Ground.phase }, { on := 14, ground := Ground.phase }, { on := 15, ground := Ground.phase }, { on := 16, ground := Ground.phase }, { on := 17, ground := Ground.phase }], guard := none } : Oper)) rfl (fun K hK => ?_) AllReadyH.nil)
      refine wp_store_mid 36 _ _ rfl (w.heap.size + 1) 0 #[.int .i64 (someP ⟨cutN (movedP a dx), cutN (movedP b dy), cutN (movedP c dx), cutN (movedP d dy)⟩).x0, .int .i64 (someP ⟨cutN (movedP a dx), cutN (movedP b dy), cutN (movedP c dx), cutN (movedP d dy)⟩).y0, .int .i64 (someP ⟨cutN (movedP a dx), cutN (movedP b dy), cutN (movedP c dx), cutN (movedP d dy)⟩).x1, .int .i64 (someP ⟨cutN (movedP a dx), cutN (movedP b dy), cutN (movedP c dx), cutN (movedP d dy)⟩).y1] rfl rfl ((HB1.out.mod0 M3.out).there 0 4 (by simp)) size_rect (one4 _ _ _ _) ?_
      refine hK _ _ ((M3.out.imp (fun _ _ h => h.elim)).trans' (Blk.setMod _ _ _ _)) (fun hHeld => ?_)
      clear hK K
      try simp only [Act.put, List.setIfInBounds_toArray, List.set_cons_zero, List.set_cons_succ]
      refine wpAnyH_done (by kernel_rfl) ?_ _
      clear hHeld
      go_wp2_with fail
      have h := store_end (N := w.heap.size + 1) Hm.out (by omega) (Nat.le_of_lt (Nat.lt_of_lt_of_le (by omega) Hz.out)) HB1.out M3.out (.int .i64 (someP ⟨cutN (movedP a dx), cutN (movedP b dy), cutN (movedP c dx), cutN (movedP d dy)⟩).x0) (.int .i64 (someP ⟨cutN (movedP a dx), cutN (movedP b dy), cutN (movedP c dx), cutN (movedP d dy)⟩).y0) (.int .i64 (someP ⟨cutN (movedP a dx), cutN (movedP b dy), cutN (movedP c dx), cutN (movedP d dy)⟩).x1) (.int .i64 (someP ⟨cutN (movedP a dx), cutN (movedP b dy), cutN (movedP c dx), cutN (movedP d dy)⟩).y1)
      exact ret_rect (someP ⟨cutN (movedP a dx), cutN (movedP b dy), cutN (movedP c dx), cutN (movedP d dy)⟩) rfl rfl rfl h.1 Try.underlying36 rfl size_rect ⟨rfl, h.2⟩
    | false =>
      clear c0 c1 c2 c3
      go_wp2_with fail
      have h := set4 HB1.out Hm.out (by omega) (.int .i64 0) (.int .i64 0) (.int .i64 0) (.int .i64 0)
      exact ret_rect ⟨0, 0, 0, 0⟩ rfl rfl rfl h.1 Try.underlying36 rfl size_rect ⟨rfl, h.2⟩
  refine (key _ rfl).mono ?_
  rintro e w' ⟨rfl, hb⟩
  exact ⟨by simp only [decide_eq_true_eq, cut_moved]; rfl, hb⟩

set_option maxHeartbeats 4000000 in
theorem rectGrow_any (r : Rt) (l u x y : Int) (w : World) (hr : r.Right) (hl : Near l) (hu : Near u) (hx : Near x) (hy : Near y) :
    Calls Try.prog 48 #[rtV r, .int .i64 l, .int .i64 u, .int .i64 x, .int .i64 y] w fun e w' => e = .returned (rtV (growP l u x y r)) ∧ Below w.heap.size w w' := by
  obtain ⟨a, b, c, d⟩ := r
  have key : ∀ s : Bool, decide (Rt.Some ⟨a, b, c, d⟩) = s → Calls Try.prog 48 #[.agg #[.int .i64 a, .int .i64 b, .int .i64 c, .int .i64 d], .int .i64 l, .int .i64 u, .int .i64 x, .int .i64 y] w fun e w' => e = .returned (rtV (if s then someP ⟨cutN (a - l), cutN (b - u), cutN (c + x), cutN (d + y)⟩ else Rt.zero)) ∧ Below w.heap.size w w' := by
    intro s hh
    obtain ⟨ha, hb', hc, hd⟩ := hr
    have e1 : IntKind.i64.wrap (a - l) = a - l := wrap_id (by simp only [Near, far] at *; omega) (by simp only [Near, far] at *; omega)
    have e2 : IntKind.i64.wrap (b - u) = b - u := wrap_id (by simp only [Near, far] at *; omega) (by simp only [Near, far] at *; omega)
    have e3 : IntKind.i64.wrap (c + x) = c + x := wrap_id (by simp only [Near, far] at *; omega) (by simp only [Near, far] at *; omega)
    have e4 : IntKind.i64.wrap (d + y) = d + y := wrap_id (by simp only [Near, far] at *; omega) (by simp only [Near, far] at *; omega)
    clear ha hb' hc hd hl hu hx hy
    go_enter Try.func48, Try.ntmps48
    go_wp2_with fail
    refine (rectEmpty_any ⟨a, b, c, d⟩ _).mono ?_
    rintro e w1 ⟨rfl, hb⟩
    rw [hh]
    obtain ⟨B0, B1⟩ := two_new w 36 36 #[.int .i64 a, .int .i64 b, .int .i64 c, .int .i64 d] #[.int .i64 0, .int .i64 0, .int .i64 0, .int .i64 0]
    have HB1 := Lib.hid (B1.up hb)
    have Hm : Hid (Below w.heap.size w w1) := Lib.hid ((below2 _ _ _).trans (hb.mono (by simp; omega)))
    obtain ⟨⟨d0, d1, d2, d3⟩, ⟨f0, f1, f2, f3⟩⟩ := four (B1.up hb)
    obtain ⟨⟨c0, c1, c2, c3⟩, -⟩ := four (B0.up hb)
    have Hz : Hid (w.heap.size + 1 < w1.heap.size) := Lib.hid (Blk.lt HB1.out)
    clear hb B0 B1 hh
    cases s with
    | true =>
      clear d0 d1 d2 d3 f0 f1 f2 f3
      go_wp2_with fail
      refine (whole_any ⟨a - l, b - u, c + x, d + y⟩ _).mono ?_
      rintro e w3 ⟨rfl, hm3⟩
      have HB3 := Lib.hid (HB1.out.mod0 hm3)
      have Hm3 : Hid (Below w.heap.size w w3) := Lib.hid (Hm.out.trans (hm3.below (by have := Hz.out; omega) (fun _ _ h => h)))
      clear hm3
      obtain ⟨⟨d0, d1, d2, d3⟩, ⟨f0, f1, f2, f3⟩⟩ := four HB3.out
      go_wp2_with fail
      have h := set4 HB3.out Hm3.out (by omega) (.int .i64 (someP ⟨cutN (a - l), cutN (b - u), cutN (c + x), cutN (d + y)⟩).x0) (.int .i64 (someP ⟨cutN (a - l), cutN (b - u), cutN (c + x), cutN (d + y)⟩).y0) (.int .i64 (someP ⟨cutN (a - l), cutN (b - u), cutN (c + x), cutN (d + y)⟩).x1) (.int .i64 (someP ⟨cutN (a - l), cutN (b - u), cutN (c + x), cutN (d + y)⟩).y1)
      exact ret_rect (someP ⟨cutN (a - l), cutN (b - u), cutN (c + x), cutN (d + y)⟩) rfl rfl rfl h.1 Try.underlying36 rfl size_rect ⟨rfl, h.2⟩
    | false =>
      clear c0 c1 c2 c3
      go_wp2_with fail
      have h := set4 HB1.out Hm.out (by omega) (.int .i64 0) (.int .i64 0) (.int .i64 0) (.int .i64 0)
      exact ret_rect ⟨0, 0, 0, 0⟩ rfl rfl rfl h.1 Try.underlying36 rfl size_rect ⟨rfl, h.2⟩
  refine (key _ rfl).mono ?_
  rintro e w' ⟨rfl, hb⟩
  exact ⟨by simp only [decide_eq_true_eq]; rfl, hb⟩

end Go.Proofs.Ytapeafokcailkaa
