/- Texts of the scenes' proofs, laid together: SdI, SdF. -/
import Derived.Test.YtpbmfalokongfaaZah
import Derived.Test.YtpbmfalokongfaaZag
import Derived.Test.YtpbmfalokongfaaZac
set_option linter.unusedSimpArgs false
set_option linter.unusedVariables false
set_option linter.unusedSectionVars false
set_option linter.constructorNameAsVariable false

/- Scenes: what is laid into a look, in the code. -/
namespace Go.Gou
theorem Ct.own0 {c : Ct} (h : c.kind = 0) : c.own = Ct.zero := by
  unfold Ct.own
  rw [if_neg (by omega), if_neg (by omega), h]
  rfl
theorem Ct.own1 {c : Ct} (h : c.kind = 1) : c.own = { Ct.zero with kind := 1, box := c.box, px := c.px } := by
  unfold Ct.own
  rw [if_pos h]
theorem Ct.own2 {c : Ct} (h : c.kind = 2) : c.own = { Ct.zero with kind := 2, box := ⟨c.box.x0, c.box.y0, 0, 0⟩, w := c.w, h := c.h, turn := c.turn, pix := c.pix } := by
  unfold Ct.own
  rw [if_neg (by omega), if_pos h]
end Go.Gou
namespace Go.Proofs.Ytpbmfalokongfaa
open Go.RowKit Go.Gou Go.Lib
set_option maxRecDepth 100000
set_option linter.constructorNameAsVariable false

/-- What own hands back. -/
def OwnP (w : World) (c : Ct) (e : Ending) (w' : World) : Prop := ∃ p k, e = .returned (.agg (contC c.own (.slice p c.own.pix.length k))) ∧ PixR (LookG 45 67 w.heap.size w') w' (.slice p c.own.pix.length k) c.own.pix ∧ Gou.Mod (fun _ => False) w w'
theorem pxs_one (ps : List Pxl) : ∀ d ∈ pxs ps, d.oneCell' = true := by
  intro d hd
  obtain ⟨p, _, h⟩ := List.mem_flatMap.1 hd
  simp only [Pxl.cells, List.mem_cons, List.not_mem_nil, or_false] at h
  rcases h with rfl | rfl | rfl | rfl <;> rfl

set_option maxHeartbeats 4000000 in
theorem own_any (w : World) (c : Ct) (vp : Value) (h : PixR (fun _ => True) w vp c.pix) (hn : c.pix.length ≤ 1000000) (hk0 : 0 ≤ c.kind) (hk2 : c.kind ≤ 2) :
    Calls Try.prog 52 #[.agg (contC c vp)] w (OwnP w c) := by
  obtain ⟨pp, cp, rfl⟩ := RowG.slice h
  have Hp := Lib.hid h
  have Hn := Lib.hid hn
  clear h hn
  obtain ⟨b0, b1, bm⟩ := two_new w 37 37 (contC c (.slice pp c.pix.length cp)) (contC Ct.zero (.slice none 0 0))
  have HB := Lib.hid b0
  have HR := Lib.hid b1
  have HM := Lib.hid bm
  clear b0 b1 bm
  go_enter Try.func52, Try.ntmps52
  go_upto_region 1 with fail
  show Code.wp _ _ _ _ ((w.alloc (.cells (contC c (.slice pp c.pix.length cp)) 37)).alloc (.cells (contC Ct.zero (.slice none 0 0)) 37))
  generalize (w.alloc (.cells (contC c (.slice pp c.pix.length cp)) 37)).alloc (.cells (contC Ct.zero (.slice none 0 0)) 37) = W1 at *
  have c0 : W1.cell? ⟨w.heap.size, 0, none⟩ = some (.int .i64 c.kind) := HB.out.cell 0 rfl
  have c1 : W1.cell? ⟨w.heap.size, 1, none⟩ = some (.int .i64 c.box.x0) := HB.out.cell 1 rfl
  have c2 : W1.cell? ⟨w.heap.size, 2, none⟩ = some (.int .i64 c.box.y0) := HB.out.cell 2 rfl
  have c3 : W1.cell? ⟨w.heap.size, 3, none⟩ = some (.int .i64 c.box.x1) := HB.out.cell 3 rfl
  have c4 : W1.cell? ⟨w.heap.size, 4, none⟩ = some (.int .i64 c.box.y1) := HB.out.cell 4 rfl
  have c5 : W1.cell? ⟨w.heap.size, 5, none⟩ = some (.int .u8 ((c.px.p0 : Nat) : Int)) := HB.out.cell 5 rfl
  have c6 : W1.cell? ⟨w.heap.size, 6, none⟩ = some (.int .u8 ((c.px.p1 : Nat) : Int)) := HB.out.cell 6 rfl
  have c7 : W1.cell? ⟨w.heap.size, 7, none⟩ = some (.int .u8 ((c.px.p2 : Nat) : Int)) := HB.out.cell 7 rfl
  have c8 : W1.cell? ⟨w.heap.size, 8, none⟩ = some (.int .u8 ((c.px.p3 : Nat) : Int)) := HB.out.cell 8 rfl
  have c9 : W1.cell? ⟨w.heap.size, 9, none⟩ = some (.int .i64 c.w) := HB.out.cell 9 rfl
  have c10 : W1.cell? ⟨w.heap.size, 10, none⟩ = some (.int .i64 c.h) := HB.out.cell 10 rfl
  have c11 : W1.cell? ⟨w.heap.size, 11, none⟩ = some (.int .i64 c.turn) := HB.out.cell 11 rfl
  have c12 : W1.cell? ⟨w.heap.size, 12, none⟩ = some (.slice pp c.pix.length cp) := HB.out.cell 12 rfl
  by_cases k1 : c.kind = 1
  · have Hk := Lib.hid (Ct.own1 k1)
    rw [k1] at c0
    clear hk0 hk2 k1 c9 c10 c11 c12
    go_wp2_with (first | ((with_reducible refine wpList_store_mid ?g1_1 37 ?x1_1 ?y1_1 ?o1_1 (w.heap.size + 1) (0) (contC { Ct.zero with kind := 1, box := c.box, px := c.px } (.slice none 0 0)) ?h1_1 ?j1_1 ?t1_1 ?i1_1 ?s1_1 ?r1_1); (case g1_1 => exact rfl); (case o1_1 => exact rfl); (case h1_1 => exact rfl); (case j1_1 => exact rfl); (case t1_1 => exact HR.out.there 0 13 (by simp [contC])); (case i1_1 => exact size_content); (case s1_1 => exact by simp [contC, Ct.zero, Rc.zero, Pxl.zero, Value.oneCell'])) | fail)
    have HS := Lib.hid (Blk.setMod W1 (w.heap.size + 1) 0 (contC { Ct.zero with kind := 1, box := c.box, px := c.px } (.slice none 0 0)).toList)
    have HR2 := Lib.hid (HR.out.setAll (contC { Ct.zero with kind := 1, box := c.box, px := c.px } (.slice none 0 0)) rfl)
    have HM2 := Lib.hid (HM.out.trans HS.out (fun k hk e => by omega))
    generalize W1.setCells (w.heap.size + 1) 0 (contC { Ct.zero with kind := 1, box := c.box, px := c.px } (.slice none 0 0)).toList = W2 at *
    refine bodyPost_ret (results_cell_row rfl _ _ (w.heap.size + 1) 37 (contC { Ct.zero with kind := 1, box := c.box, px := c.px } (.slice none 0 0)) (0, 0) _ rfl HR2.out Try.underlying37 rfl size_content) rfl ?_
    unfold OwnP
    rw [Hk.out]
    exact ⟨none, 0, rfl, PixR.nil _ _, HM2.out⟩
  · have e1 : (c.kind == 1) = false := beq_eq_false_iff_ne.2 k1
    by_cases k2 : c.kind = 2
    · have Hk := Lib.hid (Ct.own2 k2)
      rw [k2] at c0
      clear hk0 hk2 k1 k2
      go_upto_region 5 with fail
      have HWM := Lib.hid (Gou.Mod.refl (fun _ => False) W1)
      refine wp_region_defer (S := fun w' => Gou.Mod (fun _ => False) W1 w') 17 ({ dst := none, op := Op.store 37 (Operand.tmp 2) (Operand.tmp 30), type := 0, pos := "scene.go:132", after := #[{ on := 16, ground := Ground.data }, { on := 15, ground := Ground.chain }, { on := 0, ground := Ground.phase }, { on := 1, ground := Ground.phase }, { on := 2, ground := Ground.phase }, { on := 3, ground := Ground.phase }, { on := 4, ground := Ground.phase }, { on := 5, ground := Ground.phase }, { on := 6, ground := Ground.phase }, { on := 7, ground := Ground.phase }, { on := 8, ground := Ground.phase }, { on := 9, ground := Ground.phase }, { on := 10, ground := Ground.phase }, { on := 11, ground := Ground.phase }, { on := 12, ground := Ground.phase }, { on := 13, ground := Ground.phase }, { on := 14, ground := Ground.phase }, { on := 15, ground := Ground.phase }, { on := 16, ground := Ground.phase }], guard := none } : Oper) rfl (by kernel_rfl) rfl rfl (by kernel_rfl) (by kernel_rfl) (Gou.Mod.drew _ _) (fun hHeld => ?_)
      refine wpAnyH_take (i := 0) (oi := ({ dst := some 14, op := Op.fieldAddr 37 (Operand.tmp 1) 1, type := 0, pos := "scene.go:132", after := #[], guard := none } : Oper)) (v := .pointer (some ⟨w.heap.size, 1, none⟩)) rfl (by kernel_rfl) (by kernel_rfl) (by kernel_rfl) (fun _ _ _ h => h) (Or.inl ⟨by rfl, ?_⟩) hHeld ?_
      · (intro w' hSw; (try dsimp only at hSw); clear hSw hHeld; go_simp; (try with_reducible rfl))
      try simp only [Act.put, List.setIfInBounds_toArray, List.set_cons_zero, List.set_cons_succ]
      refine wpAnyH_take (i := 1) (oi := ({ dst := some 15, op := Op.fieldAddr 32 (Operand.tmp 14) 0, type := 0, pos := "scene.go:132", after := #[{ on := 0, ground := Ground.data }], guard := none } : Oper)) (v := .pointer (some ⟨w.heap.size, 1, none⟩)) rfl (by kernel_rfl) (by kernel_rfl) (by kernel_rfl) (fun _ _ _ h => h) (Or.inl ⟨by rfl, ?_⟩) hHeld ?_
      · (intro w' hSw; (try dsimp only at hSw); clear hSw hHeld; go_simp; (try with_reducible rfl))
      try simp only [Act.put, List.setIfInBounds_toArray, List.set_cons_zero, List.set_cons_succ]
      refine wpAnyH_take (i := 2) (oi := ({ dst := some 16, op := Op.load 3 (Operand.tmp 15), type := 3, pos := "scene.go:132", after := #[{ on := 1, ground := Ground.data }], guard := none } : Oper)) (v := .int .i64 c.box.x0) rfl (by kernel_rfl) (by kernel_rfl) (by kernel_rfl) (fun _ _ _ h => h) (Or.inl ⟨by rfl, ?_⟩) hHeld ?_
      · (intro w' hSw; (try dsimp only at hSw); have g := (hSw.cell (p := ⟨w.heap.size, 1, none⟩) (World.block_lt_of_cell? _ _ c1) (fun h => h)).trans c1; clear hSw hHeld; go_simp; (try with_reducible rfl))
      try simp only [Act.put, List.setIfInBounds_toArray, List.set_cons_zero, List.set_cons_succ]
      refine wpAnyH_take (i := 3) (oi := ({ dst := some 17, op := Op.fieldAddr 37 (Operand.tmp 1) 1, type := 0, pos := "scene.go:132", after := #[], guard := none } : Oper)) (v := .pointer (some ⟨w.heap.size, 1, none⟩)) rfl (by kernel_rfl) (by kernel_rfl) (by kernel_rfl) (fun _ _ _ h => h) (Or.inl ⟨by rfl, ?_⟩) hHeld ?_
      · (intro w' hSw; (try dsimp only at hSw); clear hSw hHeld; go_simp; (try with_reducible rfl))
      try simp only [Act.put, List.setIfInBounds_toArray, List.set_cons_zero, List.set_cons_succ]
      refine wpAnyH_take (i := 4) (oi := ({ dst := some 18, op := Op.fieldAddr 32 (Operand.tmp 17) 1, type := 0, pos := "scene.go:132", after := #[{ on := 3, ground := Ground.data }], guard := none } : Oper)) (v := .pointer (some ⟨w.heap.size, 2, none⟩)) rfl (by kernel_rfl) (by kernel_rfl) (by kernel_rfl) (fun _ _ _ h => h) (Or.inl ⟨by rfl, ?_⟩) hHeld ?_
      · (intro w' hSw; (try dsimp only at hSw); clear hSw hHeld; go_simp; (try with_reducible rfl))
      try simp only [Act.put, List.setIfInBounds_toArray, List.set_cons_zero, List.set_cons_succ]
      refine wpAnyH_take (i := 5) (oi := ({ dst := some 19, op := Op.load 3 (Operand.tmp 18), type := 3, pos := "scene.go:132", after := #[{ on := 4, ground := Ground.data }], guard := none } : Oper)) (v := .int .i64 c.box.y0) rfl (by kernel_rfl) (by kernel_rfl) (by kernel_rfl) (fun _ _ _ h => h) (Or.inl ⟨by rfl, ?_⟩) hHeld ?_
      · (intro w' hSw; (try dsimp only at hSw); have g := (hSw.cell (p := ⟨w.heap.size, 2, none⟩) (World.block_lt_of_cell? _ _ c2) (fun h => h)).trans c2; clear hSw hHeld; go_simp; (try with_reducible rfl))
      try simp only [Act.put, List.setIfInBounds_toArray, List.set_cons_zero, List.set_cons_succ]
      refine wpAnyH_take (i := 6) (oi := ({ dst := some 20, op := Op.build 32 #[(0, Operand.tmp 16), (1, Operand.tmp 19)], type := 32, pos := "scene.go:132", after := #[{ on := 2, ground := Ground.data }, { on := 5, ground := Ground.data }], guard := none } : Oper)) (v := .agg #[.int .i64 c.box.x0, .int .i64 c.box.y0, .int .i64 0, .int .i64 0]) rfl (by kernel_rfl) (by kernel_rfl) (by kernel_rfl) (fun _ _ _ h => h) (Or.inl ⟨by rfl, ?_⟩) hHeld ?_
      · (intro w' hSw; (try dsimp only at hSw); clear hSw hHeld; go_simp; (try with_reducible rfl))
      try simp only [Act.put, List.setIfInBounds_toArray, List.set_cons_zero, List.set_cons_succ]
      refine wpAnyH_take (i := 7) (oi := ({ dst := some 21, op := Op.fieldAddr 37 (Operand.tmp 1) 3, type := 0, pos := "scene.go:132", after := #[], guard := none } : Oper)) (v := .pointer (some ⟨w.heap.size, 9, none⟩)) rfl (by kernel_rfl) (by kernel_rfl) (by kernel_rfl) (fun _ _ _ h => h) (Or.inl ⟨by rfl, ?_⟩) hHeld ?_
      · (intro w' hSw; (try dsimp only at hSw); clear hSw hHeld; go_simp; (try with_reducible rfl))
      try simp only [Act.put, List.setIfInBounds_toArray, List.set_cons_zero, List.set_cons_succ]
      refine wpAnyH_take (i := 8) (oi := ({ dst := some 22, op := Op.load 3 (Operand.tmp 21), type := 3, pos := "scene.go:132", after := #[{ on := 7, ground := Ground.data }], guard := none } : Oper)) (v := .int .i64 c.w) rfl (by kernel_rfl) (by kernel_rfl) (by kernel_rfl) (fun _ _ _ h => h) (Or.inl ⟨by rfl, ?_⟩) hHeld ?_
      · (intro w' hSw; (try dsimp only at hSw); have g := (hSw.cell (p := ⟨w.heap.size, 9, none⟩) (World.block_lt_of_cell? _ _ c9) (fun h => h)).trans c9; clear hSw hHeld; go_simp; (try with_reducible rfl))
      try simp only [Act.put, List.setIfInBounds_toArray, List.set_cons_zero, List.set_cons_succ]
      refine wpAnyH_take (i := 9) (oi := ({ dst := some 23, op := Op.fieldAddr 37 (Operand.tmp 1) 4, type := 0, pos := "scene.go:132", after := #[], guard := none } : Oper)) (v := .pointer (some ⟨w.heap.size, 10, none⟩)) rfl (by kernel_rfl) (by kernel_rfl) (by kernel_rfl) (fun _ _ _ h => h) (Or.inl ⟨by rfl, ?_⟩) hHeld ?_
      · (intro w' hSw; (try dsimp only at hSw); clear hSw hHeld; go_simp; (try with_reducible rfl))
      try simp only [Act.put, List.setIfInBounds_toArray, List.set_cons_zero, List.set_cons_succ]
      refine wpAnyH_take (i := 10) (oi := ({ dst := some 24, op := Op.load 3 (Operand.tmp 23), type := 3, pos := "scene.go:132", after := #[{ on := 9, ground := Ground.data }], guard := none } : Oper)) (v := .int .i64 c.h) rfl (by kernel_rfl) (by kernel_rfl) (by kernel_rfl) (fun _ _ _ h => h) (Or.inl ⟨by rfl, ?_⟩) hHeld ?_
      · (intro w' hSw; (try dsimp only at hSw); have g := (hSw.cell (p := ⟨w.heap.size, 10, none⟩) (World.block_lt_of_cell? _ _ c10) (fun h => h)).trans c10; clear hSw hHeld; go_simp; (try with_reducible rfl))
      try simp only [Act.put, List.setIfInBounds_toArray, List.set_cons_zero, List.set_cons_succ]
      refine wpAnyH_take (i := 11) (oi := ({ dst := some 25, op := Op.fieldAddr 37 (Operand.tmp 1) 5, type := 0, pos := "scene.go:132", after := #[], guard := none } : Oper)) (v := .pointer (some ⟨w.heap.size, 11, none⟩)) rfl (by kernel_rfl) (by kernel_rfl) (by kernel_rfl) (fun _ _ _ h => h) (Or.inl ⟨by rfl, ?_⟩) hHeld ?_
      · (intro w' hSw; (try dsimp only at hSw); clear hSw hHeld; go_simp; (try with_reducible rfl))
      try simp only [Act.put, List.setIfInBounds_toArray, List.set_cons_zero, List.set_cons_succ]
      refine wpAnyH_take (i := 12) (oi := ({ dst := some 26, op := Op.load 3 (Operand.tmp 25), type := 3, pos := "scene.go:132", after := #[{ on := 11, ground := Ground.data }], guard := none } : Oper)) (v := .int .i64 c.turn) rfl (by kernel_rfl) (by kernel_rfl) (by kernel_rfl) (fun _ _ _ h => h) (Or.inl ⟨by rfl, ?_⟩) hHeld ?_
      · (intro w' hSw; (try dsimp only at hSw); have g := (hSw.cell (p := ⟨w.heap.size, 11, none⟩) (World.block_lt_of_cell? _ _ c11) (fun h => h)).trans c11; clear hSw hHeld; go_simp; (try with_reducible rfl))
      try simp only [Act.put, List.setIfInBounds_toArray, List.set_cons_zero, List.set_cons_succ]
      refine wpAnyH_take (i := 13) (oi := ({ dst := some 27, op := Op.fieldAddr 37 (Operand.tmp 1) 6, type := 0, pos := "scene.go:132", after := #[], guard := none } : Oper)) (v := .pointer (some ⟨w.heap.size, 12, none⟩)) rfl (by kernel_rfl) (by kernel_rfl) (by kernel_rfl) (fun _ _ _ h => h) (Or.inl ⟨by rfl, ?_⟩) hHeld ?_
      · (intro w' hSw; (try dsimp only at hSw); clear hSw hHeld; go_simp; (try with_reducible rfl))
      try simp only [Act.put, List.setIfInBounds_toArray, List.set_cons_zero, List.set_cons_succ]
      refine wpAnyH_take (i := 14) (oi := ({ dst := some 28, op := Op.load 35 (Operand.tmp 27), type := 35, pos := "scene.go:132", after := #[{ on := 13, ground := Ground.data }], guard := none } : Oper)) (v := .slice pp c.pix.length cp) rfl (by kernel_rfl) (by kernel_rfl) (by kernel_rfl) (fun _ _ _ h => h) (Or.inl ⟨by rfl, ?_⟩) hHeld ?_
      · (intro w' hSw; (try dsimp only at hSw); have g := (hSw.cell (p := ⟨w.heap.size, 12, none⟩) (World.block_lt_of_cell? _ _ c12) (fun h => h)).trans c12; clear hSw hHeld; go_simp; (try with_reducible rfl))
      try simp only [Act.put, List.setIfInBounds_toArray, List.set_cons_zero, List.set_cons_succ]
      refine wpAnyH_ready (rs := [15]) (by kernel_rfl) (by simp) (AllReadyH.cons (o := ({ dst := some 29, op := Op.call { callee := Callee.value (Operand.func 44), args := #[Operand.tmp 28], argTypes := #[35] }, type := 35, pos := "scene.go:132", after := #[{ on := 14, ground := Ground.data }], guard := none } : Oper)) rfl (fun K hK => ?_) AllReadyH.nil)
      go_simp
      refine (clonePx_any _ pp c.pix.length cp (pxs c.pix) (fun _ => True) (RowG.mod Hp.out (HM.out.trans' hHeld) (fun _ _ _ h => h)) (pxs_one _) (by have := Hn.out; omega)).mono ?_
      rintro e w4 ⟨p4, c4, rfl, ho4, hm4⟩
      have M := Lib.hid (hHeld.trans' hm4)
      have Ho4 := Lib.hid ho4
      have Hz4 := Lib.hid hHeld.size
      clear hHeld ho4 hm4
      refine hK _ _ M.out (fun hHeld => ?_)
      clear hK K M
      try simp only [Act.put, List.setIfInBounds_toArray, List.set_cons_zero, List.set_cons_succ]
      refine wpAnyH_take (i := 16) (oi := ({ dst := some 30, op := Op.build 37 #[(0, Operand.const (Value.int IntKind.i64 2)), (1, Operand.tmp 20), (3, Operand.tmp 22), (4, Operand.tmp 24), (5, Operand.tmp 26), (6, Operand.tmp 29)], type := 37, pos := "scene.go:132", after := #[{ on := 6, ground := Ground.data }, { on := 8, ground := Ground.data }, { on := 10, ground := Ground.data }, { on := 12, ground := Ground.data }, { on := 15, ground := Ground.data }], guard := none } : Oper)) (v := .agg (contC { Ct.zero with kind := 2, box := ⟨c.box.x0, c.box.y0, 0, 0⟩, w := c.w, h := c.h, turn := c.turn, pix := c.pix } (.slice p4 c.pix.length c4))) rfl (by kernel_rfl) (by kernel_rfl) (by kernel_rfl) (fun _ _ _ h => h) (Or.inl ⟨by rfl, fun w' hSw => by kernel_rfl⟩) hHeld ?_
      try simp only [Act.put, List.setIfInBounds_toArray, List.set_cons_zero, List.set_cons_succ]
      refine wpAnyH_take (i := 17) (oi := ({ dst := none, op := Op.assign (Operand.const (Value.bool true)), type := 0, pos := "scene.go:132", after := #[{ on := 16, ground := Ground.data }, { on := 15, ground := Ground.chain }, { on := 0, ground := Ground.phase }, { on := 1, ground := Ground.phase }, { on := 2, ground := Ground.phase }, { on := 3, ground := Ground.phase }, { on := 4, ground := Ground.phase }, { on := 5, ground := Ground.phase }, { on := 6, ground := Ground.phase }, { on := 7, ground := Ground.phase }, { on := 8, ground := Ground.phase }, { on := 9, ground := Ground.phase }, { on := 10, ground := Ground.phase }, { on := 11, ground := Ground.phase }, { on := 12, ground := Ground.phase }, { on := 13, ground := Ground.phase }, { on := 14, ground := Ground.phase }, { on := 15, ground := Ground.phase }, { on := 16, ground := Ground.phase }], guard := none } : Oper)) (v := .bool true) rfl (by kernel_rfl) (by kernel_rfl) (by kernel_rfl) (fun _ _ _ h => h) (Or.inl ⟨by rfl, ?_⟩) hHeld ?_
      · (intro w' hSw; clear hSw hHeld; go_simp; (try with_reducible rfl))
      try simp only [Act.put, List.setIfInBounds_toArray, List.set_cons_zero, List.set_cons_succ]
      have MS := Lib.hid hHeld
      refine wpAnyH_done (by kernel_rfl) ?_ _
      clear hHeld
      show Oper.wp _ _ _ _ _ _
      refine wp_store_mid 37 _ _ rfl (w.heap.size + 1) 0 (contC { Ct.zero with kind := 2, box := ⟨c.box.x0, c.box.y0, 0, 0⟩, w := c.w, h := c.h, turn := c.turn, pix := c.pix } (.slice p4 c.pix.length c4)) rfl rfl ((HR.out.up MS.out).there 0 13 (by simp [contC])) size_content (by simp [contC, Ct.zero, Rc.zero, Pxl.zero, Value.oneCell']) ?_
      have HS := Lib.hid (Blk.setMod w4 (w.heap.size + 1) 0 (contC { Ct.zero with kind := 2, box := ⟨c.box.x0, c.box.y0, 0, 0⟩, w := c.w, h := c.h, turn := c.turn, pix := c.pix } (.slice p4 c.pix.length c4)).toList)
      have HR2 := Lib.hid ((HR.out.up MS.out).setAll (contC { Ct.zero with kind := 2, box := ⟨c.box.x0, c.box.y0, 0, 0⟩, w := c.w, h := c.h, turn := c.turn, pix := c.pix } (.slice p4 c.pix.length c4)) rfl)
      have HM2 := Lib.hid ((HM.out.trans' MS.out).trans HS.out (fun k hk e => by omega))
      have HO := Lib.hid (ownsRow_mod Ho4.out HS.out (fun k hk e => own_blk_ne Ho4.out (HR.out.up MS.out) (by decide) (by rw [hk, e])))
      generalize w4.setCells (w.heap.size + 1) 0 (contC { Ct.zero with kind := 2, box := ⟨c.box.x0, c.box.y0, 0, 0⟩, w := c.w, h := c.h, turn := c.turn, pix := c.pix } (.slice p4 c.pix.length c4)).toList = W2 at *
      try simp only [Act.put]
      go_wp2_with fail
      refine bodyPost_ret (results_cell_row rfl _ _ (w.heap.size + 1) 37 (contC { Ct.zero with kind := 2, box := ⟨c.box.x0, c.box.y0, 0, 0⟩, w := c.w, h := c.h, turn := c.turn, pix := c.pix } (.slice p4 c.pix.length c4)) (0, 0) _ rfl HR2.out Try.underlying37 rfl size_content) rfl ?_
      unfold OwnP
      rw [Hk.out]
      exact ⟨p4, c4, rfl, own_look (ownsRow_base HO.out (Nat.le_trans HM.out.size Hz4.out)) (by decide) (by decide), HM2.out⟩
    · have e2 : (c.kind == 2) = false := beq_eq_false_iff_ne.2 k2
      have Hk := Lib.hid (Ct.own0 (c := c) (by omega))
      go_wp2_with (first | ((with_reducible refine wpList_store_mid ?g1_2 37 ?x1_2 ?y1_2 ?o1_2 (w.heap.size + 1) (0) (contC Ct.zero (.slice none 0 0)) ?h1_2 ?j1_2 ?t1_2 ?i1_2 ?s1_2 ?r1_2); (case g1_2 => exact rfl); (case o1_2 => exact rfl); (case h1_2 => exact rfl); (case j1_2 => exact rfl); (case t1_2 => exact HR.out.there 0 13 (by simp [contC])); (case i1_2 => exact size_content); (case s1_2 => exact by simp [contC, Ct.zero, Rc.zero, Pxl.zero, Value.oneCell'])) | fail)
      have HS := Lib.hid (Blk.setMod W1 (w.heap.size + 1) 0 (contC Ct.zero (.slice none 0 0)).toList)
      have HR2 := Lib.hid (HR.out.setAll (contC Ct.zero (.slice none 0 0)) rfl)
      have HM2 := Lib.hid (HM.out.trans HS.out (fun k hk e => by omega))
      generalize W1.setCells (w.heap.size + 1) 0 (contC Ct.zero (.slice none 0 0)).toList = W2 at *
      refine bodyPost_ret (results_cell_row rfl _ _ (w.heap.size + 1) 37 (contC Ct.zero (.slice none 0 0)) (0, 0) _ rfl HR2.out Try.underlying37 rfl size_content) rfl ?_
      unfold OwnP
      rw [Hk.out]
      exact ⟨none, 0, rfl, PixR.nil _ _, HM2.out⟩

/-- What filtered hands back. -/
def FiltP (w : World) (has : Bool) (g : Gr) (e : Ending) (w' : World) : Prop := ∃ p k g2, g2 = (if has then g else Gr.zero) ∧ e = .returned (.tuple #[.agg #[.slice p g2.nodes.length k, .int .i64 g2.out], .int .i64 (if has then checkS g else 0)]) ∧ NodesR (LookG 45 67 w.heap.size w') w' (.slice p g2.nodes.length k) g2.nodes ∧ Gou.Mod (fun _ => False) w w'

set_option maxHeartbeats 4000000 in
theorem filtered_any (w : World) (has : Bool) (g : Gr) (vn : Value) (h : NodesR (fun _ => True) w vn g.nodes) (hwf : GrWf g) (hn : g.nodes.length ≤ 1000000) (hl : ∀ n ∈ g.nodes, n.ins.length ≤ 1000000 ∧ n.ps.length ≤ 1000000) :
    Calls Try.prog 53 #[.bool has, .agg #[vn, .int .i64 g.out]] w (FiltP w has g) := by
  obtain ⟨pn, cn, rfl⟩ : ∃ p c, vn = .slice p g.nodes.length c := by
    obtain ⟨cs, h1, _⟩ := h
    exact RowG.slice h1
  have Hp := Lib.hid h
  have Hwf := Lib.hid hwf
  have Hn := Lib.hid hn
  have Hl := Lib.hid hl
  clear h hn hwf hl
  obtain ⟨b0, b1, bm⟩ := two_new w 40 40 #[.slice pn g.nodes.length cn, .int .i64 g.out] #[.slice none 0 0, .int .i64 0]
  have HB := Lib.hid b0
  have HR := Lib.hid b1
  have HM := Lib.hid bm
  clear b0 b1 bm
  go_enter Try.func53, Try.ntmps53
  go_upto_region 1 with fail
  generalize (w.alloc (.cells #[.slice pn g.nodes.length cn, .int .i64 g.out] 40)).alloc (.cells #[.slice none 0 0, .int .i64 0] 40) = W1 at *
  have HG : Hid (W1.rangeAt w.heap.size 0 [.slice pn g.nodes.length cn, .int .i64 g.out]) := Lib.hid (Blk.range (pre := []) (post := []) HB.out (by simp) rfl)
  have Hp1 := Lib.hid (Hp.out.mod HM.out (fun _ _ _ h => h))
  have r0 : W1.cell? ⟨w.heap.size + 1, 0, none⟩ = some (.slice none 0 0) := HR.out.cell 0 rfl
  have r1 : W1.cell? ⟨w.heap.size + 1, 1, none⟩ = some (.int .i64 0) := HR.out.cell 1 rfl
  have s0 := HR.out.frozen 0
  have s1 := HR.out.frozen 1
  cases has
  · go_wp2_with fail
    have hR := (HR.out.set 0 (.slice none 0 0)).set 1 (.int .i64 0)
    have hS := (Gou.Mod.set1 W1 (w.heap.size + 1) 0 (.slice none 0 0)).trans' (Gou.Mod.set1 _ (w.heap.size + 1) 1 (.int .i64 0))
    refine bodyPost_ret (results_ct rfl (ResAt.of rfl hR Try.underlying40 rfl size_graph)) rfl ?_
    exact ⟨none, 0, Gr.zero, rfl, rfl, NodesR.nil _ _, HM.out.trans hS (fun k hk e => by omega)⟩
  · go_upto_region 3 with fail
    clear r0 r1 s0 s1
    have HRlt : Hid (w.heap.size + 1 < W1.heap.size) := Lib.hid (Blk.lt HR.out)
    have Hq0 : Hid (NodesR (fun k => k < w.heap.size) W1 (.slice pn g.nodes.length cn) g.nodes) := Lib.hid ((Hp.out.imp (G' := fun k => k < w.heap.size) (fun k hk _ => hk)).mod HM.out (fun _ _ _ h => h))
    have Hq1 : Hid (∀ wx, Gou.Mod (fun k => k = w.heap.size + 1) W1 wx → NodesR (fun _ => True) wx (.slice pn g.nodes.length cn) g.nodes) := Lib.hid (fun wx hx => (Hq0.out.mod hx (fun k _ hk e => by omega)).imp (fun _ _ _ => trivial))
    have drew_size : W1.drew.heap.size = W1.heap.size := rfl
    refine wp_region_held_drew (S := fun w' => Gou.Mod (fun k => k = w.heap.size + 1) W1 w') (by kernel_rfl) (Gou.Mod.drew _ _) (fun hHeld => ?_)
    refine wpAnyH_take (i := 0) (oi := ({ dst := some 9, op := Op.load 40 (Operand.tmp 3), type := 40, pos := "scene.go:232", after := #[], guard := none } : Oper)) (v := .agg #[.slice pn g.nodes.length cn, .int .i64 g.out]) rfl (by kernel_rfl) (by kernel_rfl) (by kernel_rfl) (fun _ _ _ h => h) (yieldsIf_load_mid (by rfl) 40 _ rfl w.heap.size (0) rfl ([.slice pn g.nodes.length cn, .int .i64 g.out]) _ (fun w' hSw => range_up HG.out hSw (by omega)) Try.underlying40 rfl size_graph) hHeld ?_
    try simp only [Act.put, List.setIfInBounds_toArray, List.set_cons_zero, List.set_cons_succ]
    refine wpAnyH_take (i := 2) (oi := ({ dst := some 11, op := Op.load 40 (Operand.tmp 3), type := 40, pos := "scene.go:232", after := #[], guard := none } : Oper)) (v := .agg #[.slice pn g.nodes.length cn, .int .i64 g.out]) rfl (by kernel_rfl) (by kernel_rfl) (by kernel_rfl) (fun _ _ _ h => h) (yieldsIf_load_mid (by rfl) 40 _ rfl w.heap.size (0) rfl ([.slice pn g.nodes.length cn, .int .i64 g.out]) _ (fun w' hSw => range_up HG.out hSw (by omega)) Try.underlying40 rfl size_graph) hHeld ?_
    try simp only [Act.put, List.setIfInBounds_toArray, List.set_cons_zero, List.set_cons_succ]
    refine wpAnyH_ready (rs := [1]) (by kernel_rfl) (by simp) (AllReadyH.cons (o := ({ dst := some 10, op := Op.call { callee := Callee.value (Operand.func 45), args := #[Operand.tmp 9], argTypes := #[40] }, type := 40, pos := "scene.go:232", after := #[{ on := 0, ground := Ground.data }], guard := none } : Oper)) rfl (fun K hK => ?_) AllReadyH.nil)
    go_simp
    refine (graph_any _ pn cn g (Hq1.out _ hHeld) Hn.out Hl.out).mono ?_
    rintro e w4 ⟨p4, c4, rfl, hn4, hm4⟩
    have M := Lib.hid (hHeld.trans' (hm4.imp (fun _ _ h => h.elim)))
    have Hn4 := Lib.hid hn4
    have HM4 := Lib.hid ((Gou.Mod.drew (fun _ => False) W1).trans' hm4)
    clear hHeld hn4 hm4
    refine hK _ _ M.out (fun hHeld => ?_)
    clear hK K M
    try simp only [Act.put, List.setIfInBounds_toArray, List.set_cons_zero, List.set_cons_succ]
    refine wpAnyH_ready (rs := [3]) (by kernel_rfl) (by simp) (AllReadyH.cons (o := ({ dst := some 12, op := Op.call { callee := Callee.value (Operand.func 61), args := #[Operand.tmp 11], argTypes := #[40] }, type := 49, pos := "scene.go:232", after := #[{ on := 2, ground := Ground.data }, { on := 1, ground := Ground.chain }], guard := none } : Oper)) rfl (fun K hK => ?_) AllReadyH.nil)
    go_simp
    refine (check_any _ (.agg #[.slice pn g.nodes.length cn, .int .i64 g.out]) g ⟨_, rfl, NodesR.at_ (Hq1.out _ hHeld)⟩ Hwf.out).mono ?_
    rintro e w5 ⟨rfl, hb5⟩
    have hm5 := Gou.Mod.of_below hb5 (fun _ => False)
    have M := Lib.hid (hHeld.trans' (hm5.imp (fun _ _ h => h.elim)))
    have Hn5 := Lib.hid (Hn4.out.fam hm5 (fun _ _ h => h) (fun k hk => LookG.of_mod hm5 k hk))
    have HM5 := Lib.hid (HM4.out.trans' hm5)
    clear hHeld hb5 hm5
    refine hK _ _ M.out (fun hHeld => ?_)
    clear hK K M
    try simp only [Act.put, List.setIfInBounds_toArray, List.set_cons_zero, List.set_cons_succ]
    refine wpAnyH_ready (rs := [4]) (by kernel_rfl) (by simp) (AllReadyH.cons (o := ({ dst := none, op := Op.store 40 (Operand.tmp 4) (Operand.tmp 10), type := 0, pos := "scene.go:232", after := #[{ on := 1, ground := Ground.data }, { on := 3, ground := Ground.chain }, { on := 0, ground := Ground.phase }, { on := 1, ground := Ground.phase }, { on := 2, ground := Ground.textOnly Departure.lateStores }, { on := 3, ground := Ground.textOnly Departure.lateStoresUnsure }], guard := none } : Oper)) rfl (fun K hK => ?_) AllReadyH.nil)
    rw [if_pos (by rfl)]
    refine wp_store_mid 40 _ _ rfl (w.heap.size + 1) 0 #[.slice p4 g.nodes.length c4, .int .i64 g.out] rfl rfl ((HR.out.up HM5.out).there 0 2 (by simp)) size_graph (by simp [Value.oneCell']) ?_
    have HS := Lib.hid (Blk.setMod w5 (w.heap.size + 1) 0 (#[.slice p4 g.nodes.length c4, .int .i64 g.out] : Array Value).toList)
    have HR6 := Lib.hid ((HR.out.up HM5.out).setAll #[.slice p4 g.nodes.length c4, .int .i64 g.out] rfl)
    have M := Lib.hid (hHeld.trans' HS.out)
    have Hn6 := Lib.hid (Hn5.out.fam HS.out (fun k hk e => by have h1 := hk.1; have h2 := HRlt.out; subst e; simp only [drew_size] at h1; omega) (fun k hk => hk.step HS.out (fun e => by have h1 := hk.1; have h2 := HRlt.out; subst e; simp only [drew_size] at h1; omega) (Nat.le_refl _)))
    clear hHeld HS
    generalize w5.setCells (w.heap.size + 1) 0 (#[.slice p4 g.nodes.length c4, .int .i64 g.out] : Array Value).toList = W6 at *
    refine hK _ _ M.out (fun hHeld => ?_)
    clear hK K M
    try simp only [Act.put, List.setIfInBounds_toArray, List.set_cons_zero, List.set_cons_succ]
    refine wpAnyH_take (i := 5) (oi := ({ dst := some 5, op := Op.assign (Operand.tmp 12), type := 49, pos := "scene.go:232", after := #[{ on := 3, ground := Ground.data }, { on := 4, ground := Ground.chain }, { on := 0, ground := Ground.phase }, { on := 1, ground := Ground.phase }, { on := 2, ground := Ground.phase }, { on := 3, ground := Ground.phase }, { on := 4, ground := Ground.phase }], guard := none } : Oper)) (v := .int .i64 (checkS g)) rfl (by kernel_rfl) (by kernel_rfl) (by kernel_rfl) (fun _ _ _ h => h) (Or.inl ⟨by rfl, ?_⟩) hHeld ?_
    · (intro w' hSw; (try dsimp only at hSw); clear hSw hHeld; go_simp; (try with_reducible rfl))
    try simp only [Act.put, List.setIfInBounds_toArray, List.set_cons_zero, List.set_cons_succ]
    have MS := Lib.hid hHeld
    refine wpAnyH_done (by kernel_rfl) ?_ _
    clear hHeld
    try simp only [Act.put]
    go_wp2_with fail
    refine bodyPost_ret (results_ct rfl (ResAt.of rfl HR6.out Try.underlying40 rfl size_graph)) rfl ?_
    exact ⟨p4, c4, g, rfl, rfl, Hn6.out.imp (fun k _ hk => ⟨Nat.le_trans HM.out.size hk.1, hk.2⟩), HM.out.trans MS.out (fun k hk e => by omega)⟩
end Go.Proofs.Ytpbmfalokongfaa

/- Scenes: the code's insert. -/
namespace Go.Gou
open Go.RowKit
theorem At.cells {w w2 : World} (hc : ∀ b j, 30 ≤ j → w2.cell? ⟨b, j, none⟩ = w.cell? ⟨b, j, none⟩) : ∀ {π : List Nat} {b o b1 o1 : Nat}, At w b o π b1 o1 → At w2 b o π b1 o1
  | [], _, _, _, _, h => h
  | i :: π, b, o, b1, o1, h => by
    obtain ⟨g, n, c, e1, h1⟩ := h
    exact ⟨g, n, c, (hc b (o + 30) (by omega)).trans e1, At.cells hc h1⟩
theorem Blk.ty {w : World} {b : Nat} {T T' : TypeId} {cs cs' : Array Value} (h : Blk w b T cs) (h' : Blk w b T' cs') : T = T' := by
  unfold Blk at h h'
  rw [h] at h'
  simp only [Option.some.injEq, Obj.cells.injEq] at h'
  exact h'.2.1
/-- A box of the call's own turns: the doer does not. -/
theorem DoerR.box {TL TD TI TB : TypeId} {base : Nat} {w w' : World} {D : Nat} {a : Ar} {T : Ly} {F : List Nat} {o : Opr} {vg vl vp vf vb : Value} {cur : Array Value} (h : DoerR TL TD TI TB base w D a T F o vg vl vp vf vb cur) (hTI : TI ≠ TL ∧ TI ≠ TD ∧ RowTy TI) (hTB : TB ≠ TL ∧ TB ≠ TD ∧ RowTy TB)
    {k : Nat} {U : TypeId} {cs : Array Value} (hk : Blk w k U cs) (hU : U ≠ TL ∧ ¬ RowTy U) (hD : k ≠ D) (hb : base ≤ k) (hm : Mod (fun x => x = k) w w') : DoerR TL TD TI TB base w' D a T F o vg vl vp vf vb cur := by
  refine h.mod hTI hTB hm (fun e => hD e.symm) (fun x hx e => ?_) (fun x _ hl e => ?_) (fun x hx e => by omega)
  · obtain ⟨⟨c, _, _, g1, _⟩, _, _⟩ := h.tree
    obtain ⟨_, _, cu, g2⟩ := g1.rows x hx
    subst e
    exact hU.1 (Blk.ty hk g2)
  · obtain ⟨cu, T', g1, _, _, hT⟩ := hl
    subst e
    exact hU.2 (Blk.ty hk g1 ▸ hT)
end Go.Gou
namespace Go.Proofs.Ytpbmfalokongfaa
open Go.RowKit Go.Gou
set_option maxRecDepth 100000

/-- What insert leaves. -/
def InsertP (base : Nat) (a : Ar) (T : Ly) (F : List Nat) (op : Opr) (vp vf vb : Value) (s : Ly) (π : List Nat) (w : World) (D : Nat) (e : Ending) (w' : World) : Prop := Gou.Mod (fun x => x = D ∨ x ∈ F) w w' ∧
  ((op.at_ < 0 ∨ (s.kids.length : Int) < op.at_ ∨ 64 ≤ π.length) → e = .returned (.tuple #[.agg #[.int .i64 0, .int .i64 0], .int .i64 3])) ∧
  (∀ n : Nat, op.at_ = n → n ≤ s.kids.length → π.length < 64 → (a.take = none → e = .returned (.tuple #[.agg #[.int .i64 0, .int .i64 0], .int .i64 9])) ∧
    ∀ b y, a.take = some (b, y) → e = .returned (.tuple #[.agg #[.int .i64 y.1, .int .i64 y.2], .int .i64 0]) ∧ ∃ vg vl cur F3, DoerL base w' D b (T.put π (.mk s.id s.look (s.kids.take n ++ (.mk y Lk.plain []) :: s.kids.drop n))) F3 op vg vl vp vf vb cur)

set_option maxHeartbeats 8000000 in
theorem insertOp_any (base : Nat) (w : World) (D : Nat) (a : Ar) (T : Ly) (F : List Nat) (op : Opr) (vg vl vp vf vb : Value) (cur : Array Value) (hD : DoerL base w D a T F op vg vl vp vf vb cur) (π : List Nat) (s : Ly) (hp : T.pathOf op.to = some π) (hs : T.get? π = some s) (hn : s.kids.length ≤ 1000000) (hh : T.height ≤ 1000)
    (hlen : a.gens.length = a.live.length) (h0 : 0 < a.live.length) (hsm : a.live.length ≤ 1024) :
    Calls Try.prog 27 #[.pointer (some ⟨D, 0, none⟩)] w (InsertP base a T F op vp vf vb s π w D) := by
  obtain ⟨⟨pg, cg, rfl⟩, ⟨pl, cl, rfl⟩⟩ := hD.ar.forms
  have HD := Lib.hid hD
  have Hp := Lib.hid hp
  have Hs := Lib.hid hs
  have Hn := Lib.hid hn
  have Hh := Lib.hid hh
  have HA := Lib.hid (And.intro hlen (And.intro h0 hsm))
  have HDlt := Lib.hid (Blk.lt hD.blk)
  have HFlt : Hid (∀ x ∈ F, x < w.heap.size) := Lib.hid (fun x hx => by
    obtain ⟨⟨c, _, _, g1, _⟩, _, _⟩ := hD.tree
    exact (g1.rows x hx).2.1)
  have hpl : π.length ≤ 1000 := by
    have := Ly.get_height hs
    omega
  have Hpl := Lib.hid hpl
  clear hD hp hs hn hh hlen h0 hsm hpl
  have HN2 := Lib.hid (Blk.new w 30 #[.int .i64 0, .int .i64 0])
  have HMa := Lib.hid (Gou.Mod.alloc0 w (.cells #[.int .i64 0, .int .i64 0] 30))
  go_enter Try.func27, Try.ntmps27
  go_upto_region 1 with fail
  generalize w.alloc (.cells #[.int .i64 0, .int .i64 0] 30) = W1 at *
  have HD1 := Lib.hid (HD.out.up HMa.out)
  have HTr : Hid (W1.rangeAt D 36 [.int .i64 op.to.1, .int .i64 op.to.2]) := Lib.hid (fun j v hv => by
    obtain ⟨_, _, _, _, _, c36, c37, _⟩ := HD1.out.cell
    match j, hv with
    | 0, hv => simp at hv; rw [← hv]; exact c36
    | 1, hv => simp at hv; rw [← hv]; exact c37)
  refine wp_region_held_drew (S := fun w' => Gou.Mod (fun _ => False) W1 w') (by kernel_rfl) (Gou.Mod.drew _ _) (fun hHeld => ?_)
  refine wpAnyH_take (i := 0) (oi := ({ dst := some 10, op := Op.move (Operand.tmp 0), type := 64, pos := "scene.go:142", after := #[], guard := none } : Oper)) (v := .pointer (some ⟨D, 0, none⟩)) rfl (by kernel_rfl) (by kernel_rfl) (by kernel_rfl) (fun _ _ _ h => h) (Or.inl ⟨by rfl, ?_⟩) hHeld ?_
  · (intro w' hSw; (try dsimp only at hSw); clear hSw hHeld; go_simp; (try with_reducible rfl))
  try simp only [Act.put, List.setIfInBounds_toArray, List.set_cons_zero, List.set_cons_succ]
  refine wpAnyH_take (i := 1) (oi := ({ dst := some 11, op := Op.nilCheck (Operand.tmp 10), type := 0, pos := "scene.go:142", after := #[{ on := 0, ground := Ground.data }], guard := none } : Oper)) (v := .pointer (some ⟨D, 0, none⟩)) rfl (by kernel_rfl) (by kernel_rfl) (by kernel_rfl) (fun _ _ _ h => h) (Or.inl ⟨by rfl, ?_⟩) hHeld ?_
  · (intro w' hSw; (try dsimp only at hSw); clear hSw hHeld; go_simp; (try with_reducible rfl))
  try simp only [Act.put, List.setIfInBounds_toArray, List.set_cons_zero, List.set_cons_succ]
  refine wpAnyH_take (i := 2) (oi := ({ dst := some 12, op := Op.fieldAddr 67 (Operand.tmp 11) 0, type := 0, pos := "scene.go:142", after := #[{ on := 1, ground := Ground.data }], guard := none } : Oper)) (v := .pointer (some ⟨D, 0, none⟩)) rfl (by kernel_rfl) (by kernel_rfl) (by kernel_rfl) (fun _ _ _ h => h) (Or.inl ⟨by rfl, ?_⟩) hHeld ?_
  · (intro w' hSw; (try dsimp only at hSw); clear hSw hHeld; go_simp; (try with_reducible rfl))
  try simp only [Act.put, List.setIfInBounds_toArray, List.set_cons_zero, List.set_cons_succ]
  refine wpAnyH_take (i := 3) (oi := ({ dst := some 13, op := Op.fieldAddr 47 (Operand.tmp 12) 1, type := 0, pos := "scene.go:142", after := #[{ on := 2, ground := Ground.data }], guard := none } : Oper)) (v := .pointer (some ⟨D, 2, none⟩)) rfl (by kernel_rfl) (by kernel_rfl) (by kernel_rfl) (fun _ _ _ h => h) (Or.inl ⟨by rfl, ?_⟩) hHeld ?_
  · (intro w' hSw; (try dsimp only at hSw); clear hSw hHeld; go_simp; (try with_reducible rfl))
  try simp only [Act.put, List.setIfInBounds_toArray, List.set_cons_zero, List.set_cons_succ]
  refine wpAnyH_take (i := 4) (oi := ({ dst := some 14, op := Op.move (Operand.tmp 0), type := 64, pos := "scene.go:142", after := #[], guard := none } : Oper)) (v := .pointer (some ⟨D, 0, none⟩)) rfl (by kernel_rfl) (by kernel_rfl) (by kernel_rfl) (fun _ _ _ h => h) (Or.inl ⟨by rfl, ?_⟩) hHeld ?_
  · (intro w' hSw; (try dsimp only at hSw); clear hSw hHeld; go_simp; (try with_reducible rfl))
  try simp only [Act.put, List.setIfInBounds_toArray, List.set_cons_zero, List.set_cons_succ]
  refine wpAnyH_take (i := 5) (oi := ({ dst := some 15, op := Op.nilCheck (Operand.tmp 14), type := 0, pos := "scene.go:142", after := #[{ on := 4, ground := Ground.data }], guard := none } : Oper)) (v := .pointer (some ⟨D, 0, none⟩)) rfl (by kernel_rfl) (by kernel_rfl) (by kernel_rfl) (fun _ _ _ h => h) (Or.inl ⟨by rfl, ?_⟩) hHeld ?_
  · (intro w' hSw; (try dsimp only at hSw); clear hSw hHeld; go_simp; (try with_reducible rfl))
  try simp only [Act.put, List.setIfInBounds_toArray, List.set_cons_zero, List.set_cons_succ]
  refine wpAnyH_take (i := 6) (oi := ({ dst := some 16, op := Op.fieldAddr 67 (Operand.tmp 15) 1, type := 0, pos := "scene.go:142", after := #[{ on := 5, ground := Ground.data }], guard := none } : Oper)) (v := .pointer (some ⟨D, 33, none⟩)) rfl (by kernel_rfl) (by kernel_rfl) (by kernel_rfl) (fun _ _ _ h => h) (Or.inl ⟨by rfl, ?_⟩) hHeld ?_
  · (intro w' hSw; (try dsimp only at hSw); clear hSw hHeld; go_simp; (try with_reducible rfl))
  try simp only [Act.put, List.setIfInBounds_toArray, List.set_cons_zero, List.set_cons_succ]
  refine wpAnyH_take (i := 7) (oi := ({ dst := some 17, op := Op.fieldAddr 53 (Operand.tmp 16) 2, type := 0, pos := "scene.go:142", after := #[{ on := 6, ground := Ground.data }], guard := none } : Oper)) (v := .pointer (some ⟨D, 36, none⟩)) rfl (by kernel_rfl) (by kernel_rfl) (by kernel_rfl) (fun _ _ _ h => h) (Or.inl ⟨by rfl, ?_⟩) hHeld ?_
  · (intro w' hSw; (try dsimp only at hSw); clear hSw hHeld; go_simp; (try with_reducible rfl))
  try simp only [Act.put, List.setIfInBounds_toArray, List.set_cons_zero, List.set_cons_succ]
  refine wpAnyH_take (i := 8) (oi := ({ dst := some 18, op := Op.load 30 (Operand.tmp 17), type := 30, pos := "scene.go:142", after := #[{ on := 7, ground := Ground.data }], guard := none } : Oper)) (v := .agg #[.int .i64 op.to.1, .int .i64 op.to.2]) rfl (by kernel_rfl) (by kernel_rfl) (by kernel_rfl) (fun _ _ _ h => h) (yieldsIf_load_mid (by rfl) 30 _ rfl D (36) rfl ([.int .i64 op.to.1, .int .i64 op.to.2]) _ (fun w' hSw => range_up HTr.out hSw (fun h => h)) Try.underlying30 rfl size_id) hHeld ?_
  try simp only [Act.put, List.setIfInBounds_toArray, List.set_cons_zero, List.set_cons_succ]
  refine wpAnyH_ready (rs := [9]) (by kernel_rfl) (by simp) (AllReadyH.cons (o := ({ dst := some 19, op := Op.call { callee := Callee.value (Operand.func 21), args := #[Operand.tmp 13, Operand.tmp 18, Operand.const (Value.int IntKind.i64 0)], argTypes := #[71, 30, 3] }, type := 72, pos := "scene.go:142", after := #[{ on := 3, ground := Ground.data }, { on := 8, ground := Ground.data }], guard := none } : Oper)) rfl (fun K hK => ?_) AllReadyH.nil)
  go_simp
  refine (find_any base op.to T _ D 2 F 0 (HD1.out.up hHeld).tree (by have := Hh.out; omega)).mono ?_
  rintro e w4 ⟨hm4, _, hs4⟩
  obtain ⟨b', o', F', s', rfl, hz4⟩ := hs4 _ Hp.out
  have hss : s' = s := by
    have := hz4.get
    rw [Hs.out] at this
    exact (Option.some.inj this).symm
  subst hss
  have M := Lib.hid (hHeld.trans' hm4)
  have Hz4 := Lib.hid hz4
  obtain ⟨dd, hdd⟩ : ∃ dd, dd = 0 + π.length := ⟨_, rfl⟩
  rw [← hdd]
  have Hdd := Lib.hid hdd
  clear hHeld hm4 hs4 hz4 hdd
  refine hK _ _ M.out (fun hHeld => ?_)
  clear hK K M
  try simp only [Act.put, List.setIfInBounds_toArray, List.set_cons_zero, List.set_cons_succ]
  refine wpAnyH_take (i := 10) (oi := ({ dst := some 9, op := Op.move (Operand.tmp 19), type := 72, pos := "scene.go:142", after := #[{ on := 9, ground := Ground.data }], guard := none } : Oper)) (v := .tuple #[.pointer (some ⟨b', o', none⟩), .int .i64 ((dd : Nat) : Int)]) rfl (by kernel_rfl) (by kernel_rfl) (by kernel_rfl) (fun _ _ _ h => h) (Or.inl ⟨by rfl, ?_⟩) hHeld ?_
  · (intro w' hSw; (try dsimp only at hSw); clear hSw hHeld; go_simp; (try with_reducible rfl))
  try simp only [Act.put, List.setIfInBounds_toArray, List.set_cons_zero, List.set_cons_succ]
  refine wpAnyH_take (i := 11) (oi := ({ dst := some 20, op := Op.extract (Operand.tmp 9) 0, type := 71, pos := "scene.go:142", after := #[{ on := 10, ground := Ground.data }], guard := none } : Oper)) (v := .pointer (some ⟨b', o', none⟩)) rfl (by kernel_rfl) (by kernel_rfl) (by kernel_rfl) (fun _ _ _ h => h) (Or.inl ⟨by rfl, ?_⟩) hHeld ?_
  · (intro w' hSw; (try dsimp only at hSw); clear hSw hHeld; go_simp; (try with_reducible rfl))
  try simp only [Act.put, List.setIfInBounds_toArray, List.set_cons_zero, List.set_cons_succ]
  refine wpAnyH_take (i := 12) (oi := ({ dst := some 21, op := Op.extract (Operand.tmp 9) 1, type := 3, pos := "scene.go:142", after := #[{ on := 10, ground := Ground.data }, { on := 13, ground := Ground.gcOnly Departure.lateStores }], guard := none } : Oper)) (v := .int .i64 ((dd : Nat) : Int)) rfl (by kernel_rfl) (by kernel_rfl) (by kernel_rfl) (fun _ _ _ h => h) (Or.inl ⟨by rfl, ?_⟩) hHeld ?_
  · (intro w' hSw; (try dsimp only at hSw); clear hSw hHeld; go_simp; (try with_reducible rfl))
  try simp only [Act.put, List.setIfInBounds_toArray, List.set_cons_zero, List.set_cons_succ]
  refine wpAnyH_take (i := 13) (oi := ({ dst := some 4, op := Op.assign (Operand.tmp 20), type := 71, pos := "scene.go:142", after := #[{ on := 11, ground := Ground.data }, { on := 9, ground := Ground.chain }, { on := 0, ground := Ground.phase }, { on := 1, ground := Ground.phase }, { on := 2, ground := Ground.phase }, { on := 3, ground := Ground.phase }, { on := 4, ground := Ground.phase }, { on := 5, ground := Ground.phase }, { on := 6, ground := Ground.phase }, { on := 7, ground := Ground.phase }, { on := 8, ground := Ground.phase }, { on := 9, ground := Ground.phase }, { on := 10, ground := Ground.phase }, { on := 11, ground := Ground.phase }, { on := 12, ground := Ground.textOnly Departure.lateStores }], guard := none } : Oper)) (v := .pointer (some ⟨b', o', none⟩)) rfl (by kernel_rfl) (by kernel_rfl) (by kernel_rfl) (fun _ _ _ h => h) (Or.inl ⟨by rfl, ?_⟩) hHeld ?_
  · (intro w' hSw; (try dsimp only at hSw); clear hSw hHeld; go_simp; (try with_reducible rfl))
  try simp only [Act.put, List.setIfInBounds_toArray, List.set_cons_zero, List.set_cons_succ]
  refine wpAnyH_take (i := 14) (oi := ({ dst := some 5, op := Op.assign (Operand.tmp 21), type := 3, pos := "scene.go:142", after := #[{ on := 12, ground := Ground.data }, { on := 13, ground := Ground.chain }, { on := 0, ground := Ground.phase }, { on := 1, ground := Ground.phase }, { on := 2, ground := Ground.phase }, { on := 3, ground := Ground.phase }, { on := 4, ground := Ground.phase }, { on := 5, ground := Ground.phase }, { on := 6, ground := Ground.phase }, { on := 7, ground := Ground.phase }, { on := 8, ground := Ground.phase }, { on := 9, ground := Ground.phase }, { on := 10, ground := Ground.phase }, { on := 11, ground := Ground.phase }, { on := 12, ground := Ground.phase }, { on := 13, ground := Ground.phase }], guard := none } : Oper)) (v := .int .i64 ((dd : Nat) : Int)) rfl (by kernel_rfl) (by kernel_rfl) (by kernel_rfl) (fun _ _ _ h => h) (Or.inl ⟨by rfl, ?_⟩) hHeld ?_
  · (intro w' hSw; (try dsimp only at hSw); clear hSw hHeld; go_simp; (try with_reducible rfl))
  try simp only [Act.put, List.setIfInBounds_toArray, List.set_cons_zero, List.set_cons_succ]
  have MS := Lib.hid hHeld
  refine wpAnyH_done (by kernel_rfl) ?_ _
  clear hHeld
  try simp only [Act.put]
  have HD4 := Lib.hid (HD1.out.up MS.out)
  obtain ⟨p, cap, c30, _, _, hcap, hcap2, _⟩ := Hz4.out.sub.kids
  obtain ⟨_, _, _, _, _, _, _, c38⟩ := HD4.out.cell
  have HM4 := Lib.hid (HMa.out.trans' MS.out)
  have HN4 := Lib.hid (HN2.out.up MS.out)
  have n0 := HN4.out.cell 0 rfl
  have n1 := HN4.out.cell 1 rfl
  have g0 := HN4.out.frozen 0
  have g1 := HN4.out.frozen 1
  clear MS hcap hcap2 HTr HN2
  go_upto_region 2 with fail
  rcases Int.lt_or_le op.at_ 0 with hneg | hpos
  · have e1 : decide (op.at_ < 0) = true := decide_eq_true hneg
    go_quiet (fail)
    go_wp2_with fail
    have hR := (((HN4.out.up (Gou.Mod.drewN (fun _ => False) w4 nq)).set 0 (.int .i64 0)).set 1 (.int .i64 0))
    have HMq := (HM4.out.trans' (Gou.Mod.drewN (fun _ => False) w4 nq)).trans ((Gou.Mod.set1 (w4.drewN nq) w.heap.size 0 (.int .i64 0)).trans' (Gou.Mod.set1 _ w.heap.size 1 (.int .i64 0))) (fun k hk e => by omega)
    refine bodyPost_ret (results_ct rfl (ResAt.of rfl hR Try.underlying30 rfl size_id)) rfl ?_
    exact ⟨HMq.imp (fun _ _ h => h.elim), fun _ => rfl, fun n e _ => by omega⟩
  · have e1 : decide (op.at_ < 0) = false := decide_eq_false (by omega)
    rcases Int.lt_or_le (s'.kids.length : Int) op.at_ with hgt | hle
    · have e2 : decide ((s'.kids.length : Int) < op.at_) = true := decide_eq_true hgt
      go_quiet (fail)
      go_wp2_with fail
      have hR := (((HN4.out.up (Gou.Mod.drewN (fun _ => False) w4 nq)).set 0 (.int .i64 0)).set 1 (.int .i64 0))
      have HMq := (HM4.out.trans' (Gou.Mod.drewN (fun _ => False) w4 nq)).trans ((Gou.Mod.set1 (w4.drewN nq) w.heap.size 0 (.int .i64 0)).trans' (Gou.Mod.set1 _ w.heap.size 1 (.int .i64 0))) (fun k hk e => by omega)
      refine bodyPost_ret (results_ct rfl (ResAt.of rfl hR Try.underlying30 rfl size_id)) rfl ?_
      exact ⟨HMq.imp (fun _ _ h => h.elim), fun _ => rfl, fun n e hn => by omega⟩
    · have e2 : decide ((s'.kids.length : Int) < op.at_) = false := decide_eq_false (by omega)
      have hw : IntKind.i64.wrap ((dd : Int) + 1) = (dd : Int) + 1 := by rw [IntKind.wrap_i64]; have := Hdd.out; have := Hpl.out; omega
      rcases Nat.lt_or_ge dd 64 with hd | hd
      · have e3 : decide ((64 : Int) < (dd : Int) + 1) = false := decide_eq_false (by omega)
        go_quiet (fail)
        go_upto_region 4 with fail
        have HD5 := Lib.hid (HD4.out.up (Gou.Mod.drewN (fun _ => False) w4 nq))
        have Hz5 := Lib.hid (Hz4.out.at_.up (Gou.Mod.drewN (fun _ => False) w4 nq))
        have HM5 := Lib.hid (HM4.out.trans' (Gou.Mod.drewN (fun _ => False) w4 nq))
        have HN5 := Lib.hid (HN4.out.up (Gou.Mod.drewN (fun _ => False) w4 nq))
        obtain ⟨m, hm⟩ : ∃ m : Nat, op.at_ = m := ⟨op.at_.toNat, by omega⟩
        have Hm := Lib.hid hm
        have Hml : Hid (m ≤ s'.kids.length) := Lib.hid (by omega)
        have Hd64 := Lib.hid hd
        clear c30 c38 e1 e2 e3 hw hle hpos hm hd HD4 HM4 HN4 Hz4 n0 n1 g0 g1
        generalize w4.drewN nq = W5 at *
        obtain ⟨c0, c1, _⟩ := HD5.out.cell
        go_wp2_with fail
        refine (arTake_any _ _ _ a HD5.out.ar.reads HA.out.1 HA.out.2.1 HA.out.2.2).mono ?_
        rintro e w6 ⟨hm6, vg6, vl6, ht6, hno6⟩
        have HM6 := Lib.hid (HM5.out.trans' hm6)
        have HD6 := Lib.hid (HD5.out.up hm6)
        have HN6 := Lib.hid (HN5.out.up hm6)
        have HAt6 := Lib.hid (Hz5.out.up hm6)
        have Hbase : Hid (base ≤ W5.heap.size) := Lib.hid (by have := HD5.out.tree.ge; have := Blk.lt HD5.out.blk; omega)
        clear c0 c1 hm6
        cases htk : a.take with
        | none =>
          obtain ⟨rfl, ⟨pg6, ng6, cg6, rfl⟩, pl6, nl6, cl6, rfl⟩ := hno6 htk
          have Htk := Lib.hid htk
          clear ht6 hno6 htk
          go_upto_region 6 with fail
          obtain ⟨ba, bi, bm⟩ := two_new w6 28 30 #[.slice pg6 ng6 cg6, .slice pl6 nl6 cl6] #[.int .i64 0, .int .i64 0]
          generalize (w6.alloc (.cells #[.slice pg6 ng6 cg6, .slice pl6 nl6 cl6] 28)).alloc (.cells #[.int .i64 0, .int .i64 0] 30) = W7 at *
          have HN7 := Lib.hid (HN6.out.up bm)
          have HM7 := Lib.hid (HM6.out.trans' bm)
          have n0 := HN7.out.cell 0 rfl
          have n1 := HN7.out.cell 1 rfl
          have g0 := HN7.out.frozen 0
          have g1 := HN7.out.frozen 1
          clear ba bi bm HD6 HN6 HM6 HAt6
          go_wp2_with fail
          have hR := ((HN7.out.set 0 (.int .i64 0)).set 1 (.int .i64 0))
          have HMq := HM7.out.trans ((Gou.Mod.set1 W7 w.heap.size 0 (.int .i64 0)).trans' (Gou.Mod.set1 _ w.heap.size 1 (.int .i64 0))) (fun k hk e => by omega)
          refine bodyPost_ret (results_ct rfl (ResAt.of rfl hR Try.underlying30 rfl size_id)) rfl ?_
          exact ⟨HMq.imp (fun _ _ h => h.elim), fun h => by have := Hm.out; have := Hml.out; have := Hd64.out; have := Hdd.out; omega, fun n e _ _ => ⟨fun _ => rfl, fun b y hby => by rw [Htk.out] at hby; cases hby⟩⟩
        | some by_ =>
          obtain ⟨b, y⟩ := by_
          obtain ⟨rfl, hb6⟩ := ht6 b y htk
          obtain ⟨⟨pg6, cg6, rfl⟩, ⟨pl6, cl6, rfl⟩⟩ := hb6.forms
          have Hb6 := Lib.hid hb6
          have Htk := Lib.hid htk
          clear ht6 hno6 htk hb6
          go_upto_region 7 with fail
          obtain ⟨ba, bi, bm⟩ := two_new w6 28 30 #[.slice pg6 b.gens.length cg6, .slice pl6 b.live.length cl6] #[.int .i64 y.1, .int .i64 y.2]
          generalize (w6.alloc (.cells #[.slice pg6 b.gens.length cg6, .slice pl6 b.live.length cl6] 28)).alloc (.cells #[.int .i64 y.1, .int .i64 y.2] 30) = W7 at *
          have HD7 := Lib.hid (HD6.out.up bm)
          have HN7 := Lib.hid (HN6.out.up bm)
          have HM7 := Lib.hid (HM6.out.trans' bm)
          have HAt7 := Lib.hid (HAt6.out.up bm)
          have Hb7 := Lib.hid (Hb6.out.up bm)
          have Hi7 := Lib.hid bi
          have Ha7 := Lib.hid ba
          have a0 : W7.cell? ⟨w6.heap.size, 0, none⟩ = some (.slice pg6 b.gens.length cg6) := ba.cell 0 rfl
          have a1 : W7.cell? ⟨w6.heap.size, 1, none⟩ = some (.slice pl6 b.live.length cl6) := ba.cell 1 rfl
          obtain ⟨c0, c1, _⟩ := HD7.out.cell
          have f0 := HD7.out.blk.frozen 0
          have f1 := HD7.out.blk.frozen 1
          have HN7g : Hid (w.heap.size < w6.heap.size + 1) := Lib.hid (by have := HM6.out.size; omega)
          clear ba bi bm HD6 HN6 HM6 HAt6 Hb6
          go_upto_region 8 with fail
          show Code.wp _ _ _ _ (W7.setCells D 0 [.slice pg6 b.gens.length cg6, .slice pl6 b.live.length cl6])
          obtain ⟨cur8, hd8⟩ := HD7.out.arena tI.2.1 tB.2.1 (a2 := b) ⟨ownsRow_base Hb7.out.g Hbase.out, ownsRow_base Hb7.out.l Hbase.out⟩
          have HS8 := Lib.hid (Blk.setMod W7 D 0 [.slice pg6 b.gens.length cg6, .slice pl6 b.live.length cl6])
          have HAt8 : Hid (At (W7.setCells D 0 [.slice pg6 b.gens.length cg6, .slice pl6 b.live.length cl6]) D 2 π b' o') := Lib.hid (At.cells (fun bb j hj => World.cell?_setCells_out D [.slice pg6 b.gens.length cg6, .slice pl6 b.live.length cl6] 0 W7 ⟨bb, j, none⟩ (fun _ _ => .inr (by show 0 + 2 ≤ j; omega))) HAt7.out)
          have HD8 := Lib.hid hd8
          have hnD : w.heap.size ≠ D ∧ w6.heap.size + 1 ≠ D := by have := HDlt.out; have := HM7.out.size; have := Blk.lt HD7.out.blk; have h9 := Hi7.out; constructor; omega; intro e; rw [e] at h9; exact absurd h9 (by have hb := HD7.out.blk; unfold Blk at hb ⊢; rw [hb]; simp)
          have HN8 := Lib.hid (HN7.out.mod HS8.out hnD.1)
          have Hi8 := Lib.hid (Hi7.out.mod HS8.out hnD.2)
          have HN7D : Hid (¬ (w6.heap.size + 1 = D ∨ w6.heap.size + 1 ∈ F)) := Lib.hid (fun e => by
            rcases e with e | e
            · exact hnD.2 e
            · have := HFlt.out _ e
              have := HN7g.out
              omega)
          have HM8 := Lib.hid ((HM7.out.imp (S' := fun x => x = D ∨ x ∈ F) (fun _ _ h => h.elim)).trans' (HS8.out.imp (fun _ _ h => .inl h)))
          clear hd8 HS8 HD7 HN7 HM7 HAt7 Hb7 Hi7 Ha7 a0 a1 c0 c1 f0 f1 hnD
          generalize W7.setCells D 0 [.slice pg6 b.gens.length cg6, .slice pl6 b.live.length cl6] = W8 at *
          generalize w6.heap.size + 1 = N7 at *
          have HIr8 : Hid (W8.rangeAt N7 0 [.int .i64 y.1, .int .i64 y.2]) := Lib.hid (Blk.range (pre := []) (post := []) Hi8.out (by simp) rfl)
          have HDq := Lib.hid (HD8.out.up (Gou.Mod.drew (fun _ => False) W8))
          have HAq := Lib.hid (HAt8.out.up (Gou.Mod.drew (fun _ => False) W8))
          refine wp_region_held_drew (S := fun w' => Gou.Mod (fun x => x = D ∨ x ∈ F) W8 w') (by kernel_rfl) (Gou.Mod.drew _ _) (fun hHeld => ?_)
          refine wpAnyH_take (i := 0) (oi := ({ dst := some 65, op := Op.move (Operand.tmp 4), type := 71, pos := "scene.go:151", after := #[], guard := none } : Oper)) (v := .pointer (some ⟨b', o', none⟩)) rfl (by kernel_rfl) (by kernel_rfl) (by kernel_rfl) (fun _ _ _ h => h) (Or.inl ⟨by rfl, ?_⟩) hHeld ?_
          · (intro w' hSw; (try dsimp only at hSw); clear hSw hHeld; go_simp; (try with_reducible rfl))
          try simp only [Act.put, List.setIfInBounds_toArray, List.set_cons_zero, List.set_cons_succ]
          refine wpAnyH_take (i := 1) (oi := ({ dst := some 66, op := Op.move (Operand.tmp 0), type := 64, pos := "scene.go:151", after := #[], guard := none } : Oper)) (v := .pointer (some ⟨D, 0, none⟩)) rfl (by kernel_rfl) (by kernel_rfl) (by kernel_rfl) (fun _ _ _ h => h) (Or.inl ⟨by rfl, ?_⟩) hHeld ?_
          · (intro w' hSw; (try dsimp only at hSw); clear hSw hHeld; go_simp; (try with_reducible rfl))
          try simp only [Act.put, List.setIfInBounds_toArray, List.set_cons_zero, List.set_cons_succ]
          refine wpAnyH_take (i := 2) (oi := ({ dst := some 67, op := Op.nilCheck (Operand.tmp 66), type := 0, pos := "scene.go:151", after := #[{ on := 1, ground := Ground.data }], guard := none } : Oper)) (v := .pointer (some ⟨D, 0, none⟩)) rfl (by kernel_rfl) (by kernel_rfl) (by kernel_rfl) (fun _ _ _ h => h) (Or.inl ⟨by rfl, ?_⟩) hHeld ?_
          · (intro w' hSw; (try dsimp only at hSw); clear hSw hHeld; go_simp; (try with_reducible rfl))
          try simp only [Act.put, List.setIfInBounds_toArray, List.set_cons_zero, List.set_cons_succ]
          refine wpAnyH_take (i := 3) (oi := ({ dst := some 68, op := Op.fieldAddr 67 (Operand.tmp 67) 1, type := 0, pos := "scene.go:151", after := #[{ on := 2, ground := Ground.data }], guard := none } : Oper)) (v := .pointer (some ⟨D, 33, none⟩)) rfl (by kernel_rfl) (by kernel_rfl) (by kernel_rfl) (fun _ _ _ h => h) (Or.inl ⟨by rfl, ?_⟩) hHeld ?_
          · (intro w' hSw; (try dsimp only at hSw); clear hSw hHeld; go_simp; (try with_reducible rfl))
          try simp only [Act.put, List.setIfInBounds_toArray, List.set_cons_zero, List.set_cons_succ]
          refine wpAnyH_take (i := 4) (oi := ({ dst := some 69, op := Op.fieldAddr 53 (Operand.tmp 68) 3, type := 0, pos := "scene.go:151", after := #[{ on := 3, ground := Ground.data }], guard := none } : Oper)) (v := .pointer (some ⟨D, 38, none⟩)) rfl (by kernel_rfl) (by kernel_rfl) (by kernel_rfl) (fun _ _ _ h => h) (Or.inl ⟨by rfl, ?_⟩) hHeld ?_
          · (intro w' hSw; (try dsimp only at hSw); clear hSw hHeld; go_simp; (try with_reducible rfl))
          try simp only [Act.put, List.setIfInBounds_toArray, List.set_cons_zero, List.set_cons_succ]
          refine wpAnyH_take (i := 6) (oi := ({ dst := some 71, op := Op.load 30 (Operand.tmp 7), type := 30, pos := "scene.go:151", after := #[], guard := none } : Oper)) (v := .agg #[.int .i64 y.1, .int .i64 y.2]) rfl (by kernel_rfl) (by kernel_rfl) (by kernel_rfl) (fun _ _ _ h => h) (yieldsIf_load_mid (by rfl) 30 _ rfl N7 (0) rfl ([.int .i64 y.1, .int .i64 y.2]) _ (fun w' hSw => range_up HIr8.out hSw HN7D.out) Try.underlying30 rfl size_id) hHeld ?_
          try simp only [Act.put, List.setIfInBounds_toArray, List.set_cons_zero, List.set_cons_succ]
          refine wpAnyH_ready (rs := [5, 7]) (by kernel_rfl) (by simp) (AllReadyH.cons (o := ({ dst := some 70, op := Op.load 3 (Operand.tmp 69), type := 3, pos := "scene.go:151", after := #[{ on := 4, ground := Ground.data }], guard := none } : Oper)) rfl (fun K11 hK => ?_) (AllReadyH.cons (o := ({ dst := some 72, op := Op.call { callee := Callee.value (Operand.func 17), args := #[], argTypes := #[] }, type := 42, pos := "scene.go:151", after := #[], guard := none } : Oper)) rfl (fun K11 hK => ?_) AllReadyH.nil))
          · skip
            have g0 := HDq.out.cell.2.2.2.2.2.2.2
            rw [Hm.out] at g0
            go_simp
            clear g0
            have M := Lib.hid hHeld
            clear hHeld
            refine hK _ _ M.out (fun hHeld => ?_)
            clear hK K11 M
            try simp only [Act.put, List.setIfInBounds_toArray, List.set_cons_zero, List.set_cons_succ]
            refine wpAnyH_ready (rs := [7]) (by kernel_rfl) (by simp) (AllReadyH.cons (o := ({ dst := some 72, op := Op.call { callee := Callee.value (Operand.func 17), args := #[], argTypes := #[] }, type := 42, pos := "scene.go:151", after := #[], guard := none } : Oper)) rfl (fun K hK => ?_) AllReadyH.nil)
            go_simp
            refine (plain_any _).mono ?_
            rintro e w9 ⟨rfl, hm9⟩
            have M := Lib.hid (hHeld.trans' (hm9.imp (fun _ _ h => h.elim)))
            replace HDq := Lib.hid (HDq.out.up hm9)
            replace HAq := Lib.hid (HAq.out.up hm9)
            clear hm9
            clear hHeld
            refine hK _ _ M.out (fun hHeld => ?_)
            clear hK K M
            try simp only [Act.put, List.setIfInBounds_toArray, List.set_cons_zero, List.set_cons_succ]
            refine wpAnyH_take (i := 8) (oi := ({ dst := some 73, op := Op.build 45 #[(0, Operand.tmp 71), (1, Operand.tmp 72)], type := 45, pos := "scene.go:151", after := #[{ on := 6, ground := Ground.data }, { on := 7, ground := Ground.data }], guard := none } : Oper)) (v := .agg (lyA y Lk.plain (.slice none 0 0) (.slice none 0 0) (.slice none 0 0) (.slice none 0 0))) rfl (by kernel_rfl) (by kernel_rfl) (by kernel_rfl) (fun _ _ _ h => h) (Or.inl ⟨by rfl, fun w' hSw => by kernel_rfl⟩) hHeld ?_
            try simp only [Act.put, List.setIfInBounds_toArray, List.set_cons_zero, List.set_cons_succ]
            refine wpAnyH_ready (rs := [9]) (by kernel_rfl) (by simp) (AllReadyH.cons (o := ({ dst := some 74, op := Op.call { callee := Callee.value (Operand.func 34), args := #[Operand.tmp 65, Operand.tmp 70, Operand.tmp 73], argTypes := #[71, 3, 45] }, type := 0, pos := "scene.go:151", after := #[{ on := 0, ground := Ground.data }, { on := 5, ground := Ground.data }, { on := 8, ground := Ground.data }, { on := 7, ground := Ground.chain }], guard := none } : Oper)) rfl (fun K hK => ?_) AllReadyH.nil)
            go_simp
            obtain ⟨b2, o2, F2', hz9⟩ := Zoom.ex HDq.out.tree Hs.out
            obtain ⟨e1, e2⟩ := (hz9.at_).one HAq.out
            rw [e1, e2] at hz9
            clear e1 e2
            refine (doer_put base w9 D b T F op _ _ vp vf vb cur8 HDq.out hz9 (.mk y Lk.plain []) [] (.slice none 0 0) (.slice none 0 0) (.slice none 0 0) (.slice none 0 0) (LyO.mk y Lk.plain [] (.slice none 0 0) (.slice none 0 0) (.slice none 0 0) (.slice none 0 0) [] [] ⟨PixR.nil _ _, NodesR.nil _ _, NodesR.nil _ _⟩ (World.ownsRow_nil _ _ _ _) rfl rfl (fun j c k f h => by simp at h) (by simp [Value.ownBlock])) (fun x hx => by simp at hx) m Hml.out Hn.out).mono ?_
            rintro e w10 ⟨rfl, ⟨F4, cur4, hd10⟩, hm10⟩
            have M := Lib.hid (hHeld.trans' hm10)
            have HD10 := Lib.hid hd10
            clear hHeld hd10 hm10 hz9
            refine hK _ _ M.out (fun hHeld => ?_)
            clear hK K M
            try simp only [Act.put, List.setIfInBounds_toArray, List.set_cons_zero, List.set_cons_succ]
            have MS := Lib.hid hHeld
            refine wpAnyH_done (by kernel_rfl) ?_ _
            clear hHeld
            try simp only [Act.put]
            have HR10 := Lib.hid (HN8.out.mod MS.out (fun e => by
              rcases e with e | e
              · have := HDlt.out; omega
              · have := HFlt.out _ e; omega))
            have Hi10 := Lib.hid (Hi8.out.mod MS.out HN7D.out)
            have HM10 := Lib.hid (HM8.out.trans' MS.out)
            have i0 := Hi10.out.cell 0 rfl
            have i1 := Hi10.out.cell 1 rfl
            have r0 := HR10.out.cell 0 rfl
            have r1 := HR10.out.cell 1 rfl
            have s0 := HR10.out.frozen 0
            have s1 := HR10.out.frozen 1
            clear MS
            go_wp2_with fail
            have hS := (Gou.Mod.set1 w10 w.heap.size 0 (.int .i64 y.1)).trans' (Gou.Mod.set1 _ w.heap.size 1 (.int .i64 y.2))
            have hR := (HR10.out.set 0 (.int .i64 y.1)).set 1 (.int .i64 y.2)
            have hd11 := HD10.out.box tI tB HR10.out (by decide) (by have := HDlt.out; omega) (by have := HD.out.tree.ge; have := HDlt.out; omega) hS
            refine bodyPost_ret (results_ct rfl (ResAt.of rfl hR Try.underlying30 rfl size_id)) rfl ?_
            refine ⟨HM10.out.trans hS (fun k hk e => by omega), fun h => by have := Hm.out; have := Hml.out; have := Hd64.out; have := Hdd.out; omega, fun n e _ _ => ⟨fun hno => (by rw [Htk.out] at hno; cases hno), fun b' y' hby => ?_⟩⟩
            rw [Htk.out] at hby
            cases hby
            obtain rfl : n = m := by have := Hm.out; omega
            exact ⟨rfl, _, _, _, _, hd11⟩
          · skip
            go_simp
            refine (plain_any _).mono ?_
            rintro e w9 ⟨rfl, hm9⟩
            have M := Lib.hid (hHeld.trans' (hm9.imp (fun _ _ h => h.elim)))
            replace HDq := Lib.hid (HDq.out.up hm9)
            replace HAq := Lib.hid (HAq.out.up hm9)
            clear hm9
            clear hHeld
            refine hK _ _ M.out (fun hHeld => ?_)
            clear hK K11 M
            try simp only [Act.put, List.setIfInBounds_toArray, List.set_cons_zero, List.set_cons_succ]
            refine wpAnyH_take (i := 8) (oi := ({ dst := some 73, op := Op.build 45 #[(0, Operand.tmp 71), (1, Operand.tmp 72)], type := 45, pos := "scene.go:151", after := #[{ on := 6, ground := Ground.data }, { on := 7, ground := Ground.data }], guard := none } : Oper)) (v := .agg (lyA y Lk.plain (.slice none 0 0) (.slice none 0 0) (.slice none 0 0) (.slice none 0 0))) rfl (by kernel_rfl) (by kernel_rfl) (by kernel_rfl) (fun _ _ _ h => h) (Or.inl ⟨by rfl, fun w' hSw => by kernel_rfl⟩) hHeld ?_
            try simp only [Act.put, List.setIfInBounds_toArray, List.set_cons_zero, List.set_cons_succ]
            refine wpAnyH_ready (rs := [5]) (by kernel_rfl) (by simp) (AllReadyH.cons (o := ({ dst := some 70, op := Op.load 3 (Operand.tmp 69), type := 3, pos := "scene.go:151", after := #[{ on := 4, ground := Ground.data }], guard := none } : Oper)) rfl (fun K hK => ?_) AllReadyH.nil)
            have g0 := HDq.out.cell.2.2.2.2.2.2.2
            rw [Hm.out] at g0
            go_simp
            clear g0
            have M := Lib.hid hHeld
            clear hHeld
            refine hK _ _ M.out (fun hHeld => ?_)
            clear hK K M
            try simp only [Act.put, List.setIfInBounds_toArray, List.set_cons_zero, List.set_cons_succ]
            refine wpAnyH_ready (rs := [9]) (by kernel_rfl) (by simp) (AllReadyH.cons (o := ({ dst := some 74, op := Op.call { callee := Callee.value (Operand.func 34), args := #[Operand.tmp 65, Operand.tmp 70, Operand.tmp 73], argTypes := #[71, 3, 45] }, type := 0, pos := "scene.go:151", after := #[{ on := 0, ground := Ground.data }, { on := 5, ground := Ground.data }, { on := 8, ground := Ground.data }, { on := 7, ground := Ground.chain }], guard := none } : Oper)) rfl (fun K hK => ?_) AllReadyH.nil)
            go_simp
            obtain ⟨b2, o2, F2', hz9⟩ := Zoom.ex HDq.out.tree Hs.out
            obtain ⟨e1, e2⟩ := (hz9.at_).one HAq.out
            rw [e1, e2] at hz9
            clear e1 e2
            refine (doer_put base w9 D b T F op _ _ vp vf vb cur8 HDq.out hz9 (.mk y Lk.plain []) [] (.slice none 0 0) (.slice none 0 0) (.slice none 0 0) (.slice none 0 0) (LyO.mk y Lk.plain [] (.slice none 0 0) (.slice none 0 0) (.slice none 0 0) (.slice none 0 0) [] [] ⟨PixR.nil _ _, NodesR.nil _ _, NodesR.nil _ _⟩ (World.ownsRow_nil _ _ _ _) rfl rfl (fun j c k f h => by simp at h) (by simp [Value.ownBlock])) (fun x hx => by simp at hx) m Hml.out Hn.out).mono ?_
            rintro e w10 ⟨rfl, ⟨F4, cur4, hd10⟩, hm10⟩
            have M := Lib.hid (hHeld.trans' hm10)
            have HD10 := Lib.hid hd10
            clear hHeld hd10 hm10 hz9
            refine hK _ _ M.out (fun hHeld => ?_)
            clear hK K M
            try simp only [Act.put, List.setIfInBounds_toArray, List.set_cons_zero, List.set_cons_succ]
            have MS := Lib.hid hHeld
            refine wpAnyH_done (by kernel_rfl) ?_ _
            clear hHeld
            try simp only [Act.put]
            have HR10 := Lib.hid (HN8.out.mod MS.out (fun e => by
              rcases e with e | e
              · have := HDlt.out; omega
              · have := HFlt.out _ e; omega))
            have Hi10 := Lib.hid (Hi8.out.mod MS.out HN7D.out)
            have HM10 := Lib.hid (HM8.out.trans' MS.out)
            have i0 := Hi10.out.cell 0 rfl
            have i1 := Hi10.out.cell 1 rfl
            have r0 := HR10.out.cell 0 rfl
            have r1 := HR10.out.cell 1 rfl
            have s0 := HR10.out.frozen 0
            have s1 := HR10.out.frozen 1
            clear MS
            go_wp2_with fail
            have hS := (Gou.Mod.set1 w10 w.heap.size 0 (.int .i64 y.1)).trans' (Gou.Mod.set1 _ w.heap.size 1 (.int .i64 y.2))
            have hR := (HR10.out.set 0 (.int .i64 y.1)).set 1 (.int .i64 y.2)
            have hd11 := HD10.out.box tI tB HR10.out (by decide) (by have := HDlt.out; omega) (by have := HD.out.tree.ge; have := HDlt.out; omega) hS
            refine bodyPost_ret (results_ct rfl (ResAt.of rfl hR Try.underlying30 rfl size_id)) rfl ?_
            refine ⟨HM10.out.trans hS (fun k hk e => by omega), fun h => by have := Hm.out; have := Hml.out; have := Hd64.out; have := Hdd.out; omega, fun n e _ _ => ⟨fun hno => (by rw [Htk.out] at hno; cases hno), fun b' y' hby => ?_⟩⟩
            rw [Htk.out] at hby
            cases hby
            obtain rfl : n = m := by have := Hm.out; omega
            exact ⟨rfl, _, _, _, _, hd11⟩
      · have e3 : decide ((64 : Int) < (dd : Int) + 1) = true := decide_eq_true (by omega)
        go_quiet (fail)
        go_wp2_with fail
        have hR := (((HN4.out.up (Gou.Mod.drewN (fun _ => False) w4 nq)).set 0 (.int .i64 0)).set 1 (.int .i64 0))
        have HMq := (HM4.out.trans' (Gou.Mod.drewN (fun _ => False) w4 nq)).trans ((Gou.Mod.set1 (w4.drewN nq) w.heap.size 0 (.int .i64 0)).trans' (Gou.Mod.set1 _ w.heap.size 1 (.int .i64 0))) (fun k hk e => by omega)
        refine bodyPost_ret (results_ct rfl (ResAt.of rfl hR Try.underlying30 rfl size_id)) rfl ?_
        exact ⟨HMq.imp (fun _ _ h => h.elim), fun _ => rfl, fun n e hn h => by have := Hdd.out; omega⟩

end Go.Proofs.Ytpbmfalokongfaa

