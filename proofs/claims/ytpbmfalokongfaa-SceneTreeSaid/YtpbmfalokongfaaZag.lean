/- Texts of the scenes' proofs, laid together: SdD, SdE, SdG, HeapA, HeapB, HeapC, HeapD, Set, NodeA, OrdA, OrdB, Kahn. -/
import Derived.Test.YtpbmfalokongfaaZaf
import Derived.Test.YtpbmfalokongfaaRows
import Derived.Test.YtpbmfalokongfaaZaa
import Derived.Deep.RegionLaw
import Derived.Deep.RegionLawGrows
import Derived.Deep.AppendLies
import Derived.BigRegion
import Derived.RegionTactic
import Derived.Maps.OwnOps
import Derived.Maps.OwnSet
import Derived.Deep.RegionHeld3
import Derived.Deep.DeepFit
set_option linter.unusedSimpArgs false
set_option linter.unusedVariables false
set_option linter.unusedSectionVars false
set_option linter.constructorNameAsVariable false

/- Scenes: the code's stale. -/
namespace Go.Proofs.Ytpbmfalokongfaa
open Go.RowKit Go.Gou
set_option maxRecDepth 100000

set_option maxHeartbeats 8000000 in
theorem stale_any (base : Nat) (w : World) (D : Nat) (a : Ar) (T : Ly) (F : List Nat) (op : Opr) (vg vl vp vf vb : Value) (cur : Array Value) (hD : DoerL base w D a T F op vg vl vp vf vb cur) (hl : a.gens.length = a.live.length) :
    Calls Try.prog 26 #[.pointer (some ⟨D, 0, none⟩)] w fun e w' => e = .returned (.bool (stale a op)) ∧ Gou.Mod (fun _ => False) w w' := by
  obtain ⟨⟨pg, cg, rfl⟩, ⟨pl, cl, rfl⟩⟩ := hD.ar.forms
  have HD := Lib.hid hD
  have Hl := Lib.hid hl
  clear hD hl
  go_enter Try.func26, Try.ntmps26
  go_upto_region 1 with fail
  have HAr : Hid (w.rangeAt D 0 [.slice pg a.gens.length cg, .slice pl a.live.length cl]) := Lib.hid (fun j v hv => by
    obtain ⟨c0, c1, _⟩ := HD.out.cell
    match j, hv with
    | 0, hv => simp at hv; rw [← hv]; exact c0
    | 1, hv => simp at hv; rw [← hv]; exact c1)
  have HIr : Hid (w.rangeAt D 34 [.int .i64 op.id.1, .int .i64 op.id.2]) := Lib.hid (fun j v hv => by
    obtain ⟨_, _, _, c34, c35, _⟩ := HD.out.cell
    match j, hv with
    | 0, hv => simp at hv; rw [← hv]; exact c34
    | 1, hv => simp at hv; rw [← hv]; exact c35)
  have HTr : Hid (w.rangeAt D 36 [.int .i64 op.to.1, .int .i64 op.to.2]) := Lib.hid (fun j v hv => by
    obtain ⟨_, _, _, _, _, c36, c37, _⟩ := HD.out.cell
    match j, hv with
    | 0, hv => simp at hv; rw [← hv]; exact c36
    | 1, hv => simp at hv; rw [← hv]; exact c37)
  refine wp_region_held_drew (S := fun w' => Gou.Mod (fun _ => False) w w') (by kernel_rfl) (Gou.Mod.drew _ _) (fun hHeld => ?_)
  refine wpAnyH_take (i := 0) (oi := ({ dst := some 5, op := Op.move (Operand.tmp 0), type := 64, pos := "scene.go:265", after := #[], guard := none } : Oper)) (v := .pointer (some ⟨D, 0, none⟩)) rfl (by kernel_rfl) (by kernel_rfl) (by kernel_rfl) (fun _ _ _ h => h) (Or.inl ⟨by rfl, ?_⟩) hHeld ?_
  · (intro w' hSw; (try dsimp only at hSw); clear hSw hHeld; go_simp; (try with_reducible rfl))
  try simp only [Act.put, List.setIfInBounds_toArray, List.set_cons_zero, List.set_cons_succ]
  refine wpAnyH_take (i := 1) (oi := ({ dst := some 6, op := Op.nilCheck (Operand.tmp 5), type := 0, pos := "scene.go:265", after := #[{ on := 0, ground := Ground.data }], guard := none } : Oper)) (v := .pointer (some ⟨D, 0, none⟩)) rfl (by kernel_rfl) (by kernel_rfl) (by kernel_rfl) (fun _ _ _ h => h) (Or.inl ⟨by rfl, ?_⟩) hHeld ?_
  · (intro w' hSw; (try dsimp only at hSw); clear hSw hHeld; go_simp; (try with_reducible rfl))
  try simp only [Act.put, List.setIfInBounds_toArray, List.set_cons_zero, List.set_cons_succ]
  refine wpAnyH_take (i := 2) (oi := ({ dst := some 7, op := Op.fieldAddr 67 (Operand.tmp 6) 0, type := 0, pos := "scene.go:265", after := #[{ on := 1, ground := Ground.data }], guard := none } : Oper)) (v := .pointer (some ⟨D, 0, none⟩)) rfl (by kernel_rfl) (by kernel_rfl) (by kernel_rfl) (fun _ _ _ h => h) (Or.inl ⟨by rfl, ?_⟩) hHeld ?_
  · (intro w' hSw; (try dsimp only at hSw); clear hSw hHeld; go_simp; (try with_reducible rfl))
  try simp only [Act.put, List.setIfInBounds_toArray, List.set_cons_zero, List.set_cons_succ]
  refine wpAnyH_take (i := 3) (oi := ({ dst := some 8, op := Op.fieldAddr 47 (Operand.tmp 7) 0, type := 0, pos := "scene.go:265", after := #[{ on := 2, ground := Ground.data }], guard := none } : Oper)) (v := .pointer (some ⟨D, 0, none⟩)) rfl (by kernel_rfl) (by kernel_rfl) (by kernel_rfl) (fun _ _ _ h => h) (Or.inl ⟨by rfl, ?_⟩) hHeld ?_
  · (intro w' hSw; (try dsimp only at hSw); clear hSw hHeld; go_simp; (try with_reducible rfl))
  try simp only [Act.put, List.setIfInBounds_toArray, List.set_cons_zero, List.set_cons_succ]
  refine wpAnyH_take (i := 4) (oi := ({ dst := some 9, op := Op.load 28 (Operand.tmp 8), type := 28, pos := "scene.go:265", after := #[{ on := 3, ground := Ground.data }], guard := none } : Oper)) (v := .agg #[.slice pg a.gens.length cg, .slice pl a.live.length cl]) rfl (by kernel_rfl) (by kernel_rfl) (by kernel_rfl) (fun _ _ _ h => h) (yieldsIf_load_mid (by rfl) 28 _ rfl D (0) rfl ([.slice pg a.gens.length cg, .slice pl a.live.length cl]) _ (fun w' hSw => range_up HAr.out hSw (fun h => h)) Try.underlying28 rfl size_arena) hHeld ?_
  try simp only [Act.put, List.setIfInBounds_toArray, List.set_cons_zero, List.set_cons_succ]
  refine wpAnyH_take (i := 5) (oi := ({ dst := some 10, op := Op.move (Operand.tmp 0), type := 64, pos := "scene.go:265", after := #[], guard := none } : Oper)) (v := .pointer (some ⟨D, 0, none⟩)) rfl (by kernel_rfl) (by kernel_rfl) (by kernel_rfl) (fun _ _ _ h => h) (Or.inl ⟨by rfl, ?_⟩) hHeld ?_
  · (intro w' hSw; (try dsimp only at hSw); clear hSw hHeld; go_simp; (try with_reducible rfl))
  try simp only [Act.put, List.setIfInBounds_toArray, List.set_cons_zero, List.set_cons_succ]
  refine wpAnyH_take (i := 6) (oi := ({ dst := some 11, op := Op.nilCheck (Operand.tmp 10), type := 0, pos := "scene.go:265", after := #[{ on := 5, ground := Ground.data }], guard := none } : Oper)) (v := .pointer (some ⟨D, 0, none⟩)) rfl (by kernel_rfl) (by kernel_rfl) (by kernel_rfl) (fun _ _ _ h => h) (Or.inl ⟨by rfl, ?_⟩) hHeld ?_
  · (intro w' hSw; (try dsimp only at hSw); clear hSw hHeld; go_simp; (try with_reducible rfl))
  try simp only [Act.put, List.setIfInBounds_toArray, List.set_cons_zero, List.set_cons_succ]
  refine wpAnyH_take (i := 7) (oi := ({ dst := some 12, op := Op.fieldAddr 67 (Operand.tmp 11) 1, type := 0, pos := "scene.go:265", after := #[{ on := 6, ground := Ground.data }], guard := none } : Oper)) (v := .pointer (some ⟨D, 33, none⟩)) rfl (by kernel_rfl) (by kernel_rfl) (by kernel_rfl) (fun _ _ _ h => h) (Or.inl ⟨by rfl, ?_⟩) hHeld ?_
  · (intro w' hSw; (try dsimp only at hSw); clear hSw hHeld; go_simp; (try with_reducible rfl))
  try simp only [Act.put, List.setIfInBounds_toArray, List.set_cons_zero, List.set_cons_succ]
  refine wpAnyH_take (i := 8) (oi := ({ dst := some 13, op := Op.fieldAddr 53 (Operand.tmp 12) 1, type := 0, pos := "scene.go:265", after := #[{ on := 7, ground := Ground.data }], guard := none } : Oper)) (v := .pointer (some ⟨D, 34, none⟩)) rfl (by kernel_rfl) (by kernel_rfl) (by kernel_rfl) (fun _ _ _ h => h) (Or.inl ⟨by rfl, ?_⟩) hHeld ?_
  · (intro w' hSw; (try dsimp only at hSw); clear hSw hHeld; go_simp; (try with_reducible rfl))
  try simp only [Act.put, List.setIfInBounds_toArray, List.set_cons_zero, List.set_cons_succ]
  refine wpAnyH_take (i := 9) (oi := ({ dst := some 14, op := Op.load 30 (Operand.tmp 13), type := 30, pos := "scene.go:265", after := #[{ on := 8, ground := Ground.data }], guard := none } : Oper)) (v := .agg #[.int .i64 op.id.1, .int .i64 op.id.2]) rfl (by kernel_rfl) (by kernel_rfl) (by kernel_rfl) (fun _ _ _ h => h) (yieldsIf_load_mid (by rfl) 30 _ rfl D (34) rfl ([.int .i64 op.id.1, .int .i64 op.id.2]) _ (fun w' hSw => range_up HIr.out hSw (fun h => h)) Try.underlying30 rfl size_id) hHeld ?_
  try simp only [Act.put, List.setIfInBounds_toArray, List.set_cons_zero, List.set_cons_succ]
  refine wpAnyH_take (i := 11) (oi := ({ dst := some 16, op := Op.move (Operand.tmp 0), type := 64, pos := "scene.go:265", after := #[], guard := none } : Oper)) (v := .pointer (some ⟨D, 0, none⟩)) rfl (by kernel_rfl) (by kernel_rfl) (by kernel_rfl) (fun _ _ _ h => h) (Or.inl ⟨by rfl, ?_⟩) hHeld ?_
  · (intro w' hSw; (try dsimp only at hSw); clear hSw hHeld; go_simp; (try with_reducible rfl))
  try simp only [Act.put, List.setIfInBounds_toArray, List.set_cons_zero, List.set_cons_succ]
  refine wpAnyH_take (i := 12) (oi := ({ dst := some 17, op := Op.nilCheck (Operand.tmp 16), type := 0, pos := "scene.go:265", after := #[{ on := 11, ground := Ground.data }], guard := none } : Oper)) (v := .pointer (some ⟨D, 0, none⟩)) rfl (by kernel_rfl) (by kernel_rfl) (by kernel_rfl) (fun _ _ _ h => h) (Or.inl ⟨by rfl, ?_⟩) hHeld ?_
  · (intro w' hSw; (try dsimp only at hSw); clear hSw hHeld; go_simp; (try with_reducible rfl))
  try simp only [Act.put, List.setIfInBounds_toArray, List.set_cons_zero, List.set_cons_succ]
  refine wpAnyH_take (i := 13) (oi := ({ dst := some 18, op := Op.fieldAddr 67 (Operand.tmp 17) 0, type := 0, pos := "scene.go:265", after := #[{ on := 12, ground := Ground.data }], guard := none } : Oper)) (v := .pointer (some ⟨D, 0, none⟩)) rfl (by kernel_rfl) (by kernel_rfl) (by kernel_rfl) (fun _ _ _ h => h) (Or.inl ⟨by rfl, ?_⟩) hHeld ?_
  · (intro w' hSw; (try dsimp only at hSw); clear hSw hHeld; go_simp; (try with_reducible rfl))
  try simp only [Act.put, List.setIfInBounds_toArray, List.set_cons_zero, List.set_cons_succ]
  refine wpAnyH_take (i := 14) (oi := ({ dst := some 19, op := Op.fieldAddr 47 (Operand.tmp 18) 0, type := 0, pos := "scene.go:265", after := #[{ on := 13, ground := Ground.data }], guard := none } : Oper)) (v := .pointer (some ⟨D, 0, none⟩)) rfl (by kernel_rfl) (by kernel_rfl) (by kernel_rfl) (fun _ _ _ h => h) (Or.inl ⟨by rfl, ?_⟩) hHeld ?_
  · (intro w' hSw; (try dsimp only at hSw); clear hSw hHeld; go_simp; (try with_reducible rfl))
  try simp only [Act.put, List.setIfInBounds_toArray, List.set_cons_zero, List.set_cons_succ]
  refine wpAnyH_take (i := 15) (oi := ({ dst := some 20, op := Op.load 28 (Operand.tmp 19), type := 28, pos := "scene.go:265", after := #[{ on := 14, ground := Ground.data }], guard := none } : Oper)) (v := .agg #[.slice pg a.gens.length cg, .slice pl a.live.length cl]) rfl (by kernel_rfl) (by kernel_rfl) (by kernel_rfl) (fun _ _ _ h => h) (yieldsIf_load_mid (by rfl) 28 _ rfl D (0) rfl ([.slice pg a.gens.length cg, .slice pl a.live.length cl]) _ (fun w' hSw => range_up HAr.out hSw (fun h => h)) Try.underlying28 rfl size_arena) hHeld ?_
  try simp only [Act.put, List.setIfInBounds_toArray, List.set_cons_zero, List.set_cons_succ]
  refine wpAnyH_take (i := 16) (oi := ({ dst := some 21, op := Op.move (Operand.tmp 0), type := 64, pos := "scene.go:265", after := #[], guard := none } : Oper)) (v := .pointer (some ⟨D, 0, none⟩)) rfl (by kernel_rfl) (by kernel_rfl) (by kernel_rfl) (fun _ _ _ h => h) (Or.inl ⟨by rfl, ?_⟩) hHeld ?_
  · (intro w' hSw; (try dsimp only at hSw); clear hSw hHeld; go_simp; (try with_reducible rfl))
  try simp only [Act.put, List.setIfInBounds_toArray, List.set_cons_zero, List.set_cons_succ]
  refine wpAnyH_take (i := 17) (oi := ({ dst := some 22, op := Op.nilCheck (Operand.tmp 21), type := 0, pos := "scene.go:265", after := #[{ on := 16, ground := Ground.data }], guard := none } : Oper)) (v := .pointer (some ⟨D, 0, none⟩)) rfl (by kernel_rfl) (by kernel_rfl) (by kernel_rfl) (fun _ _ _ h => h) (Or.inl ⟨by rfl, ?_⟩) hHeld ?_
  · (intro w' hSw; (try dsimp only at hSw); clear hSw hHeld; go_simp; (try with_reducible rfl))
  try simp only [Act.put, List.setIfInBounds_toArray, List.set_cons_zero, List.set_cons_succ]
  refine wpAnyH_take (i := 18) (oi := ({ dst := some 23, op := Op.fieldAddr 67 (Operand.tmp 22) 1, type := 0, pos := "scene.go:265", after := #[{ on := 17, ground := Ground.data }], guard := none } : Oper)) (v := .pointer (some ⟨D, 33, none⟩)) rfl (by kernel_rfl) (by kernel_rfl) (by kernel_rfl) (fun _ _ _ h => h) (Or.inl ⟨by rfl, ?_⟩) hHeld ?_
  · (intro w' hSw; (try dsimp only at hSw); clear hSw hHeld; go_simp; (try with_reducible rfl))
  try simp only [Act.put, List.setIfInBounds_toArray, List.set_cons_zero, List.set_cons_succ]
  refine wpAnyH_take (i := 19) (oi := ({ dst := some 24, op := Op.fieldAddr 53 (Operand.tmp 23) 2, type := 0, pos := "scene.go:265", after := #[{ on := 18, ground := Ground.data }], guard := none } : Oper)) (v := .pointer (some ⟨D, 36, none⟩)) rfl (by kernel_rfl) (by kernel_rfl) (by kernel_rfl) (fun _ _ _ h => h) (Or.inl ⟨by rfl, ?_⟩) hHeld ?_
  · (intro w' hSw; (try dsimp only at hSw); clear hSw hHeld; go_simp; (try with_reducible rfl))
  try simp only [Act.put, List.setIfInBounds_toArray, List.set_cons_zero, List.set_cons_succ]
  refine wpAnyH_take (i := 20) (oi := ({ dst := some 25, op := Op.load 30 (Operand.tmp 24), type := 30, pos := "scene.go:265", after := #[{ on := 19, ground := Ground.data }], guard := none } : Oper)) (v := .agg #[.int .i64 op.to.1, .int .i64 op.to.2]) rfl (by kernel_rfl) (by kernel_rfl) (by kernel_rfl) (fun _ _ _ h => h) (yieldsIf_load_mid (by rfl) 30 _ rfl D (36) rfl ([.int .i64 op.to.1, .int .i64 op.to.2]) _ (fun w' hSw => range_up HTr.out hSw (fun h => h)) Try.underlying30 rfl size_id) hHeld ?_
  try simp only [Act.put, List.setIfInBounds_toArray, List.set_cons_zero, List.set_cons_succ]
  refine wpAnyH_ready (rs := [10]) (by kernel_rfl) (by simp) (AllReadyH.cons (o := ({ dst := some 15, op := Op.call { callee := Callee.value (Operand.func 22), args := #[Operand.tmp 9, Operand.tmp 14], argTypes := #[28, 30] }, type := 4, pos := "scene.go:265", after := #[{ on := 4, ground := Ground.data }, { on := 9, ground := Ground.data }], guard := none } : Oper)) rfl (fun K hK => ?_) AllReadyH.nil)
  go_simp
  refine (has_any _ pg pl cg cl a op.id (HD.out.up hHeld).ar.reads Hl.out).mono ?_
  rintro e w4 ⟨rfl, hm4⟩
  have M := Lib.hid (hHeld.trans' hm4)
  clear hHeld
  refine hK _ _ M.out (fun hHeld => ?_)
  clear hK K M
  try simp only [Act.put, List.setIfInBounds_toArray, List.set_cons_zero, List.set_cons_succ]
  refine wpAnyH_ready (rs := [21]) (by kernel_rfl) (by simp) (AllReadyH.cons (o := ({ dst := some 26, op := Op.call { callee := Callee.value (Operand.func 22), args := #[Operand.tmp 20, Operand.tmp 25], argTypes := #[28, 30] }, type := 4, pos := "scene.go:265", after := #[{ on := 15, ground := Ground.data }, { on := 20, ground := Ground.data }, { on := 10, ground := Ground.chain }], guard := none } : Oper)) rfl (fun K hK => ?_) AllReadyH.nil)
  go_simp
  refine (has_any _ pg pl cg cl a op.to (HD.out.up hHeld).ar.reads Hl.out).mono ?_
  rintro e w5 ⟨rfl, hm5⟩
  have M := Lib.hid (hHeld.trans' hm5)
  clear hHeld
  refine hK _ _ M.out (fun hHeld => ?_)
  clear hK K M
  try simp only [Act.put, List.setIfInBounds_toArray, List.set_cons_zero, List.set_cons_succ]
  refine wpAnyH_take (i := 22) (oi := ({ dst := some 3, op := Op.assign (Operand.tmp 15), type := 4, pos := "scene.go:265", after := #[{ on := 10, ground := Ground.data }, { on := 21, ground := Ground.chain }, { on := 0, ground := Ground.phase }, { on := 1, ground := Ground.phase }, { on := 2, ground := Ground.phase }, { on := 3, ground := Ground.phase }, { on := 4, ground := Ground.phase }, { on := 5, ground := Ground.phase }, { on := 6, ground := Ground.phase }, { on := 7, ground := Ground.phase }, { on := 8, ground := Ground.phase }, { on := 9, ground := Ground.phase }, { on := 10, ground := Ground.phase }, { on := 11, ground := Ground.textOnly Departure.lateStores }, { on := 12, ground := Ground.textOnly Departure.lateStores }, { on := 13, ground := Ground.textOnly Departure.lateStores }, { on := 14, ground := Ground.textOnly Departure.lateStores }, { on := 15, ground := Ground.textOnly Departure.lateStores }, { on := 16, ground := Ground.textOnly Departure.lateStores }, { on := 17, ground := Ground.textOnly Departure.lateStores }, { on := 18, ground := Ground.textOnly Departure.lateStores }, { on := 19, ground := Ground.textOnly Departure.lateStores }, { on := 20, ground := Ground.textOnly Departure.lateStores }, { on := 21, ground := Ground.textOnly Departure.lateStoresUnsure }], guard := none } : Oper)) (v := .bool (a.has op.id)) rfl (by kernel_rfl) (by kernel_rfl) (by kernel_rfl) (fun _ _ _ h => h) (Or.inl ⟨by rfl, ?_⟩) hHeld ?_
  · (intro w' hSw; (try dsimp only at hSw); clear hSw hHeld; go_simp; (try with_reducible rfl))
  try simp only [Act.put, List.setIfInBounds_toArray, List.set_cons_zero, List.set_cons_succ]
  refine wpAnyH_take (i := 23) (oi := ({ dst := some 4, op := Op.assign (Operand.tmp 26), type := 4, pos := "scene.go:265", after := #[{ on := 21, ground := Ground.data }, { on := 22, ground := Ground.chain }, { on := 0, ground := Ground.phase }, { on := 1, ground := Ground.phase }, { on := 2, ground := Ground.phase }, { on := 3, ground := Ground.phase }, { on := 4, ground := Ground.phase }, { on := 5, ground := Ground.phase }, { on := 6, ground := Ground.phase }, { on := 7, ground := Ground.phase }, { on := 8, ground := Ground.phase }, { on := 9, ground := Ground.phase }, { on := 10, ground := Ground.phase }, { on := 11, ground := Ground.phase }, { on := 12, ground := Ground.phase }, { on := 13, ground := Ground.phase }, { on := 14, ground := Ground.phase }, { on := 15, ground := Ground.phase }, { on := 16, ground := Ground.phase }, { on := 17, ground := Ground.phase }, { on := 18, ground := Ground.phase }, { on := 19, ground := Ground.phase }, { on := 20, ground := Ground.phase }, { on := 21, ground := Ground.phase }, { on := 22, ground := Ground.phase }], guard := none } : Oper)) (v := .bool (a.has op.to)) rfl (by kernel_rfl) (by kernel_rfl) (by kernel_rfl) (fun _ _ _ h => h) (Or.inl ⟨by rfl, ?_⟩) hHeld ?_
  · (intro w' hSw; (try dsimp only at hSw); clear hSw hHeld; go_simp; (try with_reducible rfl))
  try simp only [Act.put, List.setIfInBounds_toArray, List.set_cons_zero, List.set_cons_succ]
  have MS := Lib.hid hHeld
  refine wpAnyH_done (by kernel_rfl) ?_ _
  clear hHeld
  try simp only [Act.put]
  have c33 := (HD.out.up MS.out).cell.2.2.1
  have Hst : Hid (stale a op = if op.kind = 1 then !a.has op.to else if op.kind = 3 then !a.has op.id || !a.has op.to else !a.has op.id) := Lib.hid rfl
  have HMS := Lib.hid MS.out
  clear MS HD HAr HIr HTr
  generalize a.has op.id = x at *
  generalize a.has op.to = y at *
  by_cases h1 : op.kind = 1
  · rw [h1] at c33
    have H1 := Lib.hid h1
    clear h1
    go_wp2_with fail
    go_ret
    exact ⟨by rw [Hst.out, if_pos H1.out]; rfl, HMS.out⟩
  · have e1 : (op.kind == 1) = false := beq_eq_false_iff_ne.2 h1
    have H1 := Lib.hid h1
    by_cases h3 : op.kind = 3
    · rw [h3] at c33
      have H3 := Lib.hid h3
      clear h3 e1 h1
      cases x
      · go_wp2_with fail
        go_ret
        exact ⟨by rw [Hst.out, if_neg H1.out, if_pos H3.out]; rfl, HMS.out⟩
      · go_wp2_with fail
        go_ret
        exact ⟨by rw [Hst.out, if_neg H1.out, if_pos H3.out]; rfl, HMS.out⟩
    · have e3 : (op.kind == 3) = false := beq_eq_false_iff_ne.2 h3
      have H3 := Lib.hid h3
      clear h1 h3
      go_wp2_with fail
      go_ret
      exact ⟨by rw [Hst.out, if_neg H1.out, if_neg H3.out]; rfl, HMS.out⟩

end Go.Proofs.Ytpbmfalokongfaa

/- Scenes: the code's plain. -/
namespace Go.Proofs.Ytpbmfalokongfaa
open Go.RowKit Go.Gou
set_option maxRecDepth 100000
theorem plain_one : (lookC Lk.plain (.slice none 0 0) (.slice none 0 0) (.slice none 0 0)).all (·.oneCell') = true := by simp [lookC, Lk.plain, Lk.zero, Ct.zero, Rc.zero, Pxl.zero, Gr.zero, Value.oneCell']
set_option maxHeartbeats 4000000 in
theorem plain_any (w : World) : Calls Try.prog 17 #[] w fun e w' => e = .returned (.agg (lookC Lk.plain (.slice none 0 0) (.slice none 0 0) (.slice none 0 0))) ∧ Gou.Mod (fun _ => False) w w' := by
  go_enter Try.func17, Try.ntmps17
  go_upto_region 1 with fail
  have HB := Lib.hid (Blk.new w 42 (lookC Lk.zero (.slice none 0 0) (.slice none 0 0) (.slice none 0 0)))
  have HM := Lib.hid (Gou.Mod.alloc0 w (.cells (lookC Lk.zero (.slice none 0 0) (.slice none 0 0) (.slice none 0 0)) 42))
  show Code.wp _ _ _ _ (w.alloc (.cells (lookC Lk.zero (.slice none 0 0) (.slice none 0 0) (.slice none 0 0)) 42))
  generalize w.alloc (.cells (lookC Lk.zero (.slice none 0 0) (.slice none 0 0) (.slice none 0 0)) 42) = W1 at *
  go_wp2_with (first | ((with_reducible refine wpList_store_mid ?g1_1 42 ?x1_1 ?y1_1 ?o1_1 (w.heap.size) (0) (lookC Lk.plain (.slice none 0 0) (.slice none 0 0) (.slice none 0 0)) ?h1_1 ?j1_1 ?t1_1 ?i1_1 ?s1_1 ?r1_1); (case g1_1 => exact rfl); (case o1_1 => exact rfl); (case h1_1 => exact rfl); (case j1_1 => exact rfl); (case t1_1 => exact HB.out.there 0 28 (by simp [lookC])); (case i1_1 => exact size_look); (case s1_1 => exact plain_one)) | fail)
  have HS := Lib.hid (Blk.setMod W1 w.heap.size 0 (lookC Lk.plain (.slice none 0 0) (.slice none 0 0) (.slice none 0 0)).toList)
  have HB2 := Lib.hid (HB.out.setAll (lookC Lk.plain (.slice none 0 0) (.slice none 0 0) (.slice none 0 0)) rfl)
  have HM2 := Lib.hid (HM.out.trans HS.out (fun k hk e => by omega))
  generalize W1.setCells w.heap.size 0 (lookC Lk.plain (.slice none 0 0) (.slice none 0 0) (.slice none 0 0)).toList = W2 at *
  refine bodyPost_ret (results_cell_row rfl _ _ (w.heap.size) 42 (lookC Lk.plain (.slice none 0 0) (.slice none 0 0) (.slice none 0 0)) (0, 0) _ rfl HB2.out Try.underlying42 rfl size_look) rfl ?_
  exact ⟨rfl, HM2.out⟩
end Go.Proofs.Ytpbmfalokongfaa

/- Scenes: numbers and contents that are right, in the code. -/
namespace Go.Proofs.Ytpbmfalokongfaa
open Go.RowKit Go.Gou Go.Lib
set_option maxRecDepth 100000
set_option linter.constructorNameAsVariable false

theorem near1_any (n : Int) (w : World) : Calls Try.prog 50 #[.int .i64 n] w fun e w' => e = .returned (.bool (!nearB n)) ∧ ∃ q, w' = w.drewN q := by
  have Hb : Hid (nearB n = (decide (-1048576 ≤ n) && decide (n ≤ 1048576))) := Lib.hid rfl
  go_enter Try.func50, Try.ntmps50
  rcases Int.lt_or_le n (-1048576) with h | h
  · have e1 : decide (n < -1048576) = true := decide_eq_true h
    have e3 : decide (-1048576 ≤ n) = false := decide_eq_false (by omega)
    go_wp2
    go_ret
    exact ⟨by rw [Hb.out, e3]; rfl, 0, rfl⟩
  · have e1 : decide (n < -1048576) = false := decide_eq_false (by omega)
    have e3 : decide (-1048576 ≤ n) = true := decide_eq_true h
    rcases Int.lt_or_le 1048576 n with h2 | h2
    · have e2 : decide (1048576 < n) = true := decide_eq_true h2
      have e4 : decide (n ≤ 1048576) = false := decide_eq_false (by omega)
      go_wp2
      go_ret
      exact ⟨by rw [Hb.out, e3, e4]; rfl, 0, rfl⟩
    · have e2 : decide (1048576 < n) = false := decide_eq_false (by omega)
      have e4 : decide (n ≤ 1048576) = true := decide_eq_true h2
      go_wp2
      go_ret
      exact ⟨by rw [Hb.out, e3, e4]; rfl, 0, rfl⟩

theorem nearL_any (w : World) (b n c : Nat) (l : List Int) (hn : n = l.length) (h9 : n ≤ 100) (hc : ∀ j, j < l.length → w.cell? ⟨b, 0 + j, none⟩ = some (.int .i64 l[j]!)) :
    Calls Try.prog 35 #[.slice (some ⟨b, 0, none⟩) n c] w fun e w' => e = .returned (.bool (l.all nearB)) ∧ Gou.Mod (fun _ => False) w w' := by
  subst hn
  have h1 := AnyE.slices_ContainsFunc anyInt (fun n : Int => Value.int .i64 n) (fun n => !nearB n) 50 #[] (enters_of Try.func50 (by kernel_rfl) rfl) b 0 l.length c l w (fun W x _ => near1_any x W) (by omega) (by omega) hc
  rw [List.take_length] at h1
  have h2 : (l.any fun n => !nearB n) = !l.all nearB := by
    induction l with
    | nil => rfl
    | cons a l _ => simp [List.any_eq_not_all_not]
  rw [h2] at h1
  have H1 := Lib.hid h1
  clear h1 h2 hc
  go_enter Try.func35, Try.ntmps35
  go_wp2_with fail
  refine H1.out.mono ?_
  rintro e w' ⟨rfl, q, rfl⟩
  go_wp2_with fail
  go_ret
  exact ⟨by simp, Gou.Mod.drewN _ _ _⟩
end Go.Proofs.Ytpbmfalokongfaa

/- The heap of places: its methods, each once. Only what stands in it is told, not its order. -/
namespace Go.Proofs.Ytpbmfalokongfaa
open Go.RowKit Go.Gou

abbrev iv (xs : List Int) : List Value := xs.map (.int .i64)

/-- The places' heap behind a pointer: its cell N, and the row that it owns. -/
structure PlAt (w : World) (N base : Nat) (v : Value) (xs : List Int) : Prop where
  cell : Cell1 w N 126 v
  own : w.ownsRow base 3 1 v xs.length (iv xs)
  apart : v.ownBlock ≠ some N

theorem info_int : (Try.prog.info? 3).map (fun i => (i.zero, i.size, i.bytes)) = some (some (.int .i64 0), 1, 8) := by kernel_rfl

theorem len_any (p : Option Addr) (n c : Nat) (w : World) (hn : n ≤ maxLen) :
    Calls Try.prog 79 #[.slice p n c] w fun e w' => e = .returned (.int .i64 n) ∧ w = w' := by
  unfold maxLen at hn
  go_enter Try.func79, Try.ntmps79
  go_wp2
  go_ret
  exact ⟨rfl, rfl⟩

theorem less_any (b o n c i j : Nat) (x y : Int) (w : World) (hn : n ≤ maxLen) (hi : i < n) (hj : j < n) (hx : w.cell? ⟨b, o + i, none⟩ = some (.int .i64 x)) (hy : w.cell? ⟨b, o + j, none⟩ = some (.int .i64 y)) :
    Calls Try.prog 100 #[.slice (some ⟨b, o, none⟩) n c, .int .i64 i, .int .i64 j] w fun e w' => e = .returned (.bool (decide (x < y))) ∧ ∃ k, w' = w.drewN k := by
  unfold maxLen at hn
  have hi' : (i : Int) < n := by omega
  have hj' : (j : Int) < n := by omega
  have hi0 : (0 : Int) ≤ i := by omega
  have hj0 : (0 : Int) ≤ j := by omega
  go_enter Try.func100, Try.ntmps100
  go_wp2
  go_quiet (fail)
  go_wp2
  go_ret
  exact ⟨rfl, _, rfl⟩

theorem swap_any (b o n c i j : Nat) (x y : Int) (w : World) (hn : n ≤ maxLen) (hi : i < n) (hj : j < n) (hx : w.cell? ⟨b, o + i, none⟩ = some (.int .i64 x)) (hy : w.cell? ⟨b, o + j, none⟩ = some (.int .i64 y))
    (hf : ∀ k, w.frozen? ⟨b, k, none⟩ = false) :
    Calls Try.prog 103 #[.slice (some ⟨b, o, none⟩) n c, .int .i64 i, .int .i64 j] w fun e w' => e = .returned (.tuple #[]) ∧ w'.Alike ((w.setCell ⟨b, o + i, none⟩ (.int .i64 y)).setCell ⟨b, o + j, none⟩ (.int .i64 x)) ∧ w'.tape = w.tape := by
  unfold maxLen at hn
  have hi' : (i : Int) < n := by omega
  have hj' : (j : Int) < n := by omega
  have hi0 : (0 : Int) ≤ i := by omega
  have hj0 : (0 : Int) ≤ j := by omega
  obtain ⟨v', hy'⟩ := cell?_setCell_some (w := w) (p := ⟨b, o + i, none⟩) (x := .int .i64 y) (q := ⟨b, o + j, none⟩) (v := .int .i64 y) (by go_simp)
  go_enter Try.func103, Try.ntmps103
  go_region
  all_goals (go_end0; exact ⟨rfl, ⟨rfl, rfl, rfl⟩, rfl⟩)


/-! Calls by the heap's interface: the dynamic type is a pointer to places. -/
theorem nil_len (F : Nat) (a : Addr) (w : World) : (nilAhead (F + 1) 125 (.pointer (some a)) "Len").run Try.prog w = .ok (some false) w := by kernel_rfl
theorem nil_less (F : Nat) (a : Addr) (w : World) : (nilAhead (F + 1) 125 (.pointer (some a)) "Less").run Try.prog w = .ok (some false) w := by kernel_rfl
theorem nil_swap (F : Nat) (a : Addr) (w : World) : (nilAhead (F + 1) 125 (.pointer (some a)) "Swap").run Try.prog w = .ok (some false) w := by kernel_rfl
theorem nil_push (F : Nat) (a : Addr) (w : World) : (nilAhead (F + 1) 125 (.pointer (some a)) "Push").run Try.prog w = .ok (some false) w := by kernel_rfl
theorem nil_pop (F : Nat) (a : Addr) (w : World) : (nilAhead (F + 1) 125 (.pointer (some a)) "Pop").run Try.prog w = .ok (some false) w := by kernel_rfl
theorem meth_push (F : Nat) (a : Addr) (w : World) : (method (F + 1) 125 (.pointer (some a)) "Push").run Try.prog w = .ok (102, .pointer (some a)) w := by kernel_rfl
theorem meth_pop (F : Nat) (a : Addr) (w : World) : (method (F + 1) 125 (.pointer (some a)) "Pop").run Try.prog w = .ok (101, .pointer (some a)) w := by kernel_rfl
theorem meth_len0 (F : Nat) (a : Addr) (w : World) : (method (F + 1) 125 (.pointer (some a)) "Len").run Try.prog w = ((loadVar 126 a).bind fun v => pure (79, v)).run Try.prog w := by kernel_rfl
theorem meth_less0 (F : Nat) (a : Addr) (w : World) : (method (F + 1) 125 (.pointer (some a)) "Less").run Try.prog w = ((loadVar 126 a).bind fun v => pure (100, v)).run Try.prog w := by kernel_rfl
theorem meth_swap0 (F : Nat) (a : Addr) (w : World) : (method (F + 1) 125 (.pointer (some a)) "Swap").run Try.prog w = ((loadVar 126 a).bind fun v => pure (103, v)).run Try.prog w := by kernel_rfl
theorem load_places (N : Nat) (v : Value) (w : World) (f : FuncId) (h : w.cell? ⟨N, 0, none⟩ = some v) : ((loadVar 126 ⟨N, 0, none⟩).bind fun v => pure (f, v)).run Try.prog w = .ok (f, v) w := by
  have e : ((loadVar 126 ⟨N, 0, none⟩).bind fun v => pure (f, v)).run Try.prog w = ((Sem.load .plain ⟨N, 0, none⟩ fun v => .pure v).bind fun v => pure (f, v)).run Try.prog w := by kernel_rfl
  rw [e]
  simp [Sem.bind, Sem.run, h, pure]
theorem meth_len {N : Nat} {v : Value} {w : World} (h : w.cell? ⟨N, 0, none⟩ = some v) (F : Nat) : (method (F + 1) 125 (.pointer (some ⟨N, 0, none⟩)) "Len").run Try.prog w = .ok (79, v) w := by rw [meth_len0, load_places _ _ _ _ h]
theorem meth_less {N : Nat} {v : Value} {w : World} (h : w.cell? ⟨N, 0, none⟩ = some v) (F : Nat) : (method (F + 1) 125 (.pointer (some ⟨N, 0, none⟩)) "Less").run Try.prog w = .ok (100, v) w := by rw [meth_less0, load_places _ _ _ _ h]
theorem meth_swap {N : Nat} {v : Value} {w : World} (h : w.cell? ⟨N, 0, none⟩ = some v) (F : Nat) : (method (F + 1) 125 (.pointer (some ⟨N, 0, none⟩)) "Swap").run Try.prog w = .ok (103, v) w := by rw [meth_swap0, load_places _ _ _ _ h]

/-- What a call on the heap may have turned: its cell, and its row. -/
def Own2 (N : Nat) (v : Value) : Nat → Prop := fun k => k = N ∨ v.ownBlock = some k

/-- The new row lies where the old one lay, or in a new block. -/
def Lies (w : World) (v v' : Value) : Prop := v'.ownBlock = v.ownBlock ∨ ∃ g, v'.ownBlock = some g ∧ w.heap.size ≤ g

theorem assert_int (x : Int) (w : World) : (Instr.typeAssert (.iface 3 (.int .i64 x)) 20 3 false).run Try.prog w = .ok (.int .i64 x) w := by kernel_rfl

def PushPost (w : World) (N base : Nat) (v : Value) (ys : List Int) (e : Ending) (w' : World) : Prop :=
  ∃ v', e = .returned (.tuple #[]) ∧ PlAt w' N base v' ys ∧ Mod (Own2 N v) w w' ∧ Lies w v v'

theorem push_post {w w1 : World} {N base g cap : Nat} {v : Value} {xs : List Int} {x : Int} (h : PlAt w N base v xs) (o : Obj)
    (hown1 : w1.ownsRow base 3 1 (.slice (some ⟨g, 0, none⟩) (xs.length + 1) cap) (xs.length + 1) (iv xs ++ [.int .i64 x])) (hgrow : (w.alloc o).drew.grownBy w1 v.ownBlock)
    (hat : v.ownBlock = some g ∨ g = w.heap.size + 1) : PushPost w N base v (xs ++ [x]) (.returned (.tuple #[])) (w1.setCell ⟨N, 0, none⟩ (.slice (some ⟨g, 0, none⟩) (xs.length + 1) cap)) := by
  have hN := h.cell.lt
  have hg : g ≠ N := by
    rcases hat with hat | rfl
    · intro e
      exact h.apart (e ▸ hat)
    · omega
  have m1 : Mod (Own2 N v) w w1 := by
    refine ((Mod.alloc _ w o).trans (Mod.drew (fun _ => False) _) (fun _ _ h => h.elim)).trans (Mod.of_grown hgrow) fun i _ hi => .inr hi
  have c1 : Cell1 w1 N 126 v := by
    exact ((h.cell.mod (Mod.alloc (fun _ => False) w o) (fun h => h)).mod (Mod.drew (fun _ => False) _) (fun h => h)).mod (Mod.of_grown hgrow) fun e => h.apart e
  refine ⟨_, rfl, ⟨c1.set _, ?_, ?_⟩, m1.trans (Mod.setCell _ _ _) fun i _ hi => .inl hi, ?_⟩
  · have := ownsRow_mod hown1 (Mod.setCell w1 ⟨N, 0, none⟩ (.slice (some ⟨g, 0, none⟩) (xs.length + 1) cap)) (fun k hk => by
      simp [Value.ownBlock] at hk
      subst hk
      exact hg)
    simpa [iv] using this
  · simp [Value.ownBlock]
    exact hg
  · rcases hat with hat | rfl
    · exact .inl (by rw [hat]; rfl)
    · exact .inr ⟨w.heap.size + 1, rfl, by omega⟩

set_option maxHeartbeats 1000000 in
theorem push_any (w : World) (N base : Nat) (v : Value) (xs : List Int) (x : Int) (h : PlAt w N base v xs) (hn : xs.length ≤ 100000) (hbase : base ≤ w.heap.size) :
    Calls Try.prog 102 #[.pointer (some ⟨N, 0, none⟩), .iface 3 (.int .i64 x)] w (PushPost w N base v (xs ++ [x])) := by
  obtain ⟨i0, hi0, hz0, hz1, hz2⟩ := info_parts info_int
  have hc := h.cell.cell
  have hN := h.cell.lt
  have hP := fun (w1 : World) (g cap : Nat) (o : Obj) => push_post (w1 := w1) (g := g) (cap := cap) (x := x) h o
  have HP := Lib.hid hP
  clear hP
  have hh := Lib.hid h
  have hown := h.own
  have hap := Lib.hid h.apart
  clear h
  go_enter Try.func102, Try.ntmps102
  have hfz := hh.out.cell.frozen
  have has := assert_int
  have hst := fun (w1 : World) (o : Obj) (hgrow : (w.alloc o).drew.grownBy w1 v.ownBlock) => And.intro (hgrow.cell (a := ⟨N, 0, none⟩) (v := v) (by go_simp) (fun e => hap.out e.symm)) ((hgrow.frozen_far ⟨N, 0, none⟩ (by simp only [World.size_drew, World.size_alloc]; omega) (fun e => hap.out e.symm)).trans (by rw [World.frozen?_drew, World.frozen?_alloc_old (h := Nat.ne_of_lt hN)]))
  have Hst := Lib.hid hst
  clear hst
  go_region_law
    ((refine step_append_lies _ (by rfl) _ _ _ (by rfl) base 3 i0 _ 1 8 Try.underlying126 hi0 hz0 hz1 hz2 rfl (by omega) v xs.length (iv xs) (by rfl) ((hown.alloc _).drew)
        ⟨w.heap.size, 0, none⟩ 1 1 [.int .i64 x] (by rfl) (by rfl) (World.news_of_block (cs := #[.int .i64 x]) (t := 3) (fr := (0, 0)) (heap_alloc_new w _)) (by simp [Value.oneCell'])
        (by omega) (by unfold maxLen; omega) (by omega) (by simp; omega) (w.heap.size + 1) (by simp) ?_; intro g cap w1 hown1 hgrow hat hlt; obtain ⟨hc1, hf1⟩ := Hst.out _ _ hgrow))
  all_goals
    go_end0
    exact HP.out _ _ _ _ hown1 hgrow hat

end Go.Proofs.Ytpbmfalokongfaa

/- The heap of places: up, down, Push and Pop. -/
namespace Go.Proofs.Ytpbmfalokongfaa
open Go.RowKit Go.Gou

/-- Behind a swap: the same row, two of its numbers in each other's place. -/
theorem swap_perm (xs : List Int) (i j : Nat) (hi : i < xs.length) (hj : j < xs.length) : ((xs.set i (xs.getD j 0)).set j (xs.getD i 0)).Perm xs := by
  have ei : xs.getD i 0 = xs[i] := by simp [List.getD, hi]
  have ej : xs.getD j 0 = xs[j] := by simp [List.getD, hj]
  rw [ei, ej]
  rw [List.perm_iff_count]
  intro a
  rw [List.count_set (by simpa using hj), List.count_set hi]
  by_cases e : i = j
  · subst e
    simp
    have : xs[i] = a → 0 < xs.count a := fun h => List.count_pos_iff.2 (h ▸ List.getElem_mem hi)
    split <;> simp_all <;> omega
  · rw [List.getElem_set_ne e]
    have h1 : xs[i] = a → 0 < xs.count a := fun h => List.count_pos_iff.2 (h ▸ List.getElem_mem hi)
    have h2 : xs[j] = a → 0 < xs.count a := fun h => List.count_pos_iff.2 (h ▸ List.getElem_mem hj)
    by_cases ha : xs[i] = a <;> by_cases hb : xs[j] = a <;> simp [ha, hb] <;> first | (have := h1 ha; omega) | (have := h2 hb; omega) | omega

def UpPost (w : World) (N base : Nat) (v : Value) (xs : List Int) (w' : World) : Prop :=
  ∃ ys : List Int, ys.Perm xs ∧ PlAt w' N base v ys ∧ Mod (fun k => v.ownBlock = some k) w w'

theorem iv_set (xs : List Int) (i : Nat) (x : Int) : iv (xs.set i x) = (iv xs).set i (.int .i64 x) := by simp [iv, List.map_set]

theorem pl_swap {w w' : World} {N base g cap : Nat} {xs : List Int} (h : PlAt w N base (.slice (some ⟨g, 0, none⟩) xs.length cap) xs) (i j : Nat) (hi : i < xs.length) (hj : j < xs.length)
    (ha : w'.Alike ((w.setCell ⟨g, i, none⟩ (.int .i64 (xs.getD j 0))).setCell ⟨g, j, none⟩ (.int .i64 (xs.getD i 0)))) (ht : w'.tape = w.tape) :
    UpPost w N base (.slice (some ⟨g, 0, none⟩) xs.length cap) xs w' := by
  have hg : g ≠ N := fun e => h.apart (by rw [e]; rfl)
  obtain ⟨s1, _⟩ := h.own.stored i (.int .i64 (xs.getD j 0))
  obtain ⟨s2, _⟩ := s1.stored j (.int .i64 (xs.getD i 0))
  have hm : Mod (fun k => (Value.slice (some ⟨g, 0, none⟩) xs.length cap).ownBlock = some k) w ((w.setCell ⟨g, i, none⟩ (.int .i64 (xs.getD j 0))).setCell ⟨g, j, none⟩ (.int .i64 (xs.getD i 0))) :=
    ((Mod.setCell w ⟨g, i, none⟩ _).imp (fun k _ hk => by subst hk; rfl)).trans (Mod.setCell _ _ _) (fun k _ hk => by subst hk; rfl)
  have hal : Mod (fun _ => False) ((w.setCell ⟨g, i, none⟩ (.int .i64 (xs.getD j 0))).setCell ⟨g, j, none⟩ (.int .i64 (xs.getD i 0))) w' := by
    exact Mod.of_alike ha ht
  refine ⟨_, swap_perm xs i j hi hj, ⟨?_, ?_, h.apart⟩, hm.trans hal fun _ _ h => h.elim⟩
  · exact (h.cell.mod hm (fun e => h.apart e)).mod hal (fun h => h)
  · have := ownsRow_mod s2 hal (fun _ _ h => h)
    simpa [iv_set] using this

theorem PlAt.drewN {w : World} {N base : Nat} {v : Value} {xs : List Int} (h : PlAt w N base v xs) (k : Nat) : PlAt (w.drewN k) N base v xs :=
  ⟨h.cell.mod (Mod.drewN (fun _ => False) w k) (fun h => h), ownsRow_mod h.own (Mod.drewN (fun _ => False) w k) (fun _ _ h => h), h.apart⟩

theorem UpPost.trans {w w1 w2 : World} {N base : Nat} {v : Value} {xs ys : List Int} (h1 : UpPost w N base v xs w1) (h2 : UpPost w1 N base v ys w2) (hp : ys.Perm xs) : UpPost w N base v xs w2 := by
  obtain ⟨_, _, _, hm1⟩ := h1
  obtain ⟨zs, hp2, hpl2, hm2⟩ := h2
  exact ⟨zs, hp2.trans hp, hpl2, hm1.trans' hm2⟩

theorem UpPost.drewN {w w' : World} {N base : Nat} {v : Value} {xs : List Int} (h : UpPost w N base v xs w') (k : Nat) : UpPost w N base v xs (w'.drewN k) := by
  obtain ⟨ys, hp, hpl, hm⟩ := h
  exact ⟨ys, hp, hpl.drewN k, hm.trans (Mod.drewN (fun _ => False) w' k) fun _ _ h => h.elim⟩

set_option maxHeartbeats 1000000 in
theorem up_any (w : World) (N base : Nat) (v : Value) (xs : List Int) (j : Nat) (h : PlAt w N base v xs) (hj : j < xs.length) (hn : xs.length ≤ 100000) :
    Calls Try.prog 82 #[.iface 125 (.pointer (some ⟨N, 0, none⟩)), .int .i64 j] w fun e w' => e = .returned (.tuple #[]) ∧ UpPost w N base v xs w' := by
  have hn0 : 0 < xs.length := by omega
  obtain ⟨g, cap, rfl, hbg, hgw⟩ := h.own.form hn0
  have hh := Lib.hid h
  clear h
  go_enter Try.func82, Try.ntmps82
  go_wp2
  go_loopw [1] (fun jv wr => ∃ j' : Nat, jv = .int .i64 j' ∧ j' < xs.length ∧ UpPost w N base (.slice (some ⟨g, 0, none⟩) xs.length cap) xs wr) (fun jv _ => (intOf jv).toNat)
  case atStart => exact ⟨j, rfl, hj, xs, List.Perm.refl _, hh.out, Mod.refl _ _⟩
  case round =>
    obtain ⟨j', rfl, hj', ys, hp, hpl, hmod⟩ := hrel
    have hlen : ys.length = xs.length := hp.length_eq
    have Hpl := Lib.hid hpl
    have hc := hpl.cell.cell
    have hmet := meth_less hc
    have hmes := fun (k F : Nat) => meth_swap (w := wr.drewN k) (N := N) (v := .slice (some ⟨g, 0, none⟩) xs.length cap) hc F
    have hnl := nil_less
    have hns := nil_swap
    clear hpl
    have hup : UpPost w N base (.slice (some ⟨g, 0, none⟩) xs.length cap) xs wr := ⟨ys, hp, Hpl.out, hmod⟩
    have Hup := Lib.hid hup
    clear hup
    by_cases h0 : j' = 0
    · subst h0
      go_wp2_with fail
      go_end0
      exact ⟨rfl, Hup.out⟩
    · obtain ⟨i, hi, hij⟩ : ∃ i : Nat, ((j' : Int) - 1) / 2 = i ∧ i < j' := ⟨(j' - 1) / 2, by omega, by omega⟩
      have hne : ((i : Int) == (j' : Int)) = false := by simp; omega
      have hown : wr.ownsRow base 3 1 (.slice (some ⟨g, 0, none⟩) xs.length cap) xs.length (iv ys) := by have := Hpl.out.own; rwa [hlen] at this
      have ci := hown.cellAt i (by omega)
      have cj := hown.cellAt j' (by omega)
      have ei : (iv ys)[i]? = some (.int .i64 (ys.getD i 0)) := by simp [iv, List.getD, show i < ys.length by omega]
      have ej : (iv ys)[j']? = some (.int .i64 (ys.getD j' 0)) := by simp [iv, List.getD, show j' < ys.length by omega]
      rw [ei] at ci
      rw [ej] at cj
      clear ei ej
      have hsw := fun (k : Nat) (w' : World) (ha : w'.Alike (((wr.drewN k).setCell ⟨g, i, none⟩ (.int .i64 (ys.getD j' 0))).setCell ⟨g, j', none⟩ (.int .i64 (ys.getD i 0)))) (ht : w'.tape = (wr.drewN k).tape) =>
        pl_swap (w := wr.drewN k) (xs := ys) (g := g) (cap := cap) (by rw [hlen]; exact Hpl.out.drewN k) i j' (by omega) (by omega) ha ht
      have Hsw := Lib.hid hsw
      clear hsw
      generalize ys.getD i 0 = x at *
      generalize ys.getD j' 0 = y at *
      have hmax : xs.length ≤ maxLen := by unfold maxLen; omega
      have hfr : ∀ k, wr.frozen? ⟨g, k, none⟩ = false := fun k => hown.frozenAt k
      cases hlt : decide (y < x) with
      | false =>
        go_wp2_with fail
        refine (less_any g 0 xs.length cap j' i y x wr hmax (by omega) (by omega) (by rw [Nat.zero_add]; exact cj) (by rw [Nat.zero_add]; exact ci)).mono ?_
        rintro e w1 ⟨rfl, k, rfl⟩
        rw [hlt]
        go_wp2_with fail
        go_end0
        exact ⟨rfl, Hup.out.drewN k⟩
      | true =>
        go_wp2_with fail
        refine (less_any g 0 xs.length cap j' i y x wr hmax (by omega) (by omega) (by rw [Nat.zero_add]; exact cj) (by rw [Nat.zero_add]; exact ci)).mono ?_
        rintro e w1 ⟨rfl, k, rfl⟩
        rw [hlt]
        go_wp2_with fail
        refine (swap_any g 0 xs.length cap i j' x y (wr.drewN k) hmax (by omega) (by omega) (by rw [Nat.zero_add]; exact ci) (by rw [Nat.zero_add]; exact cj) hfr).mono ?_
        rintro e w2 ⟨rfl, ha, ht⟩
        simp only [Nat.zero_add] at ha
        have h2 := Hsw.out _ _ ha ht
        go_wp2_with fail
        go_roundw
        case rel => exact ⟨i, rfl, by omega, UpPost.trans (Hup.out.drewN k) (by rw [hlen] at h2; exact h2) hp⟩
        case measure => simp [intOf]; omega

end Go.Proofs.Ytpbmfalokongfaa

/- The heap of places: down, Push and Pop (written by gen_heapc.py). -/
namespace Go.Proofs.Ytpbmfalokongfaa
open Go.RowKit Go.Gou

theorem drewN_drewN (w : World) (a b : Nat) : (w.drewN a).drewN b = w.drewN (a + b) := by
  simp [World.drewN, Nat.add_assoc]

def DownPost (w : World) (N base : Nat) (v : Value) (xs : List Int) (e : Ending) (w' : World) : Prop := ∃ b : Bool, e = .returned (.bool b) ∧ UpPost w N base v xs w'

theorem pl_swap' {w w' : World} {N base g cap n : Nat} {xs ys : List Int} (hlen : ys.length = xs.length) (h : PlAt w N base (.slice (some ⟨g, 0, none⟩) xs.length cap) ys) (k i j : Nat) (hi : i < ys.length) (hj : j < ys.length)
    (ha : w'.Alike (((w.drewN k).setCell ⟨g, i, none⟩ (.int .i64 (ys.getD j 0))).setCell ⟨g, j, none⟩ (.int .i64 (ys.getD i 0)))) (ht : w'.tape = (w.drewN k).tape) :
    UpPost (w.drewN k) N base (.slice (some ⟨g, 0, none⟩) ys.length cap) ys w' :=
  pl_swap (w := w.drewN k) (xs := ys) (g := g) (cap := cap) (by rw [hlen]; exact h.drewN k) i j hi hj ha ht

set_option maxHeartbeats 2000000 in
theorem down_any (w : World) (N base : Nat) (v : Value) (xs : List Int) (n : Nat) (h : PlAt w N base v xs) (hnx : n ≤ xs.length) (hx0 : 0 < xs.length) (hn : xs.length ≤ 100000) :
    Calls Try.prog 83 #[.iface 125 (.pointer (some ⟨N, 0, none⟩)), .int .i64 0, .int .i64 n] w (DownPost w N base v xs) := by
  obtain ⟨g, cap, rfl, hbg, hgw⟩ := h.own.form hx0
  have hh := Lib.hid h
  clear h
  go_enter Try.func83, Try.ntmps83
  go_wp2
  go_loopw [7] (fun iv wr => ∃ i : Nat, iv = .int .i64 i ∧ i < xs.length ∧ UpPost w N base (.slice (some ⟨g, 0, none⟩) xs.length cap) xs wr) (fun iv _ => xs.length - (intOf iv).toNat)
  case atStart => exact ⟨0, rfl, hx0, xs, List.Perm.refl _, hh.out, Mod.refl _ _⟩
  case round =>
    obtain ⟨i, rfl, hix, ys, hp, hpl, hmod⟩ := hrel
    have hlen : ys.length = xs.length := hp.length_eq
    have Hpl := Lib.hid hpl
    have hc := hpl.cell.cell
    have hmet := fun (F : Nat) => meth_less (w := wr) (N := N) (v := .slice (some ⟨g, 0, none⟩) xs.length cap) hc F
    have hmetk := fun (k F : Nat) => meth_less (w := wr.drewN k) (N := N) (v := .slice (some ⟨g, 0, none⟩) xs.length cap) hc F
    have hmes := fun (k F : Nat) => meth_swap (w := wr.drewN k) (N := N) (v := .slice (some ⟨g, 0, none⟩) xs.length cap) hc F
    have hnl := nil_less
    have hns := nil_swap
    clear hpl
    have hup : UpPost w N base (.slice (some ⟨g, 0, none⟩) xs.length cap) xs wr := ⟨ys, hp, Hpl.out, hmod⟩
    have Hup := Lib.hid hup
    clear hup
    by_cases hb : n ≤ 2 * i + 1
    · go_wp2_with fail
      go_ret
      exact ⟨_, rfl, Hup.out⟩
    · have hj1 : 2 * i + 1 < n := by omega
      clear hb
      have hown : wr.ownsRow base 3 1 (.slice (some ⟨g, 0, none⟩) xs.length cap) xs.length (iv ys) := by have := Hpl.out.own; rwa [hlen] at this
      have ci := hown.cellAt i (by omega)
      have c1 := hown.cellAt (2 * i + 1) (by omega)
      have ei : (iv ys)[i]? = some (.int .i64 (ys.getD i 0)) := by simp [iv, List.getD, show i < ys.length by omega]
      have e1 : (iv ys)[2 * i + 1]? = some (.int .i64 (ys.getD (2 * i + 1) 0)) := by simp [iv, List.getD, show 2 * i + 1 < ys.length by omega]
      rw [ei] at ci
      rw [e1] at c1
      clear ei e1
      have hsw1 := fun (k : Nat) (w' : World) ha ht => pl_swap' (w := wr) (w' := w') (n := n) hlen Hpl.out k i (2 * i + 1) (by omega) (by omega) ha ht
      have Hsw1 := Lib.hid hsw1
      clear hsw1
      have hmax : xs.length ≤ maxLen := by unfold maxLen; omega
      have hfr : ∀ k, wr.frozen? ⟨g, k, none⟩ = false := fun k => hown.frozenAt k
      obtain ⟨j1, hj1e⟩ : ∃ j1 : Nat, j1 = 2 * i + 1 := ⟨_, rfl⟩
      have hji : (2 * (i : Int) + 1) = (j1 : Int) := by omega
      have hjn : ¬ ((n : Int) ≤ (j1 : Int)) := by omega
      have hjp : ¬ ((j1 : Int) < 0) := by omega
      have hjb : i < j1 ∧ j1 < n := by omega
      obtain ⟨j2, hj2e, hj2b⟩ : ∃ j2 : Nat, ((j1 : Int) + 1) = j2 ∧ j2 = j1 + 1 := ⟨j1 + 1, by omega, rfl⟩
      rw [← hj1e] at c1 Hsw1
      have Hj1e := Lib.hid hj1e
      clear hj1e hj1
      obtain ⟨hb1, hb2⟩ := hjb
      by_cases h2 : j2 < n
      · have c2 := hown.cellAt j2 (by omega)
        have e2 : (iv ys)[j2]? = some (.int .i64 (ys.getD j2 0)) := by simp [iv, List.getD, show j2 < ys.length by omega]
        rw [e2] at c2
        clear e2
        have hsw2 := fun (k : Nat) (w' : World) ha ht => pl_swap' (w := wr) (w' := w') (n := n) hlen Hpl.out k i j2 (by omega) (by omega) ha ht
        have Hsw2 := Lib.hid hsw2
        clear hsw2
        have hb3 : i < j2 := by omega
        have Hj2b := Lib.hid hj2b
        clear hj2b
        generalize ys.getD i 0 = x at *
        generalize ys.getD j1 0 = y at *
        generalize ys.getD j2 0 = z at *
        cases hlt : decide (z < y) with
        | true =>
          go_wp2_with fail
          refine (less_any g 0 xs.length cap j2 j1 z y wr hmax (by omega) (by omega) (by rw [Nat.zero_add]; exact c2) (by rw [Nat.zero_add]; exact c1)).mono ?_
          rintro e w1 ⟨rfl, k1, rfl⟩
          rw [hlt]
          clear hlt
          have hjl : j2 < n := by omega
          have hij : i < j2 := by omega
          cases hlt2 : decide (z < x) with
          | false =>
            go_wp2_with fail
            refine (less_any g 0 xs.length cap j2 i z x (wr.drewN k1) hmax (by omega) (by omega) (by rw [Nat.zero_add]; exact c2) (by rw [Nat.zero_add]; exact ci)).mono ?_
            rintro e w1 ⟨rfl, k2, rfl⟩
            rw [hlt2]
            try rw [drewN_drewN]
            go_wp2_with fail
            go_ret
            exact ⟨_, rfl, (Hup.out.drewN (k1 + k2))⟩
          | true =>
            go_wp2_with fail
            refine (less_any g 0 xs.length cap j2 i z x (wr.drewN k1) hmax (by omega) (by omega) (by rw [Nat.zero_add]; exact c2) (by rw [Nat.zero_add]; exact ci)).mono ?_
            rintro e w1 ⟨rfl, k2, rfl⟩
            rw [hlt2]
            try rw [drewN_drewN]
            go_wp2_with fail
            refine (swap_any g 0 xs.length cap i j2 x z (wr.drewN (k1 + k2)) hmax (by omega) (by omega) (by rw [Nat.zero_add]; exact ci) (by rw [Nat.zero_add]; exact c2) hfr).mono ?_
            rintro e w2 ⟨rfl, ha, ht⟩
            simp only [Nat.zero_add] at ha
            have h2 := Hsw2.out _ _ ha ht
            go_wp2_with fail
            go_roundw
            case rel => exact ⟨j2, by first | rfl | (congr 1; omega) | (push_cast; rfl), by omega, UpPost.trans ((Hup.out.drewN (k1 + k2))) (by rw [hlen] at h2; exact h2) hp⟩
            case measure => simp [intOf]; omega
        | false =>
          go_wp2_with fail
          refine (less_any g 0 xs.length cap j2 j1 z y wr hmax (by omega) (by omega) (by rw [Nat.zero_add]; exact c2) (by rw [Nat.zero_add]; exact c1)).mono ?_
          rintro e w1 ⟨rfl, k1, rfl⟩
          rw [hlt]
          clear hlt
          have hjl : j1 < n := by omega
          have hij : i < j1 := by omega
          cases hlt2 : decide (y < x) with
          | false =>
            go_wp2_with fail
            refine (less_any g 0 xs.length cap j1 i y x (wr.drewN k1) hmax (by omega) (by omega) (by rw [Nat.zero_add]; exact c1) (by rw [Nat.zero_add]; exact ci)).mono ?_
            rintro e w1 ⟨rfl, k2, rfl⟩
            rw [hlt2]
            try rw [drewN_drewN]
            go_wp2_with fail
            go_ret
            exact ⟨_, rfl, (Hup.out.drewN (k1 + k2))⟩
          | true =>
            go_wp2_with fail
            refine (less_any g 0 xs.length cap j1 i y x (wr.drewN k1) hmax (by omega) (by omega) (by rw [Nat.zero_add]; exact c1) (by rw [Nat.zero_add]; exact ci)).mono ?_
            rintro e w1 ⟨rfl, k2, rfl⟩
            rw [hlt2]
            try rw [drewN_drewN]
            go_wp2_with fail
            refine (swap_any g 0 xs.length cap i j1 x y (wr.drewN (k1 + k2)) hmax (by omega) (by omega) (by rw [Nat.zero_add]; exact ci) (by rw [Nat.zero_add]; exact c1) hfr).mono ?_
            rintro e w2 ⟨rfl, ha, ht⟩
            simp only [Nat.zero_add] at ha
            have h2 := Hsw1.out _ _ ha ht
            go_wp2_with fail
            go_roundw
            case rel => exact ⟨j1, by first | rfl | (congr 1; omega) | (push_cast; rfl), by omega, UpPost.trans ((Hup.out.drewN (k1 + k2))) (by rw [hlen] at h2; exact h2) hp⟩
            case measure => simp [intOf]; omega
      · have Hj2b := Lib.hid hj2b
        clear hj2b
        generalize ys.getD i 0 = x at *
        generalize ys.getD j1 0 = y at *
        have hjl : j1 < n := by omega
        have hij : i < j1 := by omega
        cases hlt2 : decide (y < x) with
        | false =>
          go_wp2_with fail
          refine (less_any g 0 xs.length cap j1 i y x (wr) hmax (by omega) (by omega) (by rw [Nat.zero_add]; exact c1) (by rw [Nat.zero_add]; exact ci)).mono ?_
          rintro e w1 ⟨rfl, k2, rfl⟩
          rw [hlt2]
          try rw [drewN_drewN]
          go_wp2_with fail
          go_ret
          exact ⟨_, rfl, (Hup.out.drewN k2)⟩
        | true =>
          go_wp2_with fail
          refine (less_any g 0 xs.length cap j1 i y x (wr) hmax (by omega) (by omega) (by rw [Nat.zero_add]; exact c1) (by rw [Nat.zero_add]; exact ci)).mono ?_
          rintro e w1 ⟨rfl, k2, rfl⟩
          rw [hlt2]
          try rw [drewN_drewN]
          go_wp2_with fail
          refine (swap_any g 0 xs.length cap i j1 x y (wr.drewN k2) hmax (by omega) (by omega) (by rw [Nat.zero_add]; exact ci) (by rw [Nat.zero_add]; exact c1) hfr).mono ?_
          rintro e w2 ⟨rfl, ha, ht⟩
          simp only [Nat.zero_add] at ha
          have h2 := Hsw1.out _ _ ha ht
          go_wp2_with fail
          go_roundw
          case rel => exact ⟨j1, by first | rfl | (congr 1; omega) | (push_cast; rfl), by omega, UpPost.trans ((Hup.out.drewN k2)) (by rw [hlen] at h2; exact h2) hp⟩
          case measure => simp [intOf]; omega

end Go.Proofs.Ytpbmfalokongfaa

/- The heap of places: Push and Pop, whole. -/
namespace Go.Proofs.Ytpbmfalokongfaa
open Go.RowKit Go.Gou

def HPushPost (w : World) (N base : Nat) (v : Value) (x : Int) (xs : List Int) (e : Ending) (w' : World) : Prop :=
  ∃ v' ys, e = .returned (.tuple #[]) ∧ ys.Perm (x :: xs) ∧ PlAt w' N base v' ys ∧ Mod (Own2 N v) w w' ∧ Lies w v v'

set_option maxHeartbeats 1000000 in
theorem heap_push (w : World) (N base : Nat) (v : Value) (xs : List Int) (x : Int) (h : PlAt w N base v xs) (hn : xs.length ≤ 90000) (hbase : base ≤ w.heap.size) :
    Calls Try.prog 77 #[.iface 125 (.pointer (some ⟨N, 0, none⟩)), .iface 3 (.int .i64 x)] w (HPushPost w N base v x xs) := by
  have hnp := nil_push
  have hmp := meth_push
  have hnl := nil_len
  go_enter Try.func77, Try.ntmps77
  go_wp2_with fail
  refine (push_any w N base v xs x h (by omega) hbase).mono ?_
  rintro e w1 ⟨v1, rfl, hpl, hmod, hlies⟩
  have hc1 := hpl.cell.cell
  have hml := fun (F : Nat) => meth_len hc1 F
  obtain ⟨g, cap, rfl, _, _⟩ := hpl.own.form (by simp)
  have hln : (xs ++ [x]).length = xs.length + 1 := by simp
  have hmax : (xs ++ [x]).length ≤ maxLen := by unfold maxLen; simp; omega
  rw [hln] at hml hc1
  have Hpl := Lib.hid hpl
  clear hpl
  clear hln
  go_wp2_with fail
  refine (len_any (some ⟨g, 0, none⟩) (xs.length + 1) cap w1 (by simpa using hmax)).mono ?_
  rintro e w2 ⟨rfl, rfl⟩
  go_wp2_with fail
  have hu := up_any w1 N base _ (xs ++ [x]) xs.length Hpl.out (by simp) (by simp; omega)
  refine hu.mono ?_
  rintro e w2 ⟨rfl, ys, hp, hpl2, hm2⟩
  have hpp : ys.Perm (x :: xs) := hp.trans (List.perm_append_singleton _ _)
  have hfin : HPushPost w N base v x xs (.returned (.tuple #[])) w2 := by
    refine ⟨_, ys, rfl, hpp, hpl2, hmod.trans hm2 ?_, hlies⟩
    intro k hk hown
    rcases hlies with hl | ⟨g', hl, hge⟩
    · exact .inr (hl ▸ hown)
    · rw [hl] at hown
      obtain rfl := Option.some.inj hown
      omega
  have Hfin := Lib.hid hfin
  clear hfin
  go_wp2_with fail
  go_end0
  exact Hfin.out

def PopPost (w : World) (N base : Nat) (v : Value) (x : Int) (ys : List Int) (e : Ending) (w' : World) : Prop :=
  ∃ v', e = .returned (.iface 3 (.int .i64 x)) ∧ PlAt w' N base v' ys ∧ Mod (fun k => k = N) w w' ∧ v'.ownBlock = v.ownBlock

set_option maxHeartbeats 1000000 in
theorem pop_any (w : World) (N base : Nat) (v : Value) (ys : List Int) (x : Int) (h : PlAt w N base v (ys ++ [x])) (hn : ys.length ≤ 90000) :
    Calls Try.prog 101 #[.pointer (some ⟨N, 0, none⟩)] w (PopPost w N base v x ys) := by
  obtain ⟨g, cap, rfl, hbg, hgw⟩ := h.own.form (by simp)
  have hc := h.cell.cell
  have hf := h.cell.frozen
  have hlen : (ys ++ [x]).length = ys.length + 1 := by simp
  have hcap : ys.length ≤ cap := by have := ownsRow_cap h.own; omega
  have hcx := h.own.cellAt ys.length (by simp)
  have hex : (iv (ys ++ [x]))[ys.length]? = some (.int .i64 x) := by simp [iv]
  rw [hex] at hcx
  clear hex
  have Hh := Lib.hid h
  clear h
  have Hlen := Lib.hid hlen
  rw [hlen] at hc
  clear hlen
  go_enter Try.func101, Try.ntmps101
  go_wp2_with fail
  go_ret
  rw [Hlen.out]
  have hpl := Hh.out
  rw [Hlen.out] at hpl
  refine ⟨_, rfl, ⟨hpl.cell.set _, ?_, ?_⟩, Mod.setCell w ⟨N, 0, none⟩ _, rfl⟩
  · have hg : g ≠ N := fun e => hpl.apart (by rw [e]; rfl)
    have hown := ownsRow_pop (n := ys.length) (size := 1) (xs := iv ys) (last := [.int .i64 x]) (by simp [iv]) (by simpa [iv] using hpl.own)
    exact ownsRow_mod hown (Mod.setCell w ⟨N, 0, none⟩ _) (fun k hk => by
      simp [Value.ownBlock] at hk
      subst hk
      exact hg)
  · exact hpl.apart

def HPopPost (w : World) (N base : Nat) (v : Value) (xs : List Int) (e : Ending) (w' : World) : Prop :=
  ∃ v' x ys, e = .returned (.iface 3 (.int .i64 x)) ∧ xs.Perm (x :: ys) ∧ PlAt w' N base v' ys ∧ Mod (Own2 N v) w w' ∧ v'.ownBlock = v.ownBlock

set_option maxHeartbeats 1000000 in
theorem heap_pop (w : World) (N base : Nat) (v : Value) (xs : List Int) (h : PlAt w N base v xs) (hn : xs.length ≤ 90000) (h0 : 0 < xs.length) :
    Calls Try.prog 80 #[.iface 125 (.pointer (some ⟨N, 0, none⟩))] w (HPopPost w N base v xs) := by
  obtain ⟨g, cap, rfl, hbg, hgw⟩ := h.own.form h0
  have hc := h.cell.cell
  have hnl := nil_len
  have hns := nil_swap
  have hnp := nil_pop
  have hmp := meth_pop
  have hml := fun (F : Nat) => meth_len (w := w) (N := N) (v := .slice (some ⟨g, 0, none⟩) xs.length cap) hc F
  have hms := fun (F : Nat) => meth_swap (w := w) (N := N) (v := .slice (some ⟨g, 0, none⟩) xs.length cap) hc F
  have c0 := h.own.cellAt 0 (by omega)
  have c1 := h.own.cellAt (xs.length - 1) (by omega)
  have e0 : (iv xs)[0]? = some (.int .i64 (xs.getD 0 0)) := by simp [iv, List.getD, h0]
  have e1 : (iv xs)[xs.length - 1]? = some (.int .i64 (xs.getD (xs.length - 1) 0)) := by simp [iv, List.getD, show xs.length - 1 < xs.length by omega]
  rw [e0] at c0
  rw [e1] at c1
  clear e0 e1
  obtain ⟨m, hm, hmn⟩ : ∃ m : Nat, ((xs.length : Int) - 1) = m ∧ m = xs.length - 1 := ⟨xs.length - 1, by omega, rfl⟩
  rw [← hmn] at c1
  have Hmn := Lib.hid hmn
  clear hmn
  have hmax : xs.length ≤ maxLen := by unfold maxLen; omega
  have hfr : ∀ k, w.frozen? ⟨g, k, none⟩ = false := fun k => h.own.frozenAt k
  have Hh := Lib.hid h
  clear h
  have hmlt : m < xs.length := by have := Hmn.out; omega
  go_enter Try.func80, Try.ntmps80
  go_wp2_with fail
  refine (len_any (some ⟨g, 0, none⟩) xs.length cap w hmax).mono ?_
  rintro e w1 ⟨rfl, rfl⟩
  go_wp2_with fail
  refine (swap_any g 0 xs.length cap 0 m (xs.getD 0 0) (xs.getD m 0) w hmax h0 hmlt (by simpa using c0) (by simpa using c1) hfr).mono ?_
  rintro e w2 ⟨rfl, ha, ht⟩
  simp only [Nat.zero_add] at ha
  obtain ⟨ys, hp, hpl, hmod⟩ := pl_swap (w := w) (w' := w2) Hh.out 0 m h0 hmlt ha ht
  clear ha ht
  have hlen := hp.length_eq
  go_wp2_with fail
  refine (down_any w2 N base _ ys m hpl (by omega) (by omega) (by omega)).mono ?_
  rintro e w3 ⟨b, rfl, zs, hp3, hpl3, hmod3⟩
  have hlz : zs.length = xs.length := hp3.length_eq.trans hlen
  obtain ⟨us, x, rfl⟩ : ∃ us x, zs = us ++ [x] := by
    rcases List.eq_nil_or_concat zs with rfl | ⟨l, b, rfl⟩
    · simp at hlz; omega
    · exact ⟨l, b, by simp⟩
  go_wp2_with fail
  refine (pop_any w3 N base _ us x hpl3 (by simp at hlz; omega)).mono ?_
  rintro e w4 ⟨v4, rfl, hpl4, hmod4, hob⟩
  have hfin : HPopPost w N base (.slice (some ⟨g, 0, none⟩) xs.length cap) xs (.returned (.iface 3 (.int .i64 x))) w4 := by
    refine ⟨v4, x, us, rfl, ?_, hpl4, ?_, hob⟩
    · exact (hp.symm.trans hp3.symm).trans (List.perm_append_singleton _ _)
    · refine ((hmod.imp (fun k _ hk => .inr hk)).trans hmod3 (fun k _ hk => .inr hk)).trans hmod4 (fun k _ hk => .inl hk)
  have Hfin := Lib.hid hfin
  clear hfin
  go_wp2_with fail
  go_ret
  exact Hfin.out

end Go.Proofs.Ytpbmfalokongfaa

/- Plain words on memory: a map from ints to bools, made by the call, that says which ints are in a set. -/
namespace Go.Gou
open Go.RowKit Go.Maps Go.MapKept Go.WideShapes
open Go.WideElems (Fit rd rg pl)

def IntSet (P : Program) (k e : TypeId) (w : World) (b n : Nat) (S : List Int) : Prop :=
  ∃ D : DataW Unit, w.ownsMap P k (plainElem P e) b n D ∧ ∀ x, D.atKey (.int .i64 x) (.lit (.bool false)) = .lit (.bool (decide (x ∈ S)))

theorem IntSet.made (P : Program) (k e : TypeId) (w : World) : IntSet P k e (w.alloc (.map #[] 0)) w.heap.size 0 [] :=
  ⟨.map [], World.ownsMap_made w P k _, fun x => by simp [DataW.atKey]⟩

theorem keyOf_int {P : Program} {k : TypeId} (hk : P.underlying k = some (.int .i64)) {x : Int} (hx : (Lit.int .i64 x).wf = true) : keyOf P k (.int .i64 x) = some (.int .i64 x) := by
  exact keyOf_int_mk hk hx

theorem IntSet.look {P : Program} {k e t : TypeId} {w : World} {b n : Nat} {S : List Int} (h : IntSet P k e w b n S) (hk : P.underlying k = some (.int .i64)) (he : P.underlying e = some .bool)
    (ht : P.underlying t = some (.map k e)) (hz : (zeroValue e).run P w = .ok (.bool false) w) {x : Int} (hx : (Lit.int .i64 x).wf = true) :
    (Instr.lookup t (.map (some b)) (.int .i64 x) false).run P w = .ok (.bool (decide (x ∈ S))) w := by
  obtain ⟨D, hown, hat⟩ := h
  have hat := hat x
  obtain ⟨es, clock, hb, F, _, rfl⟩ := hown
  rcases Maps.fit_look false (int_keyed hk) ht hz hb F (keyOf_int hk hx) with ⟨hrun, _, ha⟩ | ⟨e0, y, _, _, hrun, hRv, ha, _⟩
  · rw [ha] at hat
    simp only [DataW.lit.injEq, Lit.bool.injEq] at hat
    rw [hrun, ← hat]
    rfl
  · rw [ha] at hat
    rw [hrun]
    unfold plainElem at hRv
    rw [he] at hRv
    cases hv : e0.val <;> rw [hv] at hRv <;> simp at hRv
    subst hRv
    simp only [DataW.lit.injEq, Lit.bool.injEq] at hat
    subst hat
    simp

theorem IntSet.put {P : Program} {k e : TypeId} {w : World} {b n : Nat} {S : List Int} {D : DataW Unit} {x : Int} (hm : IsMap D)
    (hat : ∀ x, D.atKey (.int .i64 x) (.lit (.bool false)) = .lit (.bool (decide (x ∈ S)))) (h : w.ownsMap P k (plainElem P e) b n (D.put (.int .i64 x) (.lit (.bool true)))) : IntSet P k e w b n (S ++ [x]) := by
  refine ⟨_, h, fun y => ?_⟩
  by_cases e : y = x
  · subst e
    rw [atKey_put_same hm (by simp [WideAt.IsKeyLit])]
    simp
  · rw [atKey_put_other (by simp [e]), hat]
    simp [e]

theorem IntSet.mod {P : Program} {k e : TypeId} {w w' : World} {b n : Nat} {S : List Int} {M : Nat → Prop} (h : IntSet P k e w b n S) (hm : Mod M w w') (hs : ¬ M b) : IntSet P k e w' b n S := by
  obtain ⟨D, ⟨es, clock, hb, r⟩, hat⟩ := h
  have hlt : b < w.heap.size := (Array.getElem?_eq_some_iff.1 hb).1
  exact ⟨D, ⟨es, clock, by rw [hm.block b hlt hs]; exact hb, r⟩, hat⟩

theorem IntSet.mono {P : Program} {k e : TypeId} {w : World} {b n n' : Nat} {S : List Int} (h : IntSet P k e w b n S) (hn : n ≤ n') : IntSet P k e w b n' S := by
  obtain ⟨D, ho, hat⟩ := h
  exact ⟨D, ho.mono hn, hat⟩

theorem IntSet.lt {P : Program} {k e : TypeId} {w : World} {b n : Nat} {S : List Int} (h : IntSet P k e w b n S) : b < w.heap.size := by
  obtain ⟨D, ⟨es, clock, hb, r⟩, hat⟩ := h
  exact (Array.getElem?_eq_some_iff.1 hb).1

end Go.Gou

/- The parts of the node check, each function once: what it answers, and that nothing that was there has turned. -/
namespace Go.Proofs.Ytpbmfalokongfaa
open Go.RowKit Go.Gou

theorem ret_bool {a b : Bool} (h : a = b) : Ending.returned (.bool a) = .returned (.bool b) := by rw [h]

def ofS (op : Int) : (Int × Int × Int) × Bool :=
  if op = 1 then ((1, 1, 2), true) else if op = 2 then ((1, 1, 2), true) else if op = 3 then ((1, 1, 2), true) else if op = 4 then ((1, 1, 2), true)
  else if op = 5 then ((1, 1, 20), true) else if op = 6 then ((0, 0, 8), true) else if op = 7 then ((2, 2, 1), true) else if op = 8 then ((2, 2, 1), true)
  else if op = 9 then ((1, 8, 0), true) else if op = 10 then ((1, 1, 4), true) else if op = 11 then ((1, 1, 8), true) else if op = 12 then ((1, 1, 4), true)
  else ((0, 0, 0), false)

abbrev ofV (op : Int) : Value := .tuple #[.agg #[.int .i64 (ofS op).1.1, .int .i64 (ofS op).1.2.1, .int .i64 (ofS op).1.2.2], .bool (ofS op).2]

set_option maxHeartbeats 400000 in
theorem of_any (op : Int) (w : World) :
    Calls Try.prog 67 #[.int .i64 op] w fun e w' => e = .returned (ofV op) ∧ Below w.heap.size w w' := by
  by_cases h1 : op = 1 ∨ op = 2 ∨ op = 3 ∨ op = 4 ∨ op = 5 ∨ op = 6 ∨ op = 7 ∨ op = 8 ∨ op = 9 ∨ op = 10 ∨ op = 11 ∨ op = 12
  · rcases h1 with rfl | rfl | rfl | rfl | rfl | rfl | rfl | rfl | rfl | rfl | rfl | rfl
    all_goals
      go_enter Try.func67, Try.ntmps67
      go_wp2
      exact bodyPost_ret (v := ofV _) (by simp [results, Try.results67, go_sem, ofV, ofS]) rfl ⟨rfl, (Below.refl _ _).alloc (Nat.le_refl _) _⟩
  · simp only [not_or] at h1
    obtain ⟨h1, h2, h3, h4, h5, h6, h7, h8, h9, h10, h11, h12⟩ := h1
    have e1 : (op == 1) = false := by simpa using h1
    have e2 : (op == 2) = false := by simpa using h2
    have e3 : (op == 3) = false := by simpa using h3
    have e4 : (op == 4) = false := by simpa using h4
    have e5 : (op == 5) = false := by simpa using h5
    have e6 : (op == 6) = false := by simpa using h6
    have e7 : (op == 7) = false := by simpa using h7
    have e8 : (op == 8) = false := by simpa using h8
    have e9 : (op == 9) = false := by simpa using h9
    have e10 : (op == 10) = false := by simpa using h10
    have e11 : (op == 11) = false := by simpa using h11
    have e12 : (op == 12) = false := by simpa using h12
    have hof : Hid (ofV op = .tuple #[.agg #[.int .i64 0, .int .i64 0, .int .i64 0], .bool false]) := by
      show _ = _
      simp [ofV, ofS, h1, h2, h3, h4, h5, h6, h7, h8, h9, h10, h11, h12]
    clear h1 h2 h3 h4 h5 h6 h7 h8 h9 h10 h11 h12
    rw [hof.out]
    go_enter Try.func67, Try.ntmps67
    go_wp2
    exact bodyPost_ret (v := .tuple #[.agg #[.int .i64 0, .int .i64 0, .int .i64 0], .bool false]) (by simp [results, Try.results67, go_sem]) rfl ⟨rfl, (Below.refl _ _).alloc (Nat.le_refl _) _⟩

/-- 'within': a question; the bounds lie in two new cells. -/
def WithinQ (B : Nat) (w : World) (lo hi : Int) (v : Value) : Prop :=
  ∃ b1 b2 : Nat, v = .func (.func 81) #[] #[.pointer (some ⟨b1, 0, none⟩), .pointer (some ⟨b2, 0, none⟩)] ∧ b1 < B ∧ b2 < B ∧
    w.cell? ⟨b1, 0, none⟩ = some (.int .i64 lo) ∧ w.cell? ⟨b2, 0, none⟩ = some (.int .i64 hi)

theorem WithinQ.below {B : Nat} {w w' : World} {lo hi : Int} {v : Value} (h : WithinQ B w lo hi v) (hb : Below B w w') : WithinQ B w' lo hi v := by
  obtain ⟨b1, b2, rfl, h1, h2, c1, c2⟩ := h
  exact ⟨b1, b2, rfl, h1, h2, by rw [hb.cell (p := ⟨b1, 0, none⟩) h1]; exact c1, by rw [hb.cell (p := ⟨b2, 0, none⟩) h2]; exact c2⟩

theorem WithinQ.up {w w1 : World} {lo hi : Int} {v : Value} (h : WithinQ w.heap.size w lo hi v) (hb : Below w.heap.size w w1) : WithinQ w1.heap.size w1 lo hi v := by
  obtain ⟨b1, b2, rfl, h1, h2, c1, c2⟩ := h.below hb
  have := hb.size
  exact ⟨b1, b2, rfl, by omega, by omega, c1, c2⟩

def WithinPost (w : World) (lo hi : Int) (e : Ending) (w' : World) : Prop := ∃ v, e = .returned v ∧ WithinQ w'.heap.size w' lo hi v ∧ Below w.heap.size w w'

theorem within_any (lo hi : Int) (w : World) :
    Calls Try.prog 72 #[.int .i64 lo, .int .i64 hi] w (WithinPost w lo hi) := by
  go_enter Try.func72, Try.ntmps72
  go_wp2
  go_ret
  exact ⟨_, rfl, ⟨_, _, rfl, by simp; omega, by simp, by simp [go_sem], by simp [go_sem]⟩, ((Below.refl _ _).alloc (Nat.le_refl _) _).alloc (by simp) _⟩

def withinB (lo hi n : Int) : Bool := decide (lo ≤ n) && decide (n ≤ hi)

theorem within1_any (lo hi n : Int) (w : World) (b1 b2 : Nat) (h1 : w.cell? ⟨b1, 0, none⟩ = some (.int .i64 lo)) (h2 : w.cell? ⟨b2, 0, none⟩ = some (.int .i64 hi)) :
    Calls Try.prog 81 #[.int .i64 n, .pointer (some ⟨b1, 0, none⟩), .pointer (some ⟨b2, 0, none⟩)] w
      fun e w' => e = .returned (.bool (withinB lo hi n)) ∧ Below w.heap.size w w' := by
  go_enter Try.func81, Try.ntmps81
  go_wp2
  all_goals go_ret
  · have h : lo ≤ n := by assumption
    exact ⟨ret_bool (by simp [withinB, h]), Below.refl _ _⟩
  · have h : n < lo := by assumption
    exact ⟨ret_bool (by simp [withinB]; omega), Below.refl _ _⟩

theorem one1_any (count n : Int) (w : World) (b1 : Nat) (h1 : w.cell? ⟨b1, 0, none⟩ = some (.int .i64 count)) :
    Calls Try.prog 69 #[.int .i64 n, .pointer (some ⟨b1, 0, none⟩)] w
      fun e w' => e = .returned (.bool (withinB (-1) (count - 1) n)) ∧ Below w.heap.size w w' := by
  go_enter Try.func69, Try.ntmps69
  go_wp2
  all_goals go_ret
  · have h : -1 ≤ n := by assumption
    exact ⟨ret_bool (by simp [withinB, h]; omega), Below.refl _ _⟩
  · have h : n < -1 := by assumption
    exact ⟨ret_bool (by simp [withinB]; omega), Below.refl _ _⟩

/-- A function value that answers, of each number of a list, in whatever world lies above w, as q does, and turns nothing. -/
def Asks (B : Nat) (w : World) (v : Value) (xs : List Int) (q : Int → Bool) : Prop :=
  ∃ (f : FuncId) (caps : Array Value), v = .func (.func f) #[] caps ∧ (∀ (args : Array Value) (w' : World), (callFunc f args).run Try.prog w' = .ok (.enter f args) w') ∧ ∀ (w' : World) (n : Int), n ∈ xs → Below B w w' →
    Calls Try.prog f (#[.int .i64 n] ++ caps) w' fun e w'' => e = .returned (.bool (q n)) ∧ Below w'.heap.size w' w''

theorem run_within1 (args : Array Value) (w : World) : (callFunc 81 args).run Try.prog w = .ok (.enter 81 args) w := by kernel_rfl
theorem run_one1 (args : Array Value) (w : World) : (callFunc 69 args).run Try.prog w = .ok (.enter 69 args) w := by kernel_rfl

theorem WithinQ.asks {B : Nat} {w : World} {lo hi : Int} {v : Value} (h : WithinQ B w lo hi v) (xs : List Int) : Asks B w v xs (withinB lo hi) := by
  obtain ⟨b1, b2, rfl, h1, h2, c1, c2⟩ := h
  refine ⟨_, _, rfl, run_within1, fun w' n _ hb => ?_⟩
  exact within1_any lo hi n w' b1 b2 (by rw [hb.cell (p := ⟨b1, 0, none⟩) h1]; exact c1) (by rw [hb.cell (p := ⟨b2, 0, none⟩) h2]; exact c2)

theorem List.all_take_succ {α : Type} (l : List α) (q : α → Bool) (k : Nat) (h : k < l.length) : (l.take (k + 1)).all q = ((l.take k).all q && q l[k]) := by
  rw [List.take_succ_eq_append_getElem h, List.all_append]; simp

set_option maxHeartbeats 400000 in
theorem all_any (w : World) (v fv : Value) (xs : List Int) (q : Int → Bool) (hx : IntsAt w.heap.size w v xs) (hq : Asks w.heap.size w fv xs q) (hl : xs.length ≤ maxLen) :
    Calls Try.prog 68 #[v, fv] w fun e w' => e = .returned (.bool (xs.all q)) ∧ Below w.heap.size w w' := by
  obtain ⟨p, cap, rfl, _, hp⟩ := hx
  obtain ⟨f, caps, rfl, hcall, hf⟩ := hq
  unfold maxLen at hl
  go_enter Try.func68, Try.ntmps68
  go_wp2
  go_loopw [9] (fun i wr => ∃ k : Nat, k ≤ xs.length ∧ i = .int .i64 k ∧ (xs.take k).all q = true ∧ Below w.heap.size w wr) (fun i _ => xs.length - (intOf i).toNat)
  case atStart => exact ⟨0, Nat.zero_le _, rfl, rfl, Below.refl _ _⟩
  case round =>
    obtain ⟨k, hk, rfl, hall, hbr⟩ := hrel
    have Hall := Lib.hid hall
    clear hall
    by_cases hlt : k < xs.length
    · rcases hp with rfl | ⟨b, o, rfl, hb, hc⟩
      · simp at hlt
      have hc' := hc k hlt
      rw [← hbr.cell (p := ⟨b, o + k, none⟩) hb] at hc'
      clear hc
      have hfk := Lib.hid (hf wr xs[k] (List.getElem_mem hlt) hbr)
      clear hf
      go_wp2_with (refine (hfk.out).mono ?_; rintro e w1 ⟨rfl, hb1⟩)
      · have hqk : q xs[k] = false := by simpa using (show (!q xs[k]) = true by assumption)
        go_ret
        have hne : xs.all q = false := by
          rw [Bool.eq_false_iff]
          intro h
          rw [List.all_eq_true] at h
          have := h _ (List.getElem_mem hlt)
          rw [hqk] at this
          cases this
        exact ⟨ret_bool hne.symm, hbr.trans (hb1.mono hbr.size)⟩
      · have hqk : q xs[k] = true := by simpa using (show (!q xs[k]) = false by assumption)
        go_roundw
        case rel => exact ⟨k + 1, by omega, by go_num, by rw [List.all_take_succ _ _ _ hlt, Hall.out, hqk]; rfl, hbr.trans (hb1.mono hbr.size)⟩
        case measure => simp [intOf]; omega
    · go_wp2
      go_ret
      have : xs.length = k := by omega
      exact ⟨ret_bool (by rw [← Hall.out, List.take_of_length_le (by omega)]), hbr⟩

end Go.Proofs.Ytpbmfalokongfaa

/- order.inputs: a node's inputs that are nodes, each once. -/
set_option maxRecDepth 100000
namespace Go.Proofs.Ytpbmfalokongfaa
open Go.RowKit Go.Gou

def okIn (n : Nat) (acc : List Int) (k : Int) : Bool := decide (0 ≤ k) && decide (k < n) && !decide (k ∈ acc)
def insStep (n : Nat) (acc : List Int) (k : Int) : List Int := if okIn n acc k = true then acc ++ [k] else acc
/-- A node's inputs that are nodes, each once, in the order in which they come. -/
def insL (n : Nat) (l : List Int) : List Int := l.foldl (insStep n) []

theorem insL_succ (n : Nat) (l : List Int) (k : Nat) (h : k < l.length) : insL n (l.take (k + 1)) = insStep n (insL n (l.take k)) l[k] := by
  unfold insL
  rw [List.take_succ_eq_append_getElem h, List.foldl_append]
  rfl

theorem insStep_len (n : Nat) (acc : List Int) (k : Int) : (insStep n acc k).length ≤ acc.length + 1 := by
  unfold insStep
  split <;> simp

theorem insL_len (n : Nat) (l : List Int) (k : Nat) : (insL n (l.take k)).length ≤ k := by
  induction k with
  | zero => simp [insL]
  | succ k ih =>
    by_cases h : k < l.length
    · rw [insL_succ n l k h]
      have := insStep_len n (insL n (l.take k)) l[k]
      omega
    · rw [List.take_of_length_le (by omega), ← List.take_of_length_le (show l.length ≤ k by omega)]
      omega

/-- What stands in it: each once, and just the inputs that are nodes. -/
theorem insL_nodup (n : Nat) (l : List Int) : (insL n l).Nodup ∧ ∀ x, x ∈ insL n l ↔ x ∈ l ∧ 0 ≤ x ∧ x < n := by
  suffices ∀ (l acc : List Int), acc.Nodup → (l.foldl (insStep n) acc).Nodup ∧ ∀ x, x ∈ l.foldl (insStep n) acc ↔ x ∈ acc ∨ (x ∈ l ∧ 0 ≤ x ∧ x < n) by
    have := this l [] (by simp)
    simpa [insL] using this
  intro l
  induction l with
  | nil => intro acc h; simpa using h
  | cons a l ih =>
    intro acc h
    have hs : (insStep n acc a).Nodup ∧ ∀ x, x ∈ insStep n acc a ↔ x ∈ acc ∨ (x = a ∧ 0 ≤ x ∧ x < n) := by
      unfold insStep
      split
      · rename_i hk
        simp only [okIn, Bool.and_eq_true, decide_eq_true_eq, Bool.not_eq_true', decide_eq_false_iff_not] at hk
        refine ⟨?_, fun x => ?_⟩
        · rw [List.nodup_append]
          exact ⟨h, by simp, fun y hy z hz e => hk.2 (by simp at hz; rw [← hz, ← e]; exact hy)⟩
        · simp only [List.mem_append, List.mem_singleton]
          constructor
          · rintro (h | rfl)
            · exact .inl h
            · exact .inr ⟨rfl, hk.1.1, hk.1.2⟩
          · rintro (h | ⟨rfl, _⟩)
            · exact .inl h
            · exact .inr rfl
      · rename_i hk
        refine ⟨h, fun x => ⟨.inl, ?_⟩⟩
        rintro (h' | ⟨rfl, h1, h2⟩)
        · exact h'
        · apply Classical.byContradiction
          intro hn
          exact hk (by simp [okIn, h1, h2, hn])
    obtain ⟨h1, h2⟩ := ih _ hs.1
    refine ⟨h1, fun x => ?_⟩
    rw [List.foldl_cons, h2, hs.2]
    simp only [List.mem_cons]
    constructor
    · rintro ((h | ⟨rfl, h⟩) | ⟨h, h'⟩)
      · exact .inl h
      · exact .inr ⟨.inl rfl, h⟩
      · exact .inr ⟨.inr h, h'⟩
    · rintro (h | ⟨(rfl | h), h'⟩)
      · exact .inl (.inl h)
      · exact .inl (.inr ⟨rfl, h'⟩)
      · exact .inr ⟨h, h'⟩

/-- A filter's value. -/
def GrV (w : World) (v : Value) (g : Gr) : Prop := ∃ vn, v = .agg #[vn, .int .i64 g.out] ∧ NodesAt w.heap.size w vn g.nodes

/-- What comes back: a row of the call's own. -/
def OwnInts (w : World) (xs : List Int) (e : Ending) (w' : World) : Prop :=
  ∃ v, e = .returned v ∧ w'.ownsRow w.heap.size 3 1 v xs.length (iv xs) ∧ Below w.heap.size w w'

theorem zero_bool (w : World) : (zeroValue 4).run Try.prog w = .ok (.bool false) w := by kernel_rfl

set_option maxHeartbeats 1000000 in
theorem inputs_any (w : World) (v : Value) (g : Gr) (at_ : Nat) (hg : GrV w v g) (hat : at_ < g.nodes.length) (hn : g.nodes.length ≤ 100000) (hl : g.nodes[at_].ins.length ≤ 1000)
    (hwf : ∀ x ∈ g.nodes[at_].ins, (Lit.int .i64 x).wf = true) :
    Calls Try.prog 76 #[v, .int .i64 at_] w (OwnInts w (insL g.nodes.length g.nodes[at_].ins)) := by
  obtain ⟨vn, rfl, p, cap, rfl, hcap, hp⟩ := hg
  rcases hp with hp | ⟨b, o, rfl, hb, hc⟩
  · rw [hp] at hat
    simp at hat
  obtain ⟨vi, h1, hi⟩ : ∃ vi, w.cell? ⟨b, o + at_ * 3 + 1, none⟩ = some vi ∧ IntsAt w.heap.size w vi g.nodes[at_].ins := by
    obtain ⟨vi, vp, _, h1, _, hi, _⟩ := hc at_ hat
    exact ⟨vi, h1, hi⟩
  clear hc
  obtain ⟨pi, ci, rfl, hci, hpi⟩ := hi
  obtain ⟨i0, hi0, hz0, hz1, hz2⟩ := info_parts info_int
  generalize g.nodes[at_].ins = ins at *
  generalize g.nodes.length = n at *
  have hmm := @run_makeMap Try.prog
  go_enter Try.func76, Try.ntmps76
  have hkb : (w.alloc (.cells #[.slice (some ⟨b, o, none⟩) n cap, .int .i64 g.out] 40)).heap.size = w.heap.size + 1 := by simp
  have Hkb := Lib.hid hkb
  clear hkb
  have hst : IntSet Try.prog 3 4 ((w.alloc (.cells #[.slice (some ⟨b, o, none⟩) n cap, .int .i64 g.out] 40)).alloc (.map #[] 0)) (w.heap.size + 1) 0 [] := by
    have := IntSet.made Try.prog 3 4 (w.alloc (.cells #[.slice (some ⟨b, o, none⟩) n cap, .int .i64 g.out] 40))
    rwa [Hkb.out] at this
  have Hst := Lib.hid hst
  clear hst
  have hbel : Below (w.heap.size + 1) (w.alloc (.cells #[.slice (some ⟨b, o, none⟩) n cap, .int .i64 g.out] 40)) ((w.alloc (.cells #[.slice (some ⟨b, o, none⟩) n cap, .int .i64 g.out] 40)).alloc (.map #[] 0)) :=
    (Below.refl _ _).alloc (by rw [Hkb.out]; exact Nat.le_refl _) _
  have Hbel := Lib.hid hbel
  clear hbel
  have hcellb : (w.alloc (.cells #[.slice (some ⟨b, o, none⟩) n cap, .int .i64 g.out] 40)).cell? ⟨w.heap.size, 0, none⟩ = some (.slice (some ⟨b, o, none⟩) n cap) := by simp [go_sem]
  have Hcellb := Lib.hid hcellb
  clear hcellb
  go_wp2_with fail
  go_loopw [5, 17] (fun v i wr => ∃ k : Nat, k ≤ ins.length ∧ i = .int .i64 k ∧ wr.ownsRow (w.heap.size + 2) 3 1 v (insL n (ins.take k)).length (iv (insL n (ins.take k))) ∧
      IntSet Try.prog 3 4 wr (w.heap.size + 1) k (insL n (ins.take k)) ∧ Below (w.heap.size + 1) (w.alloc (.cells #[.slice (some ⟨b, o, none⟩) n cap, .int .i64 g.out] 40)) wr) (fun _ i _ => ins.length - (intOf i).toNat)
  case atStart =>
    exact ⟨0, Nat.zero_le _, rfl, World.ownsRow_nil _ _ _ _, Hst.out, Hbel.out⟩
  case round =>
    obtain ⟨k, hk, rfl, hown, hset, hbel⟩ := hrel
    clear Hst Hbel
    by_cases hlt : k < ins.length
    · rcases hpi with rfl | ⟨b', o', rfl, hb', hc'⟩
      · simp at hlt
      have hx := hc' k hlt
      have hxw := hwf _ (List.getElem_mem hlt)
      clear hc' hwf
      have hx' : wr.cell? ⟨b', o' + k, none⟩ = some (.int .i64 ins[k]) := by
        rw [hbel.cell (p := ⟨b', o' + k, none⟩) (by simp; omega), World.cell?_alloc_lt (h := hb')]
        exact hx
      have hgb : wr.cell? ⟨w.heap.size, 0, none⟩ = some (.slice (some ⟨b, o, none⟩) n cap) := by
        rw [hbel.cell (p := ⟨w.heap.size, 0, none⟩) (by simp)]
        exact Hcellb.out
      clear hx
      have hs := insL_succ n ins k hlt
      have hlk := hset.look Try.underlying3 Try.underlying4 Try.underlying133 (zero_bool wr) hxw
      have hll := insL_len n ins k
      have Hset := Lib.hid hset
      have Hown := Lib.hid hown
      have Hbel := Lib.hid hbel
      have Hs := Lib.hid hs
      have hsz : w.heap.size + 1 < wr.heap.size := hset.lt
      clear hset hown hbel hs
      have hkeep : okIn n (insL n (ins.take k)) ins[k] = false → insL n (ins.take (k + 1)) = insL n (ins.take k) := fun h => by rw [Hs.out]; simp [insStep, h]
      have Hkeep := Lib.hid hkeep
      clear hkeep
      generalize hacc : insL n (ins.take k) = acc at *
      have Hacc := Lib.hid hacc
      clear hacc
      generalize ins[k] = x at *
      by_cases hx0 : x < 0
      · have hk0 : okIn n acc x = false := by simp [okIn]; omega
        have Hk0 := Lib.hid hk0
        clear hk0 hlk
        go_wp2_with fail
        go_roundw
        case rel => exact ⟨k + 1, by omega, by go_num, by rw [Hkeep.out Hk0.out]; exact Hown.out, by rw [Hkeep.out Hk0.out]; exact Hset.out.mono (by omega), Hbel.out⟩
        case measure => simp [intOf]; omega
      · by_cases hxn : n ≤ x
        · have hk0 : okIn n acc x = false := by simp [okIn]; omega
          have Hk0 := Lib.hid hk0
          clear hk0 hlk
          go_wp2_with fail
          go_roundw
          case rel => exact ⟨k + 1, by omega, by go_num, by rw [Hkeep.out Hk0.out]; exact Hown.out, by rw [Hkeep.out Hk0.out]; exact Hset.out.mono (by omega), Hbel.out⟩
          case measure => simp [intOf]; omega
        · cases hmem : decide (x ∈ acc) with
          | true =>
            have hk0 : okIn n acc x = false := by simp [okIn]; intro _ _; simpa using hmem
            have Hk0 := Lib.hid hk0
            rw [hmem] at hlk
            clear hk0 hmem
            go_wp2_with fail
            go_roundw
            case rel => exact ⟨k + 1, by omega, by go_num, by rw [Hkeep.out Hk0.out]; exact Hown.out, by rw [Hkeep.out Hk0.out]; exact Hset.out.mono (by omega), Hbel.out⟩
            case measure => simp [intOf]; omega
          | false =>
            have hk0 : okIn n acc x = true := by
              have : ¬ x ∈ acc := by simpa using hmem
              simp [okIn, this]; omega
            have hst : insL n (ins.take (k + 1)) = acc ++ [x] := by rw [Hs.out]; simp [insStep, hk0]
            have Hst := Lib.hid hst
            rw [hmem] at hlk
            clear hk0 hmem hst
            obtain ⟨D, hD, hDat⟩ := Hset.out
            have hDm := hD.isMap
            have hkey : keyOf Try.prog 3 (.int .i64 x) = some (.int .i64 x) := Gou.keyOf_int Try.underlying3 hxw
            have hval : plainElem (H := Unit) Try.prog 4 (.bool true) = some (.lit (.bool true), []) := by simp [plainElem, Try.underlying4]
            go_wp2_with (first
              | (at_mapUpdate; refine wpList_mapUpdate_own _ rfl _ _ _ 133 rfl 3 4 (Maps.int_keyed Try.underlying3) Try.underlying133 _ (w.heap.size + 1) k D rfl hD (by unfold maxLen; omega) _ _ _ rfl rfl hkey _ [] hval ?_))
            intro w1 hown1 hgrow1
            have hset1 := IntSet.put hDm hDat hown1
            have hz1' : w.heap.size + 1 < w1.heap.size := by have := hgrow1.size; omega
            have hownI : w1.ownsRow (w.heap.size + 2) 3 1 u5 acc.length (iv acc) := ownsRow_mod Hown.out (Mod.of_grown hgrow1) (fun kk hkk e => by
              have h1 := (Hown.out.lt kk hkk).1
              have h2 := Option.some.inj e
              omega)
            have hbel1 : Below (w.heap.size + 1) (w.alloc (.cells #[.slice (some ⟨b, o, none⟩) n cap, .int .i64 g.out] 40)) w1 :=
              Hbel.out.grown hgrow1 (by omega) (fun kk e => by have := Option.some.inj e; omega)
            have Hset1 := Lib.hid hset1
            have Hbel1 := Lib.hid hbel1
            clear hset1 hbel1 hown1 hgrow1 hlk hD
            go_wp2_with (at_builtin; refine wpList_append_own _ rfl _ _ 25 rfl (w.heap.size + 2) 3 i0 (.int .i64 0) 1 8 Try.underlying25 hi0 hz0 hz1 hz2 rfl (by omega) _ _ _ rfl (hownI.alloc _) ⟨w1.heap.size, 0, none⟩ 1 1 [.int .i64 x] rfl rfl (cell_one_new _ _ _) (by simp [Value.oneCell']) (by unfold maxLen; omega) (by omega) (by simp; omega) ?_)
            intro v2 w2 hown2 hgrow2 _
            have hset2 : IntSet Try.prog 3 4 w2 (w.heap.size + 1) (k + 1) (acc ++ [x]) := (Hset1.out.mod (Mod.alloc (fun _ => False) w1 _) (fun h => h)).mod (Mod.of_grown hgrow2) (fun e => by
              have h1 := (hownI.lt _ e).1
              omega)
            have hbel2 : Below (w.heap.size + 1) (w.alloc (.cells #[.slice (some ⟨b, o, none⟩) n cap, .int .i64 g.out] 40)) w2 :=
              (Hbel1.out.alloc (by omega) _).grown hgrow2 (by simp; omega) (fun kk e => by have := (hownI.lt _ e).1; omega)
            have Hset2 := Lib.hid hset2
            have Hbel2 := Lib.hid hbel2
            have Hown2 := Lib.hid hown2
            clear hset2 hbel2 hown2 hgrow2 hownI
            go_wp2_with fail
            go_roundw
            case rel => exact ⟨k + 1, by omega, by go_num, by rw [Hst.out]; simpa [iv] using Hown2.out, by rw [Hst.out]; exact Hset2.out, Hbel2.out⟩
            case measure => simp [intOf]; omega
    · go_wp2_with fail
      go_ret
      have hke : ins.take k = ins := List.take_of_length_le (by omega)
      rw [hke] at hown
      refine ⟨_, rfl, ownsRow_base hown (by omega), ?_⟩
      exact ((Below.refl _ _).alloc (Nat.le_refl _) _).trans (hbel.mono (by omega))

end Go.Proofs.Ytpbmfalokongfaa

/- order.Uses: for each node those that have it as an input. -/
set_option maxRecDepth 100000
namespace Go.Proofs.Ytpbmfalokongfaa
open Go.RowKit Go.Gou

/-- A slice of n rows of ints, all of the call's own, in blocks apart. -/
structure RowsOwn (w : World) (base U n : Nat) (rows : Nat → List Int) (vs : List Value) : Prop where
  len : vs.length = n
  top : w.ownsRow base 25 1 (.slice (some ⟨U, 0, none⟩) n n) n vs
  row : ∀ k, k < n → w.ownsRow base 3 1 (vs.getD k undef) (rows k).length (iv (rows k))
  apartU : ∀ k, k < n → (vs.getD k undef).ownBlock ≠ some U
  apart : ∀ j k, j < n → k < n → j ≠ k → ∀ b, (vs.getD j undef).ownBlock = some b → (vs.getD k undef).ownBlock ≠ some b

theorem RowsOwn.mod {w w' : World} {base U n : Nat} {rows : Nat → List Int} {vs : List Value} {S : Nat → Prop} (h : RowsOwn w base U n rows vs) (hm : Mod S w w') (hs : ∀ b, base ≤ b → b < w.heap.size → ¬ S b) : RowsOwn w' base U n rows vs :=
  ⟨h.len, ownsRow_mod h.top hm (fun k hk => hs k (h.top.lt k hk).1 (h.top.lt k hk).2), fun k hk => ownsRow_mod (h.row k hk) hm (fun b hb => hs b ((h.row k hk).lt b hb).1 ((h.row k hk).lt b hb).2), h.apartU, h.apart⟩

theorem RowsOwn.congr {w : World} {base U n : Nat} {rows rows' : Nat → List Int} {vs : List Value} (h : RowsOwn w base U n rows vs) (he : ∀ k, k < n → rows' k = rows k) : RowsOwn w base U n rows' vs :=
  ⟨h.len, h.top, fun k hk => by rw [he k hk]; exact h.row k hk, h.apartU, h.apart⟩

theorem getD_set' {α : Type} (l : List α) (u : Nat) (x d : α) (hu : u < l.length) (i : Nat) : (l.set u x).getD i d = if i = u then x else l.getD i d := by
  simp only [List.getD, List.getElem?_set]
  by_cases e : i = u
  · subst e; simp [hu]
  · simp [e, Ne.symm e]

/-- One row more long, in its old block or in a new one; and its value stored at its place. -/
theorem RowsOwn.append {w w1 : World} {base U n : Nat} {rows : Nat → List Int} {vs : List Value} (h : RowsOwn w base U n rows vs) (o : Obj) (k : Nat) (hk : k < n) (x : Int) (g cap : Nat)
    (hown1 : w1.ownsRow base 3 1 (.slice (some ⟨g, 0, none⟩) ((rows k).length + 1) cap) ((rows k).length + 1) (iv (rows k) ++ [.int .i64 x])) (hgrow : (w.alloc o).grownBy w1 (vs.getD k undef).ownBlock)
    (hat : (vs.getD k undef).ownBlock = some g ∨ g = w.heap.size + 1) :
    RowsOwn (w1.setCell ⟨U, k, none⟩ (.slice (some ⟨g, 0, none⟩) ((rows k).length + 1) cap)) base U n (fun j => if j = k then rows j ++ [x] else rows j) (vs.set k (.slice (some ⟨g, 0, none⟩) ((rows k).length + 1) cap)) ∧
      Mod (fun b => b = U ∨ (vs.getD k undef).ownBlock = some b) w (w1.setCell ⟨U, k, none⟩ (.slice (some ⟨g, 0, none⟩) ((rows k).length + 1) cap)) := by
  have hU : U < w.heap.size := (h.top.lt U rfl).2
  have hkl : k < vs.length := by rw [h.len]; exact hk
  have hgU : g ≠ U := by
    rcases hat with hat | rfl
    · intro e; exact h.apartU k hk (e ▸ hat)
    · omega
  have m1 : Mod (fun b => (vs.getD k undef).ownBlock = some b) w w1 := (Mod.alloc _ w o).trans (Mod.of_grown hgrow) (fun _ _ h => h)
  have t1 := ownsRow_mod h.top m1 (fun b hb => by
    simp [Value.ownBlock] at hb
    subst hb
    exact h.apartU k hk)
  obtain ⟨t2, g2⟩ := t1.stored k (.slice (some ⟨g, 0, none⟩) ((rows k).length + 1) cap)
  have m2 := Mod.setCell w1 ⟨U, k, none⟩ (.slice (some ⟨g, 0, none⟩) ((rows k).length + 1) cap)
  refine ⟨⟨by simpa using h.len, t2, fun j hj => ?_, fun j hj => ?_, fun i j hi hj hij b hb => ?_⟩, m1.imp (fun _ _ h => .inr h) |>.trans m2 fun _ _ e => .inl e⟩
  · rw [getD_set' _ _ _ _ hkl]
    by_cases e : j = k
    · subst e
      simp only [if_true]
      have := ownsRow_mod hown1 m2 (fun b hb => by
        simp [Value.ownBlock] at hb
        subst hb
        exact hgU)
      simpa [iv] using this
    · rw [if_neg e, if_neg e]
      refine ownsRow_mod (ownsRow_mod (h.row j hj) m1 (fun b hb he => h.apart j k hj hk e b hb he)) m2 (fun b hb he => ?_)
      simp at he
      subst he
      exact h.apartU j hj hb
  · rw [getD_set' _ _ _ _ hkl]
    by_cases e : j = k
    · rw [if_pos e]
      simp [Value.ownBlock]
      exact hgU
    · rw [if_neg e]
      exact h.apartU j hj
  · rw [getD_set' _ _ _ _ hkl] at hb ⊢
    by_cases e1 : i = k
    · subst e1
      rw [if_pos rfl] at hb
      rw [if_neg (Ne.symm hij)]
      have hgb : g = b := by simpa [Value.ownBlock] using hb
      subst hgb
      intro he
      rcases hat with hat | rfl
      · exact h.apart _ _ hi hj hij _ hat he
      · have := ((h.row j hj).lt _ he).2
        omega
    · rw [if_neg e1] at hb
      by_cases e2 : j = k
      · subst e2
        rw [if_pos rfl]
        intro he
        have hgb : g = b := by simpa [Value.ownBlock] using he
        subst hgb
        rcases hat with hat | rfl
        · exact h.apart _ _ hi hj hij _ hb hat
        · have := ((h.row i hi).lt _ hb).2
          omega
      · rw [if_neg e2]
        exact h.apart i j hi hj hij b hb

/-- Which nodes have k as an input, among the first i, and node i if k is among its first t inputs. -/
def usesL (G : List (List Int)) (i t k : Nat) : List Int :=
  ((List.range i).filter (fun (j : Nat) => decide ((k : Int) ∈ G.getD j []))).map (fun (j : Nat) => (j : Int)) ++ if (k : Int) ∈ (G.getD i []).take t then [(i : Int)] else []

theorem usesL_zero (G : List (List Int)) (k : Nat) : usesL G 0 0 k = [] := by simp [usesL]

theorem usesL_next (G : List (List Int)) (i k : Nat) (t : Nat) (ht : (G.getD i []).length ≤ t) : usesL G (i + 1) 0 k = usesL G i t k := by
  unfold usesL
  rw [List.take_of_length_le ht, List.range_succ, List.filter_append, List.map_append]
  by_cases h : (k : Int) ∈ G.getD i []
  · have e : (List.filter (fun (j : Nat) => decide ((k : Int) ∈ G.getD j [])) [i]) = [i] := by
      rw [List.filter_cons_of_pos (by simpa using h)]; rfl
    rw [e, if_pos h]; simp
  · have e : (List.filter (fun (j : Nat) => decide ((k : Int) ∈ G.getD j [])) [i]) = [] := by
      rw [List.filter_cons_of_neg (by simpa using h)]; rfl
    rw [e, if_neg h]; simp

theorem usesL_step (G : List (List Int)) (i t k : Nat) (hn : (G.getD i []).Nodup) (ht : t < (G.getD i []).length) : usesL G i (t + 1) k = if (k : Int) = (G.getD i [])[t] then usesL G i t k ++ [(i : Int)] else usesL G i t k := by
  unfold usesL
  rw [List.take_succ_eq_append_getElem ht]
  by_cases h : (k : Int) = (G.getD i [])[t]
  · rw [if_pos h]
    have hnot : (k : Int) ∉ (G.getD i []).take t := by
      rw [h]
      intro hm
      obtain ⟨j, hj, hje⟩ := List.mem_take_iff_getElem.1 hm
      have := (List.getElem_inj (i := j) (j := t) hn).1 hje
      omega
    rw [if_pos (List.mem_append.2 (.inr (by rw [h]; exact List.mem_singleton.2 rfl))), if_neg hnot]
    simp
  · rw [if_neg h]
    have : ((k : Int) ∈ (G.getD i []).take t ++ [(G.getD i [])[t]]) ↔ (k : Int) ∈ (G.getD i []).take t := by rw [List.mem_append, List.mem_singleton]; exact ⟨fun h' => h'.resolve_right h, .inl⟩
    simp only [this]

/-- What 'Uses' hands back. -/
def UsesPost (w : World) (G : List (List Int)) (e : Ending) (w' : World) : Prop :=
  ∃ U vs, e = .returned (.slice (some ⟨U, 0, none⟩) G.length G.length) ∧ RowsOwn w' w.heap.size U G.length (usesL G G.length 0) vs ∧ Below w.heap.size w w'

theorem info_ints : (Try.prog.info? 25).map (fun i => (i.zero, i.size, i.bytes)) = some (some (.slice none 0 0), 1, 24) := by kernel_rfl

/-- The inputs of each node that are nodes, each once. -/
def insG (g : Gr) : List (List Int) := g.nodes.map fun n => insL g.nodes.length n.ins

/-- Small enough to be walked. -/
structure GrOk (g : Gr) : Prop where
  few : g.nodes.length ≤ 1000
  ins : ∀ n ∈ g.nodes, n.ins.length ≤ 1000
  wf : ∀ n ∈ g.nodes, ∀ x ∈ n.ins, (Lit.int .i64 x).wf = true

theorem GrV.up {w w1 : World} {v : Value} {g : Gr} (h : GrV w v g) (hb : Below w.heap.size w w1) : GrV w1 v g := by
  obtain ⟨vn, rfl, hn⟩ := h
  exact ⟨vn, rfl, hn.up hb⟩

theorem GrV.form {w : World} {v : Value} {g : Gr} (h : GrV w v g) : ∃ p cap, v = .agg #[.slice p g.nodes.length cap, .int .i64 g.out] := by
  obtain ⟨vn, rfl, p, cap, rfl, _⟩ := h
  exact ⟨p, cap, rfl⟩

/-- Ahead of a round of the inner loop. -/
def UIn (B s U n : Nat) (G : List (List Int)) (w2 : World) (i t : Nat) (wr : World) : Prop :=
  ∃ vs, RowsOwn wr B U n (usesL G i t) vs ∧ Mod (fun b => B ≤ b ∧ b < s) w2 wr ∧ ∀ k, k < n → ∀ b, (vs.getD k undef).ownBlock = some b → b < s ∨ w2.heap.size ≤ b

theorem UIn.step {B s U n : Nat} {G : List (List Int)} {w2 wr w3 : World} {i t : Nat} (vs : List Value) (hrow : RowsOwn wr B U n (usesL G i t) vs) (hmod : Mod (fun b => B ≤ b ∧ b < s) w2 wr)
    (hlies : ∀ k, k < n → ∀ b, (vs.getD k undef).ownBlock = some b → b < s ∨ w2.heap.size ≤ b) (hnd : (G.getD i []).Nodup) (ht : t < (G.getD i []).length) (hUs : U < s) (hsw : s ≤ w2.heap.size)
    (o : Obj) (k : Nat) (hk : k < n) (hkx : (G.getD i [])[t] = (k : Int)) (g cap : Nat)
    (hown1 : w3.ownsRow B 3 1 (.slice (some ⟨g, 0, none⟩) ((usesL G i t k).length + 1) cap) ((usesL G i t k).length + 1) (iv (usesL G i t k) ++ [.int .i64 i])) (hgrow : (wr.alloc o).grownBy w3 (vs.getD k undef).ownBlock)
    (hat : (vs.getD k undef).ownBlock = some g ∨ g = wr.heap.size + 1) :
    UIn B s U n G w2 i (t + 1) (w3.setCell ⟨U, k, none⟩ (.slice (some ⟨g, 0, none⟩) ((usesL G i t k).length + 1) cap)) := by
  obtain ⟨h1, h2⟩ := hrow.append o k hk i g cap hown1 hgrow hat
  refine ⟨_, h1.congr fun j hj => ?_, hmod.trans h2 fun b hb he => ?_, fun j hj b hb => ?_⟩
  · rw [usesL_step G i t j hnd ht, hkx]
    by_cases e : j = k
    · subst e; simp
    · rw [if_neg (by omega), if_neg e]
  · rcases he with rfl | he
    · exact ⟨(hrow.top.lt _ rfl).1, hUs⟩
    · rcases hlies k hk b he with h | h
      · exact ⟨((hrow.row k hk).lt b he).1, h⟩
      · omega
  · rw [getD_set' _ _ _ _ (by rw [hrow.len]; exact hk)] at hb
    by_cases e : j = k
    · rw [if_pos e] at hb
      have hgb : g = b := by simpa [Value.ownBlock] using hb
      subst hgb
      rcases hat with hat | rfl
      · exact hlies k hk _ hat
      · right
        have := hmod.size
        omega
    · rw [if_neg e] at hb
      exact hlies j hj b hb

theorem usesL_len (G : List (List Int)) (i t k : Nat) : (usesL G i t k).length ≤ i + 1 := by
  unfold usesL
  rw [List.length_append, List.length_map]
  have := List.length_filter_le (fun (j : Nat) => decide ((k : Int) ∈ G.getD j [])) (List.range i)
  rw [List.length_range] at this
  split <;> simp only [List.length_cons, List.length_nil] <;> omega

set_option maxHeartbeats 1000000 in
theorem uses_any (w : World) (v : Value) (g : Gr) (hg : GrV w v g) (hok : GrOk g) :
    Calls Try.prog 78 #[v] w (UsesPost w (insG g)) := by
  obtain ⟨i0, hi0, hz0, hz1, hz2⟩ := info_parts info_int
  obtain ⟨i1, hj0, hjz, hj1, hj2⟩ := info_parts info_ints
  have hlen : (insG g).length = g.nodes.length := by simp [insG]
  have Hlen := Lib.hid hlen
  have Hg := Lib.hid hg
  have Hok := Lib.hid hok
  have hfew := hok.few
  obtain ⟨p, cap, rfl⟩ := hg.form
  clear hg hok hlen
  go_enter Try.func78, Try.ntmps78
  go_wp2_with (first
    | (at_make; refine wpList_make_full _ rfl _ _ 129 rfl w.heap.size 25 i1 (.slice none 0 0) 1 Try.underlying129 hj0 hjz hj1 _ _ _ _ g.nodes.length rfl rfl rfl rfl ?b1 ?b2 ?b3 ?_))
  case b1 => rw [hj2]; omega
  case b2 => unfold maxLen; omega
  case b3 => simp
  intro w1 hown hgrow
  have hzb1 : w.heap.size + 1 < w1.heap.size := (hown.lt _ rfl).2
  have hb1 : Below (w.heap.size + 1) (w.alloc (.cells #[.slice p g.nodes.length cap, .int .i64 g.out] 40)) w1 := (Below.refl _ _).grown hgrow (by simp) (fun k e => by cases e)
  have hc0 : w1.cell? ⟨w.heap.size, 0, none⟩ = some (.slice p g.nodes.length cap) := by rw [hb1.cell (p := ⟨w.heap.size, 0, none⟩) (by simp)]; simp [go_sem]
  have hc1 : w1.cell? ⟨w.heap.size, 1, none⟩ = some (.int .i64 g.out) := by rw [hb1.cell (p := ⟨w.heap.size, 1, none⟩) (by simp)]; simp [go_sem]
  have hbel : Below w.heap.size w w1 := ((Below.refl _ _).alloc (Nat.le_refl _) _).trans (hb1.mono (by omega))
  have hrows : RowsOwn w1 (w.heap.size + 1) (w.heap.size + 1) g.nodes.length (usesL (insG g) 0 0) (List.replicate g.nodes.length (.slice none 0 0)) := by
    rw [toList_madeCells_one] at hown
    refine ⟨by simp, ?_, fun k hk => ?_, fun k hk => ?_, fun j k hj hk _ b hb => ?_⟩
    · refine ⟨hown.1, ?_⟩
      rcases hown.2 with ⟨h, _⟩ | ⟨g', cap', cur, hv, hg', r⟩
      · cases h
      · simp only [Value.slice.injEq, Option.some.injEq, Addr.mk.injEq, and_true] at hv
        obtain ⟨rfl, _, rfl⟩ := hv
        exact .inr ⟨_, _, cur, rfl, by omega, r⟩
    · rw [usesL_zero]
      simp [List.getD, hk]
      exact World.ownsRow_nil _ _ _ _
    · simp [List.getD, hk, Value.ownBlock]
    · simp [List.getD, hj, Value.ownBlock] at hb
  have Hrows := Lib.hid hrows
  have Hbel := Lib.hid hbel
  clear hrows hbel hown hgrow hb1
  go_wp2_with fail
  go_loopw [14] (fun c wr => ∃ i : Nat, c = .int .i64 i ∧ i ≤ g.nodes.length ∧ (∃ vs, RowsOwn wr (w.heap.size + 1) (w.heap.size + 1) g.nodes.length (usesL (insG g) i 0) vs) ∧ Below (w.heap.size + 1) w1 wr) (fun c _ => g.nodes.length - (intOf c).toNat)
  case atStart => exact ⟨0, rfl, Nat.zero_le _, ⟨_, Hrows.out⟩, Below.refl _ _⟩
  case round =>
    obtain ⟨i, rfl, hi, ⟨vs, hrows⟩, hb⟩ := hrel
    clear Hrows
    have hc0' : wr.cell? ⟨w.heap.size, 0, none⟩ = some (.slice p g.nodes.length cap) := by rw [hb.cell (p := ⟨w.heap.size, 0, none⟩) (by simp)]; exact hc0
    have hc1' : wr.cell? ⟨w.heap.size, 1, none⟩ = some (.int .i64 g.out) := by rw [hb.cell (p := ⟨w.heap.size, 1, none⟩) (by simp)]; exact hc1
    have hbw : Below w.heap.size w wr := Hbel.out.trans (hb.mono (by omega))
    have Hrows := Lib.hid hrows
    have Hb := Lib.hid hb
    have Hbw := Lib.hid hbw
    clear hrows hb hbw
    by_cases hlt : i < g.nodes.length
    · have hin := inputs_any wr _ g i (Hg.out.up Hbw.out) hlt (by omega) (Hok.out.ins _ (List.getElem_mem hlt)) (Hok.out.wf _ (List.getElem_mem hlt))
      have Hin := Lib.hid hin
      clear hin
      have hGi : (insG g).getD i [] = insL g.nodes.length g.nodes[i].ins := by simp [insG, List.getD, hlt]
      have hnd := (insL_nodup g.nodes.length g.nodes[i].ins).1
      have hmem := (insL_nodup g.nodes.length g.nodes[i].ins).2
      have hml : (insL g.nodes.length g.nodes[i].ins).length ≤ 1000 := by
        have h1 := insL_len g.nodes.length g.nodes[i].ins g.nodes[i].ins.length
        rw [List.take_length] at h1
        have := Hok.out.ins _ (List.getElem_mem hlt)
        omega
      have Hnd := Lib.hid hnd
      have Hmem := Lib.hid hmem
      have HGi := Lib.hid hGi
      clear hnd hmem hGi
      generalize insL g.nodes.length g.nodes[i].ins = L at *
      go_wp2_with fail
      refine (Hin.out).mono ?_
      rintro e w2 ⟨v2, rfl, hown2, hb2⟩
      obtain ⟨p2, c2, rfl⟩ := ownsRow_form hown2
      have hzr : w.heap.size + 1 < wr.heap.size := by have := Hb.out.size; omega
      have hst : UIn (w.heap.size + 1) wr.heap.size (w.heap.size + 1) g.nodes.length (insG g) w2 i 0 w2 :=
        ⟨vs, Hrows.out.mod (Mod.of_below hb2 (fun _ => False)) (fun _ _ _ h => h), Mod.refl _ _, fun k hk b hb => .inl ((Hrows.out.row k hk).lt b hb).2⟩
      have Hst := Lib.hid hst
      have Hown2 := Lib.hid hown2
      have hzw := hb2.size
      have Hb2 := Lib.hid hb2
      clear hst hown2 hb2
      go_wp2_with fail
      obtain ⟨wo, rfl⟩ : ∃ wo : World, wo = wr := ⟨_, rfl⟩
      go_loopw [21] (fun c wx => ∃ t : Nat, c = .int .i64 t ∧ t ≤ L.length ∧ UIn (w.heap.size + 1) wo.heap.size (w.heap.size + 1) g.nodes.length (insG g) w2 i t wx) (fun c _ => L.length - (intOf c).toNat)
      case atStart => exact ⟨0, rfl, Nat.zero_le _, Hst.out⟩
      case round =>
        obtain ⟨t, rfl, ht, vs', hrow', hmod', hlies'⟩ := hrel
        clear Hst
        by_cases htl : t < L.length
        · obtain ⟨g2, c2', hv2, hg2, _⟩ := Hown2.out.form (by omega)
          simp only [Value.slice.injEq] at hv2
          obtain ⟨rfl, _, rfl⟩ := hv2
          have hx0 : 0 ≤ L[t] ∧ L[t] < (g.nodes.length : Int) := ((Hmem.out _).1 (List.getElem_mem htl)).2
          obtain ⟨k, hkx⟩ : ∃ k : Nat, L[t] = (k : Int) := ⟨L[t].toNat, by omega⟩
          have hk : k < g.nodes.length := by omega
          have hownx := ownsRow_mod Hown2.out hmod' (fun b hb hs => by
            have h1 := (Hown2.out.lt b hb).1
            omega)
          have hct := hownx.cellAt t (by omega)
          have het : (iv L)[t]? = some (.int .i64 (k : Int)) := by simp [iv, htl, hkx]
          rw [het] at hct
          have hck := hrow'.top.cellAt k (by omega)
          have hek : vs'[k]? = some (vs'.getD k undef) := by simp [List.getD, show k < vs'.length by rw [hrow'.len]; exact hk]
          rw [hek] at hck
          have hfk := hrow'.top.frozenAt k
          have hUx : w.heap.size + 1 < wr.heap.size := (hrow'.top.lt _ rfl).2
          have hbx : Below (w.heap.size + 1) w1 wr := (Hb.out.trans (Hb2.out.mono (by omega))).trans (hmod'.below (by omega) (fun b hb hs => by omega))
          have hrk := hrow'.row k hk
          have hkU := hrow'.apartU k hk
          have hll := usesL_len (insG g) i t k
          have hstep := fun (w3 : World) (o : Obj) (gg cp : Nat) h1 h2 h3 => UIn.step (w3 := w3) vs' hrow' hmod' hlies' (by rw [HGi.out]; exact Hnd.out) (by rw [HGi.out]; exact htl) hzr hzw o k hk (by simp only [HGi.out]; exact hkx) gg cp h1 h2 h3
          have Hstep := Lib.hid hstep
          have Hbx := Lib.hid hbx
          have HkU := Lib.hid hkU
          have Hkx := Lib.hid hkx
          clear hstep hbx hkU hrow' hmod' hlies' hkx hownx het hek hx0
          generalize hvk : vs'.getD k undef = vk at *
          clear hvk
          go_wp2_with (at_builtin; refine wpList_append_lies _ rfl _ _ 25 rfl (w.heap.size + 1) 3 i0 (.int .i64 0) 1 8 Try.underlying25 hi0 hz0 hz1 hz2 rfl (by omega) vk (usesL (insG g) i t k).length (iv (usesL (insG g) i t k)) rfl (hrk.alloc _) ⟨wr.heap.size, 0, none⟩ 1 1 [.int .i64 i] rfl rfl (cell_one_new _ _ _) (by simp [Value.oneCell']) (by omega) (by unfold maxLen; omega) (by omega) (by simp; omega) (wr.heap.size + 1) (by simp) ?_)
          intro gg cp w3 hown3 hgrow3 hat3 hlt3
          have hc3 : w3.cell? ⟨w.heap.size + 1, k, none⟩ = some vk := by
            rw [hgrow3.cell_far ⟨w.heap.size + 1, k, none⟩ (by simp; omega) (fun e => HkU.out e.symm), World.cell?_alloc_lt (h := hUx)]
            exact hck
          have hf3 : w3.frozen? ⟨w.heap.size + 1, k, none⟩ = false := by
            rw [hgrow3.frozen_far ⟨w.heap.size + 1, k, none⟩ (by simp; omega) (fun e => HkU.out e.symm), World.frozen?_alloc_old (h := by simp; omega)]
            exact hfk
          have hu := Hstep.out w3 _ gg cp hown3 hgrow3 hat3
          have Hu := Lib.hid hu
          clear hu hown3 hgrow3 hat3 Hstep hck hfk hrk
          go_wp2_with fail
          go_roundw
          case rel => exact ⟨t + 1, by go_num, by omega, Hu.out⟩
          case measure => simp [intOf]; omega
        · have hte : t = L.length := by omega
          subst hte
          have hnext : ∀ k, usesL (insG g) (i + 1) 0 k = usesL (insG g) i L.length k := fun k => usesL_next _ _ _ _ (by rw [HGi.out]; exact Nat.le_refl _)
          have hrow2 := hrow'.congr (fun k _ => hnext k)
          have hbx : Below (w.heap.size + 1) w1 wr := (Hb.out.trans (Hb2.out.mono (by omega))).trans (hmod'.below (by omega) (fun b hb hs => by omega))
          have Hrow2 := Lib.hid hrow2
          have Hbx := Lib.hid hbx
          clear hrow2 hbx hrow' hmod' hlies' hnext
          go_wp2_with fail
          go_roundw
          case rel => exact ⟨i + 1, by go_num, by omega, ⟨_, Hrow2.out⟩, Hbx.out⟩
          case measure => simp [intOf]; omega
    · go_wp2_with fail
      go_ret
      have hie : i = g.nodes.length := by omega
      subst hie
      refine ⟨_, vs, by rw [Hlen.out]; rfl, ?_, Hbw.out⟩
      have h := Hrows.out
      rw [Hlen.out]
      exact ⟨h.len, ownsRow_base h.top (by omega), fun k hk => ownsRow_base (h.row k hk) (by omega), h.apartU, h.apart⟩

end Go.Proofs.Ytpbmfalokongfaa

/- Plain: nodes that wait for others, struck one by one. G: for each node those that it waits for, each once. Nothing of the program stands here. -/
namespace Go.Gou

/-- A node is sure to lead nowhere round. -/
inductive Done (G : List (List Nat)) : Nat → Prop
  | mk (i : Nat) (h : i < G.length) (hk : ∀ k, k ∈ G[i] → Done G k) : Done G i

theorem Done.lt {G : List (List Nat)} {i : Nat} (h : Done G i) : i < G.length := by cases h; assumption
theorem Done.ins {G : List (List Nat)} {i k : Nat} (h : Done G i) (hk : k ∈ G.getD i []) : Done G k := by
  cases h with
  | mk _ hl hall => exact hall k (by simpa [List.getD, hl] using hk)

/-- How many of a list are not in another one. -/
def rest (out l : List Nat) : Nat := l.countP (fun k => !decide (k ∈ out))

theorem rest_zero {out l : List Nat} : rest out l = 0 ↔ ∀ k ∈ l, k ∈ out := by
  simp [rest, List.countP_eq_zero]

theorem rest_nil (l : List Nat) : rest [] l = l.length := by
  simp [rest]

theorem rest_le (out l : List Nat) : rest out l ≤ l.length := List.countP_le_length

theorem rest_snoc_not {out l : List Nat} {k : Nat} (h : k ∉ l) : rest (out ++ [k]) l = rest out l := by
  unfold rest
  apply List.countP_congr
  intro x hx
  have : x ≠ k := fun e => h (e ▸ hx)
  simp [this]

theorem rest_snoc {out l : List Nat} {k : Nat} (hn : l.Nodup) (hk : k ∈ l) (ho : k ∉ out) : rest out l = rest (out ++ [k]) l + 1 := by
  induction l with
  | nil => simp at hk
  | cons a l ih =>
    rw [List.nodup_cons] at hn
    unfold rest
    rw [List.countP_cons, List.countP_cons]
    by_cases e : a = k
    · subst e
      have := rest_snoc_not (out := out) hn.1
      unfold rest at this
      rw [this]
      simp [ho]
    · have hkl : k ∈ l := by simpa [Ne.symm e] using hk
      have := ih hn.2 hkl
      unfold rest at this
      rw [this]
      simp [e]
      omega

/-- The state ahead of a round: out is struck, next waits to be struck, left counts. -/
structure KInv (G : List (List Nat)) (out next : List Nat) (left : List Int) : Prop where
  nodup : (out ++ next).Nodup
  len : left.length = G.length
  lt : ∀ i, i ∈ out ++ next → i < G.length
  count : ∀ i, i < G.length → left.getD i 0 = (rest out (G.getD i []) : Int)
  zero : ∀ i, i < G.length → (i ∈ out ++ next ↔ left.getD i 0 = 0)
  done : ∀ i, i ∈ out → Done G i
  topo : ∀ pre i post, out = pre ++ i :: post → ∀ k ∈ G.getD i [], k ∈ pre

/-- Within a round: k is being struck; of those that wait for it, the first ones are told. -/
structure KIn (G : List (List Nat)) (out : List Nat) (k : Nat) (told : List Nat) (next : List Nat) (left : List Int) : Prop where
  nodup : (out ++ [k] ++ next).Nodup
  len : left.length = G.length
  lt : ∀ i, i ∈ out ++ [k] ++ next → i < G.length
  count : ∀ i, i < G.length → left.getD i 0 = (rest out (G.getD i []) : Int) - (if i ∈ told then 1 else 0)
  zero : ∀ i, i < G.length → (i ∈ out ++ [k] ++ next ↔ left.getD i 0 = 0)
  done : ∀ i, i ∈ out ++ [k] → Done G i
  topo : ∀ pre i post, out ++ [k] = pre ++ i :: post → ∀ k ∈ G.getD i [], k ∈ pre

theorem split_snoc {out pre post : List Nat} {k i : Nat} (h : out ++ [k] = pre ++ i :: post) : (pre = out ∧ i = k ∧ post = []) ∨ ∃ post', out = pre ++ i :: post' := by
  rcases List.eq_nil_or_concat post with rfl | ⟨l, b, rfl⟩
  · left
    have := List.append_inj' h rfl
    simp at this
    exact ⟨this.1.symm, this.2.symm, rfl⟩
  · right
    rw [List.concat_eq_append, ← List.cons_append, ← List.append_assoc] at h
    have := List.append_inj' h rfl
    exact ⟨l, this.1⟩

theorem KInv.start {G : List (List Nat)} {next : List Nat} (hn : next.Nodup) (hm : ∀ i, i ∈ next ↔ i < G.length ∧ G.getD i [] = []) : KInv G [] next (G.map fun l => (l.length : Int)) where
  nodup := by simpa using hn
  len := by simp
  lt := fun i hi => ((hm i).1 (by simpa using hi)).1
  count := fun i hi => by simp [rest_nil, List.getD, hi]
  zero := fun i hi => by
    rw [List.nil_append, hm]
    simp [List.getD, hi]
  done := by simp
  topo := fun pre i post h => by simp at h

theorem KInv.pop {G : List (List Nat)} {out next next' : List Nat} {left : List Int} {k : Nat} (h : KInv G out next left) (hp : next.Perm (k :: next')) : KIn G out k [] next' left := by
  have hperm : (out ++ [k] ++ next').Perm (out ++ next) := by
    rw [List.append_assoc]
    exact List.Perm.append_left out hp.symm
  have hin : ∀ i, i ∈ out ++ [k] ++ next' ↔ i ∈ out ++ next := fun i => hperm.mem_iff
  have hk : k < G.length := h.lt k ((hin k).1 (by simp))
  have hall : ∀ j ∈ G.getD k [], j ∈ out := by
    have h0 := (h.zero k hk).1 ((hin k).1 (by simp))
    rw [h.count k hk] at h0
    exact rest_zero.1 (by omega)
  refine ⟨hperm.nodup_iff.2 h.nodup, h.len, fun i hi => h.lt i ((hin i).1 hi), fun i hi => by simpa using h.count i hi, fun i hi => by rw [hin]; exact h.zero i hi, ?_, ?_⟩
  · intro i hi
    rw [List.mem_append] at hi
    rcases hi with hi | hi
    · exact h.done i hi
    · obtain rfl : i = k := by simpa using hi
      refine Done.mk i hk fun j hj => h.done j (hall j ?_)
      simpa [List.getD, hk] using hj
  · intro pre i post he
    rcases split_snoc he with ⟨rfl, rfl, rfl⟩ | ⟨post', rfl⟩
    · exact hall
    · exact h.topo pre i post' rfl

theorem getD_set (l : List Int) (u : Nat) (x : Int) (hu : u < l.length) (i : Nat) : (l.set u x).getD i 0 = if i = u then x else l.getD i 0 := by
  simp only [List.getD, List.getElem?_set]
  by_cases e : i = u
  · subst e; simp [hu]
  · simp [e, Ne.symm e]

theorem KIn.tell {G : List (List Nat)} {out told next : List Nat} {left : List Int} {k u : Nat} (h : KIn G out k told next left) (hu : u < G.length) (hku : k ∈ G.getD u []) (ht : u ∉ told) :
    (left.getD u 0 - 1 ≠ 0 → KIn G out k (told ++ [u]) next (left.set u (left.getD u 0 - 1))) ∧
    (left.getD u 0 - 1 = 0 → ∀ next', next'.Perm (u :: next) → KIn G out k (told ++ [u]) next' (left.set u (left.getD u 0 - 1))) := by
  have hc := h.count u hu
  simp only [ht, if_false] at hc
  have hko : k ∉ out := by
    have := h.nodup
    simp only [List.nodup_append] at this
    intro hk
    exact this.1.2.2 k hk k (by simp) rfl
  have hpos : 0 < rest out (G.getD u []) := Nat.pos_of_ne_zero fun h0 => hko (rest_zero.1 h0 k hku)
  have hnot : u ∉ out ++ [k] ++ next := fun hm => by
    have := (h.zero u hu).1 hm
    omega
  have hul : u < left.length := by rw [h.len]; exact hu
  have hcount : ∀ i, i < G.length → (left.set u (left.getD u 0 - 1)).getD i 0 = (rest out (G.getD i []) : Int) - (if i ∈ told ++ [u] then 1 else 0) := by
    intro i hi
    rw [getD_set _ _ _ hul]
    by_cases e : i = u
    · subst e
      rw [if_pos rfl, if_pos (by simp)]
      omega
    · rw [if_neg e, h.count i hi]
      simp [e]
  constructor
  · intro hne
    refine ⟨h.nodup, by simpa using h.len, h.lt, hcount, fun i hi => ?_, h.done, h.topo⟩
    rw [getD_set _ _ _ hul]
    by_cases e : i = u
    · subst e
      simp only [if_true]
      exact ⟨fun hm => absurd hm hnot, fun h0 => absurd h0 hne⟩
    · rw [if_neg e]
      exact h.zero i hi
  · intro h0 next' hp
    have hperm : (out ++ [k] ++ next').Perm (u :: (out ++ [k] ++ next)) := (List.Perm.append_left _ hp).trans List.perm_middle
    have hin : ∀ i, i ∈ out ++ [k] ++ next' ↔ i = u ∨ i ∈ out ++ [k] ++ next := fun i => by rw [hperm.mem_iff, List.mem_cons]
    refine ⟨hperm.nodup_iff.2 (List.nodup_cons.2 ⟨hnot, h.nodup⟩), by simpa using h.len, fun i hi => ?_, hcount, fun i hi => ?_, h.done, h.topo⟩
    · rcases (hin i).1 hi with rfl | hi
      · exact hu
      · exact h.lt i hi
    · rw [getD_set _ _ _ hul, hin]
      by_cases e : i = u
      · subst e
        rw [if_pos rfl]
        exact ⟨fun _ => h0, fun _ => .inl rfl⟩
      · rw [if_neg e, ← h.zero i hi]
        simp [e]

theorem KIn.finish {G : List (List Nat)} {out told next : List Nat} {left : List Int} {k : Nat} (hG : ∀ i, i < G.length → (G.getD i []).Nodup) (h : KIn G out k told next left)
    (ht : ∀ i, i < G.length → (i ∈ told ↔ k ∈ G.getD i [])) : KInv G (out ++ [k]) next left where
  nodup := h.nodup
  len := h.len
  lt := h.lt
  count := fun i hi => by
    have hko : k ∉ out := by
      have := h.nodup
      simp only [List.nodup_append] at this
      intro hk
      exact this.1.2.2 k hk k (by simp) rfl
    rw [h.count i hi]
    by_cases e : k ∈ G.getD i []
    · rw [if_pos ((ht i hi).2 e), rest_snoc (hG i hi) e hko]
      omega
    · rw [if_neg (fun hm => e ((ht i hi).1 hm)), rest_snoc_not e]
      omega
  zero := h.zero
  done := h.done
  topo := h.topo

/-- Nothing waits any more: what is struck is all that is sure to lead nowhere. -/
theorem KInv.all {G : List (List Nat)} {out : List Nat} {left : List Int} (h : KInv G out [] left) (i : Nat) : i ∈ out ↔ Done G i := by
  refine ⟨h.done i, fun hd => ?_⟩
  induction hd with
  | mk i hi hk ih =>
    have hz : left.getD i 0 = 0 := by
      rw [h.count i hi]
      have : rest out (G.getD i []) = 0 := rest_zero.2 fun k hkm => ih k (by simpa [List.getD, hi] using hkm)
      omega
    have := (h.zero i hi).2 hz
    simpa using this

/-- The order of a filter: what is struck, each once, each behind those that it waits for. -/
structure IsOrder (G : List (List Nat)) (out : List Nat) : Prop where
  nodup : out.Nodup
  mem : ∀ i, i ∈ out ↔ Done G i
  topo : ∀ pre i post, out = pre ++ i :: post → ∀ k ∈ G.getD i [], k ∈ pre

theorem KInv.order {G : List (List Nat)} {out : List Nat} {left : List Int} (h : KInv G out [] left) : IsOrder G out := ⟨by simpa using h.nodup, h.all, h.topo⟩

theorem nodup_length_le {l m : List Nat} (hl : l.Nodup) (h : ∀ i ∈ l, i ∈ m) : l.length ≤ m.length := by
  induction l generalizing m with
  | nil => simp
  | cons a l ih =>
    rw [List.nodup_cons] at hl
    have ha : a ∈ m := h a (by simp)
    have : l.length ≤ (m.erase a).length := ih hl.2 fun i hi => by
      have hne : i ≠ a := fun e => hl.1 (e ▸ hi)
      exact (List.mem_erase_of_ne hne).2 (h i (by simp [hi]))
    rw [List.length_erase_of_mem ha] at this
    have hp : 0 < m.length := List.length_pos_of_mem ha
    simp only [List.length_cons]
    omega

theorem IsOrder.le {G : List (List Nat)} {out : List Nat} (h : IsOrder G out) : out.length ≤ G.length := by
  have := nodup_length_le (m := List.range G.length) h.nodup fun i hi => List.mem_range.2 ((h.mem i).1 hi).lt
  simpa using this

/-- Fewer are struck than there are: some node leads round. -/
theorem IsOrder.round {G : List (List Nat)} {out : List Nat} (h : IsOrder G out) : out.length < G.length ↔ ∃ i, i < G.length ∧ ¬ Done G i := by
  constructor
  · intro hlt
    apply Classical.byContradiction
    intro hn
    have hall : ∀ i, i < G.length → Done G i := fun i hi => Classical.byContradiction fun hd => hn ⟨i, hi, hd⟩
    have := nodup_length_le (l := List.range G.length) (m := out) List.nodup_range fun i hi => (h.mem i).2 (hall i (List.mem_range.1 hi))
    rw [List.length_range] at this
    omega
  · rintro ⟨i, hi, hd⟩
    have hni : i ∉ out := fun hm => hd ((h.mem i).1 hm)
    have := nodup_length_le (l := i :: out) (m := List.range G.length) (List.nodup_cons.2 ⟨hni, h.nodup⟩) fun j hj => by
      rcases List.mem_cons.1 hj with rfl | hj
      · exact List.mem_range.2 hi
      · exact List.mem_range.2 ((h.mem j).1 hj).lt
    rw [List.length_range, List.length_cons] at this
    omega

end Go.Gou

