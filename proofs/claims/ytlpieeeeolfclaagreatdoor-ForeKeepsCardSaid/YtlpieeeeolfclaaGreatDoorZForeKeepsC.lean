/- The card of ForeKeeps: true for every argument, the three tables being what the text lays. -/
import Derived.Test.YtlpieeeeolfclaaGreatDoorCards
import Derived.Test.YtlpieeeeolfclaaGreatDoorTie
import Derived.Test.YtlpieeeeolfclaaGreatDoorZar
import Derived.WalkKit
import Derived.ProofKit
import Derived.OpenShut
import Derived.Deep.DeepHandedRow
import Derived.Lib.LaidTab
import Derived.ChangeOld
import Derived.Below
set_option linter.unusedSimpArgs false
set_option linter.unusedVariables false
set_option linter.unusedSectionVars false
set_option linter.constructorNameAsVariable false

namespace Go.Proofs.YtlpieeeeolfclaaGreatDoor.foreKeeps
open Go.ChangeShapes Go.WideShapes Go.ChangeAt Go.RowKit Go.Gou
set_option maxRecDepth 100000

theorem cellsT : Tryz.prog.cellsOf 89 = 13 := by kernel_rfl
theorem cellsInt : Tryz.prog.cellsOf 3 = 1 := by kernel_rfl
theorem underT : Tryz.prog.underlying 89 = some (.array 13 3) := by kernel_rfl
theorem g0 : Tryz.prog.globalNamed "gouache/gouacheref12.least" = some 0 := by kernel_rfl
theorem t0 : (Tryz.prog.globals[0]?).map (·.type) = some 89 := by kernel_rfl
theorem g1 : Tryz.prog.globalNamed "gouache/gouacheref12.most" = some 1 := by kernel_rfl
theorem t1 : (Tryz.prog.globals[1]?).map (·.type) = some 89 := by kernel_rfl
theorem g2 : Tryz.prog.globalNamed "gouache/gouacheref12.params" = some 2 := by kernel_rfl
theorem t2 : (Tryz.prog.globals[2]?).map (·.type) = some 89 := by kernel_rfl

/-- What the row's list gives: the three tables. -/
theorem tables {W : World} (h : laidMetH Tryz.prog Rows.foreKeepsRow.laid W) : Tabs W := by
  have h0 : Lib.TabIs Tryz.prog W "gouache/gouacheref12.least" .i64 leastL := Lib.tabIs_of_head g0 t0 underT Tryz.underlying3 cellsInt cellsT (laidMetH.filter (fun x => x.1 == "gouache/gouacheref12.least") h)
  have h1 : Lib.TabIs Tryz.prog W "gouache/gouacheref12.most" .i64 mostL := Lib.tabIs_of_head g1 t1 underT Tryz.underlying3 cellsInt cellsT (laidMetH.filter (fun x => x.1 == "gouache/gouacheref12.most") h)
  have h2 : Lib.TabIs Tryz.prog W "gouache/gouacheref12.params" .i64 paramsL := Lib.tabIs_of_head g2 t2 underT Tryz.underlying3 cellsInt cellsT (laidMetH.filter (fun x => x.1 == "gouache/gouacheref12.params") h)
  exact ⟨fun i hi => h0.cell g0 i hi, fun i hi => h1.cell g1 i hi, fun i hi => h2.cell g2 i hi⟩

/-- What the walk gives, for every argument and every world that holds the tables. -/
theorem contract (H : Type) (enc : TypeId × Value → H) (W : World) (base : Nat) (args : Array Value) (ds gs : List (DataW H)) (before : List MemPlace)
    (hval0 : ∀ (j : Nat) t v, Tryz.f3.params[j]? = some t → args[j]? = some v → Value.okWide Tryz.prog W .any base t v)
    (hW : DataW.Whole enc Tryz.prog Tryz.f3.params.toList Rows.foreKeepsSpec.vars false W args.toList ds gs before) (hL : laidMetH Tryz.prog Rows.foreKeepsRow.laid W) :
    Calls Tryz.prog 3 args W fun e W' => ∃ v, e = .returned v ∧ Rows.foreKeepsSpec.post enc Tryz.prog Tryz.f3 false true false false W args v W' := by
  have hT := tables hL
  have hval : ∀ (j : Nat) t v, Tryz.f3.params[j]? = some t → args[j]? = some v → Value.okWide Tryz.prog W .any base t v := hval0
  have hW' := hW
  obtain ⟨p, q, hA0, hV, rfl, hfz, hnd⟩ := hW
  have hA : DataW.TrodAll enc Tryz.prog W 0 (fun _ => true) true Tryz.f3.params.toList args.toList ds p := hA0
  rw [Tryz.params3] at hA hval
  obtain ⟨v0, vs0, d0, ds0, p0, q0, hargs, rfl, rfl, h0, r0⟩ := trodAll_cons hA
  obtain ⟨v1, vs1, d1, ds1, p1, q1, rfl, rfl, rfl, h1, r1⟩ := trodAll_cons r0
  obtain ⟨rfl, rfl, rfl⟩ := trodAll_nil r1
  obtain rfl : args = #[v0, v1] := by cases args; simp_all
  obtain ⟨rfl, rfl⟩ := trodVars_none hV
  have lt0 : ∀ x ∈ p0, x.block < W.heap.size := by obtain ⟨m, hm⟩ := h0; exact DataW.trod_lt m _ _ _ hm
  obtain ⟨a0, b0, w0⟩ := open_gr (hval 0 24 v0 rfl rfl) h0
  have lt1 : ∀ x ∈ p1, x.block < W.heap.size := by obtain ⟨m, hm⟩ := h1; exact DataW.trod_lt m _ _ _ hm
  obtain ⟨a1, b1, w1⟩ := open_region (hval 1 26 v1 rfl rfl) h1
  clear hA0 hval0
  refine (foreKeeps_law W v0 a0 b0 w0 v1 a1 b1 w1 hT).mono fun e W' ⟨he, bel0⟩ => ?_
  subst he
  have bel : Below W.heap.size W W' := bel0.below (Nat.le_refl _) (fun _ _ h => h)
  exact ⟨_, rfl, _, _, _, [], _, [], hW', trodAll_mk1 (shut_bool Tryz.underlying4 _), (trodAll_cons_mk (Below.trod laidOut (by kernel_rfl) (of_decide_eq_true (by kernel_rfl)) h0 bel lt0) (trodAll_cons_mk (Below.trod laidOut (by kernel_rfl) (of_decide_eq_true (by kernel_rfl)) h1 bel lt1) trodAll_mk0)), rfl, bel.frame _, fun h => by cases h⟩

/-- A world for the witness: the settled one, the tables holding what their initialisers lay. -/
noncomputable def tabObj (vs : Array Value) : Obj → Obj
  | .cells _ t frozen => .cells vs t frozen
  | o => o
noncomputable def laidWorld (os : Os) : World :=
  { World.holding Tryz.prog os ⟨#[], #[], []⟩ with heap := (((World.holding Tryz.prog os ⟨#[], #[], []⟩).heap.modify 0 (tabObj #[.int .i64 0, .int .i64 1, .int .i64 1, .int .i64 1, .int .i64 1, .int .i64 1, .int .i64 0, .int .i64 2, .int .i64 2, .int .i64 1, .int .i64 1, .int .i64 1, .int .i64 1])).modify 1 (tabObj #[.int .i64 0, .int .i64 1, .int .i64 1, .int .i64 1, .int .i64 1, .int .i64 1, .int .i64 0, .int .i64 2, .int .i64 2, .int .i64 8, .int .i64 1, .int .i64 1, .int .i64 1])).modify 2 (tabObj #[.int .i64 0, .int .i64 2, .int .i64 2, .int .i64 2, .int .i64 2, .int .i64 20, .int .i64 8, .int .i64 1, .int .i64 1, .int .i64 0, .int .i64 4, .int .i64 8, .int .i64 4]) }
theorem laid_met (os : Os) : laidMet Tryz.prog Rows.foreKeepsRow.laid ((laidWorld os).forCall (fun _ _ => 0) ⟨#[], #[.agg #[.slice none 0 0, .int .i64 0], .slice none 0 0], []⟩).memory :=
  laidMet_of_run' 8 (by kernel_rfl) (by kernel_rfl)
theorem reads (os : Os) {H : Type} (enc : TypeId × Value → H) : DataW.whole enc Tryz.prog ((laidWorld os).forCall (fun _ _ => 0) ⟨#[], #[.agg #[.slice none 0 0, .int .i64 0], .slice none 0 0], []⟩).memory Tryz.f3.params.toList Rows.foreKeepsSpec.vars false (#[.agg #[.slice none 0 0, .int .i64 0], .slice none 0 0] : Array Value).toList 8 = some ([.agg [.nil, .lit (.int .i64 0)], .nil], [], []) := by
  kernel_rfl

set_option maxRecDepth 100000 in
theorem lifted (os : Os) (started : os.Started) (H : Type) (enc : TypeId × Value → H) (F : Stop.Interp) :
    ReturnsInHanded {} Tryz.checked os 3 .any ((OpenSpec.ofChange Rows.foreKeepsSpec).preRow enc Tryz.prog Tryz.f3 Rows.foreKeepsRow.domain false Rows.foreKeepsRow.laid) (((OpenSpec.ofChange Rows.foreKeepsSpec).at F).post enc Tryz.prog Tryz.f3 false true false false) := by
  have hx := reads os enc
  refine returnsInHanded_of_row (C := Tryz.checked) (s := OpenSpec.ofChange Rows.foreKeepsSpec) own started (by kernel_rfl) Tryz.func3
    (witness_row_at (enc := enc) (C := Tryz.checked) false (laidWorld os) #[.agg #[.slice none 0 0, .int .i64 0], .slice none 0 0] rfl (by kernel_rfl) (by kernel_rfl) (by kernel_rfl)
      (OpenSpec.preRow_of_cond 8 hx (by kernel_rfl) (fun k hk => by cases hk) (by kernel_rfl) (laid_met os))) ?_
  intro W base args ds gs before hval hW _ _ _ hL _ _
  exact contract H enc W base args ds gs before hval hW hL

theorem said : Rows.ForeKeepsSaid :=
  OpenClaim.holds_of_cond 3 Tryz.f3 rfl rfl rfl rfl rfl rfl rfl ⟨rfl, rfl, rfl, rfl, rfl⟩ rfl rfl rfl rfl rfl (by kernel_rfl) Tryz.func3 (by kernel_rfl)
    (of_decide_eq_true (by kernel_rfl)) (by unfold Func.isWrapper; first | (rw [if_pos (by decide +kernel)]; kernel_rfl) | (rw [if_neg (by decide +kernel)]; exact ⟨rfl, rfl⟩))
    (fun os started H enc _ F => by rw [OpenClaim.pre_eq_preRow]; exact lifted os started H enc F)

/-- No parameter wants a stand-in; the program's own looks are off. -/
theorem plain (f : FuncId) (fn : Func) (hf : Tryz.pinned.checked.prog.funcNamed "gouache/gouachelaw13.ForeKeeps" = some f) (hfn : Tryz.pinned.checked.prog.funcs[f]? = some fn) :
    true = Tryz.pinned.checked.prog.looks [] ∧ ∀ (j : Nat) t, fn.params[j]? = some t → Tryz.pinned.checked.prog.wantsStandIn t = false := by
  obtain rfl : f = 3 := Option.some.inj ((show Tryz.prog.funcNamed "gouache/gouachelaw13.ForeKeeps" = some 3 by kernel_rfl).symm.trans hf) |>.symm
  obtain rfl : fn = Tryz.f3 := (Option.some.inj (Tryz.func3.symm.trans hfn)).symm
  refine ⟨by kernel_rfl, fun j t ht => ?_⟩
  rw [Tryz.params3] at ht
  have hm := Array.mem_of_getElem? ht
  have : t = 24 ∨ t = 26 := by simpa using hm
  rcases this with rfl | rfl
  · exact (show Tryz.prog.wantsStandIn 24 = false by kernel_rfl)
  · exact (show Tryz.prog.wantsStandIn 26 = false by kernel_rfl)

/-- The statement. -/
theorem proved : Rows.ForeKeepsCardSaid :=
  Claim7.holds_tied_plain_at .later [] _ _ _ _ said (fun _ h => by cases h) (by kernel_rfl) (fun _ h => by cases h) foreKeeps_row_tie rfl ⟨rfl, rfl⟩ (by kernel_rfl) rfl plain (by kernel_rfl)
end Go.Proofs.YtlpieeeeolfclaaGreatDoor.foreKeeps

