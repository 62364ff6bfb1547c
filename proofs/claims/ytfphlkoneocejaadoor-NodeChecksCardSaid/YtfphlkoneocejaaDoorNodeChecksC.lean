/- The card of NodeChecks: true for every argument, the three tables being what the text lays. -/
import Derived.Test.YtfphlkoneocejaaDoorCards
import Derived.Test.YtfphlkoneocejaaDoorTie
import Derived.Test.YtfphlkoneocejaaDoorChecks12
import Derived.Test.YtfphlkoneocejaaDoorArgs
import Derived.WalkKit
import Derived.ProofKit
import Derived.OpenShut
import Derived.Deep.DeepHandedRow
import Derived.Lib.LaidTab
import Derived.ChangeOld
import Derived.Below
namespace Go.Proofs.YtfphlkoneocejaaDoor.nodeChecks
open Go.ChangeShapes Go.WideShapes Go.ChangeAt Go.RowKit Go.Gou

theorem cells48 : Tryd.prog.cellsOf 48 = 13 := by kernel_rfl
theorem cellsInt : Tryd.prog.cellsOf 3 = 1 := by kernel_rfl
theorem under48 : Tryd.prog.underlying 48 = some (.array 13 3) := by kernel_rfl
theorem g0 : Tryd.prog.globalNamed "gouache/gouacheref12.least" = some 0 := by kernel_rfl
theorem t0 : (Tryd.prog.globals[0]?).map (·.type) = some 48 := by kernel_rfl
theorem g1 : Tryd.prog.globalNamed "gouache/gouacheref12.most" = some 1 := by kernel_rfl
theorem t1 : (Tryd.prog.globals[1]?).map (·.type) = some 48 := by kernel_rfl
theorem g2 : Tryd.prog.globalNamed "gouache/gouacheref12.params" = some 2 := by kernel_rfl
theorem t2 : (Tryd.prog.globals[2]?).map (·.type) = some 48 := by kernel_rfl

/-- What the row's list gives: the three tables. -/
theorem tables {W : World} (h : laidMetH Tryd.prog Rows.nodeChecksRow.laid W) : Tabs W := by
  have h0 : Lib.TabIs Tryd.prog W "gouache/gouacheref12.least" .i64 leastL := Lib.tabIs_of_head g0 t0 under48 Tryd.underlying3 cellsInt cells48 (laidMetH.filter (fun x => x.1 == "gouache/gouacheref12.least") h)
  have h1 : Lib.TabIs Tryd.prog W "gouache/gouacheref12.most" .i64 mostL := Lib.tabIs_of_head g1 t1 under48 Tryd.underlying3 cellsInt cells48 (laidMetH.filter (fun x => x.1 == "gouache/gouacheref12.most") h)
  have h2 : Lib.TabIs Tryd.prog W "gouache/gouacheref12.params" .i64 paramsL := Lib.tabIs_of_head g2 t2 under48 Tryd.underlying3 cellsInt cells48 (laidMetH.filter (fun x => x.1 == "gouache/gouacheref12.params") h)
  exact ⟨fun i hi => h0.cell g0 i hi, fun i hi => h1.cell g1 i hi, fun i hi => h2.cell g2 i hi⟩

/-- What the walk gives, for every argument and every world that holds the tables. -/
theorem contract (H : Type) (enc : TypeId × Value → H) (W : World) (base : Nat) (args : Array Value) (ds gs : List (DataW H)) (before : List MemPlace)
    (hval0 : ∀ (j : Nat) t v, Tryd.f4.params[j]? = some t → args[j]? = some v → Value.okWide Tryd.prog W .any base t v)
    (hW : DataW.Whole enc Tryd.prog Tryd.f4.params.toList Rows.nodeChecksSpec.vars false W args.toList ds gs before) (hL : laidMetH Tryd.prog Rows.nodeChecksRow.laid W) :
    Calls Tryd.prog 4 args W fun e W' => ∃ v, e = .returned v ∧ Rows.nodeChecksSpec.post enc Tryd.prog Tryd.f4 false true false false W args v W' := by
  have hT := tables hL
  have hval : ∀ (j : Nat) t v, Tryd.f4.params[j]? = some t → args[j]? = some v → Value.okWide Tryd.prog W .any base t v := hval0
  have hW' := hW
  obtain ⟨p, q, hA0, hV, rfl, hfz, hnd⟩ := hW
  have hA : DataW.TrodAll enc Tryd.prog W 0 (fun _ => true) true Tryd.f4.params.toList args.toList ds p := hA0
  rw [Tryd.params4] at hA hval
  obtain ⟨v0, vs0, d0, ds0, p0, q0, hargs, rfl, rfl, h0, r0⟩ := trodAll_cons hA
  obtain ⟨rfl, rfl, rfl⟩ := trodAll_nil r0
  obtain rfl : args = #[v0] := by cases args; simp_all
  obtain ⟨rfl, rfl⟩ := trodVars_none hV
  have lt0 : ∀ x ∈ p0, x.block < W.heap.size := by obtain ⟨m, hm⟩ := h0; exact DataW.trod_lt m _ _ _ hm
  obtain ⟨a0, b0, w0⟩ := open_gr (hval 0 32 v0 rfl rfl) h0
  clear hA0 hval0
  refine (nodeChecks_law W v0 a0 b0 w0 hT).mono fun e W' ⟨he, bel⟩ => ?_
  subst he
  exact ⟨_, rfl, _, _, _, [], _, [], hW', trodAll_mk1 (shut_bool Tryd.underlying4 _), (trodAll_cons_mk (Below.trod laidOut (by kernel_rfl) (of_decide_eq_true (by kernel_rfl)) h0 bel lt0) trodAll_mk0), rfl, bel.frame _, fun h => by cases h⟩

/-- A world for the witness: the settled one, the tables holding what their initialisers lay. -/
noncomputable def tabObj (vs : Array Value) : Obj → Obj
  | .cells _ t frozen => .cells vs t frozen
  | o => o
noncomputable def laidWorld (os : Os) : World :=
  { World.holding Tryd.prog os ⟨#[], #[], []⟩ with heap := (((World.holding Tryd.prog os ⟨#[], #[], []⟩).heap.modify 0 (tabObj #[.int .i64 0, .int .i64 1, .int .i64 1, .int .i64 1, .int .i64 1, .int .i64 1, .int .i64 0, .int .i64 2, .int .i64 2, .int .i64 1, .int .i64 1, .int .i64 1, .int .i64 1])).modify 1 (tabObj #[.int .i64 0, .int .i64 1, .int .i64 1, .int .i64 1, .int .i64 1, .int .i64 1, .int .i64 0, .int .i64 2, .int .i64 2, .int .i64 8, .int .i64 1, .int .i64 1, .int .i64 1])).modify 2 (tabObj #[.int .i64 0, .int .i64 2, .int .i64 2, .int .i64 2, .int .i64 2, .int .i64 20, .int .i64 8, .int .i64 1, .int .i64 1, .int .i64 0, .int .i64 4, .int .i64 8, .int .i64 4]) }
theorem laid_met (os : Os) : laidMet Tryd.prog Rows.nodeChecksRow.laid ((laidWorld os).forCall (fun _ _ => 0) ⟨#[], #[.agg #[.slice none 0 0, .int .i64 0]], []⟩).memory :=
  laidMet_of_run' 8 (by kernel_rfl) (by kernel_rfl)
theorem reads (os : Os) {H : Type} (enc : TypeId × Value → H) : DataW.whole enc Tryd.prog ((laidWorld os).forCall (fun _ _ => 0) ⟨#[], #[.agg #[.slice none 0 0, .int .i64 0]], []⟩).memory Tryd.f4.params.toList Rows.nodeChecksSpec.vars false (#[.agg #[.slice none 0 0, .int .i64 0]] : Array Value).toList 8 = some ([.agg [.nil, .lit (.int .i64 0)]], [], []) := by
  kernel_rfl

set_option maxRecDepth 100000 in
theorem lifted (os : Os) (started : os.Started) (H : Type) (enc : TypeId × Value → H) (F : Stop.Interp) :
    ReturnsInHanded {} Tryd.checked os 4 .any ((OpenSpec.ofChange Rows.nodeChecksSpec).preRow enc Tryd.prog Tryd.f4 Rows.nodeChecksRow.domain false Rows.nodeChecksRow.laid) (((OpenSpec.ofChange Rows.nodeChecksSpec).at F).post enc Tryd.prog Tryd.f4 false true false false) := by
  have hx := reads os enc
  refine returnsInHanded_of_row (C := Tryd.checked) (s := OpenSpec.ofChange Rows.nodeChecksSpec) own started (by kernel_rfl) Tryd.func4
    (witness_row_at (enc := enc) (C := Tryd.checked) false (laidWorld os) #[.agg #[.slice none 0 0, .int .i64 0]] rfl (by kernel_rfl) (by kernel_rfl) (by kernel_rfl)
      (OpenSpec.preRow_of_cond 8 hx (by kernel_rfl) (fun k hk => by cases hk) (by kernel_rfl) (laid_met os))) ?_
  intro W base args ds gs before hval hW _ _ _ hL _ _
  exact contract H enc W base args ds gs before hval hW hL

theorem said : Rows.NodeChecksSaid :=
  OpenClaim.holds_of_cond 4 Tryd.f4 rfl rfl rfl rfl rfl rfl rfl ⟨rfl, rfl, rfl, rfl, rfl⟩ rfl rfl rfl rfl rfl (by kernel_rfl) Tryd.func4 (by kernel_rfl)
    (of_decide_eq_true (by kernel_rfl)) (by unfold Func.isWrapper; first | (rw [if_pos (by decide +kernel)]; kernel_rfl) | (rw [if_neg (by decide +kernel)]; exact ⟨rfl, rfl⟩))
    (fun os started H enc _ F => by rw [OpenClaim.pre_eq_preRow]; exact lifted os started H enc F)

/-- No parameter wants a stand-in; the program's own looks are off. -/
theorem plain (f : FuncId) (fn : Func) (hf : Tryd.pinned.checked.prog.funcNamed "gouache/gouachelaw12.NodeChecks" = some f) (hfn : Tryd.pinned.checked.prog.funcs[f]? = some fn) :
    true = Tryd.pinned.checked.prog.looks [] ∧ ∀ (j : Nat) t, fn.params[j]? = some t → Tryd.pinned.checked.prog.wantsStandIn t = false := by
  obtain rfl : f = 4 := Option.some.inj ((show Tryd.prog.funcNamed "gouache/gouachelaw12.NodeChecks" = some 4 by kernel_rfl).symm.trans hf) |>.symm
  obtain rfl : fn = Tryd.f4 := (Option.some.inj (Tryd.func4.symm.trans hfn)).symm
  refine ⟨by kernel_rfl, fun j t ht => ?_⟩
  rw [Tryd.params4] at ht
  obtain rfl : t = 32 := by simpa using Array.mem_of_getElem? ht
  exact (show Tryd.prog.wantsStandIn 32 = false by kernel_rfl)

/-- The statement. -/
theorem proved : Rows.NodeChecksCardSaid :=
  Claim7.holds_tied_plain_at .later [] _ _ _ _ said (fun _ h => by cases h) (by kernel_rfl) (fun _ h => by cases h) nodeChecks_row_tie rfl ⟨rfl, rfl⟩ (by kernel_rfl) rfl plain (by kernel_rfl)
end Go.Proofs.YtfphlkoneocejaaDoor.nodeChecks
