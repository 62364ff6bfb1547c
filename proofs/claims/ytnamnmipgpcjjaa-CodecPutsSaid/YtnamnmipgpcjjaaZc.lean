/- Texts of the codec's proofs, laid together: CRdL, CRdM, CRdN, CGetA, CGetB, CGetC. -/
import Derived.Test.YtnamnmipgpcjjaaYCRdK
import Derived.Defers
import Derived.Recover
import Derived.Great.BuildSlice
set_option linter.unusedSimpArgs false
set_option linter.unusedVariables false
set_option linter.unusedSectionVars false
set_option linter.constructorNameAsVariable false

/- Acts as bytes: a fault is caught. -/
namespace Go.Proofs.Ytnamnmipgpcjjaa
open Go.RowKit Go.Gou

theorem caught_nil (w : World) : Calls Try.prog 20 #[.nilIface] w fun e w' => e = .returned (.bool false) ∧ w' = w := by
  go_enter Try.func20, Try.ntmps20
  go_wp2
  go_ret
  exact ⟨rfl, rfl⟩

set_option maxRecDepth 100000 in
theorem caught_fault (w : World) : Calls Try.prog 20 #[.iface 84 (.agg #[])] w fun e w' => e = .returned (.bool true) ∧ Gou.Mod (fun _ => False) w w' := by
  go_enter Try.func20, Try.ntmps20
  have ha : (Instr.typeAssert (.iface 84 (.agg #[])) 20 84 true).run Try.prog w = .ok (.tuple #[.agg #[], .bool true]) w := by
    simp [Instr.typeAssert, go_sem, Try.underlying84]
  go_wp2
  go_ret
  exact ⟨rfl, Mod.alloc _ _ _⟩

end Go.Proofs.Ytnamnmipgpcjjaa

/- Acts as bytes: an act is read, or a fault is caught. -/
namespace Go.Proofs.Ytnamnmipgpcjjaa
open Go.RowKit Go.Gou

set_option maxRecDepth 100000 in
theorem one_idle (p0 p1 p2 p3 : Value) (w : World) :
    CallsD Try.prog 42 #[p0, p1, p2, p3] .returning w fun e u' w' => e = .returned (.tuple #[]) ∧ u' = .returning ∧ w' = w := by
  refine callsD_of_wpS Try.func42 rfl fun c₀ cs hu => ?_
  apply wpS_seq
  apply wpS_region
  simp [wpOpsS, go_sem, recoverD, hu, Try.ntmps42, Exit.thenS]
  refine (caught_nil _).mono ?_
  rintro e w' ⟨rfl, rfl⟩
  simp [wpOpsS, go_sem, recoverD, hu, Try.ntmps42, Exit.thenS]
  refine wpS_cond (t := false) (by simp [Act.eval, Array.replicate]) ?_
  simp only [Bool.false_eq_true, if_false]
  refine wpS_of_wp (wp_skip ?_)
  cases c₀
  simp_all [bodyPostS, results, Try.results42]

set_option maxRecDepth 100000 in
set_option maxHeartbeats 2000000 in
theorem one_caught (F B A O R from_ n m : Nat) (vb : Value) (bs : List Nat) (cs : Array Value) (b : Value) (w0 w : World) (older : List PanicEntry) (H : RdAt w0 R vb bs n) (hm0 : Gou.Mod (fun k => k = R) w0 w) (hr0 : RdAt w R vb bs m)
    (hF : Blk w F 3 #[.int .i64 from_]) (hB : Blk w B 67 #[.pointer (some ⟨R, 0, none⟩)]) (hA : Blk w A 41 cs) (hcs : cs.size = 42) (hO : Blk w O 4 #[b]) (hf : from_ ≤ bs.length)
    (hA0 : w0.heap.size ≤ A) (hO0 : w0.heap.size ≤ O) (hF0 : w0.heap.size ≤ F) (hB0 : w0.heap.size ≤ B) (hAO : A ≠ O) :
    CallsD Try.prog 42 #[.pointer (some ⟨F, 0, none⟩), .pointer (some ⟨B, 0, none⟩), .pointer (some ⟨A, 0, none⟩), .pointer (some ⟨O, 0, none⟩)] (.panicking ({ v := .iface 84 (.agg #[]), recovered := false } :: older)) w fun e u' w' =>
      e = .returned (.tuple #[]) ∧ u' = .panicking ({ v := .iface 84 (.agg #[]), recovered := true } :: older) ∧ RdAt w' R vb bs from_ ∧ Gou.Mod (fun k => k = R) w0 w' ∧ Blk w' A 41 AcZ ∧ Blk w' O 4 #[.bool false] := by
  refine callsD_of_wpS Try.func42 rfl fun c₀ cs' hu => ?_
  apply wpS_seq
  apply wpS_region
  simp [wpOpsS, go_sem, recoverD, hu, Try.ntmps42, Exit.thenS]
  refine (caught_fault _).mono ?_
  rintro e w1 ⟨rfl, hm1⟩
  have hRlt := H.lt
  have hF1 := hF.mod hm1 (fun h => h)
  have hB1 := hB.mod hm1 (fun h => h)
  have hr1 := hr0.mod hm1 (fun h => h) (fun _ _ _ h => h)
  have hm01 := hm0.trans' (hm1.imp (S' := fun k => k = R) fun _ _ h => h.elim)
  have hA1 := (hA.mod hm1 (fun h => h)).mod (Gou.Mod.setCell w1 ⟨R, 1, none⟩ (.int .i64 from_)) (by simp; omega)
  have hO1 := (hO.mod hm1 (fun h => h)).mod (Gou.Mod.setCell w1 ⟨R, 1, none⟩ (.int .i64 from_)) (by simp; omega)
  have hr2 := hr1.setAt from_ hf
  have hm02 := hm01.trans' (Gou.Mod.setCell w1 ⟨R, 1, none⟩ (.int .i64 from_))
  have Ht := Lib.hid (hA1.there 0 42 (by omega))
  have hA2 := hA1.sets 0 zA42
  rw [setMany_all _ _ (by simp [hcs])] at hA2
  have hO2 := hO1.mod (Blk.setMod (w1.setCell ⟨R, 1, none⟩ (.int .i64 from_)) A 0 zA42) (fun h => hAO h.symm)
  have hr3 := H.owns hr2 hm02 A 0 zA42 hA0
  have cF := hF1.cell 0 rfl
  have cB := hB1.cell 0 rfl
  have c1 := hr1.c1
  have f1 := hr1.f1
  have cO := hO2.cell 0 rfl
  have fO := hO2.frozen 0
  have hA3 := hA2.mod (Gou.Mod.setCell _ ⟨O, 0, none⟩ (.bool false)) (fun h => hAO h)
  have hO3 := hO2.set 0 (.bool false)
  have hr4 := H.own hr3.1 hr3.2 ⟨O, 0, none⟩ (.bool false) hO0
  have hm4 := hr3.2.own ⟨O, 0, none⟩ (.bool false) hO0
  have HE := Lib.hid (And.intro hr4 (And.intro hm4 (And.intro hA3 hO3)))
  clear hA3 hO3 hr4 hm4 hr3 hO2 hA2 hr2 hm02 hO1 hA1 hm01 hr1 hB1 hF1 hm0 hr0 hF hB hA hO hm1 H
  simp [wpOpsS, go_sem, recoverD, hu, Try.ntmps42, Exit.thenS]
  refine wpS_cond (t := true) (by simp [Act.eval, Array.replicate]) ?_
  simp only [if_true]
  refine wpS_of_wp ?_
  go_wp2_with (first | ((with_reducible refine wpList_store_mid ?g_1 41 ?x_1 ?y_1 ?o_1 A 0 AcZ ?h_1 ?j_1 ?t_1 ?i_1 ?s_1 ?r_1); (case g_1 | o_1 | h_1 | j_1 => exact rfl); (case t_1 => exact Ht.out); (case i_1 => exact size_act); (case s_1 => exact actC_one Ac.zero none 0 0 none 0 0 none 0 0)) | fail)
  cases c₀
  simp_all [bodyPostS, results, Try.results42]
  exact HE.out

end Go.Proofs.Ytnamnmipgpcjjaa

/- Acts as bytes: one act is read, or none. -/
namespace Go.Proofs.Ytnamnmipgpcjjaa
open Go.RowKit Go.Gou

theorem results_two {P : Program} {fn : Func} {p q : Tmp} {T U : TypeId} (h : fn.results = #[.cell p T, .cell q U]) (tmps : Array Value) (w : World) (g o : Nat) (va vo : Value)
    (hp : tmps.getD p undef = .pointer (some ⟨g, 0, none⟩)) (hq : tmps.getD q undef = .pointer (some ⟨o, 0, none⟩)) (hA : (loadVar T ⟨g, 0, none⟩).run P w = .ok va w) (hO : (loadVar U ⟨o, 0, none⟩).run P w = .ok vo w) :
    (results fn tmps).run P w = .ok (.tuple #[va, vo]) w := by
  have hp' : tmps[p]?.getD undef = .pointer (some ⟨g, 0, none⟩) := by simpa using hp
  have hq' : tmps[q]?.getD undef = .pointer (some ⟨o, 0, none⟩) := by simpa using hq
  simp [results, h, hp', hq', asAddr, hA, hO]

theorem run_boolVar (w : World) (o : Nat) (b : Bool) (h : w.cell? ⟨o, 0, none⟩ = some (.bool b)) : (loadVar 4 ⟨o, 0, none⟩).run Try.prog w = .ok (.bool b) w := by simp [go_sem, h]

/-- What one act's reading comes to. -/
def OneP (w : World) (R : Nat) (vb : Value) (bs : List Nat) (n : Nat) (e : Ending) (w' : World) : Prop :=
  Gou.Mod (fun k => k = R) w w' ∧ match actAt bs n with
    | some (a, m) => ∃ v, e = .returned (.tuple #[v, .bool true]) ∧ IsAct w.heap.size w' v a ∧ RdAt w' R vb bs m
    | none => e = .returned (.tuple #[.agg AcZ, .bool false]) ∧ RdAt w' R vb bs n

set_option maxRecDepth 100000 in
set_option maxHeartbeats 2000000 in
theorem one_any (w : World) (R : Nat) (vb : Value) (bs : List Nat) (n : Nat) (h : RdAt w R vb bs n) :
    Calls Try.prog 28 #[.pointer (some ⟨R, 0, none⟩)] w (OneP w R vb bs n) := by
  have H := Lib.hid h
  have hR := h.lt
  have c1 := (((h.alloc (.cells #[.pointer (some ⟨R, 0, none⟩)] 67)).alloc (.cells AcZ 41)).alloc (.cells #[.bool false] 4)).c1
  clear h
  have hmf : ∀ (fn : Fn) (first cap : Array Value) (w : World), (Instr.makeFunc fn first cap).run Try.prog w = .ok (.func fn first cap) w := fun _ _ _ _ => rfl
  have HW : Hid (RdAt ((((w.alloc (.cells #[.pointer (some ⟨R, 0, none⟩)] 67)).alloc (.cells AcZ 41)).alloc (.cells #[.bool false] 4)).alloc (.cells #[.int .i64 n] 3)) R vb bs n ∧ Gou.Mod (fun k => k = R) w ((((w.alloc (.cells #[.pointer (some ⟨R, 0, none⟩)] 67)).alloc (.cells AcZ 41)).alloc (.cells #[.bool false] 4)).alloc (.cells #[.int .i64 n] 3)) ∧ Blk ((((w.alloc (.cells #[.pointer (some ⟨R, 0, none⟩)] 67)).alloc (.cells AcZ 41)).alloc (.cells #[.bool false] 4)).alloc (.cells #[.int .i64 n] 3)) w.heap.size 67 #[.pointer (some ⟨R, 0, none⟩)] ∧ Blk ((((w.alloc (.cells #[.pointer (some ⟨R, 0, none⟩)] 67)).alloc (.cells AcZ 41)).alloc (.cells #[.bool false] 4)).alloc (.cells #[.int .i64 n] 3)) (w.heap.size + 1) 41 AcZ ∧ Blk ((((w.alloc (.cells #[.pointer (some ⟨R, 0, none⟩)] 67)).alloc (.cells AcZ 41)).alloc (.cells #[.bool false] 4)).alloc (.cells #[.int .i64 n] 3)) (w.heap.size + 1 + 1) 4 #[.bool false] ∧ Blk ((((w.alloc (.cells #[.pointer (some ⟨R, 0, none⟩)] 67)).alloc (.cells AcZ 41)).alloc (.cells #[.bool false] 4)).alloc (.cells #[.int .i64 n] 3)) (w.heap.size + 1 + 1 + 1) 3 #[.int .i64 n] ∧ ((((w.alloc (.cells #[.pointer (some ⟨R, 0, none⟩)] 67)).alloc (.cells AcZ 41)).alloc (.cells #[.bool false] 4)).alloc (.cells #[.int .i64 n] 3)).heap.size = w.heap.size + 4) := by
    refine ⟨(((H.out.alloc _).alloc _).alloc _).alloc _, (((Gou.Mod.alloc _ _ _).trans' (Gou.Mod.alloc _ _ _)).trans' (Gou.Mod.alloc _ _ _)).trans' (Gou.Mod.alloc _ _ _), ?_, ?_, ?_, ?_, by simp⟩
    · exact (((show Blk (w.alloc (.cells #[.pointer (some ⟨R, 0, none⟩)] 67)) w.heap.size 67 _ from heap_alloc_new w _).mod (Gou.Mod.alloc (fun _ => False) _ _) (fun h => h)).mod (Gou.Mod.alloc (fun _ => False) _ _) (fun h => h)).mod (Gou.Mod.alloc (fun _ => False) _ _) (fun h => h)
    · have h1 : Blk ((w.alloc (.cells #[.pointer (some ⟨R, 0, none⟩)] 67)).alloc (.cells AcZ 41)) (w.heap.size + 1) 41 AcZ := by
        have := heap_alloc_new (w.alloc (.cells #[.pointer (some ⟨R, 0, none⟩)] 67)) (.cells AcZ 41)
        rw [World.size_alloc] at this
        exact this
      exact (h1.mod (Gou.Mod.alloc (fun _ => False) _ _) (fun h => h)).mod (Gou.Mod.alloc (fun _ => False) _ _) (fun h => h)
    · have h1 : Blk (((w.alloc (.cells #[.pointer (some ⟨R, 0, none⟩)] 67)).alloc (.cells AcZ 41)).alloc (.cells #[.bool false] 4)) (w.heap.size + 1 + 1) 4 #[.bool false] := by
        have := heap_alloc_new ((w.alloc (.cells #[.pointer (some ⟨R, 0, none⟩)] 67)).alloc (.cells AcZ 41)) (.cells #[.bool false] 4)
        rw [World.size_alloc, World.size_alloc] at this
        exact this
      exact h1.mod (Gou.Mod.alloc (fun _ => False) _ _) (fun h => h)
    · have := heap_alloc_new (((w.alloc (.cells #[.pointer (some ⟨R, 0, none⟩)] 67)).alloc (.cells AcZ 41)).alloc (.cells #[.bool false] 4)) (.cells #[.int .i64 n] 3)
      rw [World.size_alloc, World.size_alloc, World.size_alloc] at this
      exact this
  go_enter_defers Try.func28, Try.ntmps28
  go_wp2_with fail
  generalize hW : ((((w.alloc (.cells #[.pointer (some ⟨R, 0, none⟩)] 67)).alloc (.cells AcZ 41)).alloc (.cells #[.bool false] 4)).alloc (.cells #[.int .i64 n] 3)) = W at *
  clear hW c1
  have HW0 := HW.out
  obtain ⟨hr0, hm0, hB, hA, hO, hF, hs⟩ := HW0
  refine (act_any _ R vb bs n hr0).mono ?_
  intro e w1 h1
  cases hn : actAt bs n with
  | none =>
    rw [hn] at h1
    obtain ⟨hm1, rfl, q, hq⟩ := h1
    have hO1 := hO.mod hm1 (by omega)
    have hA1 := hA.mod hm1 (by omega)
    have hB1 := hB.mod hm1 (by omega)
    have hF1 := hF.mod hm1 (by omega)
    have HE := Lib.hid (one_caught (w.heap.size + 1 + 1 + 1) w.heap.size (w.heap.size + 1) (w.heap.size + 1 + 1) R n n q vb bs _ _ w w1 [] H.out (hm0.trans' hm1) hq hF1 hB1 hA1 (by simp) hO1 H.out.le (by omega) (by omega) (by omega) (by omega) (by omega))
    have Hn := Lib.hid hn
    clear hO1 hA1 hB1 hF1 hm1 hq hr0 hm0 hB hA hO hF hs HW hn
    go_wp2_with fail
    refine leaves_cons (f := 42) (args := #[.pointer (some ⟨w.heap.size + 1 + 1 + 1, 0, none⟩), .pointer (some ⟨w.heap.size, 0, none⟩), .pointer (some ⟨w.heap.size + 1, 0, none⟩), .pointer (some ⟨w.heap.size + 1 + 1, 0, none⟩)]) (by simp) (by simp [go_sem]) ?_
    refine HE.out.mono ?_
    rintro e u' w2 ⟨rfl, rfl, hr, hm, hA, hO⟩
    have hlA := run_loadVar_row (P := Try.prog) w2 (w.heap.size + 1) 41 41 _ (0, 0) _ hA Try.underlying41 rfl (size_act.trans (by simp))
    have cO := hO.cell 0 rfl
    have hlO : (loadVar 4 ⟨w.heap.size + 1 + 1, 0, none⟩).run Try.prog w2 = .ok (.bool false) w2 := by simp [go_sem, cO]
    refine ⟨.tuple #[.agg AcZ, .bool false], ?_, hm, by rw [Hn.out]; exact ⟨rfl, hr⟩⟩
    exact results_two rfl _ _ _ _ _ _ rfl rfl hlA hlO
  | some p =>
    obtain ⟨a, m⟩ := p
    rw [hn] at h1
    obtain ⟨hm1, _, rfl, ⟨vp, vf, vb2, rfl, hlr, hsoft⟩, hr1⟩ := h1
    obtain ⟨p1, n1, k1, p2, n2, k2, p3, n3, k3, rfl, rfl, rfl⟩ := hlr.forms
    have hA1 := hA.mod hm1 (by omega)
    have hO1 := hO.mod hm1 (by omega)
    have Ht := Lib.hid (hA1.there 0 42 (by simp))
    have hA2 := hA1.sets 0 (actC a (.slice p1 n1 k1) (.slice p2 n2 k2) (.slice p3 n3 k3)).toList
    rw [setMany_all _ _ (by simp [actC])] at hA2
    have hO2 := hO1.mod (Blk.setMod w1 (w.heap.size + 1) 0 (actC a (.slice p1 n1 k1) (.slice p2 n2 k2) (.slice p3 n3 k3)).toList) (by omega)
    have cO := hO2.cell 0 rfl
    have fO := hO2.frozen 0
    have hm01 := hm0.trans' hm1
    have hr2 := H.out.owns hr1 hm01 (w.heap.size + 1) 0 (actC a (.slice p1 n1 k1) (.slice p2 n2 k2) (.slice p3 n3 k3)).toList (by omega)
    have hA3 := hA2.mod (Gou.Mod.setCell _ ⟨w.heap.size + 1 + 1, 0, none⟩ (.bool true)) (by simp)
    have hO3 := hO2.set 0 (.bool true)
    have hr3 := H.out.own hr2.1 hr2.2 ⟨w.heap.size + 1 + 1, 0, none⟩ (.bool true) (by simp; omega)
    have hm3 := hr2.2.own ⟨w.heap.size + 1 + 1, 0, none⟩ (.bool true) (by simp; omega)
    have hfar := (Gou.Mod.two (L := w.heap.size + 1) (N := w.heap.size + 1 + 1) (o := 0) (vs := (actC a (.slice p1 n1 k1) (.slice p2 n2 k2) (.slice p3 n3 k3)).toList) (Gou.Mod.setCell _ ⟨w.heap.size + 1 + 1, 0, none⟩ (.bool true)) : Gou.Mod _ w1 _)
    have hI : IsAct w.heap.size (((w1.setCells (w.heap.size + 1) 0 (actC a (.slice p1 n1 k1) (.slice p2 n2 k2) (.slice p3 n3 k3)).toList)).setCell ⟨w.heap.size + 1 + 1, 0, none⟩ (.bool true)) (.agg (actC a (.slice p1 n1 k1) (.slice p2 n2 k2) (.slice p3 n3 k3))) a := ⟨_, _, _, rfl, hlr.far hfar (by omega) (by omega) (by omega), hsoft.far hfar (by omega) (by omega) (by omega)⟩
    have HE := Lib.hid (And.intro hA3 (And.intro hO3 (And.intro hr3 (And.intro hm3 hI))))
    have Hn := Lib.hid hn
    clear hI hfar hm3 hr3 hO3 hA3 hr2 hm01 hO2 hA2 hA1 hO1 hsoft hlr hr1 hm1 hn HW hr0 hm0 hB hA hO hF hs
    go_wp2_with (first | ((with_reducible refine wpList_store_mid ?g_1 41 ?x_1 ?y_1 ?o_1 (w.heap.size + 1) 0 (actC a (.slice p1 n1 k1) (.slice p2 n2 k2) (.slice p3 n3 k3)) ?h_1 ?j_1 ?t_1 ?i_1 ?s_1 ?r_1); (case g_1 | o_1 | h_1 | j_1 => exact rfl); (case t_1 => exact Ht.out); (case i_1 => exact size_act); (case s_1 => exact actC_one _ _ _ _ _ _ _ _ _ _)) | fail)
    refine leaves_cons (f := 42) (args := #[.pointer (some ⟨w.heap.size + 1 + 1 + 1, 0, none⟩), .pointer (some ⟨w.heap.size, 0, none⟩), .pointer (some ⟨w.heap.size + 1, 0, none⟩), .pointer (some ⟨w.heap.size + 1 + 1, 0, none⟩)]) (by simp) (by simp [go_sem]) ?_
    refine (one_idle _ _ _ _ _).mono ?_
    rintro e u' w2 ⟨rfl, rfl, rfl⟩
    obtain ⟨hA3, hO3, hr3, hm3, hI⟩ := HE.out
    have hlA := run_loadVar_row (P := Try.prog) _ (w.heap.size + 1) 41 41 _ (0, 0) _ hA3 Try.underlying41 rfl (size_act.trans (by simp [actC]))
    have cO3 := hO3.cell 0 rfl
    have hlO := run_boolVar _ _ _ cO3
    refine ⟨.tuple #[.agg (actC a (.slice p1 n1 k1) (.slice p2 n2 k2) (.slice p3 n3 k3)), .bool true], ?_, hm3, by rw [Hn.out]; exact ⟨_, rfl, hI, hr3⟩⟩
    exact results_two rfl _ _ _ _ _ _ rfl rfl hlA hlO

end Go.Proofs.Ytnamnmipgpcjjaa

/- Plain words on memory: rows of acts; acts that stand in bytes one behind the other. -/
namespace Go.Gou
open Go.RowKit

/-- From n on these acts stand, and end at m. -/
def Reads (bs : List Nat) : List Ac → Nat → Nat → Prop
  | [], n, m => n = m
  | a :: xs, n, m => ∃ k, actAt bs n = some (a, k) ∧ Reads bs xs k m

theorem Reads.snoc {bs : List Nat} {xs : List Ac} {n m k : Nat} {a : Ac} (h : Reads bs xs n m) (ha : actAt bs m = some (a, k)) : Reads bs (xs ++ [a]) n k := by
  induction xs generalizing n with
  | nil => obtain rfl : n = m := h; exact ⟨k, ha, rfl⟩
  | cons b r ih => obtain ⟨q, h1, h2⟩ := h; exact ⟨q, h1, ih h2⟩

theorem numGo_lt {bs : List Nat} : ∀ {f n m s : Nat} {x : Int} {q : Nat}, numGo bs f n m s = some (x, q) → n < q := by
  intro f
  induction f with
  | zero => intro n m s x q h; cases h
  | succ f ih =>
    intro n m s x q h
    rw [numGo] at h
    split at h
    · split at h
      · split at h
        · have := ih h; omega
        · cases h
      · split at h
        · simp only [Option.some.injEq, Prod.mk.injEq] at h; omega
        · cases h
    · cases h

theorem rawAt_place {bs : List Nat} {n x m : Nat} (hx : rawAt bs n = some (x, m)) : m = n + 1 ∧ n < bs.length := by
  unfold rawAt at hx
  split at hx
  · simp only [Option.some.injEq, Prod.mk.injEq] at hx
    omega
  · cases hx

/-- The acts of a row, in blocks apart. -/
structure ActsIn (w : World) (base : Nat) (cs : List Value) (xs : List Ac) (lo hi : Nat → Nat) : Prop where
  len : cs.length = xs.length * 42
  ord : ∀ i j, i < j → j < xs.length → hi i ≤ lo j
  top : ∀ i, i < xs.length → base ≤ lo i ∧ hi i ≤ w.heap.size
  at_ : ∀ i, (h : i < xs.length) → ∃ vp vf vb, (∀ j, j < 42 → cs[i * 42 + j]? = (actC xs[i] vp vf vb)[j]?) ∧ LookR (fun b => lo i ≤ b ∧ b < hi i) w xs[i].op.look vp vf vb ∧
    ∀ b, vp.ownBlock = some b → (lo i ≤ b ∧ b < hi i) ∧ ∃ cur T, w.heap[b]? = some (.cells cur T (0, 0))

theorem ActsIn.nil (w : World) (base : Nat) : ActsIn w base [] [] (fun _ => 0) (fun _ => 0) := ⟨rfl, fun i j _ h => by simp at h, fun i h => by simp at h, fun i h => by simp at h⟩

theorem ActsIn.mod {w w' : World} {base : Nat} {cs : List Value} {xs : List Ac} {lo hi : Nat → Nat} {S : Nat → Prop} (h : ActsIn w base cs xs lo hi) (hm : Mod S w w') (hS : ∀ i b, i < xs.length → lo i ≤ b → b < hi i → ¬ S b) : ActsIn w' base cs xs lo hi := by
  refine ⟨h.len, h.ord, fun i hi' => ⟨(h.top i hi').1, Nat.le_trans (h.top i hi').2 hm.size⟩, fun i hi' => ?_⟩
  obtain ⟨vp, vf, vb, h1, h2, h3⟩ := h.at_ i hi'
  refine ⟨vp, vf, vb, h1, h2.mod hm (fun k _ hG => hS i k hi' hG.1 hG.2), fun b hb => ?_⟩
  obtain ⟨h4, cur, T, h5⟩ := h3 b hb
  refine ⟨h4, cur, T, ?_⟩
  have hlt : b < w.heap.size := (Array.getElem?_eq_some_iff.1 h5).1
  rw [hm.block b hlt (hS i b hi' h4.1 h4.2), h5]

theorem actC_size (a : Ac) (vp vf vb : Value) : (actC a vp vf vb).size = 42 := by simp [actC]

theorem LookR.below {B : Nat} {w : World} {l : Lk} {vp vf vb : Value} (h : LookR (fun b => B ≤ b) w l vp vf vb) : LookR (fun b => B ≤ b ∧ b < w.heap.size) w l vp vf vb := h.imp fun k hk hG => ⟨hG, hk⟩

theorem ActsIn.snoc {w : World} {base : Nat} {cs : List Value} {xs : List Ac} {lo hi : Nat → Nat} (h : ActsIn w base cs xs lo hi) {a : Ac} {vp vf vb : Value} {l t : Nat} (hl : ∀ i, i < xs.length → hi i ≤ l) (hb : base ≤ l) (ht : t ≤ w.heap.size)
    (hL : LookR (fun b => l ≤ b ∧ b < t) w a.op.look vp vf vb) (hs : ∀ b, vp.ownBlock = some b → (l ≤ b ∧ b < t) ∧ ∃ cur T, w.heap[b]? = some (.cells cur T (0, 0))) :
    ActsIn w base (cs ++ (actC a vp vf vb).toList) (xs ++ [a]) (fun i => if i = xs.length then l else lo i) (fun i => if i = xs.length then t else hi i) := by
  have hn : (actC a vp vf vb).toList.length = 42 := by simp [actC]
  refine ⟨by simp [h.len, actC]; omega, fun i j hij hj => ?_, fun i hi' => ?_, fun i hi' => ?_⟩
  · simp at hj
    have hi0 : i ≠ xs.length := by omega
    by_cases e : j = xs.length
    · simp only [hi0, if_false, e, if_true]; exact hl i (by omega)
    · simp only [hi0, e, if_false]; exact h.ord i j hij (by omega)
  · simp at hi'
    by_cases e : i = xs.length
    · simp only [e, if_true]; exact ⟨hb, ht⟩
    · simp only [e, if_false]; exact h.top i (by omega)
  · simp at hi'
    by_cases e : i = xs.length
    · subst e
      refine ⟨vp, vf, vb, fun j hj => ?_, ?_, ?_⟩
      · rw [List.getElem?_append_right (by rw [h.len]; omega), h.len]
        have : xs.length * 42 + j - xs.length * 42 = j := by omega
        rw [this]
        simp
      · simpa using hL
      · simpa using hs
    · have hlt : i < xs.length := by omega
      obtain ⟨vp', vf', vb', h1, h2, h3⟩ := h.at_ i hlt
      refine ⟨vp', vf', vb', fun j hj => ?_, ?_, ?_⟩
      · rw [List.getElem?_append_left (by rw [h.len]; omega), h1 j hj]
        simp [List.getElem_append_left hlt]
      · simpa [e, List.getElem_append_left hlt] using h2
      · simpa [e] using h3

theorem actAt_lt {bs : List Nat} {n : Nat} {a : Ac} {m : Nat} (h : actAt bs n = some (a, m)) : n < bs.length := by
  unfold actAt at h
  cases hr : rawAt bs n with
  | none => rw [hr] at h; cases h
  | some p => exact (rawAt_place (x := p.1) (m := p.2) hr).2

end Go.Gou

/- Acts as bytes: acts are read. -/
namespace Go.Gou
open Go.RowKit

/-- A slice of acts, new since base. -/
def ActsV (TA : TypeId) (base : Nat) (w : World) (v : Value) (xs : List Ac) : Prop := ∃ cs lo hi, w.ownsRow base TA 42 v xs.length cs ∧ ActsIn w base cs xs lo hi ∧ ∀ g i, v.ownBlock = some g → i < xs.length → ¬ (lo i ≤ g ∧ g < hi i)

/-- On the way through acts. -/
structure GetIn (w : World) (R : Nat) (vb : Value) (bs : List Nat) (TA : TypeId) (xs : List Ac) (q : Nat) (vs : Value) (cs : List Value) (lo hi : Nat → Nat) (wr : World) : Prop where
  old : RdAt w R vb bs 0
  rd : RdAt wr R vb bs q
  mod : Mod (fun k => k = R) w wr
  reads : Reads bs xs 0 q
  own : wr.ownsRow w.heap.size TA 42 vs xs.length cs
  acts : ActsIn wr w.heap.size cs xs lo hi
  apart : ∀ g i, vs.ownBlock = some g → i < xs.length → ¬ (lo i ≤ g ∧ g < hi i)
  cnt : xs.length ≤ q

theorem BytesAt.imp {G G' : Nat → Prop} {w : World} {v : Value} {bs : List Nat} (h : BytesAt G w v bs) (hG : ∀ k, k < w.heap.size → G k → G' k) : BytesAt G' w v bs := by
  obtain ⟨p, cap, rfl, hcap, h⟩ := h
  refine ⟨p, cap, rfl, hcap, h.imp id ?_⟩
  rintro ⟨b, o, rfl, hB, hg, hc⟩
  exact ⟨b, o, rfl, hB, hG b hB hg, hc⟩

theorem RdAt.make {w : World} {vb : Value} {bs : List Nat} {T : TypeId} (h : BytesAt (fun _ => True) w vb bs) (hb : ∀ x ∈ bs, x < 256) (hl : bs.length ≤ maxLen) : RdAt (w.alloc (.cells #[vb, .int .i64 0] T)) w.heap.size vb bs 0 := by
  refine ⟨by rw [World.cell?_alloc_new]; rfl, by rw [World.cell?_alloc_new]; rfl, World.frozen?_alloc_new _ _ _ _, ?_, Nat.zero_le _, hb, hl⟩
  exact ((h.imp (G' := fun k => k < w.heap.size) fun k hk _ => hk).mod (Mod.alloc (fun _ => False) w _) (fun _ _ _ h => h)).imp fun k _ hk => by omega

theorem GetIn.step {w : World} {R : Nat} {vb : Value} {bs : List Nat} {TA : TypeId} {xs : List Ac} {q : Nat} {vs : Value} {cs : List Value} {lo hi : Nat → Nat} {wr w1 w3 w4 : World} (h : GetIn w R vb bs TA xs q vs cs lo hi wr)
    (hm1 : Mod (fun k => k = R) wr w1) {a : Ac} {m : Nat} (ha : actAt bs q = some (a, m)) (hr1 : RdAt w1 R vb bs m) {vp vf vb2 : Value} (hL : LookR (fun b => wr.heap.size ≤ b) w1 a.op.look vp vf vb2) (hs : SoftB wr.heap.size w1 vp)
    (hm3 : Mod (fun k => w1.heap.size ≤ k) w1 w3) {gg cp t : Nat} (ht : t = xs.length + 1) (hown : w4.ownsRow w.heap.size TA 42 (.slice (some ⟨gg, 0, none⟩) t cp) t (cs ++ (actC a vp vf vb2).toList)) (hgrow : w3.grownBy w4 vs.ownBlock) (hat : vs.ownBlock = some gg ∨ gg = w3.heap.size) (hqm : q < m) :
    ∃ lo' hi', GetIn w R vb bs TA (xs ++ [a]) m (.slice (some ⟨gg, 0, none⟩) t cp) (cs ++ (actC a vp vf vb2).toList) lo' hi' w4 := by
  subst ht
  have hRr := h.old.lt
  have hs0 := h.mod.size
  have hs1 := hm1.size
  have hs3 := hm3.size
  have hvlt : ∀ k, vs.ownBlock = some k → w.heap.size ≤ k ∧ k < wr.heap.size := fun k hk => h.own.lt k hk
  have hm34 : Mod (fun k => vs.ownBlock = some k) w3 w4 := Mod.of_grown hgrow
  have hs4 := hm34.size
  have hmR : Mod (fun k => w1.heap.size ≤ k ∨ vs.ownBlock = some k) w1 w4 := (hm3.imp fun _ _ h => .inl h).trans' (hm34.imp fun _ _ h => .inr h)
  have ha0 : ActsIn w4 w.heap.size cs xs lo hi := by
    refine ((h.acts.mod hm1 fun i b hi' hlo hhi e => ?_)).mod hmR fun i b hi' hlo hhi e => ?_
    · have := (h.acts.top i hi').1; omega
    · have h2 := (h.acts.top i hi').2
      rcases e with e | e
      · omega
      · exact h.apart b i e hi' ⟨hlo, hhi⟩
  have hL1 := (hL.below).mod hmR (fun k hk hG e => by
    rcases e with e | e
    · omega
    · have := hvlt k e; omega)
  have hs2 : ∀ b, vp.ownBlock = some b → (wr.heap.size ≤ b ∧ b < w1.heap.size) ∧ ∃ cur T, w4.heap[b]? = some (.cells cur T (0, 0)) := fun b hb => by
    obtain ⟨h1, cur, T, h2⟩ := hs b hb
    have hlt : b < w1.heap.size := (Array.getElem?_eq_some_iff.1 h2).1
    refine ⟨⟨h1, hlt⟩, cur, T, ?_⟩
    rw [hmR.block b hlt (by
      rintro (e | e)
      · omega
      · have := hvlt b e; omega), h2]
  have hac := ha0.snoc (a := a) (vp := vp) (vf := vf) (vb := vb2) (l := wr.heap.size) (t := w1.heap.size) (fun i hi' => (h.acts.top i hi').2) (by omega) (by omega) hL1 hs2
  have hmW : Mod (fun k => k = R) w w3 := (h.mod.trans' hm1).trans hm3 fun i hi e => by omega
  have hr3 : RdAt w3 R vb bs m := hr1.mod hm3 (by omega) (fun k hk _ e => by omega)
  have hown3 : w3.ownsRow w.heap.size TA 42 vs xs.length cs := ownsRow_mod (ownsRow_mod h.own hm1 fun k hk e => by have := hvlt k hk; omega) hm3 fun k hk e => by have := hvlt k hk; omega
  refine ⟨_, _, h.old, h.old.grown hr3 hmW hown3 hgrow (Nat.le_refl _), hmW.grown hown3 hgrow (Nat.le_refl _), h.reads.snoc ha, by simpa using hown, hac, ?_, ?_⟩
  · intro g i hg hi'
    simp only [Value.ownBlock, Option.some.injEq] at hg
    subst hg
    simp only [List.length_append, List.length_cons, List.length_nil] at hi'
    by_cases e : i = xs.length
    · simp only [e, if_true]
      rintro ⟨h1, h2⟩
      rcases hat with hat | hat
      · have := hvlt _ hat; omega
      · omega
    · simp only [e, if_false]
      rcases hat with hat | hat
      · exact h.apart _ i hat (by omega)
      · have := (h.acts.top i (by omega)).2
        omega
  · have := h.cnt
    simp only [List.length_append, List.length_cons, List.length_nil]
    omega

theorem timesAt_le {α : Type} {f : Nat → Option (α × Nat)} (hf : ∀ n x m, f n = some (x, m) → n ≤ m) {n k : Nat} {xs : List α} {m : Nat} (h : timesAt f n k = some (xs, m)) : n ≤ m := by
  induction k generalizing xs m with
  | zero => simp only [timesAt, Option.some.injEq, Prod.mk.injEq] at h; omega
  | succ k ih =>
    rw [timesAt] at h
    split at h
    · rename_i ys q hq
      have h1 := ih hq
      split at h
      · rename_i x r hr
        simp only [Option.some.injEq, Prod.mk.injEq] at h
        have := hf _ _ _ hr
        omega
      · cases h
    · cases h

theorem numAt_le {bs : List Nat} (n : Nat) (x : Int) (m : Nat) (h : numAt bs n = some (x, m)) : n ≤ m := Nat.le_of_lt (numGo_lt h)
theorem withinAt_le {bs : List Nat} {n : Nat} {lo hi x : Int} {m : Nat} (h : withinAt bs n lo hi = some (x, m)) : n ≤ m := by
  unfold withinAt at h
  split at h
  · rename_i y q hq
    split at h
    · simp only [Option.some.injEq, Prod.mk.injEq] at h
      have := numAt_le _ _ _ hq
      omega
    · cases h
  · cases h
theorem flagAt_le {bs : List Nat} {n : Nat} {x : Bool} {m : Nat} (h : flagAt bs n = some (x, m)) : n ≤ m := by
  unfold flagAt at h
  split at h
  · rename_i y q hq
    simp only [Option.some.injEq, Prod.mk.injEq] at h
    have := withinAt_le hq
    omega
  · cases h
theorem idAt_le {bs : List Nat} {n : Nat} {x : Int × Int} {m : Nat} (h : idAt bs n = some (x, m)) : n ≤ m := by
  unfold idAt at h
  split at h
  · rename_i y q hq
    split at h
    · rename_i z r hr
      simp only [Option.some.injEq, Prod.mk.injEq] at h
      have := numAt_le _ _ _ hq
      have := numAt_le _ _ _ hr
      omega
    · cases h
  · cases h
theorem rawAt_le {bs : List Nat} (n : Nat) (x m : Nat) (h : rawAt bs n = some (x, m)) : n ≤ m := by have := (rawAt_place h).1; omega
theorem pixelAt_le {bs : List Nat} (n : Nat) (x : List Nat) (m : Nat) (h : pixelAt bs n = some (x, m)) : n ≤ m := timesAt_le rawAt_le h
theorem boxAt_le {bs : List Nat} {n : Nat} {x : List Int} {m : Nat} (h : boxAt bs n = some (x, m)) : n ≤ m := timesAt_le numAt_le h

end Go.Gou

/- Acts as bytes: acts are read, the walk. -/
namespace Go.Gou
open Go.RowKit

theorem listAt_le {bs : List Nat} (n : Nat) (x : List Int) (m : Nat) (h : listAt bs n = some (x, m)) : n ≤ m := by
  obtain ⟨⟨k, q⟩, h1, h2⟩ := Option.bind_eq_some_iff.1 h
  have := withinAt_le h1
  have := timesAt_le numAt_le h2
  omega
theorem confAt_le {bs : List Nat} {n : Nat} {x : Cf} {m : Nat} (h : confAt bs n = some (x, m)) : n ≤ m := by
  obtain ⟨⟨k, q⟩, h1, h⟩ := Option.bind_eq_some_iff.1 h
  obtain ⟨⟨y, r⟩, h2, h⟩ := Option.bind_eq_some_iff.1 h
  have := withinAt_le h1
  have := numAt_le _ _ _ h2
  simp only [Option.some.injEq, Prod.mk.injEq] at h
  omega
theorem nodeAt_le {bs : List Nat} (n : Nat) (x : GNode) (m : Nat) (h : nodeAt bs n = some (x, m)) : n ≤ m := by
  obtain ⟨⟨k, q⟩, h1, h⟩ := Option.bind_eq_some_iff.1 h
  obtain ⟨⟨y, r⟩, h2, h⟩ := Option.bind_eq_some_iff.1 h
  obtain ⟨⟨u, t⟩, h3, h⟩ := Option.bind_eq_some_iff.1 h
  have := numAt_le _ _ _ h1
  have := listAt_le _ _ _ h2
  have := listAt_le _ _ _ h3
  simp only [Option.some.injEq, Prod.mk.injEq] at h
  omega
theorem graphAt_le {bs : List Nat} {n : Nat} {x : Gr} {m : Nat} (h : graphAt bs n = some (x, m)) : n ≤ m := by
  obtain ⟨⟨k, q⟩, h1, h⟩ := Option.bind_eq_some_iff.1 h
  obtain ⟨⟨y, r⟩, h2, h⟩ := Option.bind_eq_some_iff.1 h
  obtain ⟨⟨u, t⟩, h3, h⟩ := Option.bind_eq_some_iff.1 h
  have := numAt_le _ _ _ h1
  have := withinAt_le h2
  have := timesAt_le nodeAt_le h3
  simp only [Option.some.injEq, Prod.mk.injEq] at h
  omega
theorem contentAt_le {bs : List Nat} {n : Nat} {x : Ct} {m : Nat} (h : contentAt bs n = some (x, m)) : n ≤ m := by
  obtain ⟨⟨k, q⟩, h1, h⟩ := Option.bind_eq_some_iff.1 h
  have := numAt_le _ _ _ h1
  split at h
  · obtain ⟨⟨y, r⟩, h2, h⟩ := Option.bind_eq_some_iff.1 h
    obtain ⟨⟨u, t⟩, h3, h⟩ := Option.bind_eq_some_iff.1 h
    have := boxAt_le h2
    have := pixelAt_le _ _ _ h3
    simp only [Option.some.injEq, Prod.mk.injEq] at h
    omega
  · split at h
    · obtain ⟨⟨a1, b1⟩, g1, h⟩ := Option.bind_eq_some_iff.1 h
      obtain ⟨⟨a2, b2⟩, g2, h⟩ := Option.bind_eq_some_iff.1 h
      obtain ⟨⟨a3, b3⟩, g3, h⟩ := Option.bind_eq_some_iff.1 h
      obtain ⟨⟨a4, b4⟩, g4, h⟩ := Option.bind_eq_some_iff.1 h
      obtain ⟨⟨a5, b5⟩, g5, h⟩ := Option.bind_eq_some_iff.1 h
      have := numAt_le _ _ _ g1
      have := numAt_le _ _ _ g2
      have := numAt_le _ _ _ g3
      have := numAt_le _ _ _ g4
      have := numAt_le _ _ _ g5
      split at h
      · obtain ⟨⟨a6, b6⟩, g6, h⟩ := Option.bind_eq_some_iff.1 h
        have := timesAt_le pixelAt_le g6
        simp only [Option.some.injEq, Prod.mk.injEq] at h
        omega
      · cases h
    · simp only [Option.some.injEq, Prod.mk.injEq] at h
      omega
theorem lookAt_le {bs : List Nat} {n : Nat} {k : Int} {x : Lk} {m : Nat} (h : lookAt bs n k = some (x, m)) : n ≤ m := by
  unfold lookAt at h
  split at h
  · obtain ⟨⟨a1, b1⟩, g1, h⟩ := Option.bind_eq_some_iff.1 h
    obtain ⟨⟨a2, b2⟩, g2, h⟩ := Option.bind_eq_some_iff.1 h
    have := numAt_le _ _ _ g1
    have := numAt_le _ _ _ g2
    simp only [Option.some.injEq, Prod.mk.injEq] at h
    omega
  split at h
  · obtain ⟨⟨a1, b1⟩, g1, h⟩ := Option.bind_eq_some_iff.1 h
    have := flagAt_le g1
    split at h
    · obtain ⟨⟨a2, b2⟩, g2, h⟩ := Option.bind_eq_some_iff.1 h
      have := boxAt_le g2
      simp only [Option.some.injEq, Prod.mk.injEq] at h
      omega
    · simp only [Option.some.injEq, Prod.mk.injEq] at h
      omega
  split at h
  · obtain ⟨⟨a1, b1⟩, g1, h⟩ := Option.bind_eq_some_iff.1 h
    have := numAt_le _ _ _ g1
    simp only [Option.some.injEq, Prod.mk.injEq] at h
    omega
  split at h
  · obtain ⟨⟨a1, b1⟩, g1, h⟩ := Option.bind_eq_some_iff.1 h
    have := numAt_le _ _ _ g1
    simp only [Option.some.injEq, Prod.mk.injEq] at h
    omega
  split at h
  · obtain ⟨⟨a1, b1⟩, g1, h⟩ := Option.bind_eq_some_iff.1 h
    have := contentAt_le g1
    simp only [Option.some.injEq, Prod.mk.injEq] at h
    omega
  split at h
  · obtain ⟨⟨a1, b1⟩, g1, h⟩ := Option.bind_eq_some_iff.1 h
    have := flagAt_le g1
    split at h
    · obtain ⟨⟨a2, b2⟩, g2, h⟩ := Option.bind_eq_some_iff.1 h
      have := graphAt_le g2
      simp only [Option.some.injEq, Prod.mk.injEq] at h
      omega
    · simp only [Option.some.injEq, Prod.mk.injEq] at h
      omega
  split at h
  · obtain ⟨⟨a1, b1⟩, g1, h⟩ := Option.bind_eq_some_iff.1 h
    have := flagAt_le g1
    split at h
    · obtain ⟨⟨a2, b2⟩, g2, h⟩ := Option.bind_eq_some_iff.1 h
      have := graphAt_le g2
      simp only [Option.some.injEq, Prod.mk.injEq] at h
      omega
    · simp only [Option.some.injEq, Prod.mk.injEq] at h
      omega
  · simp only [Option.some.injEq, Prod.mk.injEq] at h
    omega
theorem oprAt_le {bs : List Nat} {n : Nat} {k : Int} {x : Opr} {m : Nat} (h : oprAt bs n k = some (x, m)) : n ≤ m := by
  obtain ⟨⟨a1, b1⟩, g1, h⟩ := Option.bind_eq_some_iff.1 h
  obtain ⟨⟨a2, b2⟩, g2, h⟩ := Option.bind_eq_some_iff.1 h
  obtain ⟨⟨a3, b3⟩, g3, h⟩ := Option.bind_eq_some_iff.1 h
  obtain ⟨⟨a4, b4⟩, g4, h⟩ := Option.bind_eq_some_iff.1 h
  have h4 := lookAt_le g4
  have h1 : n ≤ b1 := by
    split at g1
    · simp only [Option.some.injEq, Prod.mk.injEq] at g1; omega
    · exact idAt_le g1
  have h2 : b1 ≤ b2 := by
    split at g2
    · exact idAt_le g2
    · simp only [Option.some.injEq, Prod.mk.injEq] at g2; omega
  have h3 : b2 ≤ b3 := by
    split at g3
    · exact numAt_le _ _ _ g3
    · simp only [Option.some.injEq, Prod.mk.injEq] at g3; omega
  simp only [Option.some.injEq, Prod.mk.injEq] at h
  simp only at h4
  omega
theorem actAt_go {bs : List Nat} {n : Nat} {x : Ac} {m : Nat} (h : actAt bs n = some (x, m)) : n < m := by
  obtain ⟨⟨k, q⟩, h1, h⟩ := Option.bind_eq_some_iff.1 h
  have := (rawAt_place h1).1
  split at h
  · split at h
    · obtain ⟨⟨a1, b1⟩, g1, h⟩ := Option.bind_eq_some_iff.1 h
      obtain ⟨⟨a2, b2⟩, g2, h⟩ := Option.bind_eq_some_iff.1 h
      have := numAt_le _ _ _ g1
      have := numAt_le _ _ _ g2
      simp only [Option.some.injEq, Prod.mk.injEq] at h
      omega
    split at h
    · obtain ⟨⟨a1, b1⟩, g1, h⟩ := Option.bind_eq_some_iff.1 h
      have := confAt_le g1
      simp only [Option.some.injEq, Prod.mk.injEq] at h
      omega
    split at h
    · simp only [Option.some.injEq, Prod.mk.injEq] at h
      omega
    · obtain ⟨⟨a1, b1⟩, g1, h⟩ := Option.bind_eq_some_iff.1 h
      have := oprAt_le g1
      simp only [Option.some.injEq, Prod.mk.injEq] at h
      omega
  · cases h

theorem ownsRow_low {w : World} {base base' : Nat} {e : TypeId} {k : Nat} {v : Value} {n : Nat} {xs : List Value} (h : w.ownsRow base e k v n xs) (hb : base' ≤ base) : w.ownsRow base' e k v n xs := by
  obtain ⟨h1, h2⟩ := h
  refine ⟨h1, h2.imp id ?_⟩
  rintro ⟨g, cap, cur, rfl, hg, r⟩
  exact ⟨g, cap, cur, rfl, Nat.le_trans hb hg, r⟩

theorem ActsIn.low {w : World} {base base' : Nat} {cs : List Value} {xs : List Ac} {lo hi : Nat → Nat} (h : ActsIn w base cs xs lo hi) (hb : base' ≤ base) : ActsIn w base' cs xs lo hi :=
  ⟨h.len, h.ord, fun i hi' => ⟨Nat.le_trans hb (h.top i hi').1, (h.top i hi').2⟩, h.at_⟩

theorem GetIn.done {w : World} {R : Nat} {vb : Value} {bs : List Nat} {TA : TypeId} {xs : List Ac} {q : Nat} {vs : Value} {cs : List Value} {lo hi : Nat → Nat} {wr w' : World} (h : GetIn w R vb bs TA xs q vs cs lo hi wr) (hm : Mod (fun k => k = R ∨ wr.heap.size ≤ k) wr w')
    {base : Nat} (hb : base ≤ w.heap.size) : ActsV TA base w' vs xs := by
  have hR := h.old.lt
  refine ⟨cs, lo, hi, ownsRow_low (ownsRow_mod h.own hm fun k hk e => by have := h.own.lt k hk; omega) hb, (h.acts.mod hm fun i b hi' hlo hhi e => ?_).low hb, h.apart⟩
  have := h.acts.top i hi'
  omega

theorem size_setCells (w : World) (b o : Nat) (vs : List Value) : (w.setCells b o vs).heap.size = w.heap.size := by
  induction vs generalizing w o with
  | nil => rfl
  | cons v r ih => rw [World.setCells, ih, World.size_setCell]

/-- A slice literal of one element. -/
theorem wpList_buildOne {P : Program} {ops : Array Oper} {rest : List Oper} {o : Oper} {a : Act} {w : World} {Q : Exit → Act → World → Prop} (hg : o.guard = none) (t e : TypeId) (x : Operand) (ho : o.op = .buildSlice t 1 #[(0, x)])
    (cs : Array Value) (hx : a.eval x = .agg cs) (ie : TypeInfo) (z : Value) (hu : P.underlying t = some (.slice e)) (hie : P.info? e = some ie) (hz : ie.zero = some z) (hs : ie.size = cs.size) (hzs : z.cells.size = cs.size) (h0 : 0 < cs.size) (hsm : cs.size ≤ 2 ^ 24)
    (h : wpList P ops Q rest (a.put o.dst (.slice (some ⟨w.heap.size, 0, none⟩) 1 1)) (w.alloc (.cells cs e))) : wpList P ops Q (o :: rest) a w := by
  refine wpList_buildSlice hg t e 1 _ ho cs ie z hu hie hz (by omega) (by omega) ?_ h
  have := Great.fill_whole (s := cs.size) h0 [.agg cs] ((Array.range (1 * cs.size)).map (z.cells[· % z.cells.size]!)) (fun v hv => by
    simp only [List.mem_cons, List.not_mem_nil, or_false] at hv
    subst hv
    rfl) (by simp)
  rw [hs]
  simpa [hx, Value.cells] using this

end Go.Gou
namespace Go.Proofs.Ytnamnmipgpcjjaa
open Go.RowKit Go.Gou

theorem info_act : (Try.prog.info? 41).map (fun i => (i.zero, i.size, i.bytes)) = some (some (.agg AcZ), 42, 336) := by kernel_rfl

/-- What the reading of all comes to. -/
def GetP (w : World) (bs : List Nat) (e : Ending) (w' : World) : Prop :=
  ∃ xs m v, Reads bs xs 0 m ∧ m ≤ bs.length ∧ (m < bs.length → actAt bs m = none) ∧ e = .returned (.tuple #[v, .int .i64 m, .int .i64 (if m < bs.length then 2 else 0)]) ∧ ActsV 41 w.heap.size w' v xs ∧ Gou.Mod (fun _ => False) w w'

set_option maxRecDepth 100000 in
set_option maxHeartbeats 2000000 in
theorem get_any (w : World) (vb : Value) (bs : List Nat) (h : BytesAt (fun _ => True) w vb bs) (hby : ∀ x ∈ bs, x < 256) (hl : bs.length ≤ 100000) :
    Calls Try.prog 14 #[vb] w (GetP w bs) := by
  obtain ⟨iA, hiA, hz0, hz1, hz2⟩ := info_parts info_act
  have hz3 : (Value.agg AcZ).cells.size = 42 := by simp [Value.cells]
  have Hbytes := Lib.hid h
  have Hst : Hid (RdAt (w.alloc (.cells #[vb, .int .i64 0] 69)) w.heap.size vb bs 0) := Lib.hid (RdAt.make h hby (by unfold maxLen; omega))
  obtain ⟨pb, cb, rfl⟩ := h.len
  clear h hby
  go_enter Try.func14, Try.ntmps14
  go_wp2_with fail
  have HW : Hid (Gou.Mod (fun _ => False) w (w.alloc (.cells #[.slice pb bs.length cb, .int .i64 0] 69))) := Lib.hid (Gou.Mod.alloc _ _ _)
  have HS : Hid ((w.alloc (.cells #[.slice pb bs.length cb, .int .i64 0] 69)).heap.size = w.heap.size + 1) := Lib.hid (by simp)
  generalize hW0 : w.alloc (.cells #[.slice pb bs.length cb, .int .i64 0] 69) = W0 at *
  generalize hR : w.heap.size = R at *
  clear hW0
  go_loopw [6] (fun vs wr => ∃ (xs : List Ac) (q : Nat) (cs : List Value) (lo hi : Nat → Nat), GetIn W0 R (.slice pb bs.length cb) bs 41 xs q vs cs lo hi wr) (fun _ wr => match wr.cell? ⟨R, 1, none⟩ with | some v => bs.length - (intOf v).toNat | none => 0)
  case atStart => exact ⟨[], 0, [], _, _, Hst.out, Hst.out, Gou.Mod.refl _ _, rfl, World.ownsRow_nil _ _ _ _, ActsIn.nil _ _, by simp [Value.ownBlock], Nat.le_refl _⟩
  case round =>
    obtain ⟨xs, q, cs, lo, hi, hg⟩ := hrel
    have Hg := Lib.hid hg
    obtain ⟨p0, c0, rfl⟩ := ownsRow_form hg.own
    have hc1 := hg.rd.c1
    have hle := hg.rd.le
    by_cases hq : q < bs.length
    · have e1 : decide ((q : Int) < (bs.length : Int)) = true := by simp; omega
      clear hg
      go_wp2_with fail
      refine (one_any _ R _ bs q Hg.out.rd).mono ?_
      rintro e w1 ⟨hm1, h1⟩
      cases hn : actAt bs q with
      | none =>
        rw [hn] at h1
        obtain ⟨rfl, hr1⟩ := h1
        have hLs := hm1.size
        have hgm := Hg.out.mod.size
        have hr1a := hr1.alloc (.cells AcZ 41)
        have hma : Gou.Mod (fun k => k = R) W0 (w1.alloc (.cells AcZ 41)) := (Hg.out.mod.trans' hm1).trans' (Gou.Mod.alloc _ _ _)
        have hA : Blk (w1.alloc (.cells AcZ 41)) w1.heap.size 41 AcZ := heap_alloc_new w1 _
        have Ht := Lib.hid (hA.there 0 42 (by simp))
        have hr2 := Hg.out.old.owns hr1a hma w1.heap.size 0 zA42 (by omega)
        have c1 := hr2.1.c1
        have hmw : Gou.Mod (fun k => k = R ∨ wr.heap.size ≤ k) wr ((w1.alloc (.cells AcZ 41)).setCells w1.heap.size 0 zA42) :=
          ((hm1.imp fun _ _ h => .inl h).trans' (Gou.Mod.alloc _ _ _)).trans' ((Blk.setMod _ w1.heap.size 0 _).imp fun k _ h => .inr (by omega))
        have HE := Lib.hid (And.intro hr2.2 hmw)
        have Hn := Lib.hid hn
        have Hq := Lib.hid hq
        clear hr1a hma hA hr2 hmw hm1 hr1 hn hc1 hle hgm
        go_wp2_with (first | ((with_reducible refine wpList_store_mid ?g_2 41 ?x_2 ?y_2 ?o_2 w1.heap.size 0 (AcZ) ?h_2 ?j_2 ?t_2 ?i_2 ?s_2 ?r_2); (case g_2 | o_2 | h_2 | j_2 => exact rfl); (case t_2 => exact Ht.out); (case i_2 => exact size_act); (case s_2 => exact actC_one Ac.zero none 0 0 none 0 0 none 0 0)) | fail)
        go_quiet (fail)
        go_wp2_with fail
        have hHE := HE.out
        refine bodyPost_ret (v := .tuple #[.slice p0 xs.length c0, .int .i64 q, .int .i64 2]) (by simp [results, Try.results14, go_sem]) rfl ?_
        refine ⟨xs, q, _, Hg.out.reads, Nat.le_of_lt Hq.out, fun _ => Hn.out, by rw [if_pos Hq.out], Hg.out.done (hHE.2.trans' (Gou.Mod.drewN _ _ _)) (by have := HS.out; omega), ?_⟩
        exact (HW.out.trans (hHE.1.trans' (Gou.Mod.drewN _ _ _)) fun k hk e => by omega)
      | some p =>
        obtain ⟨a, m⟩ := p
        rw [hn] at h1
        obtain ⟨_, rfl, ⟨vp, vf, vb2, rfl, hlr, hsoft⟩, hr1⟩ := h1
        obtain ⟨p1, n1, k1, p2, n2, k2, p3, n3, k3, rfl, rfl, rfl⟩ := hlr.forms
        have hLs := hm1.size
        have hgm := Hg.out.mod.size
        have hA : Blk (w1.alloc (.cells AcZ 41)) w1.heap.size 41 AcZ := heap_alloc_new w1 _
        have Ht := Lib.hid (hA.there 0 42 (by simp))
        have hB := hA.sets 0 (actC a (.slice p1 n1 k1) (.slice p2 n2 k2) (.slice p3 n3 k3)).toList
        rw [setMany_all _ _ (by simp [actC])] at hB
        have HB := Lib.hid hB
        have HsA : Hid (iA.size = (actC a (.slice p1 n1 k1) (.slice p2 n2 k2) (.slice p3 n3 k3)).size) := Lib.hid (by rw [hz1]; simp [actC])
        have HtA : Hid ((Value.agg AcZ).cells.size = (actC a (.slice p1 n1 k1) (.slice p2 n2 k2) (.slice p3 n3 k3)).size) := Lib.hid (by simp [actC, Value.cells])
        have HqA : Hid (0 < (actC a (.slice p1 n1 k1) (.slice p2 n2 k2) (.slice p3 n3 k3)).size) := Lib.hid (by simp [actC])
        have HfA : Hid ((actC a (.slice p1 n1 k1) (.slice p2 n2 k2) (.slice p3 n3 k3)).size ≤ 2 ^ 24) := Lib.hid (by simp [actC])
        have hW3 : (w1.alloc (.cells AcZ 41)).heap.size = w1.heap.size + 1 := by simp
        have hW4 : ((w1.alloc (.cells AcZ 41)).setCells w1.heap.size 0 (actC a (.slice p1 n1 k1) (.slice p2 n2 k2) (.slice p3 n3 k3)).toList).heap.size = w1.heap.size + 1 := by
          have := (Blk.setMod (w1.alloc (.cells AcZ 41)) w1.heap.size 0 (actC a (.slice p1 n1 k1) (.slice p2 n2 k2) (.slice p3 n3 k3)).toList)
          rw [← hW3]
          exact size_setCells _ _ _ _
        have hM3 : Gou.Mod (fun k => w1.heap.size ≤ k) w1 (((w1.alloc (.cells AcZ 41)).setCells w1.heap.size 0 (actC a (.slice p1 n1 k1) (.slice p2 n2 k2) (.slice p3 n3 k3)).toList).alloc (.cells (actC a (.slice p1 n1 k1) (.slice p2 n2 k2) (.slice p3 n3 k3)) 41)) :=
          ((Gou.Mod.alloc _ _ _).trans' ((Blk.setMod _ w1.heap.size 0 _).imp fun k _ h => by omega)).trans' (Gou.Mod.alloc _ _ _)
        have HM3 := Lib.hid hM3
        have Hnews : Hid (∀ j u, (actC a (.slice p1 n1 k1) (.slice p2 n2 k2) (.slice p3 n3 k3)).toList[j]? = some u → (((w1.alloc (.cells AcZ 41)).setCells w1.heap.size 0 (actC a (.slice p1 n1 k1) (.slice p2 n2 k2) (.slice p3 n3 k3)).toList).alloc (.cells (actC a (.slice p1 n1 k1) (.slice p2 n2 k2) (.slice p3 n3 k3)) 41)).cell? ((⟨((w1.alloc (.cells AcZ 41)).setCells w1.heap.size 0 (actC a (.slice p1 n1 k1) (.slice p2 n2 k2) (.slice p3 n3 k3)).toList).heap.size, 0, none⟩ : Addr).add j) = some u) := Lib.hid (news_at (heap_at rfl) rfl)
        have Hown : Hid ((((w1.alloc (.cells AcZ 41)).setCells w1.heap.size 0 (actC a (.slice p1 n1 k1) (.slice p2 n2 k2) (.slice p3 n3 k3)).toList).alloc (.cells (actC a (.slice p1 n1 k1) (.slice p2 n2 k2) (.slice p3 n3 k3)) 41)).ownsRow W0.heap.size 41 42 (.slice p0 xs.length c0) xs.length cs) :=
          Lib.hid (ownsRow_mod (ownsRow_mod Hg.out.own hm1 fun k hk e => by have := Hg.out.own.lt k hk; have := Hg.out.old.lt; omega) hM3 fun k hk e => by have := Hg.out.own.lt k hk; omega)
        have Hone : Hid (∀ u ∈ (actC a (.slice p1 n1 k1) (.slice p2 n2 k2) (.slice p3 n3 k3)).toList, u.oneCell' = true) := Lib.hid (fun u hu => by
          have h1 := actC_one a p1 n1 k1 p2 n2 k2 p3 n3 k3
          rw [Array.all_eq_true_iff_forall_mem] at h1
          exact h1 u (by simpa using hu))
        have Hlen : Hid ((actC a (.slice p1 n1 k1) (.slice p2 n2 k2) (.slice p3 n3 k3)).toList.length = 1 * 42) := Lib.hid (by simp [actC])
        have Hxl : Hid (xs.length + 1 ≤ 100000) := Lib.hid (by have := Hg.out.cnt; omega)
        have Hbase : Hid (W0.heap.size ≤ (((w1.alloc (.cells AcZ 41)).setCells w1.heap.size 0 (actC a (.slice p1 n1 k1) (.slice p2 n2 k2) (.slice p3 n3 k3)).toList).alloc (.cells (actC a (.slice p1 n1 k1) (.slice p2 n2 k2) (.slice p3 n3 k3)) 41)).heap.size) := Lib.hid (by rw [World.size_alloc, hW4]; omega)
        have Hmeas : Hid (q < m ∧ m ≤ bs.length) := Lib.hid ⟨actAt_go hn, hr1.le⟩
        have Hn := Lib.hid hn
        have Hm1 := Lib.hid hm1
        have Hr1 := Lib.hid hr1
        have Hlr := Lib.hid hlr
        have Hsoft := Lib.hid hsoft
        have HW4 := Lib.hid hW4
        clear hB hA hW3 hW4 hM3 hn hm1 hr1 hlr hsoft hle hgm hLs
        go_wp2_with (first | ((with_reducible refine wpList_store_mid ?g_3 41 ?x_3 ?y_3 ?o_3 w1.heap.size 0 (actC a (.slice p1 n1 k1) (.slice p2 n2 k2) (.slice p3 n3 k3)) ?h_3 ?j_3 ?t_3 ?i_3 ?s_3 ?r_3); (case g_3 | o_3 | h_3 | j_3 => exact rfl); (case t_3 => exact Ht.out); (case i_3 => exact size_act); (case s_3 => exact actC_one _ _ _ _ _ _ _ _ _ _)) | ((with_reducible refine wpList_load_row ?g_1 41 ?x_1 ?o_1 w1.heap.size ?h_1 ?t_1 ?c_1 ?f_1 ?d_1 ?b_1 ?u_1 ?s_1 ?i_1 ?r_1); (case g_1 | o_1 | h_1 => exact rfl); (case b_1 => exact HB.out); (case u_1 => exact Try.underlying41); (case s_1 => exact rfl); (case i_1 => exact size_act)) | ((with_reducible refine wpList_buildOne ?gB 51 41 ?pB ?oB (actC a (.slice p1 n1 k1) (.slice p2 n2 k2) (.slice p3 n3 k3)) ?xB iA (.agg AcZ) ?uB ?iB ?zB ?sB ?tB ?qB ?fB ?rB); (case gB | oB | xB => exact rfl); (case uB => exact Try.underlying51); (case iB => exact hiA); (case zB => exact hz0); (case sB => exact HsA.out); (case tB => exact HtA.out); (case qB => exact HqA.out); (case fB => exact HfA.out)) | (at_builtin; go_loud (refine wpList_append_lies _ rfl _ _ 51 rfl W0.heap.size 41 iA (.agg AcZ) 42 336 Try.underlying51 hiA hz0 hz1 hz2 hz3 (by omega) (.slice p0 xs.length c0) xs.length cs rfl Hown.out ⟨((w1.alloc (.cells AcZ 41)).setCells w1.heap.size 0 (actC a (.slice p1 n1 k1) (.slice p2 n2 k2) (.slice p3 n3 k3)).toList).heap.size, 0, none⟩ 1 1 (actC a (.slice p1 n1 k1) (.slice p2 n2 k2) (.slice p3 n3 k3)).toList rfl Hlen.out Hnews.out Hone.out (by omega) (by have := Hxl.out; unfold maxLen; omega) (by have := Hxl.out; omega) Hbase.out _ rfl ?_)) | fail)
        intro gg cp w4 hown4 hgrow4 hat4 hlt4
        obtain ⟨lo', hi', hG⟩ := Hg.out.step Hm1.out Hn.out Hr1.out Hlr.out Hsoft.out HM3.out rfl hown4 hgrow4 (by rw [World.size_alloc]; exact hat4) Hmeas.out.1
        have HG := Lib.hid hG
        have hcm := hG.rd.c1
        have hm0 := Hmeas.out
        clear hown4 hgrow4 hat4 hlt4 hG
        go_wp2_with fail
        go_roundw
        case rel => exact ⟨_, _, _, _, _, HG.out⟩
        case measure =>
          rw [hcm, hc1]
          simp [intOf]
          omega
    · obtain rfl : q = bs.length := by omega
      have e1 : decide ((bs.length : Int) < (bs.length : Int)) = false := by simp
      clear hg hq hle
      go_wp2_with fail
      go_quiet (fail)
      go_wp2_with fail
      refine bodyPost_ret (v := .tuple #[.slice p0 xs.length c0, .int .i64 bs.length, .int .i64 0]) (by simp [results, Try.results14, go_sem]) rfl ?_
      refine ⟨xs, bs.length, _, Hg.out.reads, Nat.le_refl _, fun h => by omega, by rw [if_neg (by omega)], Hg.out.done (Gou.Mod.drewN _ _ _) (by have := HS.out; omega), ?_⟩
      exact (HW.out.trans (Hg.out.mod.trans' (Gou.Mod.drewN _ _ _)) fun k hk e => by omega)

end Go.Proofs.Ytnamnmipgpcjjaa

