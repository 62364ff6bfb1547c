/- Texts of the codec's proofs, laid together: RfG. -/
import Derived.Test.YtnamnmipgpcjjaaZk
set_option linter.unusedSimpArgs false
set_option linter.unusedVariables false
set_option linter.unusedSectionVars false
set_option linter.constructorNameAsVariable false

/- Acts as bytes: which acts are few. -/
namespace Go.Proofs.Ytnamnmipgpcjjaa
open Go.RowKit Go.Gou

set_option linter.constructorNameAsVariable false
theorem LkA_size (l : Lk) (p1 p2 p3 : Option Addr) (k1 k2 k3 : Nat) : (LkA l p1 p2 p3 k1 k2 k3).size = 28 := by simp [LkA, lookC]

set_option maxRecDepth 100000

set_option maxHeartbeats 4000000 in
theorem few_any (w : World) (G : Nat → Prop) (p1 p2 p3 : Option Addr) (k1 k2 k3 : Nat) (a : Ac) (hx : LookR G w a.op.look (.slice p1 a.op.look.content.pix.length k1) (.slice p2 a.op.look.filt.nodes.length k2) (.slice p3 a.op.look.back.nodes.length k3)) :
    Calls Try.prog 10 #[.agg (AcA a p1 p2 p3 k1 k2 k3)] w fun e w' => (∃ q : Bool, e = .returned (.bool q) ∧ (q = true → FewOk a)) ∧ Gou.Mod (fun _ => False) w w' := by
  have HA : Hid (Blk (w.alloc (.cells (AcA a p1 p2 p3 k1 k2 k3) 41)) w.heap.size 41 (AcA a p1 p2 p3 k1 k2 k3)) := Lib.hid (heap_alloc_new w _)
  have Hrg : Hid (((w.alloc (.cells (AcA a p1 p2 p3 k1 k2 k3) 41))).rangeAt w.heap.size 7 (LkA a.op.look p1 p2 p3 k1 k2 k3).toList) := Lib.hid (Blk.range HA.out (act_look a _ _ _) rfl)
  have HiL : Hid ((Try.prog.info? 35).map (·.size) = some (LkA a.op.look p1 p2 p3 k1 k2 k3).toList.length) := Lib.hid (size_look.trans (by simp [LkA, lookC]))
  have HiL2 : Hid ((Try.prog.info? 35).map (·.size) = some (LkA a.op.look p1 p2 p3 k1 k2 k3).size) := Lib.hid (size_look.trans (by rw [LkA_size]))
  have hA : Blk (((w.alloc (.cells (AcA a p1 p2 p3 k1 k2 k3) 41))).alloc (.cells LkZ 35)) (w.heap.size + 1) 35 LkZ := by
    have := heap_alloc_new ((w.alloc (.cells (AcA a p1 p2 p3 k1 k2 k3) 41))) (.cells LkZ 35)
    rw [World.size_alloc] at this
    exact this
  have Hth : Hid ((((w.alloc (.cells (AcA a p1 p2 p3 k1 k2 k3) 41))).alloc (.cells LkZ 35)).there (w.heap.size + 1) 0 (LkA a.op.look p1 p2 p3 k1 k2 k3).size) := Lib.hid (hA.there 0 _ (by rw [LkA_size]; simp))
  have hA2 := hA.sets 0 (LkA a.op.look p1 p2 p3 k1 k2 k3).toList
  rw [setMany_all _ _ (by simp [LkA, lookC])] at hA2
  have HL2 : Hid (Blk (((w.alloc (.cells (AcA a p1 p2 p3 k1 k2 k3) 41)).alloc (.cells LkZ 35)).setCells (w.heap.size + 1) 0 (LkA a.op.look p1 p2 p3 k1 k2 k3).toList) (w.heap.size + 1) 35 (LkA a.op.look p1 p2 p3 k1 k2 k3)) := Lib.hid hA2
  have HM : Hid (Gou.Mod (fun _ => False) w (((w.alloc (.cells (AcA a p1 p2 p3 k1 k2 k3) 41)).alloc (.cells LkZ 35)).setCells (w.heap.size + 1) 0 (LkA a.op.look p1 p2 p3 k1 k2 k3).toList)) := Lib.hid (((Gou.Mod.alloc (fun _ => False) w _).trans' (Gou.Mod.alloc _ _ _)).trans (Blk.setMod _ _ _ _) (fun i hi e => by omega))
  have Hx := Lib.hid (hx.mod HM.out (fun _ _ _ h => h))
  clear hA hA2 hx
  have c21 : ((((w.alloc (.cells (AcA a p1 p2 p3 k1 k2 k3) 41)).alloc (.cells LkZ 35)).setCells (w.heap.size + 1) 0 (LkA a.op.look p1 p2 p3 k1 k2 k3).toList)).cell? ⟨w.heap.size + 1, 21, none⟩ = some (.slice p1 a.op.look.content.pix.length k1) := HL2.out.cell 21 rfl
  have c23 : ((((w.alloc (.cells (AcA a p1 p2 p3 k1 k2 k3) 41)).alloc (.cells LkZ 35)).setCells (w.heap.size + 1) 0 (LkA a.op.look p1 p2 p3 k1 k2 k3).toList)).cell? ⟨w.heap.size + 1, 23, none⟩ = some (.slice p2 a.op.look.filt.nodes.length k2) := HL2.out.cell 23 rfl
  have c24 : ((((w.alloc (.cells (AcA a p1 p2 p3 k1 k2 k3) 41)).alloc (.cells LkZ 35)).setCells (w.heap.size + 1) 0 (LkA a.op.look p1 p2 p3 k1 k2 k3).toList)).cell? ⟨w.heap.size + 1, 24, none⟩ = some (.int .i64 a.op.look.filt.out) := HL2.out.cell 24 rfl
  have c26 : ((((w.alloc (.cells (AcA a p1 p2 p3 k1 k2 k3) 41)).alloc (.cells LkZ 35)).setCells (w.heap.size + 1) 0 (LkA a.op.look p1 p2 p3 k1 k2 k3).toList)).cell? ⟨w.heap.size + 1, 26, none⟩ = some (.slice p3 a.op.look.back.nodes.length k3) := HL2.out.cell 26 rfl
  have c27 : ((((w.alloc (.cells (AcA a p1 p2 p3 k1 k2 k3) 41)).alloc (.cells LkZ 35)).setCells (w.heap.size + 1) 0 (LkA a.op.look p1 p2 p3 k1 k2 k3).toList)).cell? ⟨w.heap.size + 1, 27, none⟩ = some (.int .i64 a.op.look.back.out) := HL2.out.cell 27 rfl
  have hbl := Blk.lt HL2.out
  go_enter Try.func10, Try.ntmps10
  by_cases h1 : a.op.look.content.pix.length ≤ 400
  case neg =>
    have q1 : decide ((400 : Int) < (a.op.look.content.pix.length : Int)) = true := decide_eq_true (by omega)
    clear h1
    go_wp2_with (first | ((with_reducible refine wpList_load_mid ?g1_1x 35 ?x1_1x ?o1_1x w.heap.size 7 ?h1_1x (LkA a.op.look p1 p2 p3 k1 k2 k3).toList ?d1_1x ?c1_1x ?u1_1x ?s1_1x ?i1_1x ?r1_1x); (case g1_1x | o1_1x | h1_1x => exact rfl); (case c1_1x => exact Hrg.out); (case u1_1x => exact Try.underlying35); (case s1_1x => exact rfl); (case i1_1x => exact HiL.out)) | ((with_reducible refine wpList_store_mid ?g1_2x 35 ?x1_2x ?y1_2x ?o1_2x (w.heap.size + 1) 0 (LkA a.op.look p1 p2 p3 k1 k2 k3) ?h1_2x ?j1_2x ?t1_2x ?i1_2x ?s1_2x ?r1_2x); (case g1_2x | o1_2x | h1_2x | j1_2x => exact rfl); (case t1_2x => exact Hth.out); (case i1_2x => exact HiL2.out); (case s1_2x => exact lookC_one _ _ _ _ _ _ _ _ _ _)) | fail)
    go_ret
    exact ⟨⟨false, rfl, fun h => by cases h⟩, HM.out⟩
  have q1 : decide ((400 : Int) < (a.op.look.content.pix.length : Int)) = false := decide_eq_false (by omega)
  have H1 := Lib.hid h1
  clear h1
  by_cases h2 : a.op.look.filt.nodes.length ≤ 1100
  case neg =>
    have q2 : decide ((1100 : Int) < (a.op.look.filt.nodes.length : Int)) = true := decide_eq_true (by omega)
    clear h2
    go_wp2_with (first | ((with_reducible refine wpList_load_mid ?g1_1y 35 ?x1_1y ?o1_1y w.heap.size 7 ?h1_1y (LkA a.op.look p1 p2 p3 k1 k2 k3).toList ?d1_1y ?c1_1y ?u1_1y ?s1_1y ?i1_1y ?r1_1y); (case g1_1y | o1_1y | h1_1y => exact rfl); (case c1_1y => exact Hrg.out); (case u1_1y => exact Try.underlying35); (case s1_1y => exact rfl); (case i1_1y => exact HiL.out)) | ((with_reducible refine wpList_store_mid ?g1_2y 35 ?x1_2y ?y1_2y ?o1_2y (w.heap.size + 1) 0 (LkA a.op.look p1 p2 p3 k1 k2 k3) ?h1_2y ?j1_2y ?t1_2y ?i1_2y ?s1_2y ?r1_2y); (case g1_2y | o1_2y | h1_2y | j1_2y => exact rfl); (case t1_2y => exact Hth.out); (case i1_2y => exact HiL2.out); (case s1_2y => exact lookC_one _ _ _ _ _ _ _ _ _ _)) | fail)
    go_ret
    exact ⟨⟨false, rfl, fun h => by cases h⟩, HM.out⟩
  have q2 : decide ((1100 : Int) < (a.op.look.filt.nodes.length : Int)) = false := decide_eq_false (by omega)
  have H2 := Lib.hid h2
  clear h2
  by_cases h3 : a.op.look.back.nodes.length ≤ 1100
  case neg =>
    have q3 : decide ((1100 : Int) < (a.op.look.back.nodes.length : Int)) = true := decide_eq_true (by omega)
    clear h3
    go_wp2_with (first | ((with_reducible refine wpList_load_mid ?g1_1z 35 ?x1_1z ?o1_1z w.heap.size 7 ?h1_1z (LkA a.op.look p1 p2 p3 k1 k2 k3).toList ?d1_1z ?c1_1z ?u1_1z ?s1_1z ?i1_1z ?r1_1z); (case g1_1z | o1_1z | h1_1z => exact rfl); (case c1_1z => exact Hrg.out); (case u1_1z => exact Try.underlying35); (case s1_1z => exact rfl); (case i1_1z => exact HiL.out)) | ((with_reducible refine wpList_store_mid ?g1_2z 35 ?x1_2z ?y1_2z ?o1_2z (w.heap.size + 1) 0 (LkA a.op.look p1 p2 p3 k1 k2 k3) ?h1_2z ?j1_2z ?t1_2z ?i1_2z ?s1_2z ?r1_2z); (case g1_2z | o1_2z | h1_2z | j1_2z => exact rfl); (case t1_2z => exact Hth.out); (case i1_2z => exact HiL2.out); (case s1_2z => exact lookC_one _ _ _ _ _ _ _ _ _ _)) | fail)
    go_ret
    exact ⟨⟨false, rfl, fun h => by cases h⟩, HM.out⟩
  have q3 : decide ((1100 : Int) < (a.op.look.back.nodes.length : Int)) = false := decide_eq_false (by omega)
  have H3 := Lib.hid h3
  clear h3
  go_wp2_with (first | ((with_reducible refine wpList_load_mid ?g1_1u 35 ?x1_1u ?o1_1u w.heap.size 7 ?h1_1u (LkA a.op.look p1 p2 p3 k1 k2 k3).toList ?d1_1u ?c1_1u ?u1_1u ?s1_1u ?i1_1u ?r1_1u); (case g1_1u | o1_1u | h1_1u => exact rfl); (case c1_1u => exact Hrg.out); (case u1_1u => exact Try.underlying35); (case s1_1u => exact rfl); (case i1_1u => exact HiL.out)) | ((with_reducible refine wpList_store_mid ?g1_2u 35 ?x1_2u ?y1_2u ?o1_2u (w.heap.size + 1) 0 (LkA a.op.look p1 p2 p3 k1 k2 k3) ?h1_2u ?j1_2u ?t1_2u ?i1_2u ?s1_2u ?r1_2u); (case g1_2u | o1_2u | h1_2u | j1_2u => exact rfl); (case t1_2u => exact Hth.out); (case i1_2u => exact HiL2.out); (case s1_2u => exact lookC_one _ _ _ _ _ _ _ _ _ _)) | fail)
  generalize hW2 : (((w.alloc (.cells (AcA a p1 p2 p3 k1 k2 k3) 41)).alloc (.cells LkZ 35)).setCells (w.heap.size + 1) 0 (LkA a.op.look p1 p2 p3 k1 k2 k3).toList) = w2 at *
  clear hW2
  refine (little_any w2 G p2 k2 a.op.look.filt Hx.out.filt H2.out).mono ?_
  rintro e w3 ⟨⟨q, rfl, hq⟩, hm3⟩
  have Hq := Lib.hid hq
  have HM3 := Lib.hid (HM.out.trans' hm3)
  have Hx3 := Lib.hid (Hx.out.mod hm3 (fun _ _ _ h => h))
  have hL3 := HL2.out.mod hm3 (fun h => h)
  have d26 : w3.cell? ⟨w.heap.size + 1, 26, none⟩ = some (.slice p3 a.op.look.back.nodes.length k3) := hL3.cell 26 rfl
  have d27 : w3.cell? ⟨w.heap.size + 1, 27, none⟩ = some (.int .i64 a.op.look.back.out) := hL3.cell 27 rfl
  clear hq hm3 hL3
  cases q with
  | false =>
    go_wp2_with fail
    go_ret
    exact ⟨⟨false, rfl, fun h => by cases h⟩, HM3.out⟩
  | true =>
    go_wp2_with fail
    refine (little_any w3 G p3 k3 a.op.look.back Hx3.out.back H3.out).mono ?_
    rintro e w4 ⟨⟨q, rfl, hq2⟩, hm4⟩
    have Hq2 := Lib.hid hq2
    have HM4 := Lib.hid (HM3.out.trans' hm4)
    clear hq2 hm4
    cases q with
    | false =>
      go_wp2_with fail
      go_ret
      exact ⟨⟨false, rfl, fun h => by cases h⟩, HM4.out⟩
    | true =>
      go_wp2_with fail
      go_ret
      exact ⟨⟨true, rfl, fun _ => ⟨H1.out, H2.out, H3.out, (by have := Hq.out; simpa using this), (by have := Hq2.out; simpa using this)⟩⟩, HM4.out⟩

end Go.Proofs.Ytnamnmipgpcjjaa

