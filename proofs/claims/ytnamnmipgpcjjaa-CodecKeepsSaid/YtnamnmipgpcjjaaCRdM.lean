/- Acts as bytes: an act is read, or a fault is caught. -/
import Derived.Test.YtnamnmipgpcjjaaCRdL
namespace Go.Proofs.Ytnamnmipgpcjjaa
open Go.RowKit Go.Gou

set_option maxRecDepth 100000 in
theorem one_idle (p0 p1 p2 p3 : Value) (w : World) :
    CallsD Try.prog 42 #[p0, p1, p2, p3] .returning w fun e u' w' => e = .returned (.tuple #[]) ∧ u' = .returning ∧ w' = w := by
  refine callsD_of_wpS Try.func42 rfl fun c₀ cs hu => ?_
  apply wpS_seq
  apply wpS_region
  simp [wpOpsS, go_sem, recoverD, hu, Try.ntmps42, Exit.thenS]
  refine (caught_nil _).mono ?_
  rintro e w' ⟨rfl, rfl⟩
  simp [wpOpsS, go_sem, recoverD, hu, Try.ntmps42, Exit.thenS]
  refine wpS_cond (t := false) (by simp [Act.eval, Array.replicate]) ?_
  simp only [Bool.false_eq_true, if_false]
  refine wpS_of_wp (wp_skip ?_)
  cases c₀
  simp_all [bodyPostS, results, Try.results42]

set_option maxRecDepth 100000 in
set_option maxHeartbeats 2000000 in
theorem one_caught (F B A O R from_ n m : Nat) (vb : Value) (bs : List Nat) (cs : Array Value) (b : Value) (w0 w : World) (older : List PanicEntry) (H : RdAt w0 R vb bs n) (hm0 : Gou.Mod (fun k => k = R) w0 w) (hr0 : RdAt w R vb bs m)
    (hF : Blk w F 3 #[.int .i64 from_]) (hB : Blk w B 67 #[.pointer (some ⟨R, 0, none⟩)]) (hA : Blk w A 41 cs) (hcs : cs.size = 42) (hO : Blk w O 4 #[b]) (hf : from_ ≤ bs.length)
    (hA0 : w0.heap.size ≤ A) (hO0 : w0.heap.size ≤ O) (hF0 : w0.heap.size ≤ F) (hB0 : w0.heap.size ≤ B) (hAO : A ≠ O) :
    CallsD Try.prog 42 #[.pointer (some ⟨F, 0, none⟩), .pointer (some ⟨B, 0, none⟩), .pointer (some ⟨A, 0, none⟩), .pointer (some ⟨O, 0, none⟩)] (.panicking ({ v := .iface 84 (.agg #[]), recovered := false } :: older)) w fun e u' w' =>
      e = .returned (.tuple #[]) ∧ u' = .panicking ({ v := .iface 84 (.agg #[]), recovered := true } :: older) ∧ RdAt w' R vb bs from_ ∧ Gou.Mod (fun k => k = R) w0 w' ∧ Blk w' A 41 (List.toArray (Value.int .i64 0 :: Value.int .i64 0 :: Value.int .i64 0 :: Value.int .i64 0 :: Value.int .i64 0 :: Value.int .i64 0 :: Value.int .i64 0 :: Value.int .i64 0 :: Value.int .i64 0 :: Value.bool false :: Value.int .i64 0 :: Value.int .i64 0 :: Value.int .i64 0 :: Value.int .i64 0 :: Value.int .i64 0 :: Value.int .i64 0 :: Value.int .i64 0 :: Value.int .i64 0 :: Value.int .i64 0 :: Value.int .i64 0 :: Value.int .i64 0 :: Value.int .u8 0 :: Value.int .u8 0 :: Value.int .u8 0 :: Value.int .u8 0 :: Value.int .i64 0 :: Value.int .i64 0 :: Value.int .i64 0 :: Value.slice none 0 0 :: Value.bool false :: Value.slice none 0 0 :: Value.int .i64 0 :: Value.bool false :: Value.slice none 0 0 :: Value.int .i64 0 :: Value.int .i64 0 :: Value.int .i64 0 :: Value.bool false :: Value.bool false :: Value.bool false :: Value.bool false :: Value.int .i64 0 :: [])) ∧ Blk w' O 4 #[.bool false] := by
  refine callsD_of_wpS Try.func42 rfl fun c₀ cs' hu => ?_
  apply wpS_seq
  apply wpS_region
  simp [wpOpsS, go_sem, recoverD, hu, Try.ntmps42, Exit.thenS]
  refine (caught_fault _).mono ?_
  rintro e w1 ⟨rfl, hm1⟩
  have hRlt := H.lt
  have hF1 := hF.mod hm1 (fun h => h)
  have hB1 := hB.mod hm1 (fun h => h)
  have hr1 := hr0.mod hm1 (fun h => h) (fun _ _ _ h => h)
  have hm01 := hm0.trans' (hm1.imp (S' := fun k => k = R) fun _ _ h => h.elim)
  have hA1 := (hA.mod hm1 (fun h => h)).mod (Gou.Mod.setCell w1 ⟨R, 1, none⟩ (.int .i64 from_)) (by simp; omega)
  have hO1 := (hO.mod hm1 (fun h => h)).mod (Gou.Mod.setCell w1 ⟨R, 1, none⟩ (.int .i64 from_)) (by simp; omega)
  have hr2 := hr1.setAt from_ hf
  have hm02 := hm01.trans' (Gou.Mod.setCell w1 ⟨R, 1, none⟩ (.int .i64 from_))
  have Ht := Lib.hid (hA1.there 0 42 (by omega))
  have hA2 := hA1.sets 0 (Value.int .i64 0 :: Value.int .i64 0 :: Value.int .i64 0 :: Value.int .i64 0 :: Value.int .i64 0 :: Value.int .i64 0 :: Value.int .i64 0 :: Value.int .i64 0 :: Value.int .i64 0 :: Value.bool false :: Value.int .i64 0 :: Value.int .i64 0 :: Value.int .i64 0 :: Value.int .i64 0 :: Value.int .i64 0 :: Value.int .i64 0 :: Value.int .i64 0 :: Value.int .i64 0 :: Value.int .i64 0 :: Value.int .i64 0 :: Value.int .i64 0 :: Value.int .u8 0 :: Value.int .u8 0 :: Value.int .u8 0 :: Value.int .u8 0 :: Value.int .i64 0 :: Value.int .i64 0 :: Value.int .i64 0 :: Value.slice none 0 0 :: Value.bool false :: Value.slice none 0 0 :: Value.int .i64 0 :: Value.bool false :: Value.slice none 0 0 :: Value.int .i64 0 :: Value.int .i64 0 :: Value.int .i64 0 :: Value.bool false :: Value.bool false :: Value.bool false :: Value.bool false :: Value.int .i64 0 :: [])
  rw [setMany_all _ _ (by simp [hcs])] at hA2
  have hO2 := hO1.mod (Blk.setMod (w1.setCell ⟨R, 1, none⟩ (.int .i64 from_)) A 0 (Value.int .i64 0 :: Value.int .i64 0 :: Value.int .i64 0 :: Value.int .i64 0 :: Value.int .i64 0 :: Value.int .i64 0 :: Value.int .i64 0 :: Value.int .i64 0 :: Value.int .i64 0 :: Value.bool false :: Value.int .i64 0 :: Value.int .i64 0 :: Value.int .i64 0 :: Value.int .i64 0 :: Value.int .i64 0 :: Value.int .i64 0 :: Value.int .i64 0 :: Value.int .i64 0 :: Value.int .i64 0 :: Value.int .i64 0 :: Value.int .i64 0 :: Value.int .u8 0 :: Value.int .u8 0 :: Value.int .u8 0 :: Value.int .u8 0 :: Value.int .i64 0 :: Value.int .i64 0 :: Value.int .i64 0 :: Value.slice none 0 0 :: Value.bool false :: Value.slice none 0 0 :: Value.int .i64 0 :: Value.bool false :: Value.slice none 0 0 :: Value.int .i64 0 :: Value.int .i64 0 :: Value.int .i64 0 :: Value.bool false :: Value.bool false :: Value.bool false :: Value.bool false :: Value.int .i64 0 :: [])) (fun h => hAO h.symm)
  have hr3 := H.owns hr2 hm02 A 0 (Value.int .i64 0 :: Value.int .i64 0 :: Value.int .i64 0 :: Value.int .i64 0 :: Value.int .i64 0 :: Value.int .i64 0 :: Value.int .i64 0 :: Value.int .i64 0 :: Value.int .i64 0 :: Value.bool false :: Value.int .i64 0 :: Value.int .i64 0 :: Value.int .i64 0 :: Value.int .i64 0 :: Value.int .i64 0 :: Value.int .i64 0 :: Value.int .i64 0 :: Value.int .i64 0 :: Value.int .i64 0 :: Value.int .i64 0 :: Value.int .i64 0 :: Value.int .u8 0 :: Value.int .u8 0 :: Value.int .u8 0 :: Value.int .u8 0 :: Value.int .i64 0 :: Value.int .i64 0 :: Value.int .i64 0 :: Value.slice none 0 0 :: Value.bool false :: Value.slice none 0 0 :: Value.int .i64 0 :: Value.bool false :: Value.slice none 0 0 :: Value.int .i64 0 :: Value.int .i64 0 :: Value.int .i64 0 :: Value.bool false :: Value.bool false :: Value.bool false :: Value.bool false :: Value.int .i64 0 :: []) hA0
  have cF := hF1.cell 0 rfl
  have cB := hB1.cell 0 rfl
  have c1 := hr1.c1
  have f1 := hr1.f1
  have cO := hO2.cell 0 rfl
  have fO := hO2.frozen 0
  have hA3 := hA2.mod (Gou.Mod.setCell _ ⟨O, 0, none⟩ (.bool false)) (fun h => hAO h)
  have hO3 := hO2.set 0 (.bool false)
  have hr4 := H.own hr3.1 hr3.2 ⟨O, 0, none⟩ (.bool false) hO0
  have hm4 := hr3.2.own ⟨O, 0, none⟩ (.bool false) hO0
  have HE := Lib.hid (And.intro hr4 (And.intro hm4 (And.intro hA3 hO3)))
  clear hA3 hO3 hr4 hm4 hr3 hO2 hA2 hr2 hm02 hO1 hA1 hm01 hr1 hB1 hF1 hm0 hr0 hF hB hA hO hm1 H
  simp [wpOpsS, go_sem, recoverD, hu, Try.ntmps42, Exit.thenS]
  refine wpS_cond (t := true) (by simp [Act.eval, Array.replicate]) ?_
  simp only [if_true]
  refine wpS_of_wp ?_
  go_wp2_with (first | ((with_reducible refine wpList_store_mid ?g1_1 41 ?x1_1 ?y1_1 ?o1_1 A 0 (List.toArray (Value.int .i64 0 :: Value.int .i64 0 :: Value.int .i64 0 :: Value.int .i64 0 :: Value.int .i64 0 :: Value.int .i64 0 :: Value.int .i64 0 :: Value.int .i64 0 :: Value.int .i64 0 :: Value.bool false :: Value.int .i64 0 :: Value.int .i64 0 :: Value.int .i64 0 :: Value.int .i64 0 :: Value.int .i64 0 :: Value.int .i64 0 :: Value.int .i64 0 :: Value.int .i64 0 :: Value.int .i64 0 :: Value.int .i64 0 :: Value.int .i64 0 :: Value.int .u8 0 :: Value.int .u8 0 :: Value.int .u8 0 :: Value.int .u8 0 :: Value.int .i64 0 :: Value.int .i64 0 :: Value.int .i64 0 :: Value.slice none 0 0 :: Value.bool false :: Value.slice none 0 0 :: Value.int .i64 0 :: Value.bool false :: Value.slice none 0 0 :: Value.int .i64 0 :: Value.int .i64 0 :: Value.int .i64 0 :: Value.bool false :: Value.bool false :: Value.bool false :: Value.bool false :: Value.int .i64 0 :: [])) ?h1_1 ?j1_1 ?t1_1 ?i1_1 ?s1_1 ?r1_1); (case g1_1 => exact rfl); (case o1_1 => exact rfl); (case h1_1 => exact rfl); (case j1_1 => exact rfl); (case t1_1 => exact Ht.out); (case i1_1 => exact size_act); (case s1_1 => exact actC_one Ac.zero none 0 0 none 0 0 none 0 0)) | fail)
  cases c₀
  simp_all [bodyPostS, results, Try.results42]
  exact HE.out

end Go.Proofs.Ytnamnmipgpcjjaa
