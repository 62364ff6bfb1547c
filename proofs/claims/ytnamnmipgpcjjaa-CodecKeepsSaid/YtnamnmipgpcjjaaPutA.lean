/- Acts as bytes: a Put's fault is caught. -/
import Derived.Test.YtnamnmipgpcjjaaPlnB
import Derived.Test.YtnamnmipgpcjjaaSamJ
import Derived.RegionDies
namespace Go.Proofs.Ytnamnmipgpcjjaa
open Go.RowKit Go.Gou

set_option maxRecDepth 100000 in
theorem put_idle (p0 p1 : Value) (w : World) :
    CallsD Try.prog 19 #[p0, p1] .returning w fun e u' w' => e = .returned (.tuple #[]) ∧ u' = .returning ∧ w' = w := by
  refine callsD_of_wpS Try.func19 rfl fun c₀ cs hu => ?_
  apply wpS_seq
  apply wpS_region
  simp [wpOpsS, go_sem, recoverD, hu, Try.ntmps19, Exit.thenS]
  refine (caught_nil _).mono ?_
  rintro e w' ⟨rfl, rfl⟩
  simp [wpOpsS, go_sem, recoverD, hu, Try.ntmps19, Exit.thenS]
  refine wpS_cond (t := false) (by simp [Act.eval, Array.replicate]) ?_
  simp only [Bool.false_eq_true, if_false]
  refine wpS_of_wp (wp_skip ?_)
  cases c₀
  simp_all [bodyPostS, results, Try.results19]

set_option maxRecDepth 100000 in
set_option maxHeartbeats 2000000 in
theorem put_caught (O E : Nat) (vo ve : Value) (w0 w : World) (older : List PanicEntry) (hm0 : Gou.Mod (fun _ => False) w0 w)
    (hO : Blk w O 44 #[vo]) (hE : Blk w E 45 #[ve]) (hO0 : w0.heap.size ≤ O) (hE0 : w0.heap.size ≤ E) (hOE : O ≠ E) :
    CallsD Try.prog 19 #[.pointer (some ⟨O, 0, none⟩), .pointer (some ⟨E, 0, none⟩)] (.panicking ({ v := .iface 84 (.agg #[]), recovered := false } :: older)) w fun e u' w' =>
      e = .returned (.tuple #[]) ∧ u' = .panicking ({ v := .iface 84 (.agg #[]), recovered := true } :: older) ∧ Gou.Mod (fun _ => False) w0 w' ∧ Blk w' O 44 #[.slice none 0 0] ∧ Blk w' E 45 #[.int .i64 1] := by
  refine callsD_of_wpS Try.func19 rfl fun c₀ cs' hu => ?_
  apply wpS_seq
  apply wpS_region
  simp [wpOpsS, go_sem, recoverD, hu, Try.ntmps19, Exit.thenS]
  refine (caught_fault _).mono ?_
  rintro e w1 ⟨rfl, hm1⟩
  have hO1 := hO.mod hm1 (fun h => h)
  have hE1 := hE.mod hm1 (fun h => h)
  have cO := hO1.cell 0 rfl
  have fO := hO1.frozen 0
  have hE2 := hE1.mod (Gou.Mod.setCell w1 ⟨O, 0, none⟩ (.slice none 0 0)) (fun h => hOE h.symm)
  have cE := hE2.cell 0 rfl
  have fE := hE2.frozen 0
  have hO3 := (hO1.set 0 (.slice none 0 0)).mod (Gou.Mod.setCell _ ⟨E, 0, none⟩ (.int .i64 1)) (fun h => hOE h)
  have hE3 := hE2.set 0 (.int .i64 1)
  have hm3 := ((hm0.trans' hm1).own ⟨O, 0, none⟩ (.slice none 0 0) hO0).own ⟨E, 0, none⟩ (.int .i64 1) hE0
  have HE := Lib.hid (And.intro hm3 (And.intro hO3 hE3))
  clear hO3 hE3 hm3 hE2 hO1 hE1 hm0 hO hE hm1
  simp [wpOpsS, go_sem, recoverD, hu, Try.ntmps19, Exit.thenS]
  refine wpS_cond (t := true) (by simp [Act.eval, Array.replicate]) ?_
  simp only [if_true]
  refine wpS_of_wp ?_
  go_wp2_with fail
  cases c₀
  simp_all [bodyPostS, results, Try.results19]
  exact HE.out

end Go.Proofs.Ytnamnmipgpcjjaa
