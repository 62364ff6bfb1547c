/- Acts as bytes: two filters are held against each other. -/
import Derived.Test.YtnamnmipgpcjjaaSamD
namespace Go.Gou
open Go.RowKit

theorem gr_eq (g k : Gr) : g = k ↔ g.out = k.out ∧ g.nodes = k.nodes := by
  obtain ⟨a, b⟩ := g
  obtain ⟨d, e⟩ := k
  simp [and_comm]

end Go.Gou
namespace Go.Proofs.Ytnamnmipgpcjjaa
open Go.RowKit Go.Gou

set_option maxRecDepth 100000 in
set_option maxHeartbeats 1000000 in
theorem sameGraph_any (w : World) (G1 G2 : Nat → Prop) (p1 p2 : Option Addr) (c1 c2 : Nat) (g k : Gr) (hx : NodesR G1 w (.slice p1 g.nodes.length c1) g.nodes) (hy : NodesR G2 w (.slice p2 k.nodes.length c2) k.nodes) (bx : NodesBorne g.nodes) (by_ : NodesBorne k.nodes) :
    Calls Try.prog 51 #[.agg #[.slice p1 g.nodes.length c1, .int .i64 g.out], .agg #[.slice p2 k.nodes.length c2, .int .i64 k.out]] w fun e w' => e = .returned (.bool (decide (g = k))) ∧ Gou.Mod (fun _ => False) w w' := by
  have HM : Hid (Gou.Mod (fun _ => False) w ((w.alloc (.cells #[.slice p1 g.nodes.length c1, .int .i64 g.out] 33)).alloc (.cells #[.slice p2 k.nodes.length c2, .int .i64 k.out] 33))) := Lib.hid ((Gou.Mod.alloc _ _ _).trans' (Gou.Mod.alloc _ _ _))
  have Hx := Lib.hid (hx.mod HM.out (fun _ _ _ h => h))
  have Hy := Lib.hid (hy.mod HM.out (fun _ _ _ h => h))
  have Bx := Lib.hid bx
  have By := Lib.hid by_
  clear hx hy bx by_
  go_enter Try.func51, Try.ntmps51
  by_cases ho : g.out = k.out
  · have e1 : (g.out == k.out) = true := by simp [ho]
    have Ho := Lib.hid ho
    clear ho
    go_wp2_with fail
    refine (eqNodes_any _ G1 G2 p1 p2 c1 c2 g.nodes k.nodes Hx.out Hy.out Bx.out By.out).mono ?_
    rintro e w1 ⟨rfl, hm1⟩
    have HM1 := Lib.hid (HM.out.trans' hm1)
    have Hq : Hid (decide (g.nodes = k.nodes) = decide (g = k)) := Lib.hid (by
      have h1 := Ho.out
      simp [gr_eq, h1])
    clear hm1
    generalize decide (g.nodes = k.nodes) = q at *
    cases q with
    | true =>
      go_wp2_with fail
      go_ret
      exact ⟨by rw [← Hq.out]; rfl, HM1.out⟩
    | false =>
      go_wp2_with fail
      go_ret
      exact ⟨by rw [← Hq.out]; rfl, HM1.out⟩
  · have e1 : (g.out == k.out) = false := beq_eq_false_iff_ne.2 ho
    have Hq : Hid (decide (g = k) = false) := Lib.hid (by simp [gr_eq, ho])
    clear ho
    go_wp2_with fail
    go_ret
    exact ⟨by rw [Hq.out]; rfl, HM.out⟩

end Go.Proofs.Ytnamnmipgpcjjaa
