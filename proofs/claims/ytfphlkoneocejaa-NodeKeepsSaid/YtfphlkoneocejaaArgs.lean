/- The arguments of this seat's laws, opened. -/
import Derived.Test.YtfphlkoneocejaaOrdA
import Derived.Test.YtfphlkoneocejaaCheck
import Derived.Test.YtfphlkoneocejaaOpen
namespace Go.Proofs.Ytfphlkoneocejaa
open Go.RowKit Go.Gou Go.ChangeShapes Go.WideShapes Go.Deep Go.Joins

theorem laidOut : laidOutB Try.prog = true := by kernel_rfl
theorem own : ownKnob Try.prog.godebug = none := by kernel_rfl
theorem cellsNode : Try.prog.cellsOf 27 = 3 := by kernel_rfl
theorem cellsGraph : Try.prog.cellsOf 24 = 2 := by kernel_rfl
theorem cellsInt : Try.prog.cellsOf 3 = 1 := by kernel_rfl

theorem nodeT : ∃ fs, NodeT Try.prog 27 fs 0 3 :=
  ⟨_, { ty := Try.underlying27, one := by kernel_rfl, cells := cellsNode, size := rfl, f0 := ⟨_, rfl, Try.underlying3⟩, f1 := ⟨_, rfl, Try.underlying25⟩, f2 := ⟨_, rfl, Try.underlying25⟩, tint := Try.underlying3, tc := cellsInt }⟩

section
variable {H : Type} {enc : TypeId × Value → H} {w : World} {base : Nat} {spare : Nat → Bool} {held : Bool} {r : Reach} {b0 : Nat} {v : Value} {d : DataW H} {p : List MemPlace}

theorem open_gr (hv : Value.okWide Try.prog w r b0 24 v) (h : DataW.Trod enc Try.prog w base spare held 24 v d p) : ∃ g, GrV w v g ∧ GrWf g := by
  obtain ⟨c0, c1, y0, y1, n0, rfl, _, _, hy0, hy1⟩ := open_agg2 Try.underlying24 (by kernel_rfl) cellsGraph hv h
  obtain ⟨fs, hN⟩ := nodeT
  obtain ⟨ns, hns, hwf, hl⟩ := open_nodes_at hN Try.underlying22 hy0
  obtain ⟨q, hq, _, hw⟩ := DataW.trod_int Try.underlying3 hy1
  obtain rfl : c1 = .int .i64 q := by simpa using hq
  exact ⟨⟨ns, q⟩, ⟨c0, rfl, hns⟩, ⟨fun n hn => (hwf n hn).op, fun n hn => (hwf n hn).ins, fun n hn => (hwf n hn).ps, hw, fun n hn => (hwf n hn).insl, fun n hn => (hwf n hn).psl, hl⟩⟩

theorem open_node (hv : Value.okWide Try.prog w r b0 27 v) (h : DataW.Trod enc Try.prog w base spare held 27 v d p) : ∃ n, NodeV w v n ∧ NodeWf n := by
  obtain ⟨c0, c1, c2, y0, y1, y2, n0, rfl, _, _, hy0, hy1, hy2⟩ := open_agg3 Try.underlying27 (by kernel_rfl) cellsNode hv h
  obtain ⟨q, hq, _, hw⟩ := DataW.trod_int Try.underlying3 hy0
  obtain rfl : c0 = .int .i64 q := by simpa using hq
  obtain ⟨ins, h1, w1, l1⟩ := open_ints_at Try.underlying25 Try.underlying3 cellsInt hy1
  obtain ⟨ps, h2, w2, l2⟩ := open_ints_at Try.underlying25 Try.underlying3 cellsInt hy2
  exact ⟨⟨q, ins, ps⟩, ⟨c1, c2, rfl, h1, h2⟩, ⟨hw, w1, w2, l1, l2⟩⟩
end

end Go.Proofs.Ytfphlkoneocejaa
