/- The arguments of this seat's laws, opened. -/
import Derived.Test.YtfphlkoneocejaaDoorOrdA
import Derived.Test.YtfphlkoneocejaaDoorCheck
import Derived.Test.YtfphlkoneocejaaDoorOpen
namespace Go.Proofs.YtfphlkoneocejaaDoor
open Go.RowKit Go.Gou Go.ChangeShapes Go.WideShapes Go.Deep Go.Joins

theorem laidOut : laidOutB Tryd.prog = true := by kernel_rfl
theorem own : ownKnob Tryd.prog.godebug = none := by kernel_rfl
theorem cellsNode : Tryd.prog.cellsOf 24 = 3 := by kernel_rfl
theorem cellsGraph : Tryd.prog.cellsOf 32 = 2 := by kernel_rfl
theorem cellsInt : Tryd.prog.cellsOf 3 = 1 := by kernel_rfl

theorem nodeT : ∃ fs, NodeT Tryd.prog 24 fs 0 3 :=
  ⟨_, { ty := Tryd.underlying24, one := by kernel_rfl, cells := cellsNode, size := rfl, f0 := ⟨_, rfl, Tryd.underlying3⟩, f1 := ⟨_, rfl, Tryd.underlying22⟩, f2 := ⟨_, rfl, Tryd.underlying22⟩, tint := Tryd.underlying3, tc := cellsInt }⟩

section
variable {H : Type} {enc : TypeId × Value → H} {w : World} {base : Nat} {spare : Nat → Bool} {held : Bool} {r : Reach} {b0 : Nat} {v : Value} {d : DataW H} {p : List MemPlace}

theorem open_gr (hv : Value.okWide Tryd.prog w r b0 32 v) (h : DataW.Trod enc Tryd.prog w base spare held 32 v d p) : ∃ g, GrV w v g ∧ GrWf g := by
  obtain ⟨c0, c1, y0, y1, n0, rfl, _, _, hy0, hy1⟩ := open_agg2 Tryd.underlying32 (by kernel_rfl) cellsGraph hv h
  obtain ⟨fs, hN⟩ := nodeT
  obtain ⟨ns, hns, hwf, hl⟩ := open_nodes_at hN Tryd.underlying30 hy0
  obtain ⟨q, hq, _, hw⟩ := DataW.trod_int Tryd.underlying3 hy1
  obtain rfl : c1 = .int .i64 q := by simpa using hq
  exact ⟨⟨ns, q⟩, ⟨c0, rfl, hns⟩, ⟨fun n hn => (hwf n hn).op, fun n hn => (hwf n hn).ins, fun n hn => (hwf n hn).ps, hw, fun n hn => (hwf n hn).insl, fun n hn => (hwf n hn).psl, hl⟩⟩

theorem open_node (hv : Value.okWide Tryd.prog w r b0 24 v) (h : DataW.Trod enc Tryd.prog w base spare held 24 v d p) : ∃ n, NodeV w v n ∧ NodeWf n := by
  obtain ⟨c0, c1, c2, y0, y1, y2, n0, rfl, _, _, hy0, hy1, hy2⟩ := open_agg3 Tryd.underlying24 (by kernel_rfl) cellsNode hv h
  obtain ⟨q, hq, _, hw⟩ := DataW.trod_int Tryd.underlying3 hy0
  obtain rfl : c0 = .int .i64 q := by simpa using hq
  obtain ⟨ins, h1, w1, l1⟩ := open_ints_at Tryd.underlying22 Tryd.underlying3 cellsInt hy1
  obtain ⟨ps, h2, w2, l2⟩ := open_ints_at Tryd.underlying22 Tryd.underlying3 cellsInt hy2
  exact ⟨⟨q, ins, ps⟩, ⟨c1, c2, rfl, h1, h2⟩, ⟨hw, w1, w2, l1, l2⟩⟩
end

end Go.Proofs.YtfphlkoneocejaaDoor
