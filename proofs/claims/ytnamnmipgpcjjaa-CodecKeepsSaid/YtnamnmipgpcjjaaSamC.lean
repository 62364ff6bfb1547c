/- Acts as bytes: two nodes are held against each other. -/
import Derived.Test.YtnamnmipgpcjjaaSamB
namespace Go.Gou
open Go.RowKit

theorem node_eq (n m : GNode) : n = m ↔ n.op = m.op ∧ n.ins = m.ins ∧ n.ps = m.ps := by
  obtain ⟨a, b, c⟩ := n
  obtain ⟨d, e, f⟩ := m
  simp

end Go.Gou
namespace Go.Proofs.Ytnamnmipgpcjjaa
open Go.RowKit Go.Gou

set_option maxRecDepth 100000 in
set_option maxHeartbeats 1000000 in
theorem sameNode_any (w : World) (G1 G2 : Nat → Prop) (pi pp qi qp : Option Addr) (ci cp di dp : Nat) (n m : GNode) (h1 : IntsR G1 w (.slice pi n.ins.length ci) n.ins) (h2 : IntsR G1 w (.slice pp n.ps.length cp) n.ps) (h3 : IntsR G2 w (.slice qi m.ins.length di) m.ins) (h4 : IntsR G2 w (.slice qp m.ps.length dp) m.ps)
    (l1 : n.ins.length ≤ 1000000000) (l2 : n.ps.length ≤ 1000000000) (l3 : m.ins.length ≤ 1000000000) (l4 : m.ps.length ≤ 1000000000) :
    Calls Try.prog 62 #[.agg #[.int .i64 n.op, .slice pi n.ins.length ci, .slice pp n.ps.length cp], .agg #[.int .i64 m.op, .slice qi m.ins.length di, .slice qp m.ps.length dp]] w fun e w' => e = .returned (.bool (decide (n = m))) ∧ Gou.Mod (fun _ => False) w w' := by
  have HM : Hid (Gou.Mod (fun _ => False) w ((w.alloc (.cells #[.int .i64 n.op, .slice pi n.ins.length ci, .slice pp n.ps.length cp] 82)).alloc (.cells #[.int .i64 m.op, .slice qi m.ins.length di, .slice qp m.ps.length dp] 82))) := Lib.hid ((Gou.Mod.alloc _ _ _).trans' (Gou.Mod.alloc _ _ _))
  have H1 := Lib.hid (RowG.mod h1 HM.out (fun _ _ _ h => h))
  have H2 := Lib.hid (RowG.mod h2 HM.out (fun _ _ _ h => h))
  have H3 := Lib.hid (RowG.mod h3 HM.out (fun _ _ _ h => h))
  have H4 := Lib.hid (RowG.mod h4 HM.out (fun _ _ _ h => h))
  have HA : Hid (Blk ((w.alloc (.cells #[.int .i64 n.op, .slice pi n.ins.length ci, .slice pp n.ps.length cp] 82)).alloc (.cells #[.int .i64 m.op, .slice qi m.ins.length di, .slice qp m.ps.length dp] 82)) w.heap.size 82 #[.int .i64 n.op, .slice pi n.ins.length ci, .slice pp n.ps.length cp]) :=
    Lib.hid ((show Blk (w.alloc (.cells #[.int .i64 n.op, .slice pi n.ins.length ci, .slice pp n.ps.length cp] 82)) w.heap.size 82 _ from heap_alloc_new w _).mod (Gou.Mod.alloc (fun _ => False) _ _) (fun h => h))
  have HB : Hid (Blk ((w.alloc (.cells #[.int .i64 n.op, .slice pi n.ins.length ci, .slice pp n.ps.length cp] 82)).alloc (.cells #[.int .i64 m.op, .slice qi m.ins.length di, .slice qp m.ps.length dp] 82)) (w.heap.size + 1) 82 #[.int .i64 m.op, .slice qi m.ins.length di, .slice qp m.ps.length dp]) :=
    Lib.hid (by
      have := heap_alloc_new (w.alloc (.cells #[.int .i64 n.op, .slice pi n.ins.length ci, .slice pp n.ps.length cp] 82)) (.cells #[.int .i64 m.op, .slice qi m.ins.length di, .slice qp m.ps.length dp] 82)
      rw [World.size_alloc] at this
      exact this)
  clear h1 h2 h3 h4
  go_enter Try.func62, Try.ntmps62
  by_cases ho : n.op = m.op
  · have e1 : (n.op == m.op) = true := by simp [ho]
    have Ho := Lib.hid ho
    clear ho
    go_wp2_with fail
    generalize hW : (w.alloc (.cells #[.int .i64 n.op, .slice pi n.ins.length ci, .slice pp n.ps.length cp] 82)).alloc (.cells #[.int .i64 m.op, .slice qi m.ins.length di, .slice qp m.ps.length dp] 82) = w0 at *
    clear hW
    have hlA := Blk.lt HA.out
    have hlB := Blk.lt HB.out
    refine (eqInts_any _ G1 G2 pi qi ci di n.ins m.ins H1.out H3.out l1 l3).mono ?_
    rintro e w1 ⟨rfl, hm1⟩
    have hA := HA.out.mod hm1 (fun h => h)
    have hB := HB.out.mod hm1 (fun h => h)
    have a2 := hA.cell 2 rfl
    have b2 := hB.cell 2 rfl
    have H2b := Lib.hid (RowG.mod H2.out hm1 (fun _ _ _ h => h))
    have H4b := Lib.hid (RowG.mod H4.out hm1 (fun _ _ _ h => h))
    have HM1 := Lib.hid (HM.out.trans' hm1)
    clear hA hB hm1
    by_cases hi : n.ins = m.ins
    · have Hi := Lib.hid hi
      have e2 : decide (n.ins = m.ins) = true := by simp [hi]
      clear hi
      go_wp2_with fail
      refine (eqInts_any _ G1 G2 pp qp cp dp n.ps m.ps H2b.out H4b.out l2 l4).mono ?_
      rintro e w2 ⟨rfl, hm2⟩
      have HM2 := Lib.hid (HM1.out.trans' hm2)
      have Hq : Hid (decide (n.ps = m.ps) = decide (n = m)) := Lib.hid (by
        have h1 := Ho.out
        have h2 := Hi.out
        simp [node_eq, h1, h2])
      clear hm2 e2
      generalize decide (n.ps = m.ps) = q at *
      cases q with
      | true =>
        go_wp2_with fail
        go_ret
        exact ⟨by rw [← Hq.out]; rfl, HM2.out⟩
      | false =>
        go_wp2_with fail
        go_ret
        exact ⟨by rw [← Hq.out]; rfl, HM2.out⟩
    · have e2 : decide (n.ins = m.ins) = false := by simp [hi]
      have Hq : Hid (decide (n = m) = false) := Lib.hid (by simp [node_eq, hi])
      clear hi
      go_wp2_with fail
      go_ret
      exact ⟨by rw [Hq.out]; rfl, HM1.out⟩
  · have e1 : (n.op == m.op) = false := beq_eq_false_iff_ne.2 ho
    have Hq : Hid (decide (n = m) = false) := Lib.hid (by simp [node_eq, ho])
    clear ho
    go_wp2_with fail
    go_ret
    exact ⟨by rw [Hq.out]; rfl, HM.out⟩

end Go.Proofs.Ytnamnmipgpcjjaa
