/- Texts of the scenes' proofs, laid together: SamC, SamD, SamE, SamF, SamG, SamH, SamI, PlnB, TxB, TxC. -/
import Derived.Test.YtgolafbneiffpaaGreatDoorZah
import Derived.Test.YtgolafbneiffpaaGreatDoorZaa
set_option maxHeartbeats 64000000
set_option linter.unusedSimpArgs false
set_option linter.unusedVariables false
set_option linter.unusedSectionVars false
set_option linter.constructorNameAsVariable false
namespace Go.Gou
open Go.RowKit
theorem urx (n m : ubb) : n = m ↔ n.op = m.op ∧ n.ins = m.ins ∧ n.ps = m.ps := by
 obtain ⟨a, b, c⟩ := n
 obtain ⟨d, e, f⟩ := m
 simp
end Go.Gou
namespace Go.Proofs.YtgolafbneiffpaaGreatDoor
open Go.RowKit Go.Gou
set_option maxRecDepth 100000 in
theorem uso (w : World) (G1 G2 : Nat → Prop) (pi pp qi qp : Option Addr) (ci cp di dp : Nat) (n m : ubb) (h1 : IntsR G1 w (.slice pi n.ins.length ci) n.ins) (h2 : IntsR G1 w (.slice pp n.ps.length cp) n.ps) (h3 : IntsR G2 w (.slice qi m.ins.length di) m.ins) (h4 : IntsR G2 w (.slice qp m.ps.length dp) m.ps)
  (l1 : n.ins.length ≤ 1000000000) (l2 : n.ps.length ≤ 1000000000) (l3 : m.ins.length ≤ 1000000000) (l4 : m.ps.length ≤ 1000000000) :
  Calls Tryz.prog 127 #[.agg #[iV n.op, .slice pi n.ins.length ci, .slice pp n.ps.length cp], .agg #[iV m.op, .slice qi m.ins.length di, .slice qp m.ps.length dp]] w fun e w' => e = .returned (.bool (decide (n = m))) ∧ Gou.Mod (fun _ => False) w w' := by
 have HM : Hid (Gou.Mod (fun _ => False) w ((w.alloc (.cells #[iV n.op, .slice pi n.ins.length ci, .slice pp n.ps.length cp] 58)).alloc (.cells #[iV m.op, .slice qi m.ins.length di, .slice qp m.ps.length dp] 58))) := hd' ((Gou.Mod.alloc _ _ _).trans' (Gou.Mod.alloc _ _ _))
 have H1 := hd' (RowG.mod h1 HM.o (fun _ _ _ h => h))
 have H2 := hd' (RowG.mod h2 HM.o (fun _ _ _ h => h))
 have H3 := hd' (RowG.mod h3 HM.o (fun _ _ _ h => h))
 have H4 := hd' (RowG.mod h4 HM.o (fun _ _ _ h => h))
 have HA : Hid (Blk ((w.alloc (.cells #[iV n.op, .slice pi n.ins.length ci, .slice pp n.ps.length cp] 58)).alloc (.cells #[iV m.op, .slice qi m.ins.length di, .slice qp m.ps.length dp] 58)) w.heap.size 58 #[iV n.op, .slice pi n.ins.length ci, .slice pp n.ps.length cp]) :=
  hd' ((show Blk (w.alloc (.cells #[iV n.op, .slice pi n.ins.length ci, .slice pp n.ps.length cp] 58)) w.heap.size 58 _ from heap_alloc_new w _).mod (Gou.Mod.alloc (fun _ => False) _ _) (fun h => h))
 have HB : Hid (Blk ((w.alloc (.cells #[iV n.op, .slice pi n.ins.length ci, .slice pp n.ps.length cp] 58)).alloc (.cells #[iV m.op, .slice qi m.ins.length di, .slice qp m.ps.length dp] 58)) (w.heap.size + 1) 58 #[iV m.op, .slice qi m.ins.length di, .slice qp m.ps.length dp]) :=
  hd' (by
   have := heap_alloc_new (w.alloc (.cells #[iV n.op, .slice pi n.ins.length ci, .slice pp n.ps.length cp] 58)) (.cells #[iV m.op, .slice qi m.ins.length di, .slice qp m.ps.length dp] 58)
   rw [World.size_alloc] at this
   exact this)
 clear h1 h2 h3 h4
 go_enter Tryz.func127, Tryz.ntmps127
 by_cases ho : n.op = m.op
 ·have e1 : (n.op == m.op) = true := by simp [ho]
  have Ho := hd' ho
  clear ho
  go_wp2_with fail
  generalize hW : (w.alloc (.cells #[iV n.op, .slice pi n.ins.length ci, .slice pp n.ps.length cp] 58)).alloc (.cells #[iV m.op, .slice qi m.ins.length di, .slice qp m.ps.length dp] 58) = w0 at *
  clear hW
  have hlA := Blk.lt HA.o
  have hlB := Blk.lt HB.o
  refine (urk _ G1 G2 pi qi ci di n.ins m.ins H1.o H3.o l1 l3).mono ?_
  rintro e w1 ⟨rfl, hm1⟩
  have hA := HA.o.mod hm1 (fun h => h)
  have hB := HB.o.mod hm1 (fun h => h)
  have a2 := hA.cell 2 rfl
  have b2 := hB.cell 2 rfl
  have H2b := hd' (RowG.mod H2.o hm1 (fun _ _ _ h => h))
  have H4b := hd' (RowG.mod H4.o hm1 (fun _ _ _ h => h))
  have HM1 := hd' (HM.o.trans' hm1)
  clear hA hB hm1
  by_cases hi : n.ins = m.ins
  ·have Hi := hd' hi
   have e2 : decide (n.ins = m.ins) = true := by simp [hi]
   clear hi
   go_wp2_with fail
   refine (urk _ G1 G2 pp qp cp dp n.ps m.ps H2b.o H4b.o l2 l4).mono ?_
   rintro e w2 ⟨rfl, hm2⟩
   have HM2 := hd' (HM1.o.trans' hm2)
   have Hq : Hid (decide (n.ps = m.ps) = decide (n = m)) := hd' (by
    have h1 := Ho.o
    have h2 := Hi.o
    simp [urx, h1, h2])
   clear hm2 e2
   generalize decide (n.ps = m.ps) = q at *
   cases q with
   | true =>
    go_wp2_with fail
    go_ret
    exact ⟨by rw [← Hq.o]; rfl, HM2.o⟩
   | false =>
    go_wp2_with fail
    go_ret
    exact ⟨by rw [← Hq.o]; rfl, HM2.o⟩
  ·have e2 : decide (n.ins = m.ins) = false := by simp [hi]
   have Hq : Hid (decide (n = m) = false) := hd' (by simp [urx, hi])
   clear hi
   go_wp2_with fail
   go_ret
   exact ⟨by rw [Hq.o]; rfl, HM1.o⟩
 ·have e1 : (n.op == m.op) = false := bqf.2 ho
  have Hq : Hid (decide (n = m) = false) := hd' (by simp [urx, ho])
  clear ho
  go_wp2_with fail
  go_ret
  exact ⟨by rw [Hq.o]; rfl, HM.o⟩
end Go.Proofs.YtgolafbneiffpaaGreatDoor
namespace Go.Gou
open Go.RowKit
def ucm (ns : List ubb) : Prop := ns.length ≤ 1000000000 ∧ ∀ (i : Nat) (n : ubb), ns[i]? = some n → n.ins.length ≤ 1000000000 ∧ n.ps.length ≤ 1000000000
end Go.Gou
namespace Go.Proofs.YtgolafbneiffpaaGreatDoor
open Go.RowKit Go.Gou
set_option maxRecDepth 100000 in
theorem uun (w : World) (G1 G2 : Nat → Prop) (p1 p2 : Option Addr) (c1 c2 : Nat) (xs ys : List ubb) (hx : NodesR G1 w (.slice p1 xs.length c1) xs) (hy : NodesR G2 w (.slice p2 ys.length c2) ys) (bx : ucm xs) (by_ : ucm ys) :
  Calls Tryz.prog 126 #[.slice p1 xs.length c1, .slice p2 ys.length c2, .func (.func 127) #[] #[]] w fun e w' => e = .returned (.bool (decide (xs = ys))) ∧ Gou.Mod (fun _ => False) w w' := by
 have Hx := hd' hx
 have Hy := hd' hy
 have hl := bx.1
 have Bx := hd' bx
 have By := hd' by_
 clear hx hy bx by_
 go_enter Tryz.func126, Tryz.ntmps126
 by_cases hlen : xs.length = ys.length
 ·have e1 : ((xs.length : Int) != (ys.length : Int)) = false := by simp [hlen]
  have Hlen := hd' hlen
  clear hlen
  go_wp2_with fail
  go_loopw [17] (fun c wr => ∃ i : Nat, c = iV i ∧ i ≤ xs.length ∧ xs.take i = ys.take i ∧ Gou.Mod (fun _ => False) w wr) (fun c _ => xs.length - (intOf c).toNat)
  case atStart => exact ⟨0, rfl, by omega, by simp, Gou.Mod.refl _ _⟩
  case round =>
   obtain ⟨i, rfl, hi, ht, hm⟩ := hrel
   have Ht := hd' ht
   have Hm := hd' hm
   clear ht hm
   by_cases hil : i < xs.length
   ·have e2 : decide ((i : Int) < (xs.length : Int)) = true := by simp; omega
    have hil2 : i < ys.length := by have := Hlen.o; omega
    obtain ⟨-, b1, o1, rfl, hb1, -, hc1⟩ := (Hx.o.mod Hm.o (fun _ _ _ h => h)).cells (by omega)
    obtain ⟨-, b2, o2, rfl, hb2, -, hc2⟩ := (Hy.o.mod Hm.o (fun _ _ _ h => h)).cells (by omega)
    have g1 := lgE hil
    have g2 := lgE hil2
    obtain ⟨pi, ci, pp, cp, k0, k1, k2, hI, hP⟩ := hc1 i _ g1
    obtain ⟨qi, di, qp, dp, l0, l1, l2, jI, jP⟩ := hc2 i _ g2
    have B1 := hd' (Bx.o.2 i _ g1)
    have B2 := hd' (By.o.2 i _ g2)
    have hiI : (i : Int) < (xs.length : Int) := by omega
    have hiJ : (i : Int) < (ys.length : Int) := by omega
    have hi0I : (0 : Int) ≤ (i : Int) := by omega
    have Hne := hd' (fun he => uet (i := i) hil hil2 he : xs[i] ≠ ys[i] → xs ≠ ys)
    have Heq := hd' (fun he => uci hil hil2 Ht.o he : xs[i] = ys[i] → xs.take (i + 1) = ys.take (i + 1))
    clear hc1 hc2 g1 g2
    generalize xs[i] = x at *
    generalize ys[i] = y at *
    have HI := hd' hI
    have HP := hd' hP
    have JI := hd' jI
    have JP := hd' jP
    clear hI hP jI jP
    have HM2 : Hid (Gou.Mod (fun _ => False) wr ((wr.alloc (.cells #[iV x.op, .slice pi x.ins.length ci, .slice pp x.ps.length cp] 58)).alloc (.cells #[iV y.op, .slice qi y.ins.length di, .slice qp y.ps.length dp] 58))) := hd' ((Gou.Mod.alloc _ _ _).trans' (Gou.Mod.alloc _ _ _))
    go_wp2_with fail
    refine (uso _ G1 G2 pi pp qi qp ci cp di dp x y (RowG.mod HI.o HM2.o (fun _ _ _ h => h)) (RowG.mod HP.o HM2.o (fun _ _ _ h => h)) (RowG.mod JI.o HM2.o (fun _ _ _ h => h)) (RowG.mod JP.o HM2.o (fun _ _ _ h => h)) B1.o.1 B1.o.2 B2.o.1 B2.o.2).mono ?_
    rintro e w3 ⟨rfl, hm3⟩
    have HM3 := hd' ((Hm.o.trans' HM2.o).trans' hm3)
    clear hm3
    by_cases hxy : x = y
    ·have e3 : decide (x = y) = true := by simp [hxy]
     have Hs := hd' (Heq.o hxy)
     clear hxy
     go_wp2_with fail
     go_roundw
     case rel => exact ⟨i + 1, by go_num, by omega, Hs.o, HM3.o⟩
     case measure => simp [intOf]; omega
    ·have e3 : decide (x = y) = false := by simp [hxy]
     have Hs := hd' (Hne.o hxy)
     clear hxy
     go_wp2_with fail
     go_ret
     exact ⟨by simp [Hs.o], HM3.o⟩
   ·obtain rfl : i = xs.length := by omega
    have e2 : decide ((xs.length : Int) < (xs.length : Int)) = false := by simp
    have Hs : Hid (xs = ys) := hd' (by
     have h1 := Ht.o
     rw [List.take_length, Hlen.o, List.take_length] at h1
     exact h1)
    go_wp2_with fail
    go_ret
    exact ⟨by simp [Hs.o], Hm.o⟩
 ·have e1 : ((xs.length : Int) != (ys.length : Int)) = true := by simp; omega
  have Hs : Hid (xs ≠ ys) := hd' (fun h => hlen (by rw [h]))
  clear hlen
  go_wp2_with fail
  go_ret
  exact ⟨by simp [Hs.o], Gou.Mod.refl _ _⟩
end Go.Proofs.YtgolafbneiffpaaGreatDoor
namespace Go.Gou
open Go.RowKit
theorem uui (g k : Gr) : g = k ↔ g.out = k.out ∧ g.nodes = k.nodes := by
 obtain ⟨a, b⟩ := g
 obtain ⟨d, e⟩ := k
 simp [and_comm]
end Go.Gou
namespace Go.Proofs.YtgolafbneiffpaaGreatDoor
open Go.RowKit Go.Gou
set_option maxRecDepth 100000 in
theorem uou (w : World) (G1 G2 : Nat → Prop) (p1 p2 : Option Addr) (c1 c2 : Nat) (g k : Gr) (hx : NodesR G1 w (.slice p1 g.nodes.length c1) g.nodes) (hy : NodesR G2 w (.slice p2 k.nodes.length c2) k.nodes) (bx : ucm g.nodes) (by_ : ucm k.nodes) :
  Calls Tryz.prog 101 #[.agg #[.slice p1 g.nodes.length c1, iV g.out], .agg #[.slice p2 k.nodes.length c2, iV k.out]] w fun e w' => e = .returned (.bool (decide (g = k))) ∧ Gou.Mod (fun _ => False) w w' := by
 have HM : Hid (Gou.Mod (fun _ => False) w ((w.alloc (.cells #[.slice p1 g.nodes.length c1, iV g.out] 33)).alloc (.cells #[.slice p2 k.nodes.length c2, iV k.out] 33))) := hd' ((Gou.Mod.alloc _ _ _).trans' (Gou.Mod.alloc _ _ _))
 have Hx := hd' (hx.mod HM.o (fun _ _ _ h => h))
 have Hy := hd' (hy.mod HM.o (fun _ _ _ h => h))
 have Bx := hd' bx
 have By := hd' by_
 clear hx hy bx by_
 go_enter Tryz.func101, Tryz.ntmps101
 by_cases ho : g.out = k.out
 ·have e1 : (g.out == k.out) = true := by simp [ho]
  have Ho := hd' ho
  clear ho
  go_wp2_with fail
  refine (uun _ G1 G2 p1 p2 c1 c2 g.nodes k.nodes Hx.o Hy.o Bx.o By.o).mono ?_
  rintro e w1 ⟨rfl, hm1⟩
  have HM1 := hd' (HM.o.trans' hm1)
  have Hq : Hid (decide (g.nodes = k.nodes) = decide (g = k)) := hd' (by
   have h1 := Ho.o
   simp [uui, h1])
  clear hm1
  generalize decide (g.nodes = k.nodes) = q at *
  cases q with
  | true =>
   go_wp2_with fail
   go_ret
   exact ⟨by rw [← Hq.o]; rfl, HM1.o⟩
  | false =>
   go_wp2_with fail
   go_ret
   exact ⟨by rw [← Hq.o]; rfl, HM1.o⟩
 ·have e1 : (g.out == k.out) = false := bqf.2 ho
  have Hq : Hid (decide (g = k) = false) := hd' (by simp [uui, ho])
  clear ho
  go_wp2_with fail
  go_ret
  exact ⟨by rw [Hq.o]; rfl, HM.o⟩
set_option maxRecDepth 100000
theorem i64_eq (w : World) (d : Nat) (a b : Int) : (Op.equalIn (d + 1) 3 (iV a) (iV b)).run Tryz.prog w = .ok (a == b) w := by
 simp [Op.equalIn, Sem.run_bind, run_underlying Tryz.underlying3]
theorem uis (a b c d a' b' c' d' : Int) (w : World) : (Op.equal 25 (.agg #[iV a, iV b, iV c, iV d]) (.agg #[iV a', iV b', iV c', iV d'])).run Tryz.prog w = .ok (decide (a = a' ∧ b = b' ∧ c = c' ∧ d = d')) w := by
 show (Op.equalIn (9999 + 1) _ _ _).run _ _ = _
 have hp0 : ∀ (a b c d : Value) (w : World), (part 3 #[a, b, c, d] 0).run Tryz.prog w = .ok a w := fun _ _ _ _ _ => by kernel_rfl
 have hp1 : ∀ (a b c d : Value) (w : World), (part 3 #[a, b, c, d] 1).run Tryz.prog w = .ok b w := fun _ _ _ _ _ => by kernel_rfl
 have hp2 : ∀ (a b c d : Value) (w : World), (part 3 #[a, b, c, d] 2).run Tryz.prog w = .ok c w := fun _ _ _ _ _ => by kernel_rfl
 have hp3 : ∀ (a b c d : Value) (w : World), (part 3 #[a, b, c, d] 3).run Tryz.prog w = .ok d w := fun _ _ _ _ _ => by kernel_rfl
 have he : ∀ (w : World) (a b : Int), (Op.equalIn 9999 3 (iV a) (iV b)).run Tryz.prog w = .ok (a == b) w := fun w a b => i64_eq w 9998 a b
 rw [run_equalIn_struct w 9999 25 _ _ (by kernel_rfl) (by kernel_rfl)]
 simp only [Program.fieldsOf, Tryz.underlying25]
 generalize (9999 : Nat) = dd at *
 simp only [Op.eqFields]
 by_cases h0 : a = a' <;> by_cases h1 : b = b' <;> by_cases h2 : c = c' <;> by_cases h3 : d = d' <;> simp [Sem.run_bind, Sem.run_ite, hp0, hp1, hp2, hp3, he, h0, h1, h2, h3]
theorem id_eql (a b a' b' : Int) (w : World) : (Op.equal 23 (.agg #[iV a, iV b]) (.agg #[iV a', iV b'])).run Tryz.prog w = .ok (decide (a = a' ∧ b = b')) w := by
 show (Op.equalIn (9999 + 1) _ _ _).run _ _ = _
 have hp0 : ∀ (a b : Value) (w : World), (part 3 #[a, b] 0).run Tryz.prog w = .ok a w := fun _ _ _ => by kernel_rfl
 have hp1 : ∀ (a b : Value) (w : World), (part 3 #[a, b] 1).run Tryz.prog w = .ok b w := fun _ _ _ => by kernel_rfl
 have he : ∀ (w : World) (a b : Int), (Op.equalIn 9999 3 (iV a) (iV b)).run Tryz.prog w = .ok (a == b) w := fun w a b => i64_eq w 9998 a b
 rw [run_equalIn_struct w 9999 23 _ _ (by kernel_rfl) (by kernel_rfl)]
 simp only [Program.fieldsOf, Tryz.underlying23]
 generalize (9999 : Nat) = dd at *
 simp only [Op.eqFields]
 by_cases h0 : a = a' <;> by_cases h1 : b = b' <;> simp [Sem.run_bind, Sem.run_ite, hp0, hp1, he, h0, h1]
theorem bool_eq (w : World) (d : Nat) (a b : Bool) : (Op.equalIn (d + 1) 4 (.bool a) (.bool b)).run Tryz.prog w = .ok (a == b) w := by
 simp [Op.equalIn, Sem.run_bind, run_underlying Tryz.underlying4]
theorem conf_eql (c e : Cf) (w : World) : (Op.equal 39 (.agg #[.bool c.fuse, .bool c.alias, .bool c.roi, .bool c.damage, iV c.room]) (.agg #[.bool e.fuse, .bool e.alias, .bool e.roi, .bool e.damage, iV e.room])).run Tryz.prog w = .ok (decide (c = e)) w := by
 obtain ⟨a0, a1, a2, a3, a4⟩ := c
 obtain ⟨b0, b1, b2, b3, b4⟩ := e
 show (Op.equalIn (9999 + 1) _ _ _).run _ _ = _
 have hp0 : ∀ (a b c d e : Value) (w : World), (part 4 #[a, b, c, d, e] 0).run Tryz.prog w = .ok a w := fun _ _ _ _ _ _ => by kernel_rfl
 have hp1 : ∀ (a b c d e : Value) (w : World), (part 4 #[a, b, c, d, e] 1).run Tryz.prog w = .ok b w := fun _ _ _ _ _ _ => by kernel_rfl
 have hp2 : ∀ (a b c d e : Value) (w : World), (part 4 #[a, b, c, d, e] 2).run Tryz.prog w = .ok c w := fun _ _ _ _ _ _ => by kernel_rfl
 have hp3 : ∀ (a b c d e : Value) (w : World), (part 4 #[a, b, c, d, e] 3).run Tryz.prog w = .ok d w := fun _ _ _ _ _ _ => by kernel_rfl
 have hp4 : ∀ (a b c d e : Value) (w : World), (part 3 #[a, b, c, d, e] 4).run Tryz.prog w = .ok e w := fun _ _ _ _ _ _ => by kernel_rfl
 have he : ∀ (w : World) (a b : Int), (Op.equalIn 9999 3 (iV a) (iV b)).run Tryz.prog w = .ok (a == b) w := fun w a b => i64_eq w 9998 a b
 have hb : ∀ (w : World) (a b : Bool), (Op.equalIn 9999 4 (.bool a) (.bool b)).run Tryz.prog w = .ok (a == b) w := fun w a b => bool_eq w 9998 a b
 rw [run_equalIn_struct w 9999 39 _ _ (by kernel_rfl) (by kernel_rfl)]
 simp only [Program.fieldsOf, Tryz.underlying39]
 generalize (9999 : Nat) = dd at *
 simp only [Op.eqFields]
 by_cases h0 : a0 = b0
 ·by_cases h1 : a1 = b1
  ·by_cases h2 : a2 = b2
   ·by_cases h3 : a3 = b3
    ·by_cases h4 : a4 = b4
     ·simp [Sem.run_bind, Sem.run_ite, hp0, hp1, hp2, hp3, hp4, he, hb, h0, h1, h2, h3, h4]
     ·simp [Sem.run_bind, Sem.run_ite, hp0, hp1, hp2, hp3, hp4, he, hb, h0, h1, h2, h3, h4]
    ·simp [Sem.run_bind, Sem.run_ite, hp0, hp1, hp2, hp3, hp4, he, hb, h0, h1, h2, h3]
   ·simp [Sem.run_bind, Sem.run_ite, hp0, hp1, hp2, hp3, hp4, he, hb, h0, h1, h2]
  ·simp [Sem.run_bind, Sem.run_ite, hp0, hp1, hp2, hp3, hp4, he, hb, h0, h1]
 ·simp [Sem.run_bind, Sem.run_ite, hp0, hp1, hp2, hp3, hp4, he, hb, h0]
end Go.Proofs.YtgolafbneiffpaaGreatDoor
namespace Go.Gou
open Go.RowKit
theorem uhd (c e : Ct) : c = e ↔ c.kind = e.kind ∧ c.box = e.box ∧ c.px = e.px ∧ c.w = e.w ∧ c.h = e.h ∧ c.turn = e.turn ∧ c.pix = e.pix := by
 obtain ⟨a1, a2, a3, a4, a5, a6, a7⟩ := c
 obtain ⟨b1, b2, b3, b4, b5, b6, b7⟩ := e
 simp
theorem rc_eq (a b : Rc) : a = b ↔ a.x0 = b.x0 ∧ a.y0 = b.y0 ∧ a.x1 = b.x1 ∧ a.y1 = b.y1 := by
 obtain ⟨a1, a2, a3, a4⟩ := a
 obtain ⟨b1, b2, b3, b4⟩ := b
 simp
theorem px_eq (a b : Pxl) : a = b ↔ a.p0 = b.p0 ∧ a.p1 = b.p1 ∧ a.p2 = b.p2 ∧ a.p3 = b.p3 := by
 obtain ⟨a1, a2, a3, a4⟩ := a
 obtain ⟨b1, b2, b3, b4⟩ := b
 simp
end Go.Gou
namespace Go.Proofs.YtgolafbneiffpaaGreatDoor
open Go.RowKit Go.Gou
set_option maxRecDepth 100000
theorem ut6 (a b : Rc) (w : World) : (binOp .eql 25 (.agg #[iV a.x0, iV a.y0, iV a.x1, iV a.y1]) (.agg #[iV b.x0, iV b.y0, iV b.x1, iV b.y1])).run Tryz.prog w = .ok (.bool (decide (a = b))) w := by
 simp only [binOp, Sem.run_bind, uis, Result.andThen_ok, Sem.run_pure, rc_eq]
theorem px_op (a b : Pxl) (w : World) : (binOp .eql 27 (.agg #[.int .u8 (a.p0 : Nat), .int .u8 (a.p1 : Nat), .int .u8 (a.p2 : Nat), .int .u8 (a.p3 : Nat)]) (.agg #[.int .u8 (b.p0 : Nat), .int .u8 (b.p1 : Nat), .int .u8 (b.p2 : Nat), .int .u8 (b.p3 : Nat)])).run Tryz.prog w = .ok (.bool (decide (a = b))) w := by
 have h := px_neq a.p0 a.p1 a.p2 a.p3 b.p0 b.p1 b.p2 b.p3 w
 simp only [binOp, Sem.run_bind] at h ⊢
 generalize (Op.equal 27 _ _).run Tryz.prog w = r at *
 cases r with
 | ok v w2 =>
  simp only [Result.andThen_ok, Sem.run_pure, Result.ok.injEq, Value.bool.injEq] at h ⊢
  obtain ⟨h1, h2⟩ := h
  exact ⟨by
   have h3 : v = decide (a.p0 = b.p0 ∧ a.p1 = b.p1 ∧ a.p2 = b.p2 ∧ a.p3 = b.p3) := by simpa using h1
   rw [h3]
   simp only [px_eq], h2⟩
 | _ => simp [Result.andThen] at h
theorem upx (w : World) (G1 G2 : Nat → Prop) (p1 p2 : Option Addr) (k1 k2 : Nat) (c e : Ct) (hx : PixR G1 w (.slice p1 c.pix.length k1) c.pix) (hy : PixR G2 w (.slice p2 e.pix.length k2) e.pix) (l1 : c.pix.length ≤ 1000000000) (l2 : e.pix.length ≤ 1000000000) :
  Calls Tryz.prog 100 #[.agg (uak c (.slice p1 c.pix.length k1)), .agg (uak e (.slice p2 e.pix.length k2))] w fun r w' => r = .returned (.bool (decide (c = e))) ∧ Gou.Mod (fun _ => False) w w' := by
 have HM : Hid (Gou.Mod (fun _ => False) w ((w.alloc (.cells (uak c (.slice p1 c.pix.length k1)) 30)).alloc (.cells (uak e (.slice p2 e.pix.length k2)) 30))) := hd' ((Gou.Mod.alloc _ _ _).trans' (Gou.Mod.alloc _ _ _))
 have Hx := hd' (RowG.mod hx HM.o (fun _ _ _ h => h))
 have Hy := hd' (RowG.mod hy HM.o (fun _ _ _ h => h))
 have HA : Hid (Blk ((w.alloc (.cells (uak c (.slice p1 c.pix.length k1)) 30)).alloc (.cells (uak e (.slice p2 e.pix.length k2)) 30)) w.heap.size 30 (uak c (.slice p1 c.pix.length k1))) := hd' ((show Blk (w.alloc (.cells (uak c (.slice p1 c.pix.length k1)) 30)) w.heap.size 30 _ from heap_alloc_new w _).mod (Gou.Mod.alloc (fun _ => False) _ _) (fun h => h))
 have HB : Hid (Blk ((w.alloc (.cells (uak c (.slice p1 c.pix.length k1)) 30)).alloc (.cells (uak e (.slice p2 e.pix.length k2)) 30)) (w.heap.size + 1) 30 (uak e (.slice p2 e.pix.length k2))) := hd' (by
  have := heap_alloc_new (w.alloc (.cells (uak c (.slice p1 c.pix.length k1)) 30)) (.cells (uak e (.slice p2 e.pix.length k2)) 30)
  rw [World.size_alloc] at this
  exact this)
 clear hx hy
 have a0 : (((w.alloc (.cells (uak c (.slice p1 c.pix.length k1)) 30)).alloc (.cells (uak e (.slice p2 e.pix.length k2)) 30))).cell? ⟨w.heap.size, 0, none⟩ = some (iV c.kind) := HA.o.cell 0 rfl
 have b0 : (((w.alloc (.cells (uak c (.slice p1 c.pix.length k1)) 30)).alloc (.cells (uak e (.slice p2 e.pix.length k2)) 30))).cell? ⟨w.heap.size + 1, 0, none⟩ = some (iV e.kind) := HB.o.cell 0 rfl
 have a1 : (((w.alloc (.cells (uak c (.slice p1 c.pix.length k1)) 30)).alloc (.cells (uak e (.slice p2 e.pix.length k2)) 30))).cell? ⟨w.heap.size, 1, none⟩ = some (iV c.box.x0) := HA.o.cell 1 rfl
 have b1 : (((w.alloc (.cells (uak c (.slice p1 c.pix.length k1)) 30)).alloc (.cells (uak e (.slice p2 e.pix.length k2)) 30))).cell? ⟨w.heap.size + 1, 1, none⟩ = some (iV e.box.x0) := HB.o.cell 1 rfl
 have a2 : (((w.alloc (.cells (uak c (.slice p1 c.pix.length k1)) 30)).alloc (.cells (uak e (.slice p2 e.pix.length k2)) 30))).cell? ⟨w.heap.size, 2, none⟩ = some (iV c.box.y0) := HA.o.cell 2 rfl
 have b2 : (((w.alloc (.cells (uak c (.slice p1 c.pix.length k1)) 30)).alloc (.cells (uak e (.slice p2 e.pix.length k2)) 30))).cell? ⟨w.heap.size + 1, 2, none⟩ = some (iV e.box.y0) := HB.o.cell 2 rfl
 have a3 : (((w.alloc (.cells (uak c (.slice p1 c.pix.length k1)) 30)).alloc (.cells (uak e (.slice p2 e.pix.length k2)) 30))).cell? ⟨w.heap.size, 3, none⟩ = some (iV c.box.x1) := HA.o.cell 3 rfl
 have b3 : (((w.alloc (.cells (uak c (.slice p1 c.pix.length k1)) 30)).alloc (.cells (uak e (.slice p2 e.pix.length k2)) 30))).cell? ⟨w.heap.size + 1, 3, none⟩ = some (iV e.box.x1) := HB.o.cell 3 rfl
 have a4 : (((w.alloc (.cells (uak c (.slice p1 c.pix.length k1)) 30)).alloc (.cells (uak e (.slice p2 e.pix.length k2)) 30))).cell? ⟨w.heap.size, 4, none⟩ = some (iV c.box.y1) := HA.o.cell 4 rfl
 have b4 : (((w.alloc (.cells (uak c (.slice p1 c.pix.length k1)) 30)).alloc (.cells (uak e (.slice p2 e.pix.length k2)) 30))).cell? ⟨w.heap.size + 1, 4, none⟩ = some (iV e.box.y1) := HB.o.cell 4 rfl
 have a5 : (((w.alloc (.cells (uak c (.slice p1 c.pix.length k1)) 30)).alloc (.cells (uak e (.slice p2 e.pix.length k2)) 30))).cell? ⟨w.heap.size, 5, none⟩ = some (.int .u8 (c.px.p0 : Nat)) := HA.o.cell 5 rfl
 have b5 : (((w.alloc (.cells (uak c (.slice p1 c.pix.length k1)) 30)).alloc (.cells (uak e (.slice p2 e.pix.length k2)) 30))).cell? ⟨w.heap.size + 1, 5, none⟩ = some (.int .u8 (e.px.p0 : Nat)) := HB.o.cell 5 rfl
 have a6 : (((w.alloc (.cells (uak c (.slice p1 c.pix.length k1)) 30)).alloc (.cells (uak e (.slice p2 e.pix.length k2)) 30))).cell? ⟨w.heap.size, 6, none⟩ = some (.int .u8 (c.px.p1 : Nat)) := HA.o.cell 6 rfl
 have b6 : (((w.alloc (.cells (uak c (.slice p1 c.pix.length k1)) 30)).alloc (.cells (uak e (.slice p2 e.pix.length k2)) 30))).cell? ⟨w.heap.size + 1, 6, none⟩ = some (.int .u8 (e.px.p1 : Nat)) := HB.o.cell 6 rfl
 have a7 : (((w.alloc (.cells (uak c (.slice p1 c.pix.length k1)) 30)).alloc (.cells (uak e (.slice p2 e.pix.length k2)) 30))).cell? ⟨w.heap.size, 7, none⟩ = some (.int .u8 (c.px.p2 : Nat)) := HA.o.cell 7 rfl
 have b7 : (((w.alloc (.cells (uak c (.slice p1 c.pix.length k1)) 30)).alloc (.cells (uak e (.slice p2 e.pix.length k2)) 30))).cell? ⟨w.heap.size + 1, 7, none⟩ = some (.int .u8 (e.px.p2 : Nat)) := HB.o.cell 7 rfl
 have a8 : (((w.alloc (.cells (uak c (.slice p1 c.pix.length k1)) 30)).alloc (.cells (uak e (.slice p2 e.pix.length k2)) 30))).cell? ⟨w.heap.size, 8, none⟩ = some (.int .u8 (c.px.p3 : Nat)) := HA.o.cell 8 rfl
 have b8 : (((w.alloc (.cells (uak c (.slice p1 c.pix.length k1)) 30)).alloc (.cells (uak e (.slice p2 e.pix.length k2)) 30))).cell? ⟨w.heap.size + 1, 8, none⟩ = some (.int .u8 (e.px.p3 : Nat)) := HB.o.cell 8 rfl
 have a9 : (((w.alloc (.cells (uak c (.slice p1 c.pix.length k1)) 30)).alloc (.cells (uak e (.slice p2 e.pix.length k2)) 30))).cell? ⟨w.heap.size, 9, none⟩ = some (iV c.w) := HA.o.cell 9 rfl
 have b9 : (((w.alloc (.cells (uak c (.slice p1 c.pix.length k1)) 30)).alloc (.cells (uak e (.slice p2 e.pix.length k2)) 30))).cell? ⟨w.heap.size + 1, 9, none⟩ = some (iV e.w) := HB.o.cell 9 rfl
 have a10 : (((w.alloc (.cells (uak c (.slice p1 c.pix.length k1)) 30)).alloc (.cells (uak e (.slice p2 e.pix.length k2)) 30))).cell? ⟨w.heap.size, 10, none⟩ = some (iV c.h) := HA.o.cell 10 rfl
 have b10 : (((w.alloc (.cells (uak c (.slice p1 c.pix.length k1)) 30)).alloc (.cells (uak e (.slice p2 e.pix.length k2)) 30))).cell? ⟨w.heap.size + 1, 10, none⟩ = some (iV e.h) := HB.o.cell 10 rfl
 have a11 : (((w.alloc (.cells (uak c (.slice p1 c.pix.length k1)) 30)).alloc (.cells (uak e (.slice p2 e.pix.length k2)) 30))).cell? ⟨w.heap.size, 11, none⟩ = some (iV c.turn) := HA.o.cell 11 rfl
 have b11 : (((w.alloc (.cells (uak c (.slice p1 c.pix.length k1)) 30)).alloc (.cells (uak e (.slice p2 e.pix.length k2)) 30))).cell? ⟨w.heap.size + 1, 11, none⟩ = some (iV e.turn) := HB.o.cell 11 rfl
 have a12 : (((w.alloc (.cells (uak c (.slice p1 c.pix.length k1)) 30)).alloc (.cells (uak e (.slice p2 e.pix.length k2)) 30))).cell? ⟨w.heap.size, 12, none⟩ = some (.slice p1 c.pix.length k1) := HA.o.cell 12 rfl
 have b12 : (((w.alloc (.cells (uak c (.slice p1 c.pix.length k1)) 30)).alloc (.cells (uak e (.slice p2 e.pix.length k2)) 30))).cell? ⟨w.heap.size + 1, 12, none⟩ = some (.slice p2 e.pix.length k2) := HB.o.cell 12 rfl
 have Hr := hd' (ut6 c.box e.box)
 have Hp := hd' (px_op c.px e.px)
 have HRc := Hr.o
 have HPx := Hp.o
 go_enter Tryz.func100, Tryz.ntmps100
 by_cases h_kind : c.kind = e.kind
 case neg =>
  have q_kind : (c.kind == e.kind) = false := by simp [h_kind]
  have Hq : Hid (decide (c = e) = false) := hd' (by simp [uhd, h_kind])
  clear h_kind
  go_wp2_with fail
  go_ret
  exact ⟨by rw [Hq.o]; rfl, HM.o⟩
 have q_kind : (c.kind == e.kind) = true := by simp [h_kind]
 have I_kind := hd' h_kind
 clear h_kind
 by_cases h_box : c.box = e.box
 case neg =>
  have q_box : decide (c.box = e.box) = false := by simp [h_box]
  have Hq : Hid (decide (c = e) = false) := hd' (by simp [uhd, h_box])
  clear h_box
  go_wp2_with fail
  go_ret
  exact ⟨by rw [Hq.o]; rfl, HM.o⟩
 have q_box : decide (c.box = e.box) = true := by simp [h_box]
 have I_box := hd' h_box
 clear h_box
 by_cases h_px : c.px = e.px
 case neg =>
  have q_px : decide (c.px = e.px) = false := by simp [h_px]
  have Hq : Hid (decide (c = e) = false) := hd' (by simp [uhd, h_px])
  clear h_px
  go_wp2_with fail
  go_ret
  exact ⟨by rw [Hq.o]; rfl, HM.o⟩
 have q_px : decide (c.px = e.px) = true := by simp [h_px]
 have I_px := hd' h_px
 clear h_px
 by_cases h_w : c.w = e.w
 case neg =>
  have q_w : (c.w == e.w) = false := by simp [h_w]
  have Hq : Hid (decide (c = e) = false) := hd' (by simp [uhd, h_w])
  clear h_w
  go_wp2_with fail
  go_ret
  exact ⟨by rw [Hq.o]; rfl, HM.o⟩
 have q_w : (c.w == e.w) = true := by simp [h_w]
 have I_w := hd' h_w
 clear h_w
 by_cases h_h : c.h = e.h
 case neg =>
  have q_h : (c.h == e.h) = false := by simp [h_h]
  have Hq : Hid (decide (c = e) = false) := hd' (by simp [uhd, h_h])
  clear h_h
  go_wp2_with fail
  go_ret
  exact ⟨by rw [Hq.o]; rfl, HM.o⟩
 have q_h : (c.h == e.h) = true := by simp [h_h]
 have I_h := hd' h_h
 clear h_h
 by_cases h_turn : c.turn = e.turn
 case neg =>
  have q_turn : (c.turn == e.turn) = false := by simp [h_turn]
  have Hq : Hid (decide (c = e) = false) := hd' (by simp [uhd, h_turn])
  clear h_turn
  go_wp2_with fail
  go_ret
  exact ⟨by rw [Hq.o]; rfl, HM.o⟩
 have q_turn : (c.turn == e.turn) = true := by simp [h_turn]
 have I_turn := hd' h_turn
 clear h_turn
 go_wp2_with fail
 refine (eqPix_any _ G1 G2 p1 p2 k1 k2 c.pix e.pix Hx.o Hy.o l1 l2).mono ?_
 rintro r w1 ⟨rfl, hm1⟩
 have HM1 := hd' (HM.o.trans' hm1)
 have Hq : Hid (decide (c.pix = e.pix) = decide (c = e)) := hd' (by simp [uhd, I_kind.o, I_box.o, I_px.o, I_w.o, I_h.o, I_turn.o])
 clear hm1
 generalize decide (c.pix = e.pix) = q at *
 cases q with
 | true =>
  go_wp2_with fail
  go_ret
  exact ⟨by rw [← Hq.o]; rfl, HM1.o⟩
 | false =>
  go_wp2_with fail
  go_ret
  exact ⟨by rw [← Hq.o]; rfl, HM1.o⟩
end Go.Proofs.YtgolafbneiffpaaGreatDoor
namespace Go.Gou
open Go.RowKit
theorem uex (c e : Lk) : c = e ↔ c.dx = e.dx ∧ c.dy = e.dy ∧ c.opacity = e.opacity ∧ c.mode = e.mode ∧ c.hasClip = e.hasClip ∧ c.clip = e.clip ∧ c.hasFilt = e.hasFilt ∧ c.hasBack = e.hasBack ∧ c.content = e.content ∧ c.filt = e.filt ∧ c.back = e.back := by
 obtain ⟨a1, a2, a3, a4, a5, a6, a7, a8, a9, a10, a11⟩ := c
 obtain ⟨b1, b2, b3, b4, b5, b6, b7, b8, b9, b10, b11⟩ := e
 constructor
 ·intro h; cases h; simp
 ·rintro ⟨h1, h2, h3, h4, h5, h6, h7, h8, h9, h10, h11⟩
  simp only at h1 h2 h3 h4 h5 h6 h7 h8 h9 h10 h11
  subst h1 h2 h3 h4 h5 h6 h7 h8 h9 h10 h11
  rfl
structure LookBorne (l : Lk) : Prop where
 pix : l.content.pix.length ≤ 1000000000
 filt : ucm l.filt.nodes
 back : ucm l.back.nodes
end Go.Gou
namespace Go.Proofs.YtgolafbneiffpaaGreatDoor
open Go.RowKit Go.Gou
set_option maxRecDepth 100000
theorem uj6 {P : Program} {ops : Array Oper} {rest : List Oper} {op : Oper} {a : Act} {w : World} {Q : Exit → Act → World → Prop} (hgd : Region.wanted op (yielded ops a.tmps) = true) (ty : TypeId) (x : Operand) (ho : op.op = .load ty x)
  (b o : Nat) (hx : a.eval x = .pointer (some ⟨b, o, none⟩)) (cs : List Value) (d : TypeDesc) (hc : w.rangeAt b o cs)
  (hu : P.underlying ty = some d) (hd : d.isRow = true) (hi : (P.info? ty).map (·.size) = some cs.length)
  (h : wpList P ops Q rest (a.put op.dst (.agg cs.toArray)) w) : wpList P ops Q (op :: rest) a w :=
 wpList_step fun K hK => by rw [if_pos hgd]; exact wp_load_mid ty x ho b o hx cs d hc hu hd hi (hK _ _ h)
theorem usp (w : World) (G1 G2 : Nat → Prop) (p1 p2 p3 q1 q2 q3 : Option Addr) (k1 k2 k3 j1 j2 j3 : Nat) (c e : Lk) (hx : LookR G1 w c (.slice p1 c.content.pix.length k1) (.slice p2 c.filt.nodes.length k2) (.slice p3 c.back.nodes.length k3)) (hy : LookR G2 w e (.slice q1 e.content.pix.length j1) (.slice q2 e.filt.nodes.length j2) (.slice q3 e.back.nodes.length j3)) (l1 : LookBorne c) (l2 : LookBorne e) :
  Calls Tryz.prog 56 #[.agg (lkS c p1 k1 p2 k2 p3 k3), .agg (lkS e q1 j1 q2 j2 q3 j3)] w fun r w' => r = .returned (.bool (decide (c = e))) ∧ Gou.Mod (fun _ => False) w w' := by
 have HM : Hid (Gou.Mod (fun _ => False) w ((w.alloc (.cells (lkS c p1 k1 p2 k2 p3 k3) 35)).alloc (.cells (lkS e q1 j1 q2 j2 q3 j3) 35))) := hd' ((Gou.Mod.alloc _ _ _).trans' (Gou.Mod.alloc _ _ _))
 have Hx := hd' (LookR.mod hx HM.o (fun _ _ _ h => h))
 have Hy := hd' (LookR.mod hy HM.o (fun _ _ _ h => h))
 have L1 := hd' l1
 have L2 := hd' l2
 have HA : Hid (Blk ((w.alloc (.cells (lkS c p1 k1 p2 k2 p3 k3) 35)).alloc (.cells (lkS e q1 j1 q2 j2 q3 j3) 35)) w.heap.size 35 (lkS c p1 k1 p2 k2 p3 k3)) := hd' ((show Blk (w.alloc (.cells (lkS c p1 k1 p2 k2 p3 k3) 35)) w.heap.size 35 _ from heap_alloc_new w _).mod (Gou.Mod.alloc (fun _ => False) _ _) (fun h => h))
 have HB : Hid (Blk ((w.alloc (.cells (lkS c p1 k1 p2 k2 p3 k3) 35)).alloc (.cells (lkS e q1 j1 q2 j2 q3 j3) 35)) (w.heap.size + 1) 35 (lkS e q1 j1 q2 j2 q3 j3)) := hd' (by
  have := heap_alloc_new (w.alloc (.cells (lkS c p1 k1 p2 k2 p3 k3) 35)) (.cells (lkS e q1 j1 q2 j2 q3 j3) 35)
  rw [World.size_alloc] at this
  exact this)
 have Hra : Hid ((((w.alloc (.cells (lkS c p1 k1 p2 k2 p3 k3) 35)).alloc (.cells (lkS e q1 j1 q2 j2 q3 j3) 35))).rangeAt w.heap.size 9 (uak c.content (.slice p1 c.content.pix.length k1)).toList) := hd' (Blk.range HA.o (ug0 c _ _ _) rfl)
 have Hrb : Hid ((((w.alloc (.cells (lkS c p1 k1 p2 k2 p3 k3) 35)).alloc (.cells (lkS e q1 j1 q2 j2 q3 j3) 35))).rangeAt (w.heap.size + 1) 9 (uak e.content (.slice q1 e.content.pix.length j1)).toList) := hd' (Blk.range HB.o (ug0 e _ _ _) rfl)
 have HiA : Hid ((Tryz.prog.info? 30).map (·.size) = some (uak c.content (.slice p1 c.content.pix.length k1)).toList.length) := hd' (size_content.trans (by simp [uak]))
 have HiB : Hid ((Tryz.prog.info? 30).map (·.size) = some (uak e.content (.slice q1 e.content.pix.length j1)).toList.length) := hd' (size_content.trans (by simp [uak]))
 clear hx hy l1 l2
 have a0 : (((w.alloc (.cells (lkS c p1 k1 p2 k2 p3 k3) 35)).alloc (.cells (lkS e q1 j1 q2 j2 q3 j3) 35))).cell? ⟨w.heap.size, 0, none⟩ = some (iV c.dx) := HA.o.cell 0 rfl
 have b0 : (((w.alloc (.cells (lkS c p1 k1 p2 k2 p3 k3) 35)).alloc (.cells (lkS e q1 j1 q2 j2 q3 j3) 35))).cell? ⟨w.heap.size + 1, 0, none⟩ = some (iV e.dx) := HB.o.cell 0 rfl
 have a1 : (((w.alloc (.cells (lkS c p1 k1 p2 k2 p3 k3) 35)).alloc (.cells (lkS e q1 j1 q2 j2 q3 j3) 35))).cell? ⟨w.heap.size, 1, none⟩ = some (iV c.dy) := HA.o.cell 1 rfl
 have b1 : (((w.alloc (.cells (lkS c p1 k1 p2 k2 p3 k3) 35)).alloc (.cells (lkS e q1 j1 q2 j2 q3 j3) 35))).cell? ⟨w.heap.size + 1, 1, none⟩ = some (iV e.dy) := HB.o.cell 1 rfl
 have a2 : (((w.alloc (.cells (lkS c p1 k1 p2 k2 p3 k3) 35)).alloc (.cells (lkS e q1 j1 q2 j2 q3 j3) 35))).cell? ⟨w.heap.size, 2, none⟩ = some (.bool c.hasClip) := HA.o.cell 2 rfl
 have b2 : (((w.alloc (.cells (lkS c p1 k1 p2 k2 p3 k3) 35)).alloc (.cells (lkS e q1 j1 q2 j2 q3 j3) 35))).cell? ⟨w.heap.size + 1, 2, none⟩ = some (.bool e.hasClip) := HB.o.cell 2 rfl
 have a3 : (((w.alloc (.cells (lkS c p1 k1 p2 k2 p3 k3) 35)).alloc (.cells (lkS e q1 j1 q2 j2 q3 j3) 35))).cell? ⟨w.heap.size, 3, none⟩ = some (iV c.clip.x0) := HA.o.cell 3 rfl
 have b3 : (((w.alloc (.cells (lkS c p1 k1 p2 k2 p3 k3) 35)).alloc (.cells (lkS e q1 j1 q2 j2 q3 j3) 35))).cell? ⟨w.heap.size + 1, 3, none⟩ = some (iV e.clip.x0) := HB.o.cell 3 rfl
 have a4 : (((w.alloc (.cells (lkS c p1 k1 p2 k2 p3 k3) 35)).alloc (.cells (lkS e q1 j1 q2 j2 q3 j3) 35))).cell? ⟨w.heap.size, 4, none⟩ = some (iV c.clip.y0) := HA.o.cell 4 rfl
 have b4 : (((w.alloc (.cells (lkS c p1 k1 p2 k2 p3 k3) 35)).alloc (.cells (lkS e q1 j1 q2 j2 q3 j3) 35))).cell? ⟨w.heap.size + 1, 4, none⟩ = some (iV e.clip.y0) := HB.o.cell 4 rfl
 have a5 : (((w.alloc (.cells (lkS c p1 k1 p2 k2 p3 k3) 35)).alloc (.cells (lkS e q1 j1 q2 j2 q3 j3) 35))).cell? ⟨w.heap.size, 5, none⟩ = some (iV c.clip.x1) := HA.o.cell 5 rfl
 have b5 : (((w.alloc (.cells (lkS c p1 k1 p2 k2 p3 k3) 35)).alloc (.cells (lkS e q1 j1 q2 j2 q3 j3) 35))).cell? ⟨w.heap.size + 1, 5, none⟩ = some (iV e.clip.x1) := HB.o.cell 5 rfl
 have a6 : (((w.alloc (.cells (lkS c p1 k1 p2 k2 p3 k3) 35)).alloc (.cells (lkS e q1 j1 q2 j2 q3 j3) 35))).cell? ⟨w.heap.size, 6, none⟩ = some (iV c.clip.y1) := HA.o.cell 6 rfl
 have b6 : (((w.alloc (.cells (lkS c p1 k1 p2 k2 p3 k3) 35)).alloc (.cells (lkS e q1 j1 q2 j2 q3 j3) 35))).cell? ⟨w.heap.size + 1, 6, none⟩ = some (iV e.clip.y1) := HB.o.cell 6 rfl
 have a7 : (((w.alloc (.cells (lkS c p1 k1 p2 k2 p3 k3) 35)).alloc (.cells (lkS e q1 j1 q2 j2 q3 j3) 35))).cell? ⟨w.heap.size, 7, none⟩ = some (iV c.opacity) := HA.o.cell 7 rfl
 have b7 : (((w.alloc (.cells (lkS c p1 k1 p2 k2 p3 k3) 35)).alloc (.cells (lkS e q1 j1 q2 j2 q3 j3) 35))).cell? ⟨w.heap.size + 1, 7, none⟩ = some (iV e.opacity) := HB.o.cell 7 rfl
 have a8 : (((w.alloc (.cells (lkS c p1 k1 p2 k2 p3 k3) 35)).alloc (.cells (lkS e q1 j1 q2 j2 q3 j3) 35))).cell? ⟨w.heap.size, 8, none⟩ = some (iV c.mode) := HA.o.cell 8 rfl
 have b8 : (((w.alloc (.cells (lkS c p1 k1 p2 k2 p3 k3) 35)).alloc (.cells (lkS e q1 j1 q2 j2 q3 j3) 35))).cell? ⟨w.heap.size + 1, 8, none⟩ = some (iV e.mode) := HB.o.cell 8 rfl
 have a22 : (((w.alloc (.cells (lkS c p1 k1 p2 k2 p3 k3) 35)).alloc (.cells (lkS e q1 j1 q2 j2 q3 j3) 35))).cell? ⟨w.heap.size, 22, none⟩ = some (.bool c.hasFilt) := HA.o.cell 22 rfl
 have b22 : (((w.alloc (.cells (lkS c p1 k1 p2 k2 p3 k3) 35)).alloc (.cells (lkS e q1 j1 q2 j2 q3 j3) 35))).cell? ⟨w.heap.size + 1, 22, none⟩ = some (.bool e.hasFilt) := HB.o.cell 22 rfl
 have a23 : (((w.alloc (.cells (lkS c p1 k1 p2 k2 p3 k3) 35)).alloc (.cells (lkS e q1 j1 q2 j2 q3 j3) 35))).cell? ⟨w.heap.size, 23, none⟩ = some (.slice p2 c.filt.nodes.length k2) := HA.o.cell 23 rfl
 have b23 : (((w.alloc (.cells (lkS c p1 k1 p2 k2 p3 k3) 35)).alloc (.cells (lkS e q1 j1 q2 j2 q3 j3) 35))).cell? ⟨w.heap.size + 1, 23, none⟩ = some (.slice q2 e.filt.nodes.length j2) := HB.o.cell 23 rfl
 have a24 : (((w.alloc (.cells (lkS c p1 k1 p2 k2 p3 k3) 35)).alloc (.cells (lkS e q1 j1 q2 j2 q3 j3) 35))).cell? ⟨w.heap.size, 24, none⟩ = some (iV c.filt.out) := HA.o.cell 24 rfl
 have b24 : (((w.alloc (.cells (lkS c p1 k1 p2 k2 p3 k3) 35)).alloc (.cells (lkS e q1 j1 q2 j2 q3 j3) 35))).cell? ⟨w.heap.size + 1, 24, none⟩ = some (iV e.filt.out) := HB.o.cell 24 rfl
 have a25 : (((w.alloc (.cells (lkS c p1 k1 p2 k2 p3 k3) 35)).alloc (.cells (lkS e q1 j1 q2 j2 q3 j3) 35))).cell? ⟨w.heap.size, 25, none⟩ = some (.bool c.hasBack) := HA.o.cell 25 rfl
 have b25 : (((w.alloc (.cells (lkS c p1 k1 p2 k2 p3 k3) 35)).alloc (.cells (lkS e q1 j1 q2 j2 q3 j3) 35))).cell? ⟨w.heap.size + 1, 25, none⟩ = some (.bool e.hasBack) := HB.o.cell 25 rfl
 have a26 : (((w.alloc (.cells (lkS c p1 k1 p2 k2 p3 k3) 35)).alloc (.cells (lkS e q1 j1 q2 j2 q3 j3) 35))).cell? ⟨w.heap.size, 26, none⟩ = some (.slice p3 c.back.nodes.length k3) := HA.o.cell 26 rfl
 have b26 : (((w.alloc (.cells (lkS c p1 k1 p2 k2 p3 k3) 35)).alloc (.cells (lkS e q1 j1 q2 j2 q3 j3) 35))).cell? ⟨w.heap.size + 1, 26, none⟩ = some (.slice q3 e.back.nodes.length j3) := HB.o.cell 26 rfl
 have a27 : (((w.alloc (.cells (lkS c p1 k1 p2 k2 p3 k3) 35)).alloc (.cells (lkS e q1 j1 q2 j2 q3 j3) 35))).cell? ⟨w.heap.size, 27, none⟩ = some (iV c.back.out) := HA.o.cell 27 rfl
 have b27 : (((w.alloc (.cells (lkS c p1 k1 p2 k2 p3 k3) 35)).alloc (.cells (lkS e q1 j1 q2 j2 q3 j3) 35))).cell? ⟨w.heap.size + 1, 27, none⟩ = some (iV e.back.out) := HB.o.cell 27 rfl
 have Hr := hd' (ut6 c.clip e.clip)
 have HRc := Hr.o
 go_enter Tryz.func56, Tryz.ntmps56
 by_cases h_dx : c.dx = e.dx
 case neg =>
  have q_dx : (c.dx == e.dx) = false := by simp [h_dx]
  have Hq : Hid (decide (c = e) = false) := hd' (by simp [uex, h_dx])
  clear h_dx
  by_cases h_hasClip : c.hasClip = e.hasClip
  case neg =>
   have q_hasClip : (c.hasClip == e.hasClip) = false := by simp [h_hasClip]
   clear h_hasClip
   go_wp2_with fail
   go_ret
   exact ⟨by rw [Hq.o]; rfl, HM.o⟩
  have q_hasClip : (c.hasClip == e.hasClip) = true := by simp [h_hasClip]
  clear h_hasClip
  by_cases h_clip : c.clip = e.clip
  case neg =>
   have q_clip : decide (c.clip = e.clip) = false := by simp [h_clip]
   clear h_clip
   go_wp2_with fail
   go_ret
   exact ⟨by rw [Hq.o]; rfl, HM.o⟩
  have q_clip : decide (c.clip = e.clip) = true := by simp [h_clip]
  clear h_clip
  by_cases h_hasFilt : c.hasFilt = e.hasFilt
  case neg =>
   have q_hasFilt : (c.hasFilt == e.hasFilt) = false := by simp [h_hasFilt]
   clear h_hasFilt
   go_wp2_with fail
   go_ret
   exact ⟨by rw [Hq.o]; rfl, HM.o⟩
  have q_hasFilt : (c.hasFilt == e.hasFilt) = true := by simp [h_hasFilt]
  clear h_hasFilt
  by_cases h_hasBack : c.hasBack = e.hasBack
  case neg =>
   have q_hasBack : (c.hasBack == e.hasBack) = false := by simp [h_hasBack]
   clear h_hasBack
   go_wp2_with fail
   go_ret
   exact ⟨by rw [Hq.o]; rfl, HM.o⟩
  have q_hasBack : (c.hasBack == e.hasBack) = true := by simp [h_hasBack]
  clear h_hasBack
  go_wp2_with fail
  go_ret
  exact ⟨by rw [Hq.o]; rfl, HM.o⟩
 have q_dx : (c.dx == e.dx) = true := by simp [h_dx]
 have I_dx := hd' h_dx
 clear h_dx
 by_cases h_dy : c.dy = e.dy
 case neg =>
  have q_dy : (c.dy == e.dy) = false := by simp [h_dy]
  have Hq : Hid (decide (c = e) = false) := hd' (by simp [uex, h_dy])
  clear h_dy
  by_cases h_hasClip : c.hasClip = e.hasClip
  case neg =>
   have q_hasClip : (c.hasClip == e.hasClip) = false := by simp [h_hasClip]
   clear h_hasClip
   go_wp2_with fail
   go_ret
   exact ⟨by rw [Hq.o]; rfl, HM.o⟩
  have q_hasClip : (c.hasClip == e.hasClip) = true := by simp [h_hasClip]
  clear h_hasClip
  by_cases h_clip : c.clip = e.clip
  case neg =>
   have q_clip : decide (c.clip = e.clip) = false := by simp [h_clip]
   clear h_clip
   go_wp2_with fail
   go_ret
   exact ⟨by rw [Hq.o]; rfl, HM.o⟩
  have q_clip : decide (c.clip = e.clip) = true := by simp [h_clip]
  clear h_clip
  by_cases h_hasFilt : c.hasFilt = e.hasFilt
  case neg =>
   have q_hasFilt : (c.hasFilt == e.hasFilt) = false := by simp [h_hasFilt]
   clear h_hasFilt
   go_wp2_with fail
   go_ret
   exact ⟨by rw [Hq.o]; rfl, HM.o⟩
  have q_hasFilt : (c.hasFilt == e.hasFilt) = true := by simp [h_hasFilt]
  clear h_hasFilt
  by_cases h_hasBack : c.hasBack = e.hasBack
  case neg =>
   have q_hasBack : (c.hasBack == e.hasBack) = false := by simp [h_hasBack]
   clear h_hasBack
   go_wp2_with fail
   go_ret
   exact ⟨by rw [Hq.o]; rfl, HM.o⟩
  have q_hasBack : (c.hasBack == e.hasBack) = true := by simp [h_hasBack]
  clear h_hasBack
  go_wp2_with fail
  go_ret
  exact ⟨by rw [Hq.o]; rfl, HM.o⟩
 have q_dy : (c.dy == e.dy) = true := by simp [h_dy]
 have I_dy := hd' h_dy
 clear h_dy
 by_cases h_opacity : c.opacity = e.opacity
 case neg =>
  have q_opacity : (c.opacity == e.opacity) = false := by simp [h_opacity]
  have Hq : Hid (decide (c = e) = false) := hd' (by simp [uex, h_opacity])
  clear h_opacity
  by_cases h_hasClip : c.hasClip = e.hasClip
  case neg =>
   have q_hasClip : (c.hasClip == e.hasClip) = false := by simp [h_hasClip]
   clear h_hasClip
   go_wp2_with fail
   go_ret
   exact ⟨by rw [Hq.o]; rfl, HM.o⟩
  have q_hasClip : (c.hasClip == e.hasClip) = true := by simp [h_hasClip]
  clear h_hasClip
  by_cases h_clip : c.clip = e.clip
  case neg =>
   have q_clip : decide (c.clip = e.clip) = false := by simp [h_clip]
   clear h_clip
   go_wp2_with fail
   go_ret
   exact ⟨by rw [Hq.o]; rfl, HM.o⟩
  have q_clip : decide (c.clip = e.clip) = true := by simp [h_clip]
  clear h_clip
  by_cases h_hasFilt : c.hasFilt = e.hasFilt
  case neg =>
   have q_hasFilt : (c.hasFilt == e.hasFilt) = false := by simp [h_hasFilt]
   clear h_hasFilt
   go_wp2_with fail
   go_ret
   exact ⟨by rw [Hq.o]; rfl, HM.o⟩
  have q_hasFilt : (c.hasFilt == e.hasFilt) = true := by simp [h_hasFilt]
  clear h_hasFilt
  by_cases h_hasBack : c.hasBack = e.hasBack
  case neg =>
   have q_hasBack : (c.hasBack == e.hasBack) = false := by simp [h_hasBack]
   clear h_hasBack
   go_wp2_with fail
   go_ret
   exact ⟨by rw [Hq.o]; rfl, HM.o⟩
  have q_hasBack : (c.hasBack == e.hasBack) = true := by simp [h_hasBack]
  clear h_hasBack
  go_wp2_with fail
  go_ret
  exact ⟨by rw [Hq.o]; rfl, HM.o⟩
 have q_opacity : (c.opacity == e.opacity) = true := by simp [h_opacity]
 have I_opacity := hd' h_opacity
 clear h_opacity
 by_cases h_mode : c.mode = e.mode
 case neg =>
  have q_mode : (c.mode == e.mode) = false := by simp [h_mode]
  have Hq : Hid (decide (c = e) = false) := hd' (by simp [uex, h_mode])
  clear h_mode
  by_cases h_hasClip : c.hasClip = e.hasClip
  case neg =>
   have q_hasClip : (c.hasClip == e.hasClip) = false := by simp [h_hasClip]
   clear h_hasClip
   go_wp2_with fail
   go_ret
   exact ⟨by rw [Hq.o]; rfl, HM.o⟩
  have q_hasClip : (c.hasClip == e.hasClip) = true := by simp [h_hasClip]
  clear h_hasClip
  by_cases h_clip : c.clip = e.clip
  case neg =>
   have q_clip : decide (c.clip = e.clip) = false := by simp [h_clip]
   clear h_clip
   go_wp2_with fail
   go_ret
   exact ⟨by rw [Hq.o]; rfl, HM.o⟩
  have q_clip : decide (c.clip = e.clip) = true := by simp [h_clip]
  clear h_clip
  by_cases h_hasFilt : c.hasFilt = e.hasFilt
  case neg =>
   have q_hasFilt : (c.hasFilt == e.hasFilt) = false := by simp [h_hasFilt]
   clear h_hasFilt
   go_wp2_with fail
   go_ret
   exact ⟨by rw [Hq.o]; rfl, HM.o⟩
  have q_hasFilt : (c.hasFilt == e.hasFilt) = true := by simp [h_hasFilt]
  clear h_hasFilt
  by_cases h_hasBack : c.hasBack = e.hasBack
  case neg =>
   have q_hasBack : (c.hasBack == e.hasBack) = false := by simp [h_hasBack]
   clear h_hasBack
   go_wp2_with fail
   go_ret
   exact ⟨by rw [Hq.o]; rfl, HM.o⟩
  have q_hasBack : (c.hasBack == e.hasBack) = true := by simp [h_hasBack]
  clear h_hasBack
  go_wp2_with fail
  go_ret
  exact ⟨by rw [Hq.o]; rfl, HM.o⟩
 have q_mode : (c.mode == e.mode) = true := by simp [h_mode]
 have I_mode := hd' h_mode
 clear h_mode
 by_cases h_hasClip : c.hasClip = e.hasClip
 case neg =>
  have q_hasClip : (c.hasClip == e.hasClip) = false := by simp [h_hasClip]
  have Hq : Hid (decide (c = e) = false) := hd' (by simp [uex, h_hasClip])
  clear h_hasClip
  go_wp2_with fail
  go_ret
  exact ⟨by rw [Hq.o]; rfl, HM.o⟩
 have q_hasClip : (c.hasClip == e.hasClip) = true := by simp [h_hasClip]
 have I_hasClip := hd' h_hasClip
 clear h_hasClip
 by_cases h_clip : c.clip = e.clip
 case neg =>
  have q_clip : decide (c.clip = e.clip) = false := by simp [h_clip]
  have Hq : Hid (decide (c = e) = false) := hd' (by simp [uex, h_clip])
  clear h_clip
  go_wp2_with fail
  go_ret
  exact ⟨by rw [Hq.o]; rfl, HM.o⟩
 have q_clip : decide (c.clip = e.clip) = true := by simp [h_clip]
 have I_clip := hd' h_clip
 clear h_clip
 by_cases h_hasFilt : c.hasFilt = e.hasFilt
 case neg =>
  have q_hasFilt : (c.hasFilt == e.hasFilt) = false := by simp [h_hasFilt]
  have Hq : Hid (decide (c = e) = false) := hd' (by simp [uex, h_hasFilt])
  clear h_hasFilt
  go_wp2_with fail
  go_ret
  exact ⟨by rw [Hq.o]; rfl, HM.o⟩
 have q_hasFilt : (c.hasFilt == e.hasFilt) = true := by simp [h_hasFilt]
 have I_hasFilt := hd' h_hasFilt
 clear h_hasFilt
 by_cases h_hasBack : c.hasBack = e.hasBack
 case neg =>
  have q_hasBack : (c.hasBack == e.hasBack) = false := by simp [h_hasBack]
  have Hq : Hid (decide (c = e) = false) := hd' (by simp [uex, h_hasBack])
  clear h_hasBack
  go_wp2_with fail
  go_ret
  exact ⟨by rw [Hq.o]; rfl, HM.o⟩
 have q_hasBack : (c.hasBack == e.hasBack) = true := by simp [h_hasBack]
 have I_hasBack := hd' h_hasBack
 clear h_hasBack
 go_wp2_with (first | ((with_reducible refine uj6 ?g1_1 30 ?x1_1 ?o1_1 w.heap.size 9 ?h1_1 (uak c.content (.slice p1 c.content.pix.length k1)).toList ?d1_1 ?c1_1 ?u1_1 ?s1_1 ?i1_1 ?r1_1); (case g1_1 => exact rfl); (case o1_1 => exact rfl); (case h1_1 => exact rfl); (case c1_1 => exact Hra.o); (case u1_1 => exact Tryz.underlying30); (case s1_1 => exact rfl); (case i1_1 => exact HiA.o)) | ((with_reducible refine uj6 ?g1_2 30 ?x1_2 ?o1_2 (w.heap.size + 1) 9 ?h1_2 (uak e.content (.slice q1 e.content.pix.length j1)).toList ?d1_2 ?c1_2 ?u1_2 ?s1_2 ?i1_2 ?r1_2); (case g1_2 => exact rfl); (case o1_2 => exact rfl); (case h1_2 => exact rfl); (case c1_2 => exact Hrb.o); (case u1_2 => exact Tryz.underlying30); (case s1_2 => exact rfl); (case i1_2 => exact HiB.o)) | fail)
 refine (upx _ G1 G2 p1 q1 k1 j1 c.content e.content Hx.o.pix Hy.o.pix L1.o.pix L2.o.pix).mono ?_
 rintro r w1 ⟨rfl, hm1⟩
 have HM1 := hd' (HM.o.trans' hm1)
 have Hx1 := hd' (LookR.mod Hx.o hm1 (fun _ _ _ h => h))
 have Hy1 := hd' (LookR.mod Hy.o hm1 (fun _ _ _ h => h))
 have HA1 := hd' (HA.o.mod hm1 (fun h => h))
 have HB1 := hd' (HB.o.mod hm1 (fun h => h))
 have a23_1 : w1.cell? ⟨w.heap.size, 23, none⟩ = some (.slice p2 c.filt.nodes.length k2) := HA1.o.cell 23 rfl
 have b23_1 : w1.cell? ⟨w.heap.size + 1, 23, none⟩ = some (.slice q2 e.filt.nodes.length j2) := HB1.o.cell 23 rfl
 have a24_1 : w1.cell? ⟨w.heap.size, 24, none⟩ = some (iV c.filt.out) := HA1.o.cell 24 rfl
 have b24_1 : w1.cell? ⟨w.heap.size + 1, 24, none⟩ = some (iV e.filt.out) := HB1.o.cell 24 rfl
 have a26_1 : w1.cell? ⟨w.heap.size, 26, none⟩ = some (.slice p3 c.back.nodes.length k3) := HA1.o.cell 26 rfl
 have b26_1 : w1.cell? ⟨w.heap.size + 1, 26, none⟩ = some (.slice q3 e.back.nodes.length j3) := HB1.o.cell 26 rfl
 have a27_1 : w1.cell? ⟨w.heap.size, 27, none⟩ = some (iV c.back.out) := HA1.o.cell 27 rfl
 have b27_1 : w1.cell? ⟨w.heap.size + 1, 27, none⟩ = some (iV e.back.out) := HB1.o.cell 27 rfl
 clear hm1
 by_cases h_content : c.content = e.content
 case neg =>
  have q_content : decide (c.content = e.content) = false := by simp [h_content]
  have Hq : Hid (decide (c = e) = false) := hd' (by simp [uex, h_content])
  clear h_content
  generalize decide (c.content = e.content) = q at *
  subst q_content
  go_wp2_with fail
  go_ret
  exact ⟨by rw [Hq.o]; rfl, HM1.o⟩
 have q_content : decide (c.content = e.content) = true := by simp [h_content]
 have I_content := hd' h_content
 clear h_content
 generalize decide (c.content = e.content) = q at *
 subst q_content
 go_wp2_with fail
 refine (uou _ G1 G2 p2 q2 k2 j2 c.filt e.filt Hx1.o.filt Hy1.o.filt L1.o.filt L2.o.filt).mono ?_
 rintro r w2 ⟨rfl, hm2⟩
 have HM2 := hd' (HM1.o.trans' hm2)
 have Hx2 := hd' (LookR.mod Hx1.o hm2 (fun _ _ _ h => h))
 have Hy2 := hd' (LookR.mod Hy1.o hm2 (fun _ _ _ h => h))
 have HA2 := hd' (HA1.o.mod hm2 (fun h => h))
 have HB2 := hd' (HB1.o.mod hm2 (fun h => h))
 have a26_2 : w2.cell? ⟨w.heap.size, 26, none⟩ = some (.slice p3 c.back.nodes.length k3) := HA2.o.cell 26 rfl
 have b26_2 : w2.cell? ⟨w.heap.size + 1, 26, none⟩ = some (.slice q3 e.back.nodes.length j3) := HB2.o.cell 26 rfl
 have a27_2 : w2.cell? ⟨w.heap.size, 27, none⟩ = some (iV c.back.out) := HA2.o.cell 27 rfl
 have b27_2 : w2.cell? ⟨w.heap.size + 1, 27, none⟩ = some (iV e.back.out) := HB2.o.cell 27 rfl
 clear hm2
 by_cases h_filt : c.filt = e.filt
 case neg =>
  have q_filt : decide (c.filt = e.filt) = false := by simp [h_filt]
  have Hq : Hid (decide (c = e) = false) := hd' (by simp [uex, h_filt])
  clear h_filt
  generalize decide (c.filt = e.filt) = q at *
  subst q_filt
  go_wp2_with fail
  go_ret
  exact ⟨by rw [Hq.o]; rfl, HM2.o⟩
 have q_filt : decide (c.filt = e.filt) = true := by simp [h_filt]
 have I_filt := hd' h_filt
 clear h_filt
 generalize decide (c.filt = e.filt) = q at *
 subst q_filt
 go_wp2_with fail
 refine (uou _ G1 G2 p3 q3 k3 j3 c.back e.back Hx2.o.back Hy2.o.back L1.o.back L2.o.back).mono ?_
 rintro r w3 ⟨rfl, hm3⟩
 have HM3 := hd' (HM2.o.trans' hm3)
 have Hq : Hid (decide (c.back = e.back) = decide (c = e)) := hd' (by simp [uex, I_dx.o, I_dy.o, I_opacity.o, I_mode.o, I_hasClip.o, I_clip.o, I_hasFilt.o, I_hasBack.o, I_content.o, I_filt.o])
 clear hm3
 generalize decide (c.back = e.back) = q at *
 cases q with
 | true =>
  go_wp2_with fail
  go_ret
  exact ⟨by rw [← Hq.o]; rfl, HM3.o⟩
 | false =>
  go_wp2_with fail
  go_ret
  exact ⟨by rw [← Hq.o]; rfl, HM3.o⟩
end Go.Proofs.YtgolafbneiffpaaGreatDoor
namespace Go.Gou
open Go.RowKit
def Fine (B : Nat) (es : List Nat) : Prop := es.length ≤ B ∧ ∀ b ∈ es, b < 256
theorem Fine.append {A B : Nat} {a b : List Nat} (h : Fine A a) (k : Fine B b) : Fine (A + B) (a ++ b) :=
 ⟨by rw [List.length_append]; have := h.1; have := k.1; omega, fun x hx => (List.mem_append.1 hx).elim (h.2 x) (k.2 x)⟩
theorem Fine.mono {A B : Nat} {a : List Nat} (h : Fine A a) (k : A ≤ B) : Fine B a := ⟨Nat.le_trans h.1 k, h.2⟩
theorem Fine.nil (B : Nat) : Fine B [] := ⟨Nat.zero_le _, fun _ h => nomatch h⟩
def Pxl.Small (p : Pxl) : Prop := p.p0 < 256 ∧ p.p1 < 256 ∧ p.p2 < 256 ∧ p.p3 < 256
structure PxSmall (c : Ct) : Prop where
 px : c.px.Small
 pix : ∀ p ∈ c.pix, Pxl.Small p
theorem uki {xs : List Int} {es : List Nat} (h : ug4 xs = some es) : Fine (5 * xs.length) es := by
 refine ⟨uj9 h, ?_⟩
 induction xs generalizing es with
 | nil => simp only [ug4, Option.some.injEq] at h; subst h; simp
 | cons x r ih =>
  rw [ug4] at h
  split at h
  ·obtain ⟨e, he, rfl⟩ := Option.map_eq_some_iff.1 h
   intro b hb
   rcases List.mem_append.1 hb with hb | hb
   ·exact uwe _ b hb
   ·exact ih he b hb
  ·cases h
theorem uth {n : ubb} {es : List Nat} (h : ulm n = some es) : Fine 1015 es := by
 refine ⟨uqh h, ?_⟩
 unfold ulm at h
 split at h
 ·obtain ⟨a, ha, h⟩ := Option.bind_eq_some_iff.1 h
  obtain ⟨b, hb, h⟩ := Option.bind_eq_some_iff.1 h
  obtain ⟨c, hc, h⟩ := Option.bind_eq_some_iff.1 h
  obtain ⟨d, hd, h⟩ := Option.bind_eq_some_iff.1 h
  simp only [Option.some.injEq] at h
  subst h
  exact ((uki ha).append ((uki hb).append ((uki hc).append (uki hd)))).2
 ·cases h
theorem ur4 {ns : List ubb} {es : List Nat} (h : ukr ns = some es) : Fine (1015 * ns.length) es := by
 induction ns generalizing es with
 | nil => simp only [ukr, Option.some.injEq] at h; subst h; exact Fine.nil _
 | cons n r ih =>
  rw [ukr] at h
  obtain ⟨a, ha, h⟩ := Option.bind_eq_some_iff.1 h
  obtain ⟨b, hb, rfl⟩ := Option.map_eq_some_iff.1 h
  exact ((uth ha).append (ih hb)).mono (by rw [List.length_cons]; omega)
theorem ur5 {g : Gr} {es : List Nat} (h : uk5 g = some es) : Fine 1015010 es := by
 unfold uk5 at h
 split at h
 ·obtain ⟨a, ha, h⟩ := Option.bind_eq_some_iff.1 h
  obtain ⟨b, hb, rfl⟩ := Option.map_eq_some_iff.1 h
  exact ((uki ha).append (ur4 hb)).mono (by simp only [List.length_cons, List.length_nil]; omega)
 ·cases h
theorem upd {ps : List Pxl} (h : ∀ p ∈ ps, Pxl.Small p) : Fine (4 * ps.length) (ulp ps) := by
 refine ⟨Nat.le_of_eq (upz ps), fun b hb => ?_⟩
 obtain ⟨p, hp, hb⟩ := List.mem_flatMap.1 hb
 obtain ⟨h0, h1, h2, h3⟩ := h p hp
 simp only [List.mem_cons, List.not_mem_nil, or_false] at hb
 rcases hb with rfl | rfl | rfl | rfl <;> assumption
theorem uqi {c : Ct} {es : List Nat} (h : uk1 c = some es) (hp : PxSmall c) : Fine 263000 es := by
 unfold uk1 at h
 obtain ⟨a, ha, h⟩ := Option.bind_eq_some_iff.1 h
 split at h
 ·obtain ⟨b, hb, h⟩ := Option.bind_eq_some_iff.1 h
  simp only [Option.some.injEq] at h
  subst h
  exact ((uki ha).append ((uki hb).append (upd (by simpa using hp.px)))).mono (by simp)
 ·split at h
  ·split at h
   ·rename_i hk
    obtain ⟨b, hb, h⟩ := Option.bind_eq_some_iff.1 h
    simp only [Option.some.injEq] at h
    subst h
    have := unk c.w c.h
    exact ((uki ha).append ((uki hb).append (upd hp.pix))).mono (by simp only [List.length_cons, List.length_nil]; omega)
   ·cases h
  ·simp only [Option.some.injEq] at h
   subst h
   exact (uki ha).mono (by simp)
theorem uuo {o : Opr} {es : List Nat} (h : ukb o = some es) (hp : PxSmall o.look.content) : Fine 1100000 es := by
 unfold ukb at h
 obtain ⟨a, ha, h⟩ := Option.bind_eq_some_iff.1 h
 have fa : Fine 10 a := by
  split at ha
  ·simp only [Option.some.injEq] at ha; subst ha; exact Fine.nil _
  ·exact uki ha
 have one : ∀ (xs : List Int) (r : List Nat), ((ug4 xs).bind fun b => some (a ++ b)) = some r → xs.length ≤ 10 → Fine 1100000 r := by
  intro xs r h hl
  obtain ⟨b, hb, h⟩ := Option.bind_eq_some_iff.1 h
  simp only [Option.some.injEq] at h
  subst h
  exact (fa.append (uki hb)).mono (by omega)
 have gr : ∀ (g : Gr) (f : Bool) (r : List Nat), ((ug4 [if f then 1 else 0]).bind fun b => if f then (uk5 g).bind fun c => some (a ++ (b ++ c)) else some (a ++ b)) = some r → Fine 1100000 r := by
  intro g f r h
  obtain ⟨b, hb, h⟩ := Option.bind_eq_some_iff.1 h
  have fb : Fine 5 b := uki hb
  split at h
  ·obtain ⟨c, hc, h⟩ := Option.bind_eq_some_iff.1 h
   simp only [Option.some.injEq] at h
   subst h
   exact (fa.append (fb.append (ur5 hc))).mono (by omega)
  ·simp only [Option.some.injEq] at h
   subst h
   exact (fa.append fb).mono (by omega)
 split at h
 ·obtain ⟨b, hb, h⟩ := Option.bind_eq_some_iff.1 h
  obtain ⟨c, hc, h⟩ := Option.bind_eq_some_iff.1 h
  simp only [Option.some.injEq] at h
  subst h
  exact (fa.append ((uki hb).append (uki hc))).mono (by simp)
 split at h
 ·exact one _ _ h (by simp)
 split at h
 ·exact one _ _ h (by simp)
 split at h
 ·obtain ⟨b, hb, h⟩ := Option.bind_eq_some_iff.1 h
  have fb : Fine 5 b := uki hb
  split at h
  ·obtain ⟨c, hc, h⟩ := Option.bind_eq_some_iff.1 h
   simp only [Option.some.injEq] at h
   subst h
   exact (fa.append (fb.append (uki hc))).mono (by simp)
  ·simp only [Option.some.injEq] at h
   subst h
   exact (fa.append fb).mono (by omega)
 split at h
 ·exact one _ _ h (by simp)
 split at h
 ·exact one _ _ h (by simp)
 split at h
 ·obtain ⟨b, hb, h⟩ := Option.bind_eq_some_iff.1 h
  simp only [Option.some.injEq] at h
  subst h
  exact (fa.append (uqi hb hp)).mono (by omega)
 split at h
 ·exact gr _ _ _ h
 split at h
 ·exact gr _ _ _ h
 simp only [Option.some.injEq] at h
 subst h
 exact fa.mono (by omega)
theorem umx {a : Ac} {es : List Nat} (h : ukf a = some es) (hp : PxSmall a.op.look.content) : Fine 1100001 es := by
 unfold ukf at h
 split at h
 ·rename_i hk
  obtain ⟨b, hb, h⟩ := Option.bind_eq_some_iff.1 h
  simp only [Option.some.injEq] at h
  subst h
  have fb : Fine 1100000 b := by
   split at hb
   ·exact (uki hb).mono (by simp)
   split at hb
   ·exact (uki hb).mono (by simp)
   split at hb
   ·simp only [Option.some.injEq] at hb; subst hb; exact Fine.nil _
   exact uuo hb hp
  exact ⟨by rw [List.length_cons]; have := fb.1; omega, fun x hx => (List.mem_cons.1 hx).elim (fun e => by omega) (fb.2 x)⟩
 ·cases h
theorem ulc {xs ys : List Int} {a b : List Nat} (h : ug4 xs = some a) (k : ug4 ys = some b) : ug4 (xs ++ ys) = some (a ++ b) := by
 induction xs generalizing a with
 | nil => simp only [ug4, Option.some.injEq] at h; subst h; simpa using k
 | cons x r ih =>
  rw [ug4] at h
  split at h
  ·rename_i hx
   obtain ⟨e, he, rfl⟩ := Option.map_eq_some_iff.1 h
   rw [List.cons_append, ug4, if_pos hx, ih he]
   simp
  ·cases h
theorem uke {x : Int} {es : List Nat} (h : numG x es) : ug4 [x] = some es := by
 obtain ⟨hx, rfl⟩ := h
 rw [ug4, if_pos (show -2147483648 ≤ x ∧ x < 2147483648 from hx), ug4]
 simp
theorem umf {α : Type} {G : α → List Nat → Prop} {k : Nat} {xs : List α} {es : List Nat} (h : umh G k xs es) : xs.length = k := by
 induction k generalizing xs es with
 | zero => obtain ⟨rfl, _⟩ := h; rfl
 | succ k ih =>
  obtain ⟨xs, e1, _, h1, ⟨x, e2, _, h2, ⟨rfl, rfl⟩, rfl⟩, rfl⟩ := h
  rw [List.length_append, ih h1]
  rfl
theorem uoc {α : Type} {G : α → List Nat → Prop} {k : Nat} {xs : List α} {es : List Nat} (h : umh G k xs es) : ∀ x ∈ xs, ∃ e, G x e := by
 induction k generalizing xs es with
 | zero => obtain ⟨rfl, _⟩ := h; intro x hx; cases hx
 | succ k ih =>
  obtain ⟨xs, e1, _, h1, ⟨x, e2, _, h2, ⟨rfl, rfl⟩, rfl⟩, rfl⟩ := h
  intro y hy
  rcases List.mem_append.1 hy with hy | hy
  ·exact ih h1 y hy
  ·obtain rfl := List.mem_singleton.1 hy
   exact ⟨e2, h2⟩
theorem uqu {k : Nat} {xs : List Int} {es : List Nat} (h : umh numG k xs es) : ug4 xs = some es := by
 induction k generalizing xs es with
 | zero => obtain ⟨rfl, rfl⟩ := h; rfl
 | succ k ih =>
  obtain ⟨xs, e1, _, h1, ⟨x, e2, _, h2, ⟨rfl, rfl⟩, rfl⟩, rfl⟩ := h
  rw [List.append_nil]
  exact ulc (ih h1) (uke h2)
theorem idG_enc {i : Int × Int} {es : List Nat} (h : idG i es) : ug4 [i.1, i.2] = some es := by
 obtain ⟨a, e1, _, h1, ⟨g, e2, _, h2, ⟨rfl, rfl⟩, rfl⟩, rfl⟩ := h
 rw [List.append_nil]
 exact ulc (xs := [a]) (uke h1) (uke h2)
theorem uvm {l : List Int} {es : List Nat} (h : boxG l es) : ug4 [(Rc.of l).x0, (Rc.of l).y0, (Rc.of l).x1, (Rc.of l).y1] = some es := by
 have hl := umf h
 have he := uqu h
 match l, hl with
 | [a, b, c, d], _ => exact he
theorem ut9 {p es : List Nat} (h : uoi p es) : p = es ∧ p.length = 4 ∧ ∀ b ∈ p, b < 256 := by
 have key : ∀ k p es, umh rawG k p es → p = es ∧ ∀ b ∈ p, b < 256 := by
  intro k
  induction k with
  | zero => rintro p es ⟨rfl, rfl⟩; exact ⟨rfl, fun _ h => nomatch h⟩
  | succ k ih =>
   rintro p es ⟨xs, e1, _, h1, ⟨x, e2, _, ⟨hx, rfl⟩, ⟨rfl, rfl⟩, rfl⟩, rfl⟩
   obtain ⟨rfl, hs⟩ := ih _ _ h1
   refine ⟨by simp, fun b hb => ?_⟩
   rcases List.mem_append.1 hb with hb | hb
   ·exact hs b hb
   ·obtain rfl := List.mem_singleton.1 hb; exact hx
 obtain ⟨h1, h2⟩ := key 4 p es h
 exact ⟨h1, umf h, h2⟩
theorem une {p es : List Nat} (h : uoi p es) : ulp [Pxl.of p] = es ∧ (Pxl.of p).Small := by
 obtain ⟨rfl, hl, hs⟩ := ut9 h
 match p, hl with
 | [a, b, c, d], _ => exact ⟨rfl, hs a (by simp), hs b (by simp), hs c (by simp), hs d (by simp)⟩
theorem ums {k : Nat} {ps : List (List Nat)} {es : List Nat} (h : umh uoi k ps es) : ulp (ps.map Pxl.of) = es ∧ ∀ p ∈ ps.map Pxl.of, Pxl.Small p := by
 induction k generalizing ps es with
 | zero => obtain ⟨rfl, rfl⟩ := h; exact ⟨rfl, fun _ h => nomatch h⟩
 | succ k ih =>
  obtain ⟨xs, e1, _, h1, ⟨x, e2, _, h2, ⟨rfl, rfl⟩, rfl⟩, rfl⟩ := h
  obtain ⟨i1, i2⟩ := ih h1
  obtain ⟨p1, p2⟩ := une h2
  constructor
  ·rw [List.map_append, List.append_nil, ulp, List.flatMap_append]
   rw [ulp] at i1 p1
   rw [i1]
   exact congrArg (e1 ++ ·) p1
  ·intro p hp
   rw [List.map_append] at hp
   rcases List.mem_append.1 hp with hp | hp
   ·exact i2 p hp
   ·obtain rfl : p = Pxl.of x := by simpa using hp
    exact p2
theorem us1 {l : List Int} {es : List Nat} (h : listG l es) : ∃ e1 e2, es = e1 ++ e2 ∧ ug4 [(l.length : Int)] = some e1 ∧ ug4 l = some e2 ∧ l.length ≤ 100 := by
 obtain ⟨n, e1, e2, ⟨h1, hlo, hhi⟩, h2, rfl⟩ := h
 have hl := umf h2
 have hn : (l.length : Int) = n := by omega
 exact ⟨e1, e2, rfl, by rw [hn]; exact uke h1, uqu h2, by omega⟩
theorem up3 {n : ubb} {es : List Nat} (h : nodeG n es) : ulm n = some es ∧ n.ins.length ≤ 100 ∧ n.ps.length ≤ 100 := by
 obtain ⟨o, e1, _, h1, ⟨i, _, _, h2, ⟨p, _, _, h3, ⟨rfl, rfl⟩, rfl⟩, rfl⟩, rfl⟩ := h
 obtain ⟨a1, a2, rfl, b1, b2, hi⟩ := us1 h2
 obtain ⟨c1, c2, rfl, d1, d2, hp⟩ := us1 h3
 refine ⟨?_, hi, hp⟩
 unfold ulm
 rw [if_pos ⟨hi, hp⟩, show ug4 [o, (i.length : Int)] = _ from ulc (xs := [o]) (uke h1) b1]
 simp only [b2, d1, d2, Option.bind_some, Option.some.injEq, List.append_assoc, List.append_nil]
theorem uvz {k : Nat} {ns : List ubb} {es : List Nat} (h : umh nodeG k ns es) : ukr ns = some es := by
 have app : ∀ xs ys a b, ukr xs = some a → ukr ys = some b → ukr (xs ++ ys) = some (a ++ b) := by
  intro xs
  induction xs with
  | nil => intro ys a b h k; simp only [ukr, Option.some.injEq] at h; subst h; simpa using k
  | cons x r ih =>
   intro ys a b h k
   rw [ukr] at h
   obtain ⟨u, hu, h⟩ := Option.bind_eq_some_iff.1 h
   obtain ⟨v, hv, rfl⟩ := Option.map_eq_some_iff.1 h
   rw [List.cons_append, ukr, hu, ih ys v b hv k]
   simp
 induction k generalizing ns es with
 | zero => obtain ⟨rfl, rfl⟩ := h; rfl
 | succ k ih =>
  obtain ⟨xs, e1, _, h1, ⟨x, e2, _, h2, ⟨rfl, rfl⟩, rfl⟩, rfl⟩ := h
  rw [List.append_nil]
  refine app _ _ _ _ (ih h1) ?_
  rw [ukr, (up3 h2).1, ukr]
  simp
theorem urg {g : Gr} {es : List Nat} (h : uqa g es) : uk5 g = some es ∧ ucm g.nodes := by
 obtain ⟨o, e1, _, h1, ⟨k, e2, _, ⟨h2, hlo, hhi⟩, ⟨ns, e3, _, h3, ⟨rfl, rfl⟩, rfl⟩, rfl⟩, rfl⟩ := h
 have hl := umf h3
 have hk : (ns.length : Int) = k := by omega
 constructor
 ·unfold uk5
  simp only
  rw [if_pos (by omega), hk, show ug4 [o, k] = _ from ulc (xs := [o]) (uke h1) (uke h2), uvz h3]
  simp
 ·refine ⟨by simp only; omega, fun i n hi => ?_⟩
  obtain ⟨e, he⟩ := uoc h3 n (lmG hi)
  have := (up3 he).2
  omega
theorem utl {c : Ct} {es : List Nat} (h : ur7 c es) : uk1 c = some es ∧ c.pix.length ≤ 1000000000 ∧ PxSmall c := by
 obtain ⟨k, e1, _, h1, h, rfl⟩ := h
 have z : Pxl.zero.Small := by unfold Pxl.Small Pxl.zero; decide
 unfold uk1
 rcases h with ⟨rfl, ⟨b, e2, _, hb, ⟨p, e3, _, hp, ⟨rfl, rfl⟩, rfl⟩, rfl⟩⟩ | ⟨hk, h⟩
 ·refine ⟨?_, by simp, ⟨(une hp).2, fun _ h => nomatch h⟩⟩
  simp only [uke h1, uvm hb, (une hp).1, Option.bind_some, if_true, List.append_nil]
 ·rcases h with ⟨rfl, ⟨x, f1, _, g1, ⟨y, f2, _, g2, ⟨w, f3, _, g3, ⟨h, f4, _, g4, ⟨t, f5, _, g5, ⟨ps, f6, _, g6, ⟨rfl, rfl⟩, rfl⟩, rfl⟩, rfl⟩, rfl⟩, rfl⟩, rfl⟩⟩ | ⟨hk2, ⟨rfl, rfl⟩⟩
  ·have hl := umf g6
   have hc := unk w h
   refine ⟨?_, by simp only [List.length_map]; omega, ⟨z, (ums g6).2⟩⟩
   have e : ug4 [x, y, w, h, t] = some (f1 ++ (f2 ++ (f3 ++ (f4 ++ f5)))) := ulc (xs := [x]) (uke g1) (ulc (xs := [y]) (uke g2) (ulc (xs := [w]) (uke g3) (ulc (xs := [h]) (uke g4) (uke g5))))
   simp only [uke h1, Option.bind_some, hk, if_false, if_true, List.length_map, hl, e, (ums g6).1, List.append_assoc, List.append_nil]
  ·refine ⟨?_, by simp, ⟨z, fun _ h => nomatch h⟩⟩
   simp only [uke h1, Option.bind_some, hk, hk2, if_false, List.append_nil]
theorem confG_enc {c : Cf} {es : List Nat} (h : confG c es) : ug4 [ukn c, c.room] = some es := by
 obtain ⟨n, e1, _, ⟨h1, hlo, hhi⟩, ⟨r, e2, _, h2, ⟨rfl, rfl⟩, rfl⟩, rfl⟩ := h
 rw [List.append_nil]
 have : ukn ⟨decide (n % 2 = 1), decide (n / 2 % 2 = 1), decide (n / 4 % 2 = 1), decide (n / 8 % 2 = 1), r⟩ = n := by
  have : n = 0 ∨ n = 1 ∨ n = 2 ∨ n = 3 ∨ n = 4 ∨ n = 5 ∨ n = 6 ∨ n = 7 ∨ n = 8 ∨ n = 9 ∨ n = 10 ∨ n = 11 ∨ n = 12 ∨ n = 13 ∨ n = 14 ∨ n = 15 := by omega
  rcases this with rfl | rfl | rfl | rfl | rfl | rfl | rfl | rfl | rfl | rfl | rfl | rfl | rfl | rfl | rfl | rfl <;> rfl
 rw [this]
 exact ulc (xs := [n]) (uke h1) (uke h2)
theorem unh {f : Bool} {es : List Nat} (h : uwa f es) : ug4 [if f then 1 else 0] = some es := by
 unfold uwa at h
 subst h
 have h1 : ul1 1 = [2] := uk8 (by decide)
 have h0 : ul1 0 = [0] := uk8 (by decide)
 cases f
 ·simp [ug4, h0]
 ·simp [ug4, h1]
theorem LookBorne.zero : LookBorne Lk.zero := ⟨by simp [Lk.zero, Ct.zero], ⟨by simp [Lk.zero, Gr.zero], by simp [Lk.zero, Gr.zero]⟩, ⟨by simp [Lk.zero, Gr.zero], by simp [Lk.zero, Gr.zero]⟩⟩
theorem PxSmall.zero : PxSmall Ct.zero := ⟨by unfold Pxl.Small; decide, fun _ h => nomatch h⟩
structure LookG (k : Int) (l : Lk) : Prop where
 borne : LookBorne l
 small : PxSmall l.content
theorem lookG_enc {k : Int} {l : Lk} {e4 : List Nat} (h : usy k l e4) : LookG k l ∧
  ∀ (a : List Nat) (i t : Int × Int) (at_ : Int), (if k = 1 then some [] else ug4 [i.1, i.2]) = some a → k ≠ 1 → k ≠ 3 → k ≠ 4 → ukb ⟨k, i, t, at_, l⟩ = some (a ++ e4) := by
 have z := LookBorne.zero
 have s := PxSmall.zero
 rcases h with ⟨rfl, x, e1, _, h1, ⟨y, e2, _, h2, ⟨rfl, rfl⟩, rfl⟩, rfl⟩ | ⟨h5, h⟩
 ·refine ⟨⟨⟨z.pix, z.filt, z.back⟩, s⟩, fun a i t at_ ha k1 k3 k4 => ?_⟩
  have e := ulc (xs := [x]) (uke h1) (uke h2)
  simp only [List.singleton_append] at e
  simp [ukb] at ha ⊢
  simp [ha, e]
 rcases h with ⟨rfl, f, e1, _, h1, h, rfl⟩ | ⟨h6, h⟩
 ·rcases h with ⟨rfl, b, e2, _, h2, ⟨rfl, rfl⟩, rfl⟩ | ⟨hf, ⟨rfl, rfl⟩⟩
  ·refine ⟨⟨⟨z.pix, z.filt, z.back⟩, s⟩, fun a i t at_ ha k1 k3 k4 => ?_⟩
   have e := uvm h2
   have g := unh h1
   simp at g
   simp [ukb] at ha ⊢
   simp [ha, e, g]
  ·refine ⟨⟨z, s⟩, fun a i t at_ ha k1 k3 k4 => ?_⟩
   have g := unh h1
   simp at hf
   simp [hf] at g
   simp [ukb, Lk.zero] at ha ⊢
   simp [ha, g]
 rcases h with ⟨rfl, x, e1, _, h1, ⟨rfl, rfl⟩, rfl⟩ | ⟨h7, h⟩
 ·refine ⟨⟨⟨z.pix, z.filt, z.back⟩, s⟩, fun a i t at_ ha k1 k3 k4 => ?_⟩
  have e := uke h1
  simp [ukb] at ha ⊢
  simp [ha, e]
 rcases h with ⟨rfl, x, e1, _, h1, ⟨rfl, rfl⟩, rfl⟩ | ⟨h8, h⟩
 ·refine ⟨⟨⟨z.pix, z.filt, z.back⟩, s⟩, fun a i t at_ ha k1 k3 k4 => ?_⟩
  have e := uke h1
  simp [ukb] at ha ⊢
  simp [ha, e]
 rcases h with ⟨rfl, c, e1, _, h1, ⟨rfl, rfl⟩, rfl⟩ | ⟨h9, h⟩
 ·obtain ⟨e, hb, hs⟩ := utl h1
  refine ⟨⟨⟨hb, z.filt, z.back⟩, hs⟩, fun a i t at_ ha k1 k3 k4 => ?_⟩
  simp [ukb] at ha ⊢
  simp [ha, e]
 rcases h with ⟨rfl, f, e1, _, h1, h, rfl⟩ | ⟨h10, h⟩
 ·rcases h with ⟨rfl, b, e2, _, h2, ⟨rfl, rfl⟩, rfl⟩ | ⟨hf, ⟨rfl, rfl⟩⟩
  ·obtain ⟨e, hb⟩ := urg h2
   refine ⟨⟨⟨z.pix, hb, z.back⟩, s⟩, fun a i t at_ ha k1 k3 k4 => ?_⟩
   have g := unh h1
   simp at g
   simp [ukb] at ha ⊢
   simp [ha, e, g]
  ·refine ⟨⟨z, s⟩, fun a i t at_ ha k1 k3 k4 => ?_⟩
   have g := unh h1
   simp at hf
   simp [hf] at g
   simp [ukb, Lk.zero] at ha ⊢
   simp [ha, g]
 rcases h with ⟨rfl, f, e1, _, h1, h, rfl⟩ | ⟨h11, h⟩
 ·rcases h with ⟨rfl, b, e2, _, h2, ⟨rfl, rfl⟩, rfl⟩ | ⟨hf, ⟨rfl, rfl⟩⟩
  ·obtain ⟨e, hb⟩ := urg h2
   refine ⟨⟨⟨z.pix, z.filt, hb⟩, s⟩, fun a i t at_ ha k1 k3 k4 => ?_⟩
   have g := unh h1
   simp at g
   simp [ukb] at ha ⊢
   simp [ha, e, g]
  ·refine ⟨⟨z, s⟩, fun a i t at_ ha k1 k3 k4 => ?_⟩
   have g := unh h1
   simp at hf
   simp [hf] at g
   simp [ukb, Lk.zero] at ha ⊢
   simp [ha, g]
 obtain ⟨rfl, rfl⟩ := h
 refine ⟨⟨z, s⟩, fun a i t at_ ha k1 k3 k4 => ?_⟩
 rw [if_neg k1] at ha
 simp only [ukb, ha, Option.bind_some, k1, k3, k4, h5, h6, h7, h8, h9, h10, h11, or_self, if_false, List.append_nil]
theorem uu5 {k : Int} {o : Opr} {es : List Nat} (h : oprG k o es) : ukb o = some es ∧ o.kind = k ∧ LookG k o.look := by
 obtain ⟨i, a, _, hi, ⟨t, e2, _, ht, ⟨at_, e3, _, ha, ⟨l, e4, _, hl, ⟨rfl, rfl⟩, rfl⟩, rfl⟩, rfl⟩, rfl⟩ := h
 obtain ⟨hL, key⟩ := lookG_enc hl
 refine ⟨?_, rfl, hL⟩
 have hid : (if k = 1 then some [] else ug4 [i.1, i.2]) = some a := by
  rcases hi with ⟨h1, _, rfl⟩ | ⟨h1, h⟩
  ·rw [if_pos h1]
  ·rw [if_neg h1]; exact idG_enc h
 by_cases h13 : k = 1 ∨ k = 3
 ·have ht' : idG t e2 := ht.elim (fun h => h.2) fun h => absurd h13 h.1
  have ha' : numG at_ e3 := by
   rcases ha with ⟨_, h⟩ | ⟨h, _⟩
   ·exact h
   ·exact absurd (h13.elim .inl fun h => .inr (.inl h)) h
  have hl' : e4 = [] := by
   rcases h13 with rfl | rfl <;> · simp [usy, GIte, ulk] at hl; exact hl.2
  subst hl'
  simp only [ukb, hid, Option.bind_some, h13, if_true, idG_enc ht', uke ha', List.append_nil, List.append_assoc]
 ·have ht' : e2 = [] := ht.elim (fun h => absurd h.1 h13) fun h => h.2.2
  subst ht'
  by_cases h4 : k = 4
  ·have ha' : numG at_ e3 := by
    rcases ha with ⟨_, h⟩ | ⟨h, _⟩
    ·exact h
    ·exact absurd (.inr (.inr h4)) h
   have hl' : e4 = [] := by subst h4; simp [usy, GIte, ulk] at hl; exact hl.2
   subst hl'
   unfold ukb
   simp only
   rw [hid, Option.bind_some, if_neg h13, if_pos h4, uke ha', Option.bind_some]
   simp
  ·have ha' : e3 = [] := by
    rcases ha with ⟨h, _⟩ | ⟨_, _, h⟩
    ·omega
    ·exact h
   subst ha'
   simpa using key a i t at_ hid (fun h => h13 (.inl h)) (fun h => h13 (.inr h)) h4
theorem uo2 {a : Ac} {es : List Nat} (h : actG a es) : ukf a = some es ∧ LookBorne a.op.look ∧ PxSmall a.op.look.content := by
 obtain ⟨b, _, _, ⟨hb, rfl⟩, h, rfl⟩ := h
 have z : LookBorne Opr.zero.look ∧ PxSmall Opr.zero.look.content := ⟨LookBorne.zero, PxSmall.zero⟩
 rcases h with ⟨hr, h⟩ | ⟨_, h⟩
 ·rcases h with ⟨rfl, x, e1, _, h1, ⟨y, e2, _, h2, ⟨rfl, rfl⟩, rfl⟩, rfl⟩ | ⟨h12, h⟩
  ·have e := ulc (xs := [x]) (uke h1) (uke h2)
   simp only [List.singleton_append] at e
   refine ⟨?_, z⟩
   simp [ukf, e]
  rcases h with ⟨rfl, c, e1, _, h1, ⟨rfl, rfl⟩, rfl⟩ | ⟨h13, h⟩
  ·refine ⟨?_, z⟩
   simp [ukf, confG_enc h1]
  rcases h with ⟨rfl, ⟨rfl, rfl⟩⟩ | ⟨h14, h⟩
  ·refine ⟨?_, z⟩
   simp [ukf]
  obtain ⟨o, e1, _, h1, ⟨rfl, rfl⟩, rfl⟩ := h
  obtain ⟨he, _, hL⟩ := uu5 h1
  refine ⟨?_, hL.borne, hL.small⟩
  unfold ukf
  simp only
  rw [if_pos (by omega), if_neg (by omega), if_neg (by omega), if_neg (by omega), he]
  simp
 ·exact h.elim
def uk6 (a : Ac) : Option (List Nat) := (ukf a).bind fun es => (uk9 es 0).bind fun p => if p.1 = a then some es else none
theorem uov {a : Ac} {es : List Nat} (hs : PxSmall a.op.look.content) : uk6 a = some es ↔ actG a es := by
 unfold uk6
 constructor
 ·intro h
  obtain ⟨e, he, h⟩ := Option.bind_eq_some_iff.1 h
  obtain ⟨⟨x, m⟩, hx, h⟩ := Option.bind_eq_some_iff.1 h
  simp only at h
  split at h
  ·rename_i hxa
   simp only [Option.some.injEq] at h
   subst h
   subst hxa
   obtain ⟨e', g, _, _⟩ := (unt (umx he hs).2 0 x m).1 hx
   rw [(uo2 g).1] at he
   simp only [Option.some.injEq] at he
   rw [← he]
   exact g
  ·cases h
 ·intro g
  have he := (uo2 g).1
  have := (unt (umx he hs).2 0 a es.length).2 ⟨es, g, Sits.self es, by omega⟩
  rw [he, Option.bind_some, this, Option.bind_some, if_pos rfl]
theorem um4 {bs : List Nat} (hb : ∀ b ∈ bs, b < 256) {n m : Nat} {a : Ac} (h : uk9 bs n = some (a, m)) : ∃ es, uk6 a = some es ∧ Sits es bs n ∧ m = n + es.length ∧ LookBorne a.op.look ∧ PxSmall a.op.look.content := by
 obtain ⟨es, g, s, e⟩ := (unt hb n a m).1 h
 have k := uo2 g
 exact ⟨es, (uov k.2.2).2 g, s, e, k.2⟩
theorem uph {bs : List Nat} (hb : ∀ b ∈ bs, b < 256) {n : Nat} {a : Ac} {es : List Nat} (hs : PxSmall a.op.look.content) (h : uk6 a = some es) (s : Sits es bs n) : uk9 bs n = some (a, n + es.length) :=
 (unt hb n a _).2 ⟨es, (uov hs).1 h, s, rfl⟩
end Go.Gou
namespace Go.Txt
open Go Go.Gou
def un0 : Wd := [105, 110, 115, 101, 114, 116]
def unz : Wd := [114, 101, 109, 111, 118, 101]
def umg : Wd := [114, 101, 112, 97, 114, 101, 110, 116]
def um0 : Wd := [114, 101, 111, 114, 100, 101, 114]
def uny : Wd := [115, 104, 105, 102, 116]
def wCut : Wd := [99, 117, 116]
def usg : Wd := [102, 97, 100, 101]
def usd : Wd := [109, 111, 100, 101]
def usf : Wd := [104, 105, 100, 101]
def wBox : Wd := [98, 111, 120]
def umk : Wd := [112, 105, 99, 116, 117, 114, 101]
def ul3 : Wd := [102, 105, 108, 116, 101, 114]
def uls : Wd := [98, 97, 99, 107, 100, 114, 111, 112]
def usc : Wd := [118, 105, 101, 119]
def uql : Wd := [99, 111, 110, 102]
def umj : Wd := [102, 114, 97, 109, 101]
def wOff : Wd := [111, 102, 102]
def uoh : Wd := [58]
def uqk : Wd := [59]
def wFuse : Wd := [102, 117, 115, 101]
def wAlias : Wd := [97, 108, 105, 97, 115]
def wRoi : Wd := [114, 111, 105]
def wDamage : Wd := [100, 97, 109, 97, 103, 101]
def kinds : List Wd := [[111, 102, 102, 115, 101, 116], [98, 108, 117, 114], [101, 114, 111, 100, 101], [100, 105, 108, 97, 116, 101], [109, 97, 116, 114, 105, 120], [102, 108, 111, 111, 100], [98, 108, 101, 110, 100], [99, 111, 109, 112, 111, 115, 105, 116, 101], [109, 101, 114, 103, 101], [116, 105, 108, 101], [115, 104, 97, 100, 111, 119], [99, 108, 105, 112]]
def nums (l : List Int) : List Wd := l.map Lib.itoa
def hexd (k : Nat) : UInt8 := if k < 10 then UInt8.ofNat (48 + k) else UInt8.ofNat (87 + k)
def pxW (p : Pxl) : Wd := [hexd (p.p0 / 16), hexd (p.p0 % 16), hexd (p.p1 / 16), hexd (p.p1 % 16), hexd (p.p2 / 16), hexd (p.p2 % 16), hexd (p.p3 / 16), hexd (p.p3 % 16)]
def uuf (op : Int) : Wd := kinds.getD (op.toNat - 1) []
def umz (n : ubb) : List Wd := uuf n.op :: (nums n.ins ++ (uoh :: (nums n.ps ++ [uqk])))
def ulg (has : Bool) (g : Gr) : List Wd := if has then Lib.itoa g.out :: g.nodes.flatMap umz else [wOff]
def unx (id : Int × Int) (c : Ct) : List Wd :=
 if c.kind = 0 then usf :: nums [id.1, id.2] else
 if c.kind = 1 then wBox :: (nums [id.1, id.2, c.box.x0, c.box.y0, c.box.x1, c.box.y1] ++ [pxW c.px]) else
 umk :: (nums [id.1, id.2, c.box.x0, c.box.y0, c.w, c.h, c.turn] ++ c.pix.map pxW)
def uml (o : Opr) : List Wd :=
 if o.kind = 1 then un0 :: nums [o.to.1, o.to.2, o.at_] else
 if o.kind = 2 then unz :: nums [o.id.1, o.id.2] else
 if o.kind = 3 then umg :: nums [o.id.1, o.id.2, o.to.1, o.to.2, o.at_] else
 if o.kind = 4 then um0 :: nums [o.id.1, o.id.2, o.at_] else []
def ulb (o : Opr) : List Wd :=
 if o.kind = 5 then uny :: nums [o.id.1, o.id.2, o.look.dx, o.look.dy] else
 if o.kind = 6 then wCut :: (nums [o.id.1, o.id.2] ++ if o.look.hasClip then nums [o.look.clip.x0, o.look.clip.y0, o.look.clip.x1, o.look.clip.y1] else [wOff]) else
 if o.kind = 7 then usg :: nums [o.id.1, o.id.2, o.look.opacity] else
 if o.kind = 8 then usd :: nums [o.id.1, o.id.2, o.look.mode] else
 if o.kind = 9 then unx o.id o.look.content else
 if o.kind = 10 then ul3 :: (nums [o.id.1, o.id.2] ++ ulg o.look.hasFilt o.look.filt) else
 if o.kind = 11 then uls :: (nums [o.id.1, o.id.2] ++ ulg o.look.hasBack o.look.back) else []
def um7 (c : Cf) : List Wd := (if c.fuse then [wFuse] else []) ++ ((if c.alias then [wAlias] else []) ++ ((if c.roi then [wRoi] else []) ++ if c.damage then [wDamage] else []))
def ukp (a : Ac) : List Wd :=
 if a.kind = 12 then usc :: nums [a.w, a.h] else
 if a.kind = 13 then uql :: (Lib.itoa a.conf.room :: um7 a.conf) else
 if a.kind = 14 then [umj] else uml a.op ++ ulb a.op
def una (g : Gr) : Prop := ∀ n ∈ g.nodes, 1 ≤ n.op ∧ n.op ≤ 12
instance (g : Gr) : Decidable (una g) := by unfold una; infer_instance
def upj (a : Ac) : Prop := (a.op.kind = 9 → 0 ≤ a.op.look.content.kind ∧ a.op.look.content.kind ≤ 2) ∧ (a.op.kind = 10 → a.op.look.hasFilt = true → una a.op.look.filt) ∧ (a.op.kind = 11 → a.op.look.hasBack = true → una a.op.look.back)
instance (a : Ac) : Decidable (upj a) := by unfold upj; infer_instance
def putT (a : Ac) : Option (List UInt8) := if (uk6 a).isSome = true ∧ upj a then some ([32].intercalate (ukp a) ++ [10]) else none
abbrev P (α : Type) := List Wd → Option (α × List Wd)
def numP : P Int
 | [] => none
 | w :: r => (numT w).map fun n => (n, r)
def idP : P (Int × Int) := fun ws => (numP ws).bind fun p => (numP p.2).map fun q => ((p.1, q.1), q.2)
def boxP : P Rc := fun ws => (numP ws).bind fun p => (numP p.2).bind fun q => (numP q.2).bind fun r => (numP r.2).map fun s => (⟨p.1, q.1, r.1, s.1⟩, s.2)
def digT (c : UInt8) : Option Nat := if 48 ≤ c.toNat ∧ c.toNat ≤ 57 then some (c.toNat - 48) else if 97 ≤ c.toNat ∧ c.toNat ≤ 102 then some (c.toNat - 87) else none
def uns (a b : UInt8) : Option Nat := (digT a).bind fun x => (digT b).map fun y => x * 16 + y
def pxT (w : Wd) : Option Pxl := if w.length = 8 then
 (uns (w.getD 0 0) (w.getD 1 0)).bind fun a => (uns (w.getD 2 0) (w.getD 3 0)).bind fun b => (uns (w.getD 4 0) (w.getD 5 0)).bind fun c => (uns (w.getD 6 0) (w.getD 7 0)).map fun d => ⟨a, b, c, d⟩ else none
def pxP : P Pxl
 | [] => none
 | w :: r => (pxT w).map fun p => (p, r)
def pixP : List Wd → Option (List Pxl)
 | [] => some []
 | w :: r => (pxT w).bind fun p => (pixP r).map fun l => p :: l
def ulu (e : Wd) : Nat → P (List Int)
 | _, [] => none
 | n, w :: r => if w = e then some ([], r) else if n < 100 then (numT w).bind fun x => (ulu e (n + 1) r).map fun q => (x :: q.1, q.2) else none
def us4 (w : Wd) : Option Int := if kinds.idxOf w < 12 then some ((kinds.idxOf w : Int) + 1) else none
def ung : Nat → Nat → List Wd → Option (List ubb)
 | _, _, [] => some []
 | 0, _, _ :: _ => none
 | f + 1, n, w :: r => (us4 w).bind fun op => if n < 1000 then (ulu uoh 0 r).bind fun i => (ulu uqk 0 i.2).bind fun p => (ung f (n + 1) p.2).map fun l => ⟨op, i.1, p.1⟩ :: l else none
def umd : P (Bool × Gr) := fun ws => if ws.head? = some wOff then some ((false, Gr.zero), ws.drop 1) else (numP ws).bind fun o => (ung o.2.length 0 o.2).map fun l => ((true, ⟨l, o.1⟩), [])
def uv9 (w : Wd) (ws : List Wd) : Bool × List Wd := if ws.head? = some w then (true, ws.drop 1) else (false, ws)
def opA (o : Opr) : Ac := ⟨o.kind, o, 0, 0, Cf.zero⟩
def umu : P Ac := fun ws => (idP ws).bind fun i => (numP i.2).map fun n => (opA ⟨1, (0, 0), i.1, n.1, Lk.zero⟩, n.2)
def um9 : P Ac := fun ws => (idP ws).map fun i => (opA ⟨2, i.1, (0, 0), 0, Lk.zero⟩, i.2)
def uln : P Ac := fun ws => (idP ws).bind fun i => (idP i.2).bind fun t => (numP t.2).map fun n => (opA ⟨3, i.1, t.1, n.1, Lk.zero⟩, n.2)
def ul6 : P Ac := fun ws => (idP ws).bind fun i => (numP i.2).map fun n => (opA ⟨4, i.1, (0, 0), n.1, Lk.zero⟩, n.2)
def lkA (k : Int) (i : Int × Int) (l : Lk) : Ac := opA ⟨k, i, (0, 0), 0, l⟩
def um2 : P Ac := fun ws => (idP ws).bind fun i => (numP i.2).bind fun x => (numP x.2).map fun y => (lkA 5 i.1 { Lk.zero with dx := x.1, dy := y.1 }, y.2)
def cutP : P Ac := fun ws => (idP ws).bind fun i => if i.2.head? = some wOff then some (lkA 6 i.1 Lk.zero, i.2.drop 1) else (boxP i.2).map fun b => (lkA 6 i.1 { Lk.zero with hasClip := true, clip := b.1 }, b.2)
def uqg : P Ac := fun ws => (idP ws).bind fun i => (numP i.2).map fun x => (lkA 7 i.1 { Lk.zero with opacity := x.1 }, x.2)
def up4 : P Ac := fun ws => (idP ws).bind fun i => (numP i.2).map fun x => (lkA 8 i.1 { Lk.zero with mode := x.1 }, x.2)
def uqp : P Ac := fun ws => (idP ws).map fun i => (lkA 9 i.1 Lk.zero, i.2)
def upk : P Ac := fun ws => (idP ws).bind fun i => (boxP i.2).bind fun b => (pxP b.2).map fun p => (lkA 9 i.1 { Lk.zero with content := ⟨1, b.1, p.1, 0, 0, 0, []⟩ }, p.2)
def ull : P Ac := fun ws => (idP ws).bind fun i => (numP i.2).bind fun x => (numP x.2).bind fun y => (numP y.2).bind fun w => (numP w.2).bind fun h => (numP h.2).bind fun t => (pixP t.2).map fun l =>
 (lkA 9 i.1 { Lk.zero with content := ⟨2, ⟨x.1, y.1, 0, 0⟩, Pxl.zero, w.1, h.1, t.1, l⟩ }, [])
def ulz : P Ac := fun ws => (idP ws).bind fun i => (umd i.2).map fun g => (lkA 10 i.1 { Lk.zero with hasFilt := g.1.1, filt := g.1.2 }, g.2)
def ulj : P Ac := fun ws => (idP ws).bind fun i => (umd i.2).map fun g => (lkA 11 i.1 { Lk.zero with hasBack := g.1.1, back := g.1.2 }, g.2)
def upt : P Ac := fun ws => (numP ws).bind fun w => (numP w.2).map fun h => (⟨12, Opr.zero, w.1, h.1, Cf.zero⟩, h.2)
def uqq : P Ac := fun ws => (numP ws).map fun n =>
 let a := uv9 wFuse n.2
 let b := uv9 wAlias a.2
 let c := uv9 wRoi b.2
 let d := uv9 wDamage c.2
 (⟨13, Opr.zero, 0, 0, ⟨a.1, b.1, c.1, d.1, n.1⟩⟩, d.2)
def uqb : P Ac := fun ws => some (⟨14, Opr.zero, 0, 0, Cf.zero⟩, ws)
def ulx (w : Wd) : P Ac :=
 if w = un0 then umu else if w = unz then um9 else if w = umg then uln else if w = um0 then ul6 else
 if w = uny then um2 else if w = wCut then cutP else if w = usg then uqg else if w = usd then up4 else
 if w = usf then uqp else if w = wBox then upk else if w = umk then ull else
 if w = ul3 then ulz else if w = uls then ulj else
 if w = usc then upt else if w = uql then uqq else if w = umj then uqb else fun _ => none
def oneT : List Wd → Option Ac
 | [] => none
 | w :: r => (ulx w r).bind fun p => if p.2 = [] ∧ (uk6 p.1).isSome = true then some p.1 else none
theorem ukt {n : Int} (h : InR n) (r : List Wd) : numP (Lib.itoa n :: r) = some (n, r) := by
 show (numT (Lib.itoa n)).map (fun n => (n, r)) = _
 rw [up2 h.1 (by have := h.2; omega)]
 rfl
theorem uti {k : Nat} (h : k < 16) : digT (hexd k) = some k := by
 have : k = 0 ∨ k = 1 ∨ k = 2 ∨ k = 3 ∨ k = 4 ∨ k = 5 ∨ k = 6 ∨ k = 7 ∨ k = 8 ∨ k = 9 ∨ k = 10 ∨ k = 11 ∨ k = 12 ∨ k = 13 ∨ k = 14 ∨ k = 15 := by omega
 rcases this with rfl | rfl | rfl | rfl | rfl | rfl | rfl | rfl | rfl | rfl | rfl | rfl | rfl | rfl | rfl | rfl <;> rfl
theorem uof {k : Nat} (h : k < 256) : uns (hexd (k / 16)) (hexd (k % 16)) = some k := by
 unfold uns
 rw [uti (by omega), uti (by omega)]
 simp
 omega
theorem pxT_pxW {p : Pxl} (h : p.Small) : pxT (pxW p) = some p := by
 obtain ⟨h0, h1, h2, h3⟩ := h
 simp [pxT, pxW, uof h0, uof h1, uof h2, uof h3]
theorem uv5 {k : Nat} (h : k < 16) : solid (hexd k) = true := by
 have : k = 0 ∨ k = 1 ∨ k = 2 ∨ k = 3 ∨ k = 4 ∨ k = 5 ∨ k = 6 ∨ k = 7 ∨ k = 8 ∨ k = 9 ∨ k = 10 ∨ k = 11 ∨ k = 12 ∨ k = 13 ∨ k = 14 ∨ k = 15 := by omega
 rcases this with rfl | rfl | rfl | rfl | rfl | rfl | rfl | rfl | rfl | rfl | rfl | rfl | rfl | rfl | rfl | rfl <;> rfl
theorem uu1 {p : Pxl} (h : p.Small) : Word (pxW p) := by
 obtain ⟨h0, h1, h2, h3⟩ := h
 refine ⟨by simp [pxW], fun c hc => ?_⟩
 simp only [pxW, List.mem_cons, List.not_mem_nil, or_false] at hc
 rcases hc with rfl | rfl | rfl | rfl | rfl | rfl | rfl | rfl <;> exact uv5 (by omega)
theorem uu3 : ∀ (ps : List Pxl), (∀ p ∈ ps, p.Small) → pixP (ps.map pxW) = some ps
 | [], _ => rfl
 | p :: ps, h => by
  simp only [List.map_cons, pixP, pxT_pxW (h p List.mem_cons_self), uu3 ps fun q hq => h q (List.mem_cons_of_mem _ hq)]
  rfl
theorem un3 {n : Int} {c : UInt8} (h : c.toNat = 58 ∨ c.toNat = 59 ∨ 97 ≤ c.toNat) (r : List UInt8) : Lib.itoa n ≠ c :: r := by
 intro e
 unfold Lib.itoa at e
 split at e
 ·have := congrArg (fun l => (l.headD 0).toNat) e
  simp at this
  omega
 ·have hd := uqj n.toNat c (by rw [e]; exact List.mem_cons_self)
  omega
theorem uo7 (c : UInt8) (hc : c.toNat = 58 ∨ c.toNat = 59) (r : List Wd) : ∀ (xs : List Int) (k : Nat), (∀ x ∈ xs, InR x) → k + xs.length ≤ 100 → ulu [c] k (nums xs ++ [c] :: r) = some (xs, r)
 | [], k, _, _ => by simp [nums, ulu]
 | x :: xs, k, h, hk => by
  have hx := h x List.mem_cons_self
  have hne : Lib.itoa x ≠ [c] := un3 (by omega) []
  have ih := uo7 c hc r xs (k + 1) (fun y hy => h y (List.mem_cons_of_mem _ hy)) (by simp only [List.length_cons] at hk; omega)
  unfold nums at ih ⊢
  simp only [List.map_cons, List.cons_append, ulu]
  simp only [List.length_cons] at hk
  rw [if_neg hne, if_pos (by omega), up2 hx.1 (by have := hx.2; omega), ih]
  rfl
theorem twelve {op : Int} (h1 : 1 ≤ op) (h2 : op ≤ 12) : op = 1 ∨ op = 2 ∨ op = 3 ∨ op = 4 ∨ op = 5 ∨ op = 6 ∨ op = 7 ∨ op = 8 ∨ op = 9 ∨ op = 10 ∨ op = 11 ∨ op = 12 := by omega
theorem uug {op : Int} (h1 : 1 ≤ op) (h2 : op ≤ 12) : us4 (uuf op) = some op := by
 rcases twelve h1 h2 with rfl | rfl | rfl | rfl | rfl | rfl | rfl | rfl | rfl | rfl | rfl | rfl <;> decide
theorem uv2 {op : Int} (h1 : 1 ≤ op) (h2 : op ≤ 12) : Word (uuf op) := by
 rcases twelve h1 h2 with rfl | rfl | rfl | rfl | rfl | rfl | rfl | rfl | rfl | rfl | rfl | rfl <;> exact ⟨by decide, by decide⟩
theorem uuh {w : Wd} {op : Int} (h : us4 w = some op) : 1 ≤ op ∧ op ≤ 12 := by
 unfold us4 at h
 split at h
 ·cases h; omega
 ·cases h
structure uwh (n : ubb) : Prop where
 op : InR n.op
 il : n.ins.length ≤ 100
 ir : ∀ x ∈ n.ins, InR x
 pl : n.ps.length ≤ 100
 pr : ∀ x ∈ n.ps, InR x
theorem upe : ∀ (ns : List ubb) (f k : Nat), (∀ n ∈ ns, uwh n ∧ 1 ≤ n.op ∧ n.op ≤ 12) → k + ns.length ≤ 1000 → ns.length ≤ f → ung f k (ns.flatMap umz) = some ns
 | [], f, k, _, _, _ => by cases f <;> rfl
 | n :: ns, 0, k, _, _, hf => by simp at hf
 | n :: ns, f + 1, k, h, hk, hf => by
  obtain ⟨hn, h1, h2⟩ := h n List.mem_cons_self
  simp only [List.length_cons] at hk hf
  have ih := upe ns f (k + 1) (fun m hm => h m (List.mem_cons_of_mem _ hm)) (by omega) (by omega)
  simp only [List.flatMap_cons, umz, List.cons_append, List.append_assoc, ung, uug h1 h2, Option.bind_some]
  rw [if_pos (by omega), show uoh = [58] from rfl, show uqk = [59] from rfl, uo7 58 (.inl rfl) _ n.ins 0 hn.ir (by have := hn.il; omega)]
  simp only [Option.bind_some]
  have := uo7 59 (.inr rfl) (ns.flatMap umz) n.ps 0 hn.pr (by have := hn.pl; omega)
  simp only [List.nil_append, List.append_assoc, List.cons_append] at this ⊢
  rw [this]
  simp only [Option.bind_some, ih]
  rfl
theorem ulf {i : Int × Int} (h0 : InR i.1) (h1 : InR i.2) (r : List Wd) : idP (Lib.itoa i.1 :: Lib.itoa i.2 :: r) = some (i, r) := by
 simp only [idP, ukt h0, ukt h1, Option.bind_some, Option.map_some]
theorem us8 {i : Int × Int} {es : List Nat} (h : idG i es) : InR i.1 ∧ InR i.2 := by
 obtain ⟨a, e1, _, h1, ⟨g, e2, _, h2, ⟨rfl, rfl⟩, rfl⟩, rfl⟩ := h
 exact ⟨h1.1, h2.1⟩
theorem ur8 {l : List Int} {es : List Nat} (h : boxG l es) : InR (Rc.of l).x0 ∧ InR (Rc.of l).y0 ∧ InR (Rc.of l).x1 ∧ InR (Rc.of l).y1 := by
 have hl := umf h
 have ha := uoc h
 obtain ⟨a, b, c, d, rfl⟩ : ∃ a b c d, l = [a, b, c, d] := by
  match l, hl with
  | [a, b, c, d], _ => exact ⟨a, b, c, d, rfl⟩
 have f : ∀ x ∈ [a, b, c, d], InR x := fun x hx => (ha x hx).elim fun _ h => h.1
 exact ⟨f a (by simp), f b (by simp), f c (by simp), f d (by simp)⟩
theorem uto {b : Rc} (h : InR b.x0 ∧ InR b.y0 ∧ InR b.x1 ∧ InR b.y1) (r : List Wd) : boxP (Lib.itoa b.x0 :: Lib.itoa b.y0 :: Lib.itoa b.x1 :: Lib.itoa b.y1 :: r) = some (b, r) := by
 obtain ⟨h0, h1, h2, h3⟩ := h
 simp only [boxP, ukt h0, ukt h1, ukt h2, ukt h3, Option.bind_some, Option.map_some]
theorem uva {l : List Int} {es : List Nat} (h : listG l es) : ∀ x ∈ l, InR x := by
 obtain ⟨n, e1, _, _, h2, rfl⟩ := h
 exact fun x hx => (uoc h2 x hx).elim fun _ h => h.1
theorem nodeG_in {n : ubb} {es : List Nat} (h : nodeG n es) : uwh n := by
 have hl := (up3 h).2
 obtain ⟨o, e1, _, h1, ⟨i, e2, _, h2, ⟨p, e3, _, h3, ⟨rfl, rfl⟩, rfl⟩, rfl⟩, rfl⟩ := h
 exact ⟨h1.1, hl.1, uva h2, hl.2, uva h3⟩
theorem uow {g : Gr} {es : List Nat} (h : uqa g es) : InR g.out ∧ g.nodes.length ≤ 1000 ∧ ∀ n ∈ g.nodes, uwh n := by
 obtain ⟨o, e1, _, h1, ⟨k, e2, _, ⟨h2, hlo, hhi⟩, ⟨ns, e3, _, h3, ⟨rfl, rfl⟩, rfl⟩, rfl⟩, rfl⟩ := h
 have hl := umf h3
 exact ⟨h1.1, by simp only; omega, fun n hn => (uoc h3 n hn).elim fun _ h => nodeG_in h⟩
theorem nodeW_len (n : ubb) : 1 ≤ (umz n).length := by simp [umz]
theorem usw : ∀ ns : List ubb, ns.length ≤ (ns.flatMap umz).length
 | [] => by simp
 | n :: ns => by
  have := usw ns
  have := nodeW_len n
  simp only [List.flatMap_cons, List.length_append, List.length_cons]
  omega
theorem upf {g : Gr} {es : List Nat} (h : uqa g es) (ho : una g) : umd (ulg true g) = some ((true, g), []) := by
 obtain ⟨h1, h2, h3⟩ := uow h
 unfold umd ulg
 have hne : Lib.itoa g.out ≠ wOff := un3 (.inr (.inr (by decide))) _
 simp only [if_true, List.head?_cons, Option.some.injEq, hne, if_false, ukt h1, Option.bind_some]
 rw [upe g.nodes _ 0 (fun n hn => ⟨h3 n hn, ho n hn⟩) (by omega) (usw _)]
 rfl
theorem urf (g : Gr) : umd (ulg false g) = some ((false, Gr.zero), []) := rfl
theorem read_opr {k : Int} {o : Opr} {es : List Nat} (h : oprG k o es) (hk0 : 1 ≤ k) (hk1 : k ≤ 11) (ok : upj (opA o)) : ∃ w r, uml o ++ ulb o = w :: r ∧ ulx w r = some (opA o, []) := by
 obtain ⟨i, a, _, hi, ⟨t, e2, _, ht, ⟨at_, e3, _, ha, ⟨l, e4, _, hl, ⟨rfl, rfl⟩, rfl⟩, rfl⟩, rfl⟩, rfl⟩ := h
 by_cases k1 : k = 1
 ·subst k1
  obtain ⟨rfl, -⟩ : i = (0, 0) ∧ a = [] := by simpa [GIte, ulk] using hi
  have ht' := us8 (show idG t e2 by simpa [GIte] using ht)
  have ha' : InR at_ := (show numG at_ e3 by simpa [GIte] using ha).1
  obtain ⟨rfl, -⟩ : l = Lk.zero ∧ e4 = [] := by simpa [usy, GIte, ulk] using hl
  refine ⟨un0, nums [t.1, t.2, at_], rfl, ?_⟩
  show umu _ = _
  simp only [umu, nums, List.map_cons, List.map_nil, ulf ht'.1 ht'.2, ukt ha', Option.bind_some, Option.map_some]
 have hi' : InR i.1 ∧ InR i.2 := us8 (show idG i a by simpa [GIte, k1] using hi)
 by_cases k3 : k = 3
 ·subst k3
  have ht' := us8 (show idG t e2 by simpa [GIte] using ht)
  have ha' : InR at_ := (show numG at_ e3 by simpa [GIte] using ha).1
  obtain ⟨rfl, -⟩ : l = Lk.zero ∧ e4 = [] := by simpa [usy, GIte, ulk] using hl
  refine ⟨umg, nums [i.1, i.2, t.1, t.2, at_], rfl, ?_⟩
  show uln _ = _
  simp only [uln, nums, List.map_cons, List.map_nil, ulf hi'.1 hi'.2, ulf ht'.1 ht'.2, ukt ha', Option.bind_some, Option.map_some]
 obtain ⟨rfl, -⟩ : t = (0, 0) ∧ e2 = [] := by simpa [GIte, ulk, k1, k3] using ht
 by_cases k4 : k = 4
 ·subst k4
  have ha' : InR at_ := (show numG at_ e3 by simpa [GIte] using ha).1
  obtain ⟨rfl, -⟩ : l = Lk.zero ∧ e4 = [] := by simpa [usy, GIte, ulk] using hl
  refine ⟨um0, nums [i.1, i.2, at_], rfl, ?_⟩
  show ul6 _ = _
  simp only [ul6, nums, List.map_cons, List.map_nil, ulf hi'.1 hi'.2, ukt ha', Option.bind_some, Option.map_some]
 obtain ⟨rfl, -⟩ : at_ = 0 ∧ e3 = [] := by simpa [GIte, ulk, k1, k3, k4] using ha
 rcases hl with ⟨rfl, x, e1, _, h1, ⟨y, e2, _, h2, ⟨rfl, rfl⟩, rfl⟩, rfl⟩ | ⟨h5, h⟩
 ·refine ⟨uny, nums [i.1, i.2, x, y], rfl, ?_⟩
  show um2 _ = _
  simp only [um2, nums, List.map_cons, List.map_nil, ulf hi'.1 hi'.2, ukt h1.1, ukt h2.1, Option.bind_some, Option.map_some]
  rfl
 rcases h with ⟨rfl, f, e1, _, h1, h, rfl⟩ | ⟨h6, h⟩
 ·rcases h with ⟨rfl, b, e2, _, h2, ⟨rfl, rfl⟩, rfl⟩ | ⟨hf, ⟨rfl, rfl⟩⟩
  ·have hb := ur8 h2
   refine ⟨wCut, nums [i.1, i.2] ++ nums [(Rc.of b).x0, (Rc.of b).y0, (Rc.of b).x1, (Rc.of b).y1], rfl, ?_⟩
   show cutP _ = _
   have hne : Lib.itoa (Rc.of b).x0 ≠ wOff := un3 (.inr (.inr (by decide))) _
   simp only [cutP, nums, List.map_cons, List.map_nil, List.cons_append, List.nil_append, ulf hi'.1 hi'.2, Option.bind_some, List.head?_cons, Option.some.injEq, hne, if_false, uto hb, Option.map_some]
   rfl
  ·refine ⟨wCut, nums [i.1, i.2] ++ [wOff], rfl, ?_⟩
   show cutP _ = _
   simp only [cutP, nums, List.map_cons, List.map_nil, List.cons_append, List.nil_append, ulf hi'.1 hi'.2, Option.bind_some, List.head?_cons, if_true]
   rfl
 rcases h with ⟨rfl, x, e1, _, h1, ⟨rfl, rfl⟩, rfl⟩ | ⟨h7, h⟩
 ·refine ⟨usg, nums [i.1, i.2, x], rfl, ?_⟩
  show uqg _ = _
  simp only [uqg, nums, List.map_cons, List.map_nil, ulf hi'.1 hi'.2, ukt h1.1, Option.bind_some, Option.map_some]
  rfl
 rcases h with ⟨rfl, x, e1, _, h1, ⟨rfl, rfl⟩, rfl⟩ | ⟨h8, h⟩
 ·refine ⟨usd, nums [i.1, i.2, x], rfl, ?_⟩
  show up4 _ = _
  simp only [up4, nums, List.map_cons, List.map_nil, ulf hi'.1 hi'.2, ukt h1.1, Option.bind_some, Option.map_some]
  rfl
 rcases h with ⟨rfl, c, e1, _, h1, ⟨rfl, rfl⟩, rfl⟩ | ⟨h9, h⟩
 ·have okc := ok.1 rfl
  obtain ⟨kk, f1, _, g1, h, rfl⟩ := h1
  rcases h with ⟨rfl, ⟨b, e2, _, hb, ⟨p, e3, _, hp, ⟨rfl, rfl⟩, rfl⟩, rfl⟩⟩ | ⟨hk1', h⟩
  ·have hb := ur8 hb
   have hp := (une hp).2
   refine ⟨wBox, nums [i.1, i.2, (Rc.of b).x0, (Rc.of b).y0, (Rc.of b).x1, (Rc.of b).y1] ++ [pxW (Pxl.of p)], rfl, ?_⟩
   show upk _ = _
   simp only [upk, nums, List.map_cons, List.map_nil, List.cons_append, List.nil_append, ulf hi'.1 hi'.2, Option.bind_some, uto hb, pxP, pxT_pxW hp, Option.map_some]
   rfl
  ·rcases h with ⟨rfl, ⟨x, f1, _, g1, ⟨y, f2, _, g2, ⟨w, f3, _, g3, ⟨h, f4, _, g4, ⟨t, f5, _, g5, ⟨ps, f6, _, g6, ⟨rfl, rfl⟩, rfl⟩, rfl⟩, rfl⟩, rfl⟩, rfl⟩, rfl⟩⟩ | ⟨hk2, ⟨rfl, rfl⟩⟩
   ·have hp := (ums g6).2
    refine ⟨umk, nums [i.1, i.2, x, y, w, h, t] ++ (ps.map Pxl.of).map pxW, rfl, ?_⟩
    show ull _ = _
    simp only [ull, nums, List.map_cons, List.map_nil, List.cons_append, List.nil_append, ulf hi'.1 hi'.2, Option.bind_some, ukt g1.1, ukt g2.1, ukt g3.1, ukt g4.1, ukt g5.1, uu3 _ hp, Option.map_some]
    rfl
   ·obtain rfl : kk = 0 := by
     have a0 : 0 ≤ kk := okc.1
     have a1 : kk ≤ 2 := okc.2
     omega
    refine ⟨usf, nums [i.1, i.2], rfl, ?_⟩
    show uqp _ = _
    simp only [uqp, nums, List.map_cons, List.map_nil, ulf hi'.1 hi'.2, Option.map_some]
    rfl
 rcases h with ⟨rfl, f, e1, _, h1, h, rfl⟩ | ⟨h10, h⟩
 ·rcases h with ⟨rfl, b, e2, _, h2, ⟨rfl, rfl⟩, rfl⟩ | ⟨hf, ⟨rfl, rfl⟩⟩
  ·refine ⟨ul3, nums [i.1, i.2] ++ ulg true b, rfl, ?_⟩
   show ulz _ = _
   simp only [ulz, nums, List.map_cons, List.map_nil, List.cons_append, List.nil_append, ulf hi'.1 hi'.2, Option.bind_some, upf h2 (ok.2.1 rfl rfl), Option.map_some]
   rfl
  ·refine ⟨ul3, nums [i.1, i.2] ++ ulg false Gr.zero, rfl, ?_⟩
   show ulz _ = _
   simp only [ulz, nums, List.map_cons, List.map_nil, List.cons_append, List.nil_append, ulf hi'.1 hi'.2, Option.bind_some, urf, Option.map_some]
   rfl
 rcases h with ⟨rfl, f, e1, _, h1, h, rfl⟩ | ⟨h11, h⟩
 ·rcases h with ⟨rfl, b, e2, _, h2, ⟨rfl, rfl⟩, rfl⟩ | ⟨hf, ⟨rfl, rfl⟩⟩
  ·refine ⟨uls, nums [i.1, i.2] ++ ulg true b, rfl, ?_⟩
   show ulj _ = _
   simp only [ulj, nums, List.map_cons, List.map_nil, List.cons_append, List.nil_append, ulf hi'.1 hi'.2, Option.bind_some, upf h2 (ok.2.2 rfl rfl), Option.map_some]
   rfl
  ·refine ⟨uls, nums [i.1, i.2] ++ ulg false Gr.zero, rfl, ?_⟩
   show ulj _ = _
   simp only [ulj, nums, List.map_cons, List.map_nil, List.cons_append, List.nil_append, ulf hi'.1 hi'.2, Option.bind_some, urf, Option.map_some]
   rfl
 obtain ⟨rfl, rfl⟩ := h
 obtain rfl : k = 2 := by omega
 refine ⟨unz, nums [i.1, i.2], rfl, ?_⟩
 show um9 _ = _
 simp only [um9, nums, List.map_cons, List.map_nil, ulf hi'.1 hi'.2, Option.map_some]
theorem uv8 (c : Cf) (hr : InR c.room) : uqq (Lib.itoa c.room :: um7 c) = some (⟨13, Opr.zero, 0, 0, c⟩, []) := by
 obtain ⟨f, a, r, d, n⟩ := c
 simp only [uqq, ukt hr, Option.map_some]
 cases f <;> cases a <;> cases r <;> cases d <;> rfl
theorem uq1 {a : Ac} {es : List Nat} (h : actG a es) (ok : upj a) : ∃ w r, ukp a = w :: r ∧ ulx w r = some (a, []) := by
 obtain ⟨b, _, _, ⟨hb, rfl⟩, h, rfl⟩ := h
 rcases h with ⟨hr, h⟩ | ⟨_, h⟩
 ·rcases h with ⟨rfl, x, e1, _, h1, ⟨y, e2, _, h2, ⟨rfl, rfl⟩, rfl⟩, rfl⟩ | ⟨h12, h⟩
  ·refine ⟨usc, nums [x, y], rfl, ?_⟩
   show upt _ = _
   simp only [upt, nums, List.map_cons, List.map_nil, ukt h1.1, ukt h2.1, Option.bind_some, Option.map_some]
  rcases h with ⟨rfl, c, e1, _, ⟨n, f1, _, _, ⟨r, f2, _, h2, ⟨rfl, rfl⟩, rfl⟩, rfl⟩, ⟨rfl, rfl⟩, rfl⟩ | ⟨h13, h⟩
  ·refine ⟨uql, _, rfl, ?_⟩
   exact uv8 _ h2.1
  rcases h with ⟨rfl, ⟨rfl, rfl⟩⟩ | ⟨h14, h⟩
  ·exact ⟨umj, [], rfl, rfl⟩
  obtain ⟨o, e1, _, h1, ⟨rfl, rfl⟩, rfl⟩ := h
  have hk : o.kind = (b : Int) := (uu5 h1).2.1
  obtain ⟨w, r, e, hr'⟩ := read_opr h1 (by omega) (by omega) (by
   show upj _
   exact ok)
  refine ⟨w, r, ?_, ?_⟩
  ·unfold ukp
   simp only
   rw [if_neg (by omega), if_neg (by omega), if_neg (by omega), e]
  ·rw [hr', opA, hk]
 ·exact h.elim
theorem one_words {a : Ac} {es : List Nat} (h : actG a es) (hp : (uk6 a).isSome = true) (ok : upj a) : oneT (ukp a) = some a := by
 obtain ⟨w, r, e, hr⟩ := uq1 h ok
 rw [e]
 simp only [oneT, hr, Option.bind_some]
 rw [if_pos ⟨trivial, hp⟩]
end Go.Txt
