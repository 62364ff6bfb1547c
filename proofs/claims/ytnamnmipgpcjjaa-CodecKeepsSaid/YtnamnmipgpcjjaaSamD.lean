/- Acts as bytes: two lists of nodes are held against each other. -/
import Derived.Test.YtnamnmipgpcjjaaSamC
namespace Go.Gou
open Go.RowKit

/-- Nodes with lists of a length that is borne. -/
def NodesBorne (ns : List GNode) : Prop := ns.length ≤ 1000000000 ∧ ∀ (i : Nat) (n : GNode), ns[i]? = some n → n.ins.length ≤ 1000000000 ∧ n.ps.length ≤ 1000000000

end Go.Gou
namespace Go.Proofs.Ytnamnmipgpcjjaa
open Go.RowKit Go.Gou

set_option maxRecDepth 100000 in
set_option maxHeartbeats 2000000 in
theorem eqNodes_any (w : World) (G1 G2 : Nat → Prop) (p1 p2 : Option Addr) (c1 c2 : Nat) (xs ys : List GNode) (hx : NodesR G1 w (.slice p1 xs.length c1) xs) (hy : NodesR G2 w (.slice p2 ys.length c2) ys) (bx : NodesBorne xs) (by_ : NodesBorne ys) :
    Calls Try.prog 61 #[.slice p1 xs.length c1, .slice p2 ys.length c2, .func (.func 62) #[] #[]] w fun e w' => e = .returned (.bool (decide (xs = ys))) ∧ Gou.Mod (fun _ => False) w w' := by
  have Hx := Lib.hid hx
  have Hy := Lib.hid hy
  have hl := bx.1
  have Bx := Lib.hid bx
  have By := Lib.hid by_
  clear hx hy bx by_
  go_enter Try.func61, Try.ntmps61
  by_cases hlen : xs.length = ys.length
  · have e1 : ((xs.length : Int) != (ys.length : Int)) = false := by simp [hlen]
    have Hlen := Lib.hid hlen
    clear hlen
    go_wp2_with fail
    go_loopw [17] (fun c wr => ∃ i : Nat, c = .int .i64 i ∧ i ≤ xs.length ∧ xs.take i = ys.take i ∧ Gou.Mod (fun _ => False) w wr) (fun c _ => xs.length - (intOf c).toNat)
    case atStart => exact ⟨0, rfl, by omega, by simp, Gou.Mod.refl _ _⟩
    case round =>
      obtain ⟨i, rfl, hi, ht, hm⟩ := hrel
      have Ht := Lib.hid ht
      have Hm := Lib.hid hm
      clear ht hm
      by_cases hil : i < xs.length
      · have e2 : decide ((i : Int) < (xs.length : Int)) = true := by simp; omega
        have hil2 : i < ys.length := by have := Hlen.out; omega
        obtain ⟨-, b1, o1, rfl, hb1, -, hc1⟩ := (Hx.out.mod Hm.out (fun _ _ _ h => h)).cells (by omega)
        obtain ⟨-, b2, o2, rfl, hb2, -, hc2⟩ := (Hy.out.mod Hm.out (fun _ _ _ h => h)).cells (by omega)
        have g1 := List.getElem?_eq_getElem hil
        have g2 := List.getElem?_eq_getElem hil2
        obtain ⟨pi, ci, pp, cp, k0, k1, k2, hI, hP⟩ := hc1 i _ g1
        obtain ⟨qi, di, qp, dp, l0, l1, l2, jI, jP⟩ := hc2 i _ g2
        have B1 := Lib.hid (Bx.out.2 i _ g1)
        have B2 := Lib.hid (By.out.2 i _ g2)
        have hiI : (i : Int) < (xs.length : Int) := by omega
        have hiJ : (i : Int) < (ys.length : Int) := by omega
        have hi0I : (0 : Int) ≤ (i : Int) := by omega
        have Hne := Lib.hid (fun he => ne_of_get (i := i) hil hil2 he : xs[i] ≠ ys[i] → xs ≠ ys)
        have Heq := Lib.hid (fun he => take_eq_snoc hil hil2 Ht.out he : xs[i] = ys[i] → xs.take (i + 1) = ys.take (i + 1))
        clear hc1 hc2 g1 g2
        generalize xs[i] = x at *
        generalize ys[i] = y at *
        have HI := Lib.hid hI
        have HP := Lib.hid hP
        have JI := Lib.hid jI
        have JP := Lib.hid jP
        clear hI hP jI jP
        have HM2 : Hid (Gou.Mod (fun _ => False) wr ((wr.alloc (.cells #[.int .i64 x.op, .slice pi x.ins.length ci, .slice pp x.ps.length cp] 82)).alloc (.cells #[.int .i64 y.op, .slice qi y.ins.length di, .slice qp y.ps.length dp] 82))) := Lib.hid ((Gou.Mod.alloc _ _ _).trans' (Gou.Mod.alloc _ _ _))
        go_wp2_with fail
        refine (sameNode_any _ G1 G2 pi pp qi qp ci cp di dp x y (RowG.mod HI.out HM2.out (fun _ _ _ h => h)) (RowG.mod HP.out HM2.out (fun _ _ _ h => h)) (RowG.mod JI.out HM2.out (fun _ _ _ h => h)) (RowG.mod JP.out HM2.out (fun _ _ _ h => h)) B1.out.1 B1.out.2 B2.out.1 B2.out.2).mono ?_
        rintro e w3 ⟨rfl, hm3⟩
        have HM3 := Lib.hid ((Hm.out.trans' HM2.out).trans' hm3)
        clear hm3
        by_cases hxy : x = y
        · have e3 : decide (x = y) = true := by simp [hxy]
          have Hs := Lib.hid (Heq.out hxy)
          clear hxy
          go_wp2_with fail
          go_roundw
          case rel => exact ⟨i + 1, by go_num, by omega, Hs.out, HM3.out⟩
          case measure => simp [intOf]; omega
        · have e3 : decide (x = y) = false := by simp [hxy]
          have Hs := Lib.hid (Hne.out hxy)
          clear hxy
          go_wp2_with fail
          go_ret
          exact ⟨by simp [Hs.out], HM3.out⟩
      · obtain rfl : i = xs.length := by omega
        have e2 : decide ((xs.length : Int) < (xs.length : Int)) = false := by simp
        have Hs : Hid (xs = ys) := Lib.hid (by
          have h1 := Ht.out
          rw [List.take_length, Hlen.out, List.take_length] at h1
          exact h1)
        go_wp2_with fail
        go_ret
        exact ⟨by simp [Hs.out], Hm.out⟩
  · have e1 : ((xs.length : Int) != (ys.length : Int)) = true := by simp; omega
    have Hs : Hid (xs ≠ ys) := Lib.hid (fun h => hlen (by rw [h]))
    clear hlen
    go_wp2_with fail
    go_ret
    exact ⟨by simp [Hs.out], Gou.Mod.refl _ _⟩

end Go.Proofs.Ytnamnmipgpcjjaa
