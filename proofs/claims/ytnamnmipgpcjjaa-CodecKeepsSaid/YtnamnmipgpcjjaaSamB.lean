/- Acts as bytes: two lists of pixels are held against each other. -/
import Derived.Test.YtnamnmipgpcjjaaSamP
namespace Go.Proofs.Ytnamnmipgpcjjaa
open Go.RowKit Go.Gou

set_option maxRecDepth 100000 in
set_option maxHeartbeats 1000000 in
theorem eqPix_any (w : World) (G1 G2 : Nat → Prop) (p1 p2 : Option Addr) (c1 c2 : Nat) (xs ys : List Pxl) (hx : PixR G1 w (.slice p1 xs.length c1) xs) (hy : PixR G2 w (.slice p2 ys.length c2) ys) (hl : xs.length ≤ 1000000000) (hl2 : ys.length ≤ 1000000000) :
    Calls Try.prog 60 #[.slice p1 xs.length c1, .slice p2 ys.length c2] w fun e w' => e = .returned (.bool (decide (xs = ys))) ∧ Gou.Mod (fun _ => False) w w' := by
  have Hx := Lib.hid hx
  have Hy := Lib.hid hy
  clear hx hy
  go_enter Try.func60, Try.ntmps60
  by_cases hlen : xs.length = ys.length
  · have e1 : ((xs.length : Int) != (ys.length : Int)) = false := by simp [hlen]
    have Hlen := Lib.hid hlen
    clear hlen
    go_wp2_with fail
    go_loopw [13] (fun c wr => ∃ i : Nat, c = .int .i64 i ∧ i ≤ xs.length ∧ xs.take i = ys.take i ∧ Gou.Mod (fun _ => False) w wr) (fun c _ => xs.length - (intOf c).toNat)
    case atStart => exact ⟨0, rfl, by omega, by simp, Gou.Mod.refl _ _⟩
    case round =>
      obtain ⟨i, rfl, hi, ht, hm⟩ := hrel
      have Ht := Lib.hid ht
      have Hm := Lib.hid hm
      clear ht hm
      by_cases hil : i < xs.length
      · have e2 : decide ((i : Int) < (xs.length : Int)) = true := by simp; omega
        have hil2 : i < ys.length := by have := Hlen.out; omega
        obtain ⟨-, b1, o1, rfl, hb1, -, hc1⟩ := Hx.out.cells (by omega)
        obtain ⟨-, b2, o2, rfl, hb2, -, hc2⟩ := Hy.out.cells (by omega)
        obtain ⟨k0, k1, k2, k3⟩ := hc1 i hil
        obtain ⟨l0, l1, l2, l3⟩ := hc2 i hil2
        have hm1 : ∀ j, wr.cell? ⟨b1, j, none⟩ = w.cell? ⟨b1, j, none⟩ := fun j => Hm.out.cell (p := ⟨b1, j, none⟩) hb1 (fun h => h)
        have hm2 : ∀ j, wr.cell? ⟨b2, j, none⟩ = w.cell? ⟨b2, j, none⟩ := fun j => Hm.out.cell (p := ⟨b2, j, none⟩) hb2 (fun h => h)
        rw [← hm1] at k0 k1 k2 k3
        rw [← hm2] at l0 l1 l2 l3
        clear hm1 hm2
        have hiI : (i : Int) < (xs.length : Int) := by omega
        have hiJ : (i : Int) < (ys.length : Int) := by omega
        have hi0I : (0 : Int) ≤ (i : Int) := by omega
        have Hne := Lib.hid (fun he => ne_of_get (i := i) hil hil2 he : xs[i] ≠ ys[i] → xs ≠ ys)
        have Heq := Lib.hid (fun he => take_eq_snoc hil hil2 Ht.out he : xs[i] = ys[i] → xs.take (i + 1) = ys.take (i + 1))
        clear hc1 hc2
        generalize xs[i] = x at *
        generalize ys[i] = y at *
        obtain ⟨x0, x1, x2, x3⟩ := x
        obtain ⟨y0, y1, y2, y3⟩ := y
        simp only at k0 k1 k2 k3 l0 l1 l2 l3
        simp only [Pxl.mk.injEq] at Hne Heq
        obtain ⟨bq, hq⟩ : ∃ bq, bq = decide (x0 = y0 ∧ x1 = y1 ∧ x2 = y2 ∧ x3 = y3) := ⟨_, rfl⟩
        have hne : ∀ w : World, (binOp .neq 27 (.agg #[.int .u8 (x0 : Nat), .int .u8 (x1 : Nat), .int .u8 (x2 : Nat), .int .u8 (x3 : Nat)]) (.agg #[.int .u8 (y0 : Nat), .int .u8 (y1 : Nat), .int .u8 (y2 : Nat), .int .u8 (y3 : Nat)])).run Try.prog w = .ok (.bool (!bq)) w := fun w => by rw [hq]; exact px_neq x0 x1 x2 x3 y0 y1 y2 y3 w
        cases bq with
        | true =>
          have Hs := Lib.hid (Heq.out (by simpa using hq.symm))
          clear hq
          go_wp2_with fail
          go_quiet (fail)
          go_wp2_with fail
          go_roundw
          case rel => exact ⟨i + 1, by go_num, by omega, Hs.out, Hm.out.trans' (Gou.Mod.drewN _ _ _)⟩
          case measure => simp [intOf]; omega
        | false =>
          have Hs := Lib.hid (Hne.out (by simpa using hq.symm))
          clear hq
          go_wp2_with fail
          go_quiet (fail)
          go_wp2_with fail
          go_ret
          exact ⟨by simp [Hs.out], Hm.out.trans' (Gou.Mod.drewN _ _ _)⟩
      · obtain rfl : i = xs.length := by omega
        have e2 : decide ((xs.length : Int) < (xs.length : Int)) = false := by simp
        have Hs : Hid (xs = ys) := Lib.hid (by
          have h1 := Ht.out
          rw [List.take_length, Hlen.out, List.take_length] at h1
          exact h1)
        go_wp2_with fail
        go_ret
        exact ⟨by simp [Hs.out], Hm.out⟩
  · have e1 : ((xs.length : Int) != (ys.length : Int)) = true := by simp; omega
    have Hs : Hid (xs ≠ ys) := Lib.hid (fun h => hlen (by rw [h]))
    clear hlen
    go_wp2_with fail
    go_ret
    exact ⟨by simp [Hs.out], Gou.Mod.refl _ _⟩

end Go.Proofs.Ytnamnmipgpcjjaa
