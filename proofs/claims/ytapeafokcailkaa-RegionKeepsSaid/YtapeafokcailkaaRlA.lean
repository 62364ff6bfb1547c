/- Regions: two rows of spans, or of rectangles, are held against each other. -/
import Derived.Test.YtapeafokcailkaaRkF
import Derived.Laws.StructEq
set_option linter.unusedSimpArgs false
set_option linter.unusedVariables false
set_option linter.unusedSectionVars false
set_option linter.constructorNameAsVariable false
namespace Go.Gou
theorem take_eq_snoc {α : Type} [DecidableEq α] {xs ys : List α} {i : Nat} (hx : i < xs.length) (hy : i < ys.length) (h : xs.take i = ys.take i) (he : xs[i] = ys[i]) : xs.take (i + 1) = ys.take (i + 1) := by
  rw [List.take_add_one, List.take_add_one, h, List.getElem?_eq_getElem hx, List.getElem?_eq_getElem hy, he]
theorem ne_of_get {α : Type} {xs ys : List α} {i : Nat} (hx : i < xs.length) (hy : i < ys.length) (he : xs[i] ≠ ys[i]) : xs ≠ ys := fun h => by subst h; exact he rfl
end Go.Gou
namespace Go.Proofs.Ytapeafokcailkaa
open Go.RowKit Go.Gou Go.Reg Go.Shelf Go.Lib
set_option maxRecDepth 100000

theorem neqSp : NeqAt Try.prog 63 (fun x : Sp => .agg #[.int .i64 x.a, .int .i64 x.b]) (fun x y => decide (x = y)) := by
  refine ⟨fun x y w => ?_, GuardAt.agg _ (by kernel_rfl)⟩
  obtain ⟨x0, x1⟩ := x
  obtain ⟨y0, y1⟩ := y
  have u3 := Try.underlying3
  have a3 := Try.isAgg3
  have z3 := Try.sizeOf3
  have hS : Try.prog.underlying 63 = some (.struct (Try.prog.fieldsOf 63)) := by kernel_rfl
  have hp : Try.prog.stoodInHeld 63 = false := by kernel_rfl
  have h1 : (Op.equal 63 (.agg #[.int .i64 x0, .int .i64 x1]) (.agg #[.int .i64 y0, .int .i64 y1])).run Try.prog w = .ok (decide ((⟨x0, x1⟩ : Sp) = ⟨y0, y1⟩)) w := by
    show (Op.equalIn (9999 + 1) _ _ _).run _ _ = _
    rw [run_equalIn_agg w 9999 63 _ _ hS hp]
    simp only [Program.fieldsOf, Try.underlying63]
    go_simp
    by_cases h1 : x0 = y0 <;> by_cases h2 : x1 = y1 <;> simp [h1, h2]
  simp only [binOp, Sem.run_bind, h1, Result.andThen_ok, Sem.run_pure]

theorem neqRt : NeqAt Try.prog 36 (fun x : Rt => .agg #[.int .i64 x.x0, .int .i64 x.y0, .int .i64 x.x1, .int .i64 x.y1]) (fun x y => decide (x = y)) := by
  refine ⟨fun x y w => ?_, GuardAt.agg _ (by kernel_rfl)⟩
  obtain ⟨x0, x1, x2, x3⟩ := x
  obtain ⟨y0, y1, y2, y3⟩ := y
  have u3 := Try.underlying3
  have a3 := Try.isAgg3
  have z3 := Try.sizeOf3
  have hS : Try.prog.underlying 36 = some (.struct (Try.prog.fieldsOf 36)) := by kernel_rfl
  have hp : Try.prog.stoodInHeld 36 = false := by kernel_rfl
  have h1 : (Op.equal 36 (.agg #[.int .i64 x0, .int .i64 x1, .int .i64 x2, .int .i64 x3]) (.agg #[.int .i64 y0, .int .i64 y1, .int .i64 y2, .int .i64 y3])).run Try.prog w = .ok (decide ((⟨x0, x1, x2, x3⟩ : Rt) = ⟨y0, y1, y2, y3⟩)) w := by
    show (Op.equalIn (9999 + 1) _ _ _).run _ _ = _
    rw [run_equalIn_agg w 9999 36 _ _ hS hp]
    simp only [Program.fieldsOf, Try.underlying36]
    go_simp
    by_cases h1 : x0 = y0 <;> by_cases h2 : x1 = y1 <;> by_cases h3 : x2 = y2 <;> by_cases h4 : x3 = y3 <;> simp [h1, h2, h3, h4]
  simp only [binOp, Sem.run_bind, h1, Result.andThen_ok, Sem.run_pure]

set_option maxHeartbeats 4000000 in
theorem eqSp_any (w : World) (G1 G2 : Nat → Prop) (p1 p2 : Option Addr) (c1 c2 : Nat) (xs ys : List Sp) (hx : SpR G1 w (.slice p1 xs.length c1) xs) (hy : SpR G2 w (.slice p2 ys.length c2) ys) (hl : xs.length ≤ 1000000000000) (hl2 : ys.length ≤ 1000000000000) :
    Calls Try.prog 56 #[.slice p1 xs.length c1, .slice p2 ys.length c2] w fun e w' => e = .returned (.bool (decide (xs = ys))) ∧ Gou.Mod (fun _ => False) w w' := by
  have Hx := Lib.hid hx
  have Hy := Lib.hid hy
  have Hl := Lib.hid hl
  clear hx hy hl hl2
  have hne' : ∀ (x y : Sp) (w : World), Sem.run Try.prog (binOp .neq 63 (.agg #[.int .i64 x.a, .int .i64 x.b]) (.agg #[.int .i64 y.a, .int .i64 y.b])) w = .ok (.bool (!decide (x = y))) w := neqSp.1
  have hgd' : ∀ (op : BinOp) (a b : Operand) (x y : Sp) (w : World), Sem.run Try.prog (eqGuard op 63 a b (.agg #[.int .i64 x.a, .int .i64 x.b]) (.agg #[.int .i64 y.a, .int .i64 y.b])) w = .ok () w := neqSp.2
  have Hne' := Lib.hid hne'
  have Hgd' := Lib.hid hgd'
  clear hne' hgd'
  go_enter Try.func56, Try.ntmps56
  by_cases hlen : xs.length = ys.length
  · have e1 : ((xs.length : Int) != (ys.length : Int)) = false := by simp [hlen]
    have Hlen := Lib.hid hlen
    clear hlen
    go_wp2_with fail
    go_loopw [13] (fun c wr => ∃ i : Nat, c = .int .i64 i ∧ i ≤ xs.length ∧ xs.take i = ys.take i ∧ Gou.Mod (fun _ => False) w wr) (fun c _ => xs.length - (intOf c).toNat)
    case atStart => exact ⟨0, rfl, by omega, by simp, Gou.Mod.refl _ _⟩
    case round =>
      obtain ⟨i, rfl, hi, ht, hm⟩ := hrel
      have Ht := Lib.hid ht
      have Hm := Lib.hid hm
      clear ht hm
      by_cases hil : i < xs.length
      · have e2 : decide ((i : Int) < (xs.length : Int)) = true := by simp; omega
        have hil2 : i < ys.length := by have := Hlen.out; omega
        obtain ⟨-, b1, o1, rfl, hb1, -, hc1⟩ := Hx.out.cells (by omega)
        obtain ⟨-, b2, o2, rfl, hb2, -, hc2⟩ := Hy.out.cells (by omega)
        obtain ⟨k0, k1⟩ := hc1 i hil
        obtain ⟨m0, m1⟩ := hc2 i hil2
        rw [← Hm.out.cell (p := ⟨b1, o1 + i * 2, none⟩) hb1 (fun h => h)] at k0
        rw [← Hm.out.cell (p := ⟨b1, o1 + i * 2 + 1, none⟩) hb1 (fun h => h)] at k1
        rw [← Hm.out.cell (p := ⟨b2, o2 + i * 2, none⟩) hb2 (fun h => h)] at m0
        rw [← Hm.out.cell (p := ⟨b2, o2 + i * 2 + 1, none⟩) hb2 (fun h => h)] at m1
        have hiI : (i : Int) < (xs.length : Int) := by omega
        have hiJ : (i : Int) < (ys.length : Int) := by omega
        have hi0I : (0 : Int) ≤ (i : Int) := by omega
        have wi : IntKind.i64.wrap ((i : Int) + 1) = (i : Int) + 1 := wrap_id (by omega) (by have := Hl.out; omega)
        have Hn := Lib.hid (fun he => ne_of_get (i := i) hil hil2 he : xs[i] ≠ ys[i] → xs ≠ ys)
        have He := Lib.hid (fun he => take_eq_snoc hil hil2 Ht.out he : xs[i] = ys[i] → xs.take (i + 1) = ys.take (i + 1))
        clear hc1 hc2
        generalize xs[i] = x at *
        generalize ys[i] = y at *
        have hne2 := fun w => Hne'.out x y w
        have hgd2 := fun op a b w => Hgd'.out op a b x y w
        obtain ⟨q, hq⟩ : ∃ q, q = decide (x = y) := ⟨_, rfl⟩
        have Hq := Lib.hid hq
        rw [← hq] at hne2
        clear hq
        cases q with
        | true =>
          have Hs := Lib.hid (He.out (of_decide_eq_true Hq.out.symm))
          clear Hq
          go_wp2_with fail
          go_quiet (fail)
          go_wp2_with fail
          go_roundw
          case rel => exact ⟨i + 1, by go_num, by omega, Hs.out, Hm.out.trans' (Gou.Mod.drewN _ _ _)⟩
          case measure => simp [intOf, wi]; omega
        | false =>
          have Hs := Lib.hid (Hn.out (of_decide_eq_false Hq.out.symm))
          clear Hq
          go_wp2_with fail
          go_quiet (fail)
          go_wp2_with fail
          go_ret
          exact ⟨by simp [Hs.out], Hm.out.trans' (Gou.Mod.drewN _ _ _)⟩
      · obtain rfl : i = xs.length := by omega
        have e2 : decide ((xs.length : Int) < (xs.length : Int)) = false := by simp
        have Hs : Hid (xs = ys) := Lib.hid (by
          have h1 := Ht.out
          rw [List.take_length, Hlen.out, List.take_length] at h1
          exact h1)
        go_wp2_with fail
        go_ret
        exact ⟨by simp [Hs.out], Hm.out⟩
  · have e1 : ((xs.length : Int) != (ys.length : Int)) = true := by simp; omega
    have Hs : Hid (xs ≠ ys) := Lib.hid (fun h => hlen (by rw [h]))
    clear hlen
    go_wp2_with fail
    go_ret
    exact ⟨by simp [Hs.out], Gou.Mod.refl _ _⟩

set_option maxHeartbeats 4000000 in
theorem eqRt_any (w : World) (G1 G2 : Nat → Prop) (p1 p2 : Option Addr) (c1 c2 : Nat) (xs ys : List Rt) (hx : RtR G1 w (.slice p1 xs.length c1) xs) (hy : RtR G2 w (.slice p2 ys.length c2) ys) (hl : xs.length ≤ 1000000000000) (hl2 : ys.length ≤ 1000000000000) :
    Calls Try.prog 34 #[.slice p1 xs.length c1, .slice p2 ys.length c2] w fun e w' => e = .returned (.bool (decide (xs = ys))) ∧ Gou.Mod (fun _ => False) w w' := by
  have Hx := Lib.hid hx
  have Hy := Lib.hid hy
  have Hl := Lib.hid hl
  clear hx hy hl hl2
  have hne' : ∀ (x y : Rt) (w : World), Sem.run Try.prog (binOp .neq 36 (.agg #[.int .i64 x.x0, .int .i64 x.y0, .int .i64 x.x1, .int .i64 x.y1]) (.agg #[.int .i64 y.x0, .int .i64 y.y0, .int .i64 y.x1, .int .i64 y.y1])) w = .ok (.bool (!decide (x = y))) w := neqRt.1
  have hgd' : ∀ (op : BinOp) (a b : Operand) (x y : Rt) (w : World), Sem.run Try.prog (eqGuard op 36 a b (.agg #[.int .i64 x.x0, .int .i64 x.y0, .int .i64 x.x1, .int .i64 x.y1]) (.agg #[.int .i64 y.x0, .int .i64 y.y0, .int .i64 y.x1, .int .i64 y.y1])) w = .ok () w := neqRt.2
  have Hne' := Lib.hid hne'
  have Hgd' := Lib.hid hgd'
  clear hne' hgd'
  go_enter Try.func34, Try.ntmps34
  by_cases hlen : xs.length = ys.length
  · have e1 : ((xs.length : Int) != (ys.length : Int)) = false := by simp [hlen]
    have Hlen := Lib.hid hlen
    clear hlen
    go_wp2_with fail
    go_loopw [13] (fun c wr => ∃ i : Nat, c = .int .i64 i ∧ i ≤ xs.length ∧ xs.take i = ys.take i ∧ Gou.Mod (fun _ => False) w wr) (fun c _ => xs.length - (intOf c).toNat)
    case atStart => exact ⟨0, rfl, by omega, by simp, Gou.Mod.refl _ _⟩
    case round =>
      obtain ⟨i, rfl, hi, ht, hm⟩ := hrel
      have Ht := Lib.hid ht
      have Hm := Lib.hid hm
      clear ht hm
      by_cases hil : i < xs.length
      · have e2 : decide ((i : Int) < (xs.length : Int)) = true := by simp; omega
        have hil2 : i < ys.length := by have := Hlen.out; omega
        obtain ⟨-, b1, o1, rfl, hb1, -, hc1⟩ := Hx.out.cells (by omega)
        obtain ⟨-, b2, o2, rfl, hb2, -, hc2⟩ := Hy.out.cells (by omega)
        obtain ⟨k0, k1, k2, k3⟩ := hc1 i hil
        obtain ⟨m0, m1, m2, m3⟩ := hc2 i hil2
        rw [← Hm.out.cell (p := ⟨b1, o1 + i * 4, none⟩) hb1 (fun h => h)] at k0
        rw [← Hm.out.cell (p := ⟨b1, o1 + i * 4 + 1, none⟩) hb1 (fun h => h)] at k1
        rw [← Hm.out.cell (p := ⟨b1, o1 + i * 4 + 2, none⟩) hb1 (fun h => h)] at k2
        rw [← Hm.out.cell (p := ⟨b1, o1 + i * 4 + 3, none⟩) hb1 (fun h => h)] at k3
        rw [← Hm.out.cell (p := ⟨b2, o2 + i * 4, none⟩) hb2 (fun h => h)] at m0
        rw [← Hm.out.cell (p := ⟨b2, o2 + i * 4 + 1, none⟩) hb2 (fun h => h)] at m1
        rw [← Hm.out.cell (p := ⟨b2, o2 + i * 4 + 2, none⟩) hb2 (fun h => h)] at m2
        rw [← Hm.out.cell (p := ⟨b2, o2 + i * 4 + 3, none⟩) hb2 (fun h => h)] at m3
        have hiI : (i : Int) < (xs.length : Int) := by omega
        have hiJ : (i : Int) < (ys.length : Int) := by omega
        have hi0I : (0 : Int) ≤ (i : Int) := by omega
        have wi : IntKind.i64.wrap ((i : Int) + 1) = (i : Int) + 1 := wrap_id (by omega) (by have := Hl.out; omega)
        have Hn := Lib.hid (fun he => ne_of_get (i := i) hil hil2 he : xs[i] ≠ ys[i] → xs ≠ ys)
        have He := Lib.hid (fun he => take_eq_snoc hil hil2 Ht.out he : xs[i] = ys[i] → xs.take (i + 1) = ys.take (i + 1))
        clear hc1 hc2
        generalize xs[i] = x at *
        generalize ys[i] = y at *
        have hne2 := fun w => Hne'.out x y w
        have hgd2 := fun op a b w => Hgd'.out op a b x y w
        obtain ⟨q, hq⟩ : ∃ q, q = decide (x = y) := ⟨_, rfl⟩
        have Hq := Lib.hid hq
        rw [← hq] at hne2
        clear hq
        cases q with
        | true =>
          have Hs := Lib.hid (He.out (of_decide_eq_true Hq.out.symm))
          clear Hq
          go_wp2_with fail
          go_quiet (fail)
          go_wp2_with fail
          go_roundw
          case rel => exact ⟨i + 1, by go_num, by omega, Hs.out, Hm.out.trans' (Gou.Mod.drewN _ _ _)⟩
          case measure => simp [intOf, wi]; omega
        | false =>
          have Hs := Lib.hid (Hn.out (of_decide_eq_false Hq.out.symm))
          clear Hq
          go_wp2_with fail
          go_quiet (fail)
          go_wp2_with fail
          go_ret
          exact ⟨by simp [Hs.out], Hm.out.trans' (Gou.Mod.drewN _ _ _)⟩
      · obtain rfl : i = xs.length := by omega
        have e2 : decide ((xs.length : Int) < (xs.length : Int)) = false := by simp
        have Hs : Hid (xs = ys) := Lib.hid (by
          have h1 := Ht.out
          rw [List.take_length, Hlen.out, List.take_length] at h1
          exact h1)
        go_wp2_with fail
        go_ret
        exact ⟨by simp [Hs.out], Hm.out⟩
  · have e1 : ((xs.length : Int) != (ys.length : Int)) = true := by simp; omega
    have Hs : Hid (xs ≠ ys) := Lib.hid (fun h => hlen (by rw [h]))
    clear hlen
    go_wp2_with fail
    go_ret
    exact ⟨by simp [Hs.out], Gou.Mod.refl _ _⟩

set_option maxHeartbeats 4000000 in
theorem refSame_any (w : World) (G1 G2 : Nat → Prop) (p1 p2 : Option Addr) (c1 c2 : Nat) (xs ys : List Rt) (hx : RtR G1 w (.slice p1 xs.length c1) xs) (hy : RtR G2 w (.slice p2 ys.length c2) ys) (hl : xs.length ≤ 1000000000000) (hl2 : ys.length ≤ 1000000000000) :
    Calls Try.prog 11 #[.slice p1 xs.length c1, .slice p2 ys.length c2] w fun e w' => e = .returned (.bool (decide (xs = ys))) ∧ Gou.Mod (fun _ => False) w w' := by
  have Hx := Lib.hid hx
  have Hy := Lib.hid hy
  have Hl := Lib.hid hl
  clear hx hy hl hl2
  have hne' : ∀ (x y : Rt) (w : World), Sem.run Try.prog (binOp .neq 36 (.agg #[.int .i64 x.x0, .int .i64 x.y0, .int .i64 x.x1, .int .i64 x.y1]) (.agg #[.int .i64 y.x0, .int .i64 y.y0, .int .i64 y.x1, .int .i64 y.y1])) w = .ok (.bool (!decide (x = y))) w := neqRt.1
  have hgd' : ∀ (op : BinOp) (a b : Operand) (x y : Rt) (w : World), Sem.run Try.prog (eqGuard op 36 a b (.agg #[.int .i64 x.x0, .int .i64 x.y0, .int .i64 x.x1, .int .i64 x.y1]) (.agg #[.int .i64 y.x0, .int .i64 y.y0, .int .i64 y.x1, .int .i64 y.y1])) w = .ok () w := neqRt.2
  have Hne' := Lib.hid hne'
  have Hgd' := Lib.hid hgd'
  clear hne' hgd'
  go_enter Try.func11, Try.ntmps11
  by_cases hlen : xs.length = ys.length
  · have e1 : ((xs.length : Int) != (ys.length : Int)) = false := by simp [hlen]
    have Hlen := Lib.hid hlen
    clear hlen
    go_wp2_with fail
    go_loopw [5] (fun c wr => ∃ i : Nat, c = .int .i64 i ∧ i ≤ xs.length ∧ xs.take i = ys.take i ∧ Gou.Mod (fun _ => False) w wr) (fun c _ => xs.length - (intOf c).toNat)
    case atStart => exact ⟨0, rfl, by omega, by simp, Gou.Mod.refl _ _⟩
    case round =>
      obtain ⟨i, rfl, hi, ht, hm⟩ := hrel
      have Ht := Lib.hid ht
      have Hm := Lib.hid hm
      clear ht hm
      by_cases hil : i < xs.length
      · have e2 : decide ((i : Int) < (xs.length : Int)) = true := by simp; omega
        have hil2 : i < ys.length := by have := Hlen.out; omega
        obtain ⟨-, b1, o1, rfl, hb1, -, hc1⟩ := Hx.out.cells (by omega)
        obtain ⟨-, b2, o2, rfl, hb2, -, hc2⟩ := Hy.out.cells (by omega)
        obtain ⟨k0, k1, k2, k3⟩ := hc1 i hil
        obtain ⟨m0, m1, m2, m3⟩ := hc2 i hil2
        rw [← Hm.out.cell (p := ⟨b1, o1 + i * 4, none⟩) hb1 (fun h => h)] at k0
        rw [← Hm.out.cell (p := ⟨b1, o1 + i * 4 + 1, none⟩) hb1 (fun h => h)] at k1
        rw [← Hm.out.cell (p := ⟨b1, o1 + i * 4 + 2, none⟩) hb1 (fun h => h)] at k2
        rw [← Hm.out.cell (p := ⟨b1, o1 + i * 4 + 3, none⟩) hb1 (fun h => h)] at k3
        rw [← Hm.out.cell (p := ⟨b2, o2 + i * 4, none⟩) hb2 (fun h => h)] at m0
        rw [← Hm.out.cell (p := ⟨b2, o2 + i * 4 + 1, none⟩) hb2 (fun h => h)] at m1
        rw [← Hm.out.cell (p := ⟨b2, o2 + i * 4 + 2, none⟩) hb2 (fun h => h)] at m2
        rw [← Hm.out.cell (p := ⟨b2, o2 + i * 4 + 3, none⟩) hb2 (fun h => h)] at m3
        have hiI : (i : Int) < (xs.length : Int) := by omega
        have hiJ : (i : Int) < (ys.length : Int) := by omega
        have hi0I : (0 : Int) ≤ (i : Int) := by omega
        have wi : IntKind.i64.wrap ((i : Int) + 1) = (i : Int) + 1 := wrap_id (by omega) (by have := Hl.out; omega)
        have Hn := Lib.hid (fun he => ne_of_get (i := i) hil hil2 he : xs[i] ≠ ys[i] → xs ≠ ys)
        have He := Lib.hid (fun he => take_eq_snoc hil hil2 Ht.out he : xs[i] = ys[i] → xs.take (i + 1) = ys.take (i + 1))
        clear hc1 hc2
        generalize xs[i] = x at *
        generalize ys[i] = y at *
        have hne2 := fun w => Hne'.out x y w
        have hgd2 := fun op a b w => Hgd'.out op a b x y w
        obtain ⟨q, hq⟩ : ∃ q, q = decide (x = y) := ⟨_, rfl⟩
        have Hq := Lib.hid hq
        rw [← hq] at hne2
        clear hq
        cases q with
        | true =>
          have Hs := Lib.hid (He.out (of_decide_eq_true Hq.out.symm))
          clear Hq
          go_wp2_with fail
          go_quiet (fail)
          go_wp2_with fail
          go_roundw
          case rel => exact ⟨i + 1, by go_num, by omega, Hs.out, Hm.out.trans' (Gou.Mod.drewN _ _ _)⟩
          case measure => simp [intOf, wi]; omega
        | false =>
          have Hs := Lib.hid (Hn.out (of_decide_eq_false Hq.out.symm))
          clear Hq
          go_wp2_with fail
          go_quiet (fail)
          go_wp2_with fail
          go_ret
          exact ⟨by simp [Hs.out], Hm.out.trans' (Gou.Mod.drewN _ _ _)⟩
      · obtain rfl : i = xs.length := by omega
        have e2 : decide ((xs.length : Int) < (xs.length : Int)) = false := by simp
        have Hs : Hid (xs = ys) := Lib.hid (by
          have h1 := Ht.out
          rw [List.take_length, Hlen.out, List.take_length] at h1
          exact h1)
        go_wp2_with fail
        go_ret
        exact ⟨by simp [Hs.out], Hm.out⟩
  · have e1 : ((xs.length : Int) != (ys.length : Int)) = true := by simp; omega
    have Hs : Hid (xs ≠ ys) := Lib.hid (fun h => hlen (by rw [h]))
    clear hlen
    go_wp2_with fail
    go_ret
    exact ⟨by simp [Hs.out], Gou.Mod.refl _ _⟩

end Go.Proofs.Ytapeafokcailkaa
