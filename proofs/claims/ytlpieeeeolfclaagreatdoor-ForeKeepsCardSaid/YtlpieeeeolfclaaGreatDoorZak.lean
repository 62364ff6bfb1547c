/- Texts of the scenes' proofs, laid together: RlA, RgJ, RgN, RlB, FoA. -/
import Derived.Test.YtlpieeeeolfclaaGreatDoorZaj
import Derived.Laws.StructEq
import Derived.Test.YtlpieeeeolfclaaGreatDoorZag
import Derived.Test.YtlpieeeeolfclaaGreatDoorZae
set_option linter.unusedSimpArgs false
set_option linter.unusedVariables false
set_option linter.unusedSectionVars false
set_option linter.constructorNameAsVariable false

/- Regions: two rows of spans, or of rectangles, are held against each other. -/
namespace Go.Gou
theorem take_eq_snoc {α : Type} [DecidableEq α] {xs ys : List α} {i : Nat} (hx : i < xs.length) (hy : i < ys.length) (h : xs.take i = ys.take i) (he : xs[i] = ys[i]) : xs.take (i + 1) = ys.take (i + 1) := by
  rw [List.take_add_one, List.take_add_one, h, List.getElem?_eq_getElem hx, List.getElem?_eq_getElem hy, he]
theorem ne_of_get {α : Type} {xs ys : List α} {i : Nat} (hx : i < xs.length) (hy : i < ys.length) (he : xs[i] ≠ ys[i]) : xs ≠ ys := fun h => by subst h; exact he rfl
end Go.Gou
namespace Go.Proofs.YtlpieeeeolfclaaGreatDoor
open Go.RowKit Go.Gou Go.Reg Go.Shelf Go.Lib
set_option maxRecDepth 100000

theorem neqSp : NeqAt Tryz.prog 108 (fun x : Sp => .agg #[.int .i64 x.a, .int .i64 x.b]) (fun x y => decide (x = y)) := by
  refine ⟨fun x y w => ?_, GuardAt.agg _ (by kernel_rfl)⟩
  obtain ⟨x0, x1⟩ := x
  obtain ⟨y0, y1⟩ := y
  have u3 := Tryz.underlying3
  have a3 := Tryz.isAgg3
  have z3 := Tryz.sizeOf3
  have hS : Tryz.prog.underlying 108 = some (.struct (Tryz.prog.fieldsOf 108)) := by kernel_rfl
  have hp : Tryz.prog.stoodInHeld 108 = false := by kernel_rfl
  have h1 : (Op.equal 108 (.agg #[.int .i64 x0, .int .i64 x1]) (.agg #[.int .i64 y0, .int .i64 y1])).run Tryz.prog w = .ok (decide ((⟨x0, x1⟩ : Sp) = ⟨y0, y1⟩)) w := by
    show (Op.equalIn (9999 + 1) _ _ _).run _ _ = _
    rw [run_equalIn_agg w 9999 108 _ _ hS hp]
    simp only [Program.fieldsOf, Tryz.underlying108]
    go_simp
    by_cases h1 : x0 = y0 <;> by_cases h2 : x1 = y1 <;> simp [h1, h2]
  simp only [binOp, Sem.run_bind, h1, Result.andThen_ok, Sem.run_pure]

theorem neqRt : NeqAt Tryz.prog 32 (fun x : Rt => .agg #[.int .i64 x.x0, .int .i64 x.y0, .int .i64 x.x1, .int .i64 x.y1]) (fun x y => decide (x = y)) := by
  refine ⟨fun x y w => ?_, GuardAt.agg _ (by kernel_rfl)⟩
  obtain ⟨x0, x1, x2, x3⟩ := x
  obtain ⟨y0, y1, y2, y3⟩ := y
  have u3 := Tryz.underlying3
  have a3 := Tryz.isAgg3
  have z3 := Tryz.sizeOf3
  have hS : Tryz.prog.underlying 32 = some (.struct (Tryz.prog.fieldsOf 32)) := by kernel_rfl
  have hp : Tryz.prog.stoodInHeld 32 = false := by kernel_rfl
  have h1 : (Op.equal 32 (.agg #[.int .i64 x0, .int .i64 x1, .int .i64 x2, .int .i64 x3]) (.agg #[.int .i64 y0, .int .i64 y1, .int .i64 y2, .int .i64 y3])).run Tryz.prog w = .ok (decide ((⟨x0, x1, x2, x3⟩ : Rt) = ⟨y0, y1, y2, y3⟩)) w := by
    show (Op.equalIn (9999 + 1) _ _ _).run _ _ = _
    rw [run_equalIn_agg w 9999 32 _ _ hS hp]
    simp only [Program.fieldsOf, Tryz.underlying32]
    go_simp
    by_cases h1 : x0 = y0 <;> by_cases h2 : x1 = y1 <;> by_cases h3 : x2 = y2 <;> by_cases h4 : x3 = y3 <;> simp [h1, h2, h3, h4]
  simp only [binOp, Sem.run_bind, h1, Result.andThen_ok, Sem.run_pure]

set_option maxHeartbeats 4000000 in
theorem eqSp_any (w : World) (G1 G2 : Nat → Prop) (p1 p2 : Option Addr) (c1 c2 : Nat) (xs ys : List Sp) (hx : SpR G1 w (.slice p1 xs.length c1) xs) (hy : SpR G2 w (.slice p2 ys.length c2) ys) (hl : xs.length ≤ 1000000000000) (hl2 : ys.length ≤ 1000000000000) :
    Calls Tryz.prog 71 #[.slice p1 xs.length c1, .slice p2 ys.length c2] w fun e w' => e = .returned (.bool (decide (xs = ys))) ∧ Gou.Mod (fun _ => False) w w' := by
  have Hx := Lib.hid hx
  have Hy := Lib.hid hy
  have Hl := Lib.hid hl
  clear hx hy hl hl2
  have hne' : ∀ (x y : Sp) (w : World), Sem.run Tryz.prog (binOp .neq 108 (.agg #[.int .i64 x.a, .int .i64 x.b]) (.agg #[.int .i64 y.a, .int .i64 y.b])) w = .ok (.bool (!decide (x = y))) w := neqSp.1
  have hgd' : ∀ (op : BinOp) (a b : Operand) (x y : Sp) (w : World), Sem.run Tryz.prog (eqGuard op 108 a b (.agg #[.int .i64 x.a, .int .i64 x.b]) (.agg #[.int .i64 y.a, .int .i64 y.b])) w = .ok () w := neqSp.2
  have Hne' := Lib.hid hne'
  have Hgd' := Lib.hid hgd'
  clear hne' hgd'
  go_enter Tryz.func71, Tryz.ntmps71
  by_cases hlen : xs.length = ys.length
  · have e1 : ((xs.length : Int) != (ys.length : Int)) = false := by simp [hlen]
    have Hlen := Lib.hid hlen
    clear hlen
    go_wp2_with fail
    go_loopw [13] (fun c wr => ∃ i : Nat, c = .int .i64 i ∧ i ≤ xs.length ∧ xs.take i = ys.take i ∧ Gou.Mod (fun _ => False) w wr) (fun c _ => xs.length - (intOf c).toNat)
    case atStart => exact ⟨0, rfl, by omega, by simp, Gou.Mod.refl _ _⟩
    case round =>
      obtain ⟨i, rfl, hi, ht, hm⟩ := hrel
      have Ht := Lib.hid ht
      have Hm := Lib.hid hm
      clear ht hm
      by_cases hil : i < xs.length
      · have e2 : decide ((i : Int) < (xs.length : Int)) = true := by simp; omega
        have hil2 : i < ys.length := by have := Hlen.out; omega
        obtain ⟨-, b1, o1, rfl, hb1, -, hc1⟩ := Hx.out.cells (by omega)
        obtain ⟨-, b2, o2, rfl, hb2, -, hc2⟩ := Hy.out.cells (by omega)
        obtain ⟨k0, k1⟩ := hc1 i hil
        obtain ⟨m0, m1⟩ := hc2 i hil2
        rw [← Hm.out.cell (p := ⟨b1, o1 + i * 2, none⟩) hb1 (fun h => h)] at k0
        rw [← Hm.out.cell (p := ⟨b1, o1 + i * 2 + 1, none⟩) hb1 (fun h => h)] at k1
        rw [← Hm.out.cell (p := ⟨b2, o2 + i * 2, none⟩) hb2 (fun h => h)] at m0
        rw [← Hm.out.cell (p := ⟨b2, o2 + i * 2 + 1, none⟩) hb2 (fun h => h)] at m1
        have hiI : (i : Int) < (xs.length : Int) := by omega
        have hiJ : (i : Int) < (ys.length : Int) := by omega
        have hi0I : (0 : Int) ≤ (i : Int) := by omega
        have wi : IntKind.i64.wrap ((i : Int) + 1) = (i : Int) + 1 := wrap_id (by omega) (by have := Hl.out; omega)
        have Hn := Lib.hid (fun he => ne_of_get (i := i) hil hil2 he : xs[i] ≠ ys[i] → xs ≠ ys)
        have He := Lib.hid (fun he => take_eq_snoc hil hil2 Ht.out he : xs[i] = ys[i] → xs.take (i + 1) = ys.take (i + 1))
        clear hc1 hc2
        generalize xs[i] = x at *
        generalize ys[i] = y at *
        have hne2 := fun w => Hne'.out x y w
        have hgd2 := fun op a b w => Hgd'.out op a b x y w
        obtain ⟨q, hq⟩ : ∃ q, q = decide (x = y) := ⟨_, rfl⟩
        have Hq := Lib.hid hq
        rw [← hq] at hne2
        clear hq
        cases q with
        | true =>
          have Hs := Lib.hid (He.out (of_decide_eq_true Hq.out.symm))
          clear Hq
          go_wp2_with fail
          go_quiet (fail)
          go_wp2_with fail
          go_roundw
          case rel => exact ⟨i + 1, by go_num, by omega, Hs.out, Hm.out.trans' (Gou.Mod.drewN _ _ _)⟩
          case measure => simp [intOf, wi]; omega
        | false =>
          have Hs := Lib.hid (Hn.out (of_decide_eq_false Hq.out.symm))
          clear Hq
          go_wp2_with fail
          go_quiet (fail)
          go_wp2_with fail
          go_ret
          exact ⟨by simp [Hs.out], Hm.out.trans' (Gou.Mod.drewN _ _ _)⟩
      · obtain rfl : i = xs.length := by omega
        have e2 : decide ((xs.length : Int) < (xs.length : Int)) = false := by simp
        have Hs : Hid (xs = ys) := Lib.hid (by
          have h1 := Ht.out
          rw [List.take_length, Hlen.out, List.take_length] at h1
          exact h1)
        go_wp2_with fail
        go_ret
        exact ⟨by simp [Hs.out], Hm.out⟩
  · have e1 : ((xs.length : Int) != (ys.length : Int)) = true := by simp; omega
    have Hs : Hid (xs ≠ ys) := Lib.hid (fun h => hlen (by rw [h]))
    clear hlen
    go_wp2_with fail
    go_ret
    exact ⟨by simp [Hs.out], Gou.Mod.refl _ _⟩

set_option maxHeartbeats 4000000 in
theorem refSame_any (w : World) (G1 G2 : Nat → Prop) (p1 p2 : Option Addr) (c1 c2 : Nat) (xs ys : List Rt) (hx : RtR G1 w (.slice p1 xs.length c1) xs) (hy : RtR G2 w (.slice p2 ys.length c2) ys) (hl : xs.length ≤ 1000000000000) (hl2 : ys.length ≤ 1000000000000) :
    Calls Tryz.prog 8 #[.slice p1 xs.length c1, .slice p2 ys.length c2] w fun e w' => e = .returned (.bool (decide (xs = ys))) ∧ Gou.Mod (fun _ => False) w w' := by
  have Hx := Lib.hid hx
  have Hy := Lib.hid hy
  have Hl := Lib.hid hl
  clear hx hy hl hl2
  have hne' : ∀ (x y : Rt) (w : World), Sem.run Tryz.prog (binOp .neq 32 (.agg #[.int .i64 x.x0, .int .i64 x.y0, .int .i64 x.x1, .int .i64 x.y1]) (.agg #[.int .i64 y.x0, .int .i64 y.y0, .int .i64 y.x1, .int .i64 y.y1])) w = .ok (.bool (!decide (x = y))) w := neqRt.1
  have hgd' : ∀ (op : BinOp) (a b : Operand) (x y : Rt) (w : World), Sem.run Tryz.prog (eqGuard op 32 a b (.agg #[.int .i64 x.x0, .int .i64 x.y0, .int .i64 x.x1, .int .i64 x.y1]) (.agg #[.int .i64 y.x0, .int .i64 y.y0, .int .i64 y.x1, .int .i64 y.y1])) w = .ok () w := neqRt.2
  have Hne' := Lib.hid hne'
  have Hgd' := Lib.hid hgd'
  clear hne' hgd'
  go_enter Tryz.func8, Tryz.ntmps8
  by_cases hlen : xs.length = ys.length
  · have e1 : ((xs.length : Int) != (ys.length : Int)) = false := by simp [hlen]
    have Hlen := Lib.hid hlen
    clear hlen
    go_wp2_with fail
    go_loopw [5] (fun c wr => ∃ i : Nat, c = .int .i64 i ∧ i ≤ xs.length ∧ xs.take i = ys.take i ∧ Gou.Mod (fun _ => False) w wr) (fun c _ => xs.length - (intOf c).toNat)
    case atStart => exact ⟨0, rfl, by omega, by simp, Gou.Mod.refl _ _⟩
    case round =>
      obtain ⟨i, rfl, hi, ht, hm⟩ := hrel
      have Ht := Lib.hid ht
      have Hm := Lib.hid hm
      clear ht hm
      by_cases hil : i < xs.length
      · have e2 : decide ((i : Int) < (xs.length : Int)) = true := by simp; omega
        have hil2 : i < ys.length := by have := Hlen.out; omega
        obtain ⟨-, b1, o1, rfl, hb1, -, hc1⟩ := Hx.out.cells (by omega)
        obtain ⟨-, b2, o2, rfl, hb2, -, hc2⟩ := Hy.out.cells (by omega)
        obtain ⟨k0, k1, k2, k3⟩ := hc1 i hil
        obtain ⟨m0, m1, m2, m3⟩ := hc2 i hil2
        rw [← Hm.out.cell (p := ⟨b1, o1 + i * 4, none⟩) hb1 (fun h => h)] at k0
        rw [← Hm.out.cell (p := ⟨b1, o1 + i * 4 + 1, none⟩) hb1 (fun h => h)] at k1
        rw [← Hm.out.cell (p := ⟨b1, o1 + i * 4 + 2, none⟩) hb1 (fun h => h)] at k2
        rw [← Hm.out.cell (p := ⟨b1, o1 + i * 4 + 3, none⟩) hb1 (fun h => h)] at k3
        rw [← Hm.out.cell (p := ⟨b2, o2 + i * 4, none⟩) hb2 (fun h => h)] at m0
        rw [← Hm.out.cell (p := ⟨b2, o2 + i * 4 + 1, none⟩) hb2 (fun h => h)] at m1
        rw [← Hm.out.cell (p := ⟨b2, o2 + i * 4 + 2, none⟩) hb2 (fun h => h)] at m2
        rw [← Hm.out.cell (p := ⟨b2, o2 + i * 4 + 3, none⟩) hb2 (fun h => h)] at m3
        have hiI : (i : Int) < (xs.length : Int) := by omega
        have hiJ : (i : Int) < (ys.length : Int) := by omega
        have hi0I : (0 : Int) ≤ (i : Int) := by omega
        have wi : IntKind.i64.wrap ((i : Int) + 1) = (i : Int) + 1 := wrap_id (by omega) (by have := Hl.out; omega)
        have Hn := Lib.hid (fun he => ne_of_get (i := i) hil hil2 he : xs[i] ≠ ys[i] → xs ≠ ys)
        have He := Lib.hid (fun he => take_eq_snoc hil hil2 Ht.out he : xs[i] = ys[i] → xs.take (i + 1) = ys.take (i + 1))
        clear hc1 hc2
        generalize xs[i] = x at *
        generalize ys[i] = y at *
        have hne2 := fun w => Hne'.out x y w
        have hgd2 := fun op a b w => Hgd'.out op a b x y w
        obtain ⟨q, hq⟩ : ∃ q, q = decide (x = y) := ⟨_, rfl⟩
        have Hq := Lib.hid hq
        rw [← hq] at hne2
        clear hq
        cases q with
        | true =>
          have Hs := Lib.hid (He.out (of_decide_eq_true Hq.out.symm))
          clear Hq
          go_wp2_with fail
          go_quiet (fail)
          go_wp2_with fail
          go_roundw
          case rel => exact ⟨i + 1, by go_num, by omega, Hs.out, Hm.out.trans' (Gou.Mod.drewN _ _ _)⟩
          case measure => simp [intOf, wi]; omega
        | false =>
          have Hs := Lib.hid (Hn.out (of_decide_eq_false Hq.out.symm))
          clear Hq
          go_wp2_with fail
          go_quiet (fail)
          go_wp2_with fail
          go_ret
          exact ⟨by simp [Hs.out], Hm.out.trans' (Gou.Mod.drewN _ _ _)⟩
      · obtain rfl : i = xs.length := by omega
        have e2 : decide ((xs.length : Int) < (xs.length : Int)) = false := by simp
        have Hs : Hid (xs = ys) := Lib.hid (by
          have h1 := Ht.out
          rw [List.take_length, Hlen.out, List.take_length] at h1
          exact h1)
        go_wp2_with fail
        go_ret
        exact ⟨by simp [Hs.out], Hm.out⟩
  · have e1 : ((xs.length : Int) != (ys.length : Int)) = true := by simp; omega
    have Hs : Hid (xs ≠ ys) := Lib.hid (fun h => hlen (by rw [h]))
    clear hlen
    go_wp2_with fail
    go_ret
    exact ⟨by simp [Hs.out], Gou.Mod.refl _ _⟩

end Go.Proofs.YtlpieeeeolfclaaGreatDoor

/- Regions: the last band is made longer, one rectangle after the other; in plain numbers. -/
namespace Go.Reg

/-- From place fr on, as far as k, the rectangles end at y. -/
def partY (out : List Rt) (fr : Nat) (y : Int) (k : Nat) : List Rt := out.mapIdx fun j r => if fr ≤ j ∧ j < k then setY1 y r else r
theorem partY_len (out : List Rt) (fr : Nat) (y : Int) (k : Nat) : (partY out fr y k).length = out.length := by simp [partY]
theorem partY_start (out : List Rt) (fr : Nat) (y : Int) : partY out fr y fr = out := by
  apply List.ext_getElem
  · simp [partY]
  · intro i h1 h2
    simp only [partY, List.getElem_mapIdx]
    rw [if_neg (by omega)]
theorem partY_get (out : List Rt) (fr : Nat) (y : Int) (k : Nat) (h : k < out.length) : (partY out fr y k)[k]'(by rw [partY_len]; exact h) = out[k] := by
  simp only [partY, List.getElem_mapIdx]
  rw [if_neg (by omega)]
theorem partY_set (out : List Rt) (fr : Nat) (y : Int) (k : Nat) (hf : fr ≤ k) (h : k < out.length) : (partY out fr y k).set k (setY1 y out[k]) = partY out fr y (k + 1) := by
  apply List.ext_getElem
  · simp [partY]
  · intro i h1 h2
    rw [List.getElem_set]
    simp only [partY, List.getElem_mapIdx]
    by_cases hik : k = i
    · subst hik
      rw [if_pos rfl, if_pos (by omega)]
    · rw [if_neg hik]
      by_cases hc : fr ≤ i ∧ i < k
      · rw [if_pos hc, if_pos (by omega)]
      · rw [if_neg hc, if_neg (by omega)]
theorem partY_end (out : List Rt) (fr : Nat) (y : Int) (hf : fr ≤ out.length) : partY out fr y out.length = out.take fr ++ (out.drop fr).map (setY1 y) := by
  apply List.ext_getElem
  · simp [partY]; omega
  · intro i h1 h2
    simp only [partY, List.getElem_mapIdx]
    have hi : i < out.length := by simpa [partY] using h1
    by_cases hc : fr ≤ i
    · rw [if_pos ⟨hc, hi⟩, List.getElem_append_right (by simp; omega)]
      simp only [List.getElem_map, List.getElem_drop, List.length_take]
      congr 2
      omega
    · rw [if_neg (by omega), List.getElem_append_left (by simp; omega)]
      simp

/-- A row's spans as rectangles of a band. -/
def bandOf (row : List Sp) (y0 y1 : Int) : List Rt := row.map fun s => ⟨s.a, y0, s.b, y1⟩
theorem bandOf_snoc (l : List Sp) (s : Sp) (y0 y1 : Int) : bandOf (l ++ [s]) y0 y1 = bandOf l y0 y1 ++ [⟨s.a, y0, s.b, y1⟩] := by simp [bandOf]
theorem bandOf_len (l : List Sp) (y0 y1 : Int) : (bandOf l y0 y1).length = l.length := by simp [bandOf]

end Go.Reg

/- Regions: a region's edges are edges of what it was made of; how many rectangles that lets it have; in plain numbers. -/
namespace Go.Reg

/-! Lists that rise. -/
theorem up_len {l : List Int} : ∀ {ys : List Int}, Up l → (∀ x ∈ l, x ∈ ys) → l.length ≤ ys.length := by
  induction l with
  | nil => intro ys _ _; exact Nat.zero_le _
  | cons x r ih =>
    intro ys hu hs
    have h1 := List.pairwise_cons.1 hu
    have h2 : r.length ≤ (ys.filter fun y => decide (x < y)).length := ih h1.2 fun y hy => List.mem_filter.2 ⟨hs y (List.mem_cons_of_mem _ hy), decide_eq_true (h1.1 y hy)⟩
    have h3 : (ys.filter fun y => decide (x < y)).length < ys.length := by
      apply List.length_filter_lt_length_iff_exists.2
      exact ⟨x, hs x (List.mem_cons_self ..), by simp⟩
    rw [List.length_cons]
    omega

/-! A row's edges. -/
theorem Canon.gap {l : List Sp} (h : Canon l) : ∀ s ∈ l, ¬ In l (s.a - 1) ∧ ¬ In l s.b := by
  induction l with
  | nil => intro s hs; cases hs
  | cons t r ih =>
    intro s hs
    have ht := h.head
    rcases List.mem_cons.1 hs with rfl | hs
    · refine ⟨fun hi => ?_, fun hi => ?_⟩
      · have := h.low hi
        omega
      · rcases (In.cons _ _ _).1 hi with h1 | h1
        · omega
        · have := h.in_beyond h1
          omega
    · obtain ⟨h1, h2⟩ := ih h.tail s hs
      obtain ⟨k1, k2⟩ := h.beyond s hs
      refine ⟨fun hi => ?_, fun hi => ?_⟩
      · rcases (In.cons _ _ _).1 hi with h3 | h3
        · omega
        · exact h1 h3
      · rcases (In.cons _ _ _).1 hi with h3 | h3
        · omega
        · exact h2 h3
theorem Canon.some {l : List Sp} (h : Canon l) : ∀ s ∈ l, s.a < s.b := by
  induction l with
  | nil => intro s hs; cases hs
  | cons t r ih =>
    intro s hs
    rcases List.mem_cons.1 hs with rfl | hs
    · exact h.head
    · exact ih h.tail s hs
theorem Canon.ups {l : List Sp} (h : Canon l) : Up (l.map Sp.a) := by
  induction l with
  | nil => exact List.Pairwise.nil
  | cons t r ih =>
    refine List.pairwise_cons.2 ⟨fun x hx => ?_, ih h.tail⟩
    obtain ⟨s, hs, rfl⟩ := List.mem_map.1 hx
    have h1 := (h.beyond s hs).1
    have h2 := h.head
    omega
/-- What does not change at a place that is no edge. -/
def XStill (xs : List Int) (p : Int → Int → Prop) : Prop := ∀ x y, x ∉ xs → (p x y ↔ p (x - 1) y)
def YStill (ys : List Int) (p : Int → Int → Prop) : Prop := ∀ x y, y ∉ ys → (p x y ↔ p x (y - 1))

theorem XEdges.still {xs : List Int} {l : List Rt} (h : XEdges xs l) : XStill xs (Has l) := by
  intro x y hx
  constructor
  · rintro ⟨r, hr, hh⟩
    have e := h r hr hh.some
    have n0 : r.x0 ≠ x := fun k => hx (k ▸ e.1)
    refine ⟨r, hr, ?_⟩
    unfold Rt.Has at hh ⊢
    omega
  · rintro ⟨r, hr, hh⟩
    have e := h r hr hh.some
    have n1 : r.x1 ≠ x := fun k => hx (k ▸ e.2)
    refine ⟨r, hr, ?_⟩
    unfold Rt.Has at hh ⊢
    omega
theorem YEdges.still {ys : List Int} {l : List Rt} (h : YEdges ys l) : YStill ys (Has l) := by
  intro x y hy
  constructor
  · rintro ⟨r, hr, hh⟩
    have e := h r hr hh.some
    have n0 : r.y0 ≠ y := fun k => hy (k ▸ e.1)
    refine ⟨r, hr, ?_⟩
    unfold Rt.Has at hh ⊢
    omega
  · rintro ⟨r, hr, hh⟩
    have e := h r hr hh.some
    have n1 : r.y1 ≠ y := fun k => hy (k ▸ e.2)
    refine ⟨r, hr, ?_⟩
    unfold Rt.Has at hh ⊢
    omega
theorem XStill.pts {xs : List Int} {a b : List Rt} (f : Bool → Bool → Bool) (ha : XStill xs (Has a)) (hb : XStill xs (Has b)) : XStill xs (Pts a b f) := fun x y hx => Pts.congr (ha x y hx) (hb x y hx)
theorem YStill.pts {ys : List Int} {a b : List Rt} (f : Bool → Bool → Bool) (ha : YStill ys (Has a)) (hb : YStill ys (Has b)) : YStill ys (Pts a b f) := fun x y hy => Pts.congr (ha x y hy) (hb x y hy)

/-- A row's edges are edges of what it tells. -/
theorem Canon.edges {row : List Sp} {xs : List Int} {p : Int → Prop} (hc : Canon row) (hr : ∀ x, In row x ↔ p x) (hp : ∀ x, x ∉ xs → (p x ↔ p (x - 1))) : ∀ s ∈ row, s.a ∈ xs ∧ s.b ∈ xs := by
  intro s hs
  have h0 := hc.some s hs
  obtain ⟨g1, g2⟩ := hc.gap s hs
  have i1 : In row s.a := ⟨s, hs, Int.le_refl _, h0⟩
  have i2 : In row (s.b - 1) := ⟨s, hs, by omega, by omega⟩
  refine ⟨Decidable.byContradiction fun hn => ?_, Decidable.byContradiction fun hn => ?_⟩
  · exact g1 ((hr _).2 ((hp _ hn).1 ((hr _).1 i1)))
  · exact g2 ((hr _).2 ((hp _ hn).2 ((hr _).1 i2)))
/-- So a row has no more spans than there are edges. -/
theorem Canon.few {row : List Sp} {xs : List Int} {p : Int → Prop} (hc : Canon row) (hr : ∀ x, In row x ↔ p x) (hp : ∀ x, x ∉ xs → (p x ↔ p (x - 1))) : row.length ≤ xs.length := by
  have h := up_len hc.ups (ys := xs) fun x hx => by
    obtain ⟨s, hs, rfl⟩ := List.mem_map.1 hx
    exact (hc.edges hr hp s hs).1
  simpa using h

/-! Bands. -/
theorem Canon2.ok {B : List Bd} (h : Canon2 B) : ∀ b ∈ B, b.Ok := by
  induction B with
  | nil => intro b hb; cases hb
  | cons c l ih =>
    intro b hb
    rcases List.mem_cons.1 hb with rfl | hb
    · exact h.head
    · exact ih h.tail b hb
theorem Canon2.apart {B : List Bd} (h : Canon2 B) : ∀ b ∈ B, ∀ c ∈ B, b = c ∨ b.y1 ≤ c.y0 ∨ c.y1 ≤ b.y0 := by
  induction B with
  | nil => intro b hb; cases hb
  | cons d l ih =>
    intro b hb c hc
    rcases List.mem_cons.1 hb with rfl | hb' <;> rcases List.mem_cons.1 hc with rfl | hc'
    · exact .inl rfl
    · exact .inr (.inl (h.beyond c hc'))
    · exact .inr (.inr (h.beyond b hb'))
    · exact ih h.tail b hb' c hc'
theorem Canon2.differ {B : List Bd} (h : Canon2 B) : ∀ b ∈ B, ∀ c ∈ B, b.y1 = c.y0 → b.row ≠ c.row := by
  induction B with
  | nil => intro b hb; cases hb
  | cons d l ih =>
    intro b hb c hc he
    rcases List.mem_cons.1 hb with rfl | hb'
    · rcases List.mem_cons.1 hc with rfl | hc'
      · have := h.head.lt
        omega
      · cases l with
        | nil => cases hc'
        | cons t r =>
          rcases List.mem_cons.1 hc' with rfl | hc''
          · exact h.2.2.1 he
          · have h1 := h.2.1
            have h2 := h.tail.head.lt
            have h3 := h.tail.beyond c hc''
            omega
    · rcases List.mem_cons.1 hc with rfl | hc'
      · have h1 := h.beyond b hb'
        have h2 := h.head.lt
        have h3 := (h.tail.ok b hb').lt
        omega
      · exact ih h.tail b hb' c hc' he
theorem Canon2.rowAt {B : List Bd} (h : Canon2 B) {b : Bd} (hb : b ∈ B) {x y : Int} (h1 : b.y0 ≤ y) (h2 : y < b.y1) : In2 B x y ↔ In b.row x := by
  constructor
  · rintro ⟨c, hc, k1, k2, k3⟩
    rcases h.apart b hb c hc with rfl | k | k
    · exact k3
    · omega
    · omega
  · exact fun k => ⟨b, hb, h1, h2, k⟩
theorem Canon2.ups {B : List Bd} (h : Canon2 B) : Up (B.map Bd.y0) := by
  induction B with
  | nil => exact List.Pairwise.nil
  | cons t r ih =>
    refine List.pairwise_cons.2 ⟨fun x hx => ?_, ih h.tail⟩
    obtain ⟨s, hs, rfl⟩ := List.mem_map.1 hx
    have h1 := h.beyond s hs
    have h2 := h.head.lt
    omega
theorem Canon2.edges {B : List Bd} {ys : List Int} {p : Int → Int → Prop} (h : Canon2 B) (hi : ∀ x y, In2 B x y ↔ p x y) (hp : YStill ys p) : ∀ b ∈ B, b.y0 ∈ ys ∧ b.y1 ∈ ys := by
  intro b hb
  have ok := h.ok b hb
  have h0 := ok.lt
  obtain ⟨x0, hx0⟩ := ok.point
  refine ⟨Decidable.byContradiction fun hn => ?_, Decidable.byContradiction fun hn => ?_⟩
  · have key : ∀ x, In2 B x b.y0 ↔ In2 B x (b.y0 - 1) := fun x => by rw [hi, hi]; exact hp x _ hn
    obtain ⟨c, hc, k1, k2, k3⟩ := (key x0).1 ((h.rowAt hb (Int.le_refl _) h0).2 hx0)
    rcases h.apart b hb c hc with rfl | k | k
    · omega
    · omega
    · have he : c.y1 = b.y0 := by omega
      refine h.differ c hc b hb he ((h.ok c hc).canon.uniq ok.canon fun x => ?_)
      rw [← h.rowAt hc k1 k2, ← h.rowAt hb (Int.le_refl _) h0, key x]
  · have key : ∀ x, In2 B x b.y1 ↔ In2 B x (b.y1 - 1) := fun x => by rw [hi, hi]; exact hp x _ hn
    obtain ⟨c, hc, k1, k2, k3⟩ := (key x0).2 ((h.rowAt hb (by omega) (by omega)).2 hx0)
    rcases h.apart b hb c hc with rfl | k | k
    · omega
    · have he : b.y1 = c.y0 := by omega
      refine h.differ b hb c hc he (ok.canon.uniq (h.ok c hc).canon fun x => ?_)
      rw [← h.rowAt hb (by omega : b.y0 ≤ b.y1 - 1) (by omega), ← h.rowAt hc k1 k2, key x]
    · omega

/-- A region's edges are edges of what it tells; so it has no more rectangles than that lets it. -/
theorem RegOf.xedges {out : List Rt} {p : Int → Int → Prop} {xs : List Int} (h : RegOf out p) (hp : XStill xs p) : XEdges xs out := by
  obtain ⟨B, c, rfl, i⟩ := h.ex
  intro r hr _
  obtain ⟨b, hb, hr⟩ := List.mem_flatMap.1 hr
  obtain ⟨s, hs, rfl⟩ := List.mem_map.1 hr
  have ok := c.ok b hb
  exact ok.canon.edges (p := fun x => p x b.y0) (xs := xs) (fun x => by rw [← i, c.rowAt hb (Int.le_refl _) ok.lt]) (fun x hx => hp x _ hx) s hs
theorem RegOf.yedges {out : List Rt} {p : Int → Int → Prop} {ys : List Int} (h : RegOf out p) (hp : YStill ys p) : YEdges ys out := by
  obtain ⟨B, c, rfl, i⟩ := h.ex
  intro r hr _
  obtain ⟨b, hb, hr⟩ := List.mem_flatMap.1 hr
  obtain ⟨s, hs, rfl⟩ := List.mem_map.1 hr
  exact c.edges i hp b hb
theorem flat_len {B : List Bd} {K : Nat} (h : ∀ b ∈ B, b.row.length ≤ K) : (flat B).length ≤ B.length * K := by
  induction B with
  | nil => simp [flat]
  | cons b l ih =>
    have h1 := h b (List.mem_cons_self ..)
    have h2 := ih fun c hc => h c (List.mem_cons_of_mem _ hc)
    have h3 : (flat (b :: l)).length = b.row.length + (flat l).length := by simp [flat, Bd.rects]
    rw [h3, List.length_cons, Nat.add_mul, Nat.one_mul]
    omega
theorem RegOf.few {out : List Rt} {p : Int → Int → Prop} {xs ys : List Int} (h : RegOf out p) (hx : XStill xs p) (hy : YStill ys p) : out.length ≤ ys.length * xs.length := by
  obtain ⟨B, c, rfl, i⟩ := h.ex
  have h1 : (flat B).length ≤ B.length * xs.length := flat_len fun b hb => by
    have ok := c.ok b hb
    exact ok.canon.few (p := fun x => p x b.y0) (xs := xs) (fun x => by rw [← i, c.rowAt hb (Int.le_refl _) ok.lt]) (fun x hx' => hx x _ hx')
  have h2 : B.length ≤ ys.length := by
    have := up_len c.ups (ys := ys) fun x hx' => by
      obtain ⟨b, hb, rfl⟩ := List.mem_map.1 hx'
      exact (c.edges i hy b hb).1
    simpa using this
  exact Nat.le_trans h1 (Nat.mul_le_mul_right _ h2)

end Go.Reg

/- Regions: bands: 'combine'. -/
namespace Go.Reg
/-- The edges of rectangles stand in two lists. -/
structure Edg (xs ys : List Int) (l : List Rt) : Prop where
  x : XEdges xs l
  y : YEdges ys l

end Go.Reg
namespace Go.Gou
open Go.RowKit Go.Reg

theorem RowG.grown {w w5 : World} {B : Nat} {e : TypeId} {k k' n n' : Nat} {cs cs' : List Value} {v v5 u : Value} (h : RowG (fun b => v.ownBlock ≠ some b) w k' u n' cs') (G5 : Grown w B e k v n cs v5 w5) : RowG (fun b => v5.ownBlock ≠ some b) w5 k' u n' cs' := by
  have h2 : RowG (fun b => v.ownBlock ≠ some b ∧ v5.ownBlock ≠ some b) w k' u n' cs' := h.imp fun b hb hne => ⟨hne, fun h5 => by
    rcases G5.blk b h5 with h | h
    · exact hne h
    · omega⟩
  exact (h2.mod G5.mod (fun b _ hb hs => hb.1 hs)).imp fun _ _ h => h.2
theorem RowG.under {w w' : World} {k n : Nat} {u : Value} {cs : List Value} {G : Nat → Prop} (h : RowG G w k u n cs) (hm : Mod (fun _ => False) w w') : RowG G w' k u n cs := h.mod hm (fun _ _ _ h => h)
theorem edgeNums_mem {l : List Rt} {y : Int} (h : y ∈ edgeNums l) : ∃ r ∈ l, r.Some ∧ (y = r.y0 ∨ y = r.y1) := by
  obtain ⟨r, hr, hy⟩ := List.mem_flatMap.1 h
  by_cases hs : r.Some
  · rw [if_pos hs] at hy
    exact ⟨r, hr, hs, by simpa using hy⟩
  · rw [if_neg hs] at hy
    cases hy
theorem rts_set (l : List Rt) (k : Nat) (h : k < l.length) (y : Int) : (rts l).set (k * 4 + 3) (.int .i64 y) = rts (l.set k (setY1 y l[k])) := by
  induction l generalizing k with
  | nil => simp at h
  | cons r l ih =>
    cases k with
    | zero => rfl
    | succ k =>
      have hk : k < l.length := by simpa using h
      have := ih k hk
      show (rtC r ++ rts l).set ((k + 1) * 4 + 3) _ = rtC r ++ rts (l.set k _)
      have hr : (rtC r).length = 4 := rfl
      rw [List.set_append_right _ _ (by rw [hr]; omega), hr, show (k + 1) * 4 + 3 - 4 = k * 4 + 3 from by omega, this]
      rfl
theorem own_some {w : World} {B : Nat} {e : TypeId} {k n : Nat} {p : Option Addr} {c : Nat} {cs : List Value} (h : w.ownsRow B e k (.slice p n c) n cs) (h0 : 0 < n) : ∃ g, p = some ⟨g, 0, none⟩ := by
  rcases h.2 with ⟨h, h1⟩ | ⟨g, cap, cur, h, _⟩
  · simp only [Value.slice.injEq] at h
    omega
  · simp only [Value.slice.injEq] at h
    exact ⟨g, h.1⟩

end Go.Gou
namespace Go.Proofs.YtlpieeeeolfclaaGreatDoor
open Go.RowKit Go.Gou Go.Reg Go.Shelf
set_option maxRecDepth 100000

/-- What two lists of rectangles come to. -/
def CombP (w : World) (a b : List Rt) (f : Bool → Bool → Bool) (e : Ending) (w' : World) : Prop :=
  Gou.Mod (fun _ => False) w w' ∧ ∃ v out, e = .returned v ∧ w'.ownsRow w.heap.size 32 4 v out.length (rts out) ∧ RegOf out (Pts a b f) ∧ out.length ≤ 1000000000

/-- The way through the bands, in memory: the world behind the edges is w1. -/
structure CombIn (w1 : World) (a b : List Rt) (f : Bool → Bool → Bool) (K : Nat) (ys : List Int) (i fr : Nat) (out : List Rt) (last : List Sp) (vo vl : Value) (wr : World) : Prop where
  run : 0 < ys.length → RunB a b f ys i out fr last
  none : ys = [] → out = []
  zero : i = 0 → last = []
  own : wr.ownsRow w1.heap.size 32 4 vo out.length (rts out)
  lst : SpR (fun k => vo.ownBlock ≠ some k) wr vl last
  mod : Gou.Mod (fun _ => False) w1 wr
  len : out.length ≤ i * K
  llen : last.length ≤ K
  at_ : i < ys.length ∨ ys = [] ∧ i = 0

set_option maxHeartbeats 16000000 in
theorem combine_any (w : World) (g : Nat) (f : Bool → Bool → Bool) (hW : WantF g f) (pa pb : Option Addr) (ca cb : Nat) (a b : List Rt) (hA : RtR (fun _ => True) w (.slice pa a.length ca) a) (hB : RtR (fun _ => True) w (.slice pb b.length cb) b)
    (hax : ∀ r ∈ a, Near r.x0) (hbx : ∀ r ∈ b, Near r.x0) (xs0 ys0 : List Int) (hE : Edg xs0 ys0 (a ++ b)) (hxs : xs0.length ≤ 30000) (hys : ys0.length ≤ 30000) (hn : a.length + b.length ≤ 1000000000) :
    Calls Tryz.prog 56 #[.slice pa a.length ca, .slice pb b.length cb, .func (.func g) #[] #[]] w (CombP w a b f) := by
  have HW := Lib.hid hW
  have Hax := Lib.hid hax
  have Hbx := Lib.hid hbx
  have Hn := Lib.hid hn
  have HE := Lib.hid hE
  have Hxy := Lib.hid (And.intro hxs hys)
  clear hW hax hbx hn hE hxs hys
  go_enter Tryz.func56, Tryz.ntmps56
  have HA := Lib.hid hA
  have HB := Lib.hid hB
  clear hA hB
  go_wp2_with fail
  refine (edges_any _ w.heap.size _ pa pb ca cb a b (HA.out.under (Gou.Mod.alloc0 _ _)) (HB.out.under (Gou.Mod.alloc0 _ _)) (Blk.new _ _ _) (by have := Hn.out; omega) (by have := Hn.out; omega)).mono ?_
  rintro e w1 ⟨hm1, vy, ys, rfl, hy, hup, hmem, hyl⟩
  have Hm1 := Lib.hid ((Gou.Mod.alloc0 w _).trans' hm1)
  have HA1 := Lib.hid (HA.out.under Hm1.out)
  have HB1 := Lib.hid (HB.out.under Hm1.out)
  have HY : Hid (IntsR (fun _ => True) w1 vy ys) := Lib.hid (hy.imp (fun _ _ _ => trivial))
  have Hup := Lib.hid hup
  have Hea : Hid (YEdges ys a) := Lib.hid (edgeNums_y hmem (fun r h => by simp [h]))
  have Heb : Hid (YEdges ys b) := Lib.hid (edgeNums_y hmem (fun r h => by simp [h]))
  have Hyl : Hid (ys.length ≤ 2 * (a.length + b.length)) := Lib.hid (by simpa using hyl)
  have Hyl2 : Hid (ys.length ≤ 30000) := Lib.hid (Nat.le_trans (up_len hup (ys := ys0) fun y hy => by
    obtain ⟨r, hr, hs, h⟩ := edgeNums_mem ((hmem y).1 hy)
    have e := HE.out.y r hr hs
    rcases h with rfl | rfl
    · exact e.1
    · exact e.2) Hxy.out.2)
  have Hbig : Hid (∀ i, i < ys.length → i * xs0.length ≤ 900000000) := Lib.hid (fun i hi => by
    have h1 := Hxy.out.1
    have h2 := Hyl2.out
    have h3 : i * xs0.length ≤ 30000 * 30000 := Nat.mul_le_mul (by omega) (by omega)
    omega)
  have HXS : Hid (XStill xs0 (Pts a b f)) := Lib.hid (XStill.pts f (XEdges.still fun r hr => HE.out.x r (List.mem_append_left _ hr)) (XEdges.still fun r hr => HE.out.x r (List.mem_append_right _ hr)))
  obtain ⟨py, cy, rfl, -⟩ := RowG.form hy
  clear hm1 hy hup hmem hyl
  go_wp2_with fail
  go_loopw [7, 8, 9, 11] (fun vo vl vf vi wr => ∃ (i fr : Nat) (out : List Rt) (last : List Sp), vf = .int .i64 fr ∧ vi = .int .i64 i ∧ CombIn w1 a b f xs0.length ys i fr out last vo vl wr) (fun _ _ _ vi _ => ys.length - (intOf vi).toNat)
  case atStart =>
    refine ⟨0, 0, [], [], rfl, rfl, ⟨fun h => RunB.start HW.out.none Hup.out Hea.out Heb.out h, fun _ => rfl, fun _ => rfl, World.ownsRow_nil _ _ _ _, RowG.nil _ _ _, Gou.Mod.refl _ _, by simp, by simp, ?_⟩⟩
    cases ys with
    | nil => exact .inr ⟨rfl, rfl⟩
    | cons _ _ => exact .inl (by simp)
  case round =>
    obtain ⟨i, fr, out, last, rfl, rfl, hI⟩ := hrel
    obtain ⟨po, co, rfl⟩ := Gou.ownsRow_form hI.own
    obtain ⟨pl, cl, rfl⟩ := hI.lst.form
    have HI := Lib.hid hI
    clear hI
    have wi : IntKind.i64.wrap ((i : Int) + 1) = (i : Int) + 1 := wrap_id (by omega) (by have := Hyl.out; have := HI.out.at_; have := Hn.out; rcases this with _; rcases HI.out.at_ with h | h <;> omega)
    by_cases hi1 : i + 1 < ys.length
    · have e1 : decide ((i : Int) + 1 < (ys.length : Int)) = true := decide_eq_true (by omega)
      obtain ⟨-, gy, oy, rfl, hgy, -, hcy⟩ := IntsR.cells HY.out (by omega)
      have cy0 := hcy i (by omega)
      have cy1 := hcy (i + 1) hi1
      have Hcy := Lib.hid (And.intro cy0 cy1)
      rw [← HI.out.mod.cell (p := ⟨gy, oy + i, none⟩) hgy (fun h => h)] at cy0
      rw [← HI.out.mod.cell (p := ⟨gy, oy + (i + 1), none⟩) hgy (fun h => h)] at cy1
      have Hy0 : Hid (ys[i]? = some ys[i] ∧ ys[i + 1]? = some ys[i + 1]) := Lib.hid ⟨List.getElem?_eq_getElem (by omega), List.getElem?_eq_getElem hi1⟩
      have i0 : (0 : Int) ≤ (i : Int) := by omega
      have i1 : (i : Int) < (ys.length : Int) := by omega
      have i2 : (0 : Int) ≤ (i : Int) + 1 := by omega
      have i3 : (i : Int) + 1 < (ys.length : Int) := by omega
      have i4 : ((i : Int) + 1).toNat = i + 1 := by omega
      have HR := Lib.hid (HI.out.run (by omega))
      have Hi1 := Lib.hid hi1
      clear hcy
      generalize ys[i] = y0 at *
      generalize ys[i + 1] = y1 at *
      clear hi1
      have Hgy1 := Lib.hid hgy
      have Hgy : Hid (gy < wr.heap.size) := Lib.hid (Nat.lt_of_lt_of_le hgy HI.out.mod.size)
      have HAw := Lib.hid (RowG.under HA1.out HI.out.mod)
      have HBw := Lib.hid (RowG.under HB1.out HI.out.mod)
      clear hgy
      go_wp2_with fail
      refine wp_region_held_drew (S := fun w' => Gou.Mod (fun _ => False) wr w') (by kernel_rfl) (Gou.Mod.drew _ _) (fun hHeld => ?_)
      refine tk 0 (.slice pa a.length ca) hHeld (h := ?_)
      refine tk 1 (.slice (some ⟨gy, oy, none⟩) ys.length cy) hHeld (h := ?_)
      refine tk 2 (.int .i64 (i : Nat)) hHeld (h := ?_)
      refine tk 3 (.pointer (some ⟨gy, oy + i, none⟩)) hHeld (h := ?_)
      refine tkC 4 cy0 (fun h => h) hHeld (h := ?_)
      refine tk 6 (.slice pb b.length cb) hHeld (h := ?_)
      refine tk 7 (.slice (some ⟨gy, oy, none⟩) ys.length cy) hHeld (h := ?_)
      refine tk 8 (.int .i64 (i : Nat)) hHeld (h := ?_)
      refine tk 9 (.pointer (some ⟨gy, oy + i, none⟩)) hHeld (h := ?_)
      refine tkC 10 cy0 (fun h => h) hHeld (h := ?_)
      refine tk 12 (.func (.func g) #[] #[]) hHeld (h := ?_)
      refine rd 5 (h := fun K hK => ?_)
      go_simp
      refine (spans_any _ _ pa ca a y0 (HAw.out.under hHeld) (by have := Hn.out; omega) Hax.out).mono ?_
      rintro e w3 ⟨hm1, v1, sa, rfl, hown1, hc1, hi1, hl1⟩
      have O1 := Lib.hid (RowG.own_of hown1 (G := fun k => wr.drew.heap.size ≤ k) (fun b _ h => h))
      have C1 := Lib.hid (And.intro hc1 (And.intro hi1 hl1))
      have M1 := Lib.hid (hHeld.trans' hm1)
      obtain ⟨p1, c1, rfl⟩ := Gou.ownsRow_form hown1
      clear hm1 hown1 hc1 hi1 hl1 hHeld
      refine hK _ _ M1.out (fun hHeld => ?_)
      clear hK K
      try simp only [Act.put, uSa, uSb, uSc]
      refine rd 11 (h := fun K hK => ?_)
      go_simp
      refine (spans_any _ _ pb cb b y0 (HBw.out.under hHeld) (by have := Hn.out; omega) Hbx.out).mono ?_
      rintro e w4 ⟨hm2, v2, sb, rfl, hown2, hc2, hi2, hl2⟩
      have O2 := Lib.hid (RowG.own_of hown2 (G := fun k => w3.heap.size ≤ k) (fun b _ h => h))
      have C2 := Lib.hid (And.intro hc2 (And.intro hi2 hl2))
      have M12 := Lib.hid hm2
      have M2 := Lib.hid (hHeld.trans' hm2)
      obtain ⟨p2, c2, rfl⟩ := Gou.ownsRow_form hown2
      clear hm2 hown2 hc2 hi2 hl2 hHeld
      refine hK _ _ M2.out (fun hHeld => ?_)
      clear hK K
      try simp only [Act.put, uSa, uSb, uSc]
      refine rd 13 (h := fun K hK => ?_)
      go_simp
      have O1' : Hid (SpR (fun _ => True) w4 (.slice p1 sa.length c1) sa) := Lib.hid ((RowG.under O1.out M12.out).imp (fun _ _ _ => trivial))
      refine (merge_any _ g f HW.out p1 p2 c1 c2 sa sb O1'.out (O2.out.imp (fun _ _ _ => trivial)) C1.out.1 C2.out.1 (by have h1 := C1.out.2.2; have := Hn.out; omega) (by have h1 := C2.out.2.2; have := Hn.out; omega)).mono ?_
      rintro e w5 ⟨hm3, v3, row, rfl, hown3, hc3, hi3, hl3⟩
      have O3 := Lib.hid (RowG.own_of hown3 (G := fun k => w4.heap.size ≤ k) (fun b _ h => h))
      have C3 : Hid (Canon row ∧ (∀ x, In row x ↔ Pts a b f x y0) ∧ row.length ≤ xs0.length) := Lib.hid ⟨hc3, rows_want C1.out.2.1 C2.out.2.1 hi3, hc3.few (p := fun x => Pts a b f x y0) (rows_want C1.out.2.1 C2.out.2.1 hi3) (fun x hx => HXS.out x y0 hx)⟩
      have M3 := Lib.hid (hHeld.trans' hm3)
      obtain ⟨p3, c3, rfl⟩ := Gou.ownsRow_form hown3
      clear hm3 hown3 hc3 hi3 hl3 hHeld
      refine hK _ _ M3.out (fun hHeld => ?_)
      clear hK K
      try simp only [Act.put, uSa, uSb, uSc]
      refine tk 14 (.slice p3 row.length c3) hHeld (h := ?_)
      refine wpAnyH_done (by kernel_rfl) ?_ _
      clear hHeld
      have HI5 : Hid (w5.ownsRow w1.heap.size 32 4 (.slice po out.length co) out.length (rts out) ∧ SpR (fun k => (Value.slice po out.length co).ownBlock ≠ some k) w5 (.slice pl last.length cl) last ∧ Gou.Mod (fun _ => False) w1 w5) :=
        Lib.hid ⟨own_up HI.out.own M3.out, RowG.under HI.out.lst M3.out, HI.out.mod.trans' M3.out⟩
      have HRow : Hid (SpR (fun k => (Value.slice po out.length co).ownBlock ≠ some k) w5 (.slice p3 row.length c3) row) := Lib.hid (O3.out.imp fun k _ hk h => by
        have h1 := (HI.out.own.lt k h).2
        have h2 := M2.out.size
        omega)
      have cy5 : w5.cell? ⟨gy, oy + (i + 1), none⟩ = some (.int .i64 y1) := (M3.out.cell (p := ⟨gy, oy + (i + 1), none⟩) Hgy.out (fun h => h)).trans cy1
      have cy6 : w5.cell? ⟨gy, oy + i, none⟩ = some (.int .i64 y0) := (M3.out.cell (p := ⟨gy, oy + i, none⟩) Hgy.out (fun h => h)).trans cy0
      clear cy0 cy1 O1 O2 O3 M1 M2 M12 O1' C1 C2
      have Hgy5 : Hid (gy < w5.heap.size) := Lib.hid (Nat.lt_of_lt_of_le Hgy.out M3.out.size)
      go_upto_region 9 with fail
      go_cut [52] from 41 to 51 (fun vq wx => vq = .bool (decide (0 < i ∧ row ≠ [] ∧ row = last)) ∧ Gou.Mod (fun _ => False) w5 wx)
      case first =>
        by_cases hi0 : 0 < i
        · have t1 : decide ((0 : Int) < (i : Int)) = true := decide_eq_true (by omega)
          have t1' : decide (0 < i) = true := decide_eq_true hi0
          by_cases hrow : row = []
          · have t2 : decide ((0 : Int) < (row.length : Int)) = false := decide_eq_false (by simp [hrow])
            have t2' : decide (0 < row.length) = false := decide_eq_false (by simp [hrow])
            have Hq : Hid (decide (0 < i ∧ row ≠ [] ∧ row = last) = false) := Lib.hid (by simp [hrow])
            subst hrow
            simp only [List.length_nil] at t2 t2' ⊢
            go_wp2_with fail
            go_meet
            case rel => exact ⟨by rw [Hq.out], Gou.Mod.refl _ _⟩
          · have hl0 : 0 < row.length := by cases row with | nil => exact absurd rfl hrow | cons _ _ => simp
            have t2 : decide ((0 : Int) < (row.length : Int)) = true := decide_eq_true (by omega)
            have t2' : decide (0 < row.length) = true := decide_eq_true hl0
            have Hq : Hid (decide (0 < i ∧ row ≠ [] ∧ row = last) = decide (row = last)) := Lib.hid (by simp [hi0, hrow])
            go_wp2_with fail
            have hcon := eqSp_any w5 _ _ p3 pl c3 cl row last HRow.out HI5.out.2.1 (by have h1 := C3.out.2.2; have := Hxy.out.1; omega) (by have h1 := HI.out.llen; have := Hxy.out.1; omega)
            obtain ⟨q, hq⟩ : ∃ q, q = decide (row = last) := ⟨_, rfl⟩
            rw [← hq] at hcon Hq
            refine hcon.mono ?_
            clear hcon hq
            rintro e w6 ⟨rfl, hm6⟩
            have Hm6 := Lib.hid hm6
            clear hm6
            go_wp2_with fail
            all_goals go_meet
            all_goals (case rel => exact ⟨by rw [Hq.out], Hm6.out⟩)
        · have t1 : decide ((0 : Int) < (i : Int)) = false := decide_eq_false (by omega)
          have t1' : decide (0 < i) = false := decide_eq_false hi0
          have Hq : Hid (decide (0 < i ∧ row ≠ [] ∧ row = last) = false) := Lib.hid (by simp [hi0])
          clear hi0
          go_wp2_with fail
          go_meet
          case rel => exact ⟨by rw [Hq.out], Gou.Mod.refl _ _⟩
      case rest =>
        obtain ⟨rfl, hm6⟩ := hcut
        have HI6 : Hid (wc.ownsRow w1.heap.size 32 4 (.slice po out.length co) out.length (rts out) ∧ SpR (fun k => (Value.slice po out.length co).ownBlock ≠ some k) wc (.slice pl last.length cl) last ∧ Gou.Mod (fun _ => False) w1 wc) :=
          Lib.hid ⟨own_up HI5.out.1 hm6, RowG.under HI5.out.2.1 hm6, HI5.out.2.2.trans' hm6⟩
        have HRow6 := Lib.hid (RowG.under HRow.out hm6)
        have cy7 := (hm6.cell (p := ⟨gy, oy + (i + 1), none⟩) Hgy5.out (fun h => h)).trans cy5
        have cy8 := (hm6.cell (p := ⟨gy, oy + i, none⟩) Hgy5.out (fun h => h)).trans cy6
        have Hgyne : Hid ((Value.slice po out.length co).ownBlock ≠ some gy) := Lib.hid (fun h => by have := own_ge HI.out.own gy h; have := Hgy1.out; omega)
        clear hm6 cy5 cy6 HI5 HRow
        by_cases hsame : 0 < i ∧ row ≠ [] ∧ row = last
        · have Hq : Hid (decide (0 < i ∧ row ≠ [] ∧ row = last) = true) := Lib.hid (decide_eq_true hsame)
          rw [Hq.out]
          have Hsame := Lib.hid hsame
          have Hrun := Lib.hid (HR.out.same Hup.out Hea.out Heb.out Hy0.out.1 Hy0.out.2 C3.out.1 C3.out.2.1 hsame.2.1 hsame.2.2)
          have Hfr := Lib.hid HR.out.fr_le
          clear hsame
          go_wp2_with fail
          go_loopw [13] (fun vk wx => ∃ k : Nat, vk = .int .i64 k ∧ fr ≤ k ∧ k ≤ out.length ∧ wx.ownsRow w1.heap.size 32 4 (.slice po out.length co) out.length (rts (partY out fr y1 k)) ∧ SpR (fun k => (Value.slice po out.length co).ownBlock ≠ some k) wx (.slice pl last.length cl) last ∧ Gou.Mod (fun _ => False) w1 wx ∧ wx.cell? ⟨gy, oy + (i + 1), none⟩ = some (.int .i64 y1) ∧ gy < wx.heap.size) (fun vk _ => out.length - (intOf vk).toNat)
          case atStart => exact ⟨fr, rfl, Nat.le_refl _, Hfr.out, by rw [partY_start]; exact HI6.out.1, HI6.out.2.1, HI6.out.2.2, cy7, Nat.lt_of_lt_of_le Hgy1.out HI6.out.2.2.size⟩
          case round =>
            obtain ⟨k, rfl, hk0, hk1, hown, hlst, hm, hcy, hgy⟩ := hrel
            have Hown := Lib.hid hown
            have Hlst := Lib.hid hlst
            have Hm := Lib.hid hm
            have Hk := Lib.hid (And.intro hk0 hk1)
            clear hlst hm hown
            have wk : IntKind.i64.wrap ((k : Int) + 1) = (k : Int) + 1 := wrap_id (by omega) (by have h1 := HI.out.len; have := Hbig.out i (by have := Hi1.out; omega); omega)
            by_cases hkl : k < out.length
            · have t1 : decide ((k : Int) < (out.length : Int)) = true := decide_eq_true (by omega)
              obtain ⟨gb, rfl⟩ := own_some Hown.out (by omega)
              have hpl : k < (partY out fr y1 k).length := by rw [partY_len]; exact hkl
              have hc := Hown.out.cellAt (k * 4 + 3) (by omega)
              rw [(rts_get _ k hpl).2.2.2] at hc
              have hf := Hown.out.frozenAt (k * 4 + 3)
              have k0 : (0 : Int) ≤ (k : Int) := by omega
              have k1 : (k : Int) < (out.length : Int) := by omega
              have Hset : Hid ((rts (partY out fr y1 k)).set (k * 4 + 3) (.int .i64 y1) = rts (partY out fr y1 (k + 1))) := Lib.hid (by rw [rts_set _ _ hpl, partY_get _ _ _ _ hkl, partY_set _ _ _ _ hk0 hkl])
              have Hne : Hid (gy ≠ gb) := Lib.hid (fun h => Hgyne.out (by rw [h]; rfl))
              have Hkl := Lib.hid hkl
              generalize ((partY out fr y1 k)[k]).y1 = oldy at *
              clear hpl hkl
              go_wp2_with fail
              go_roundw
              case rel =>
                refine ⟨k + 1, by go_num, by have := Hk.out; omega, by have := Hkl.out; omega, ?_, ?_, ?_, ?_, ?_⟩
                · have h := own_set Hown.out (k * 4 + 3) (.int .i64 y1)
                  rw [Hset.out] at h
                  exact h
                · exact Hlst.out.mod (Gou.Mod.setCell _ ⟨gb, k * 4 + 3, none⟩ _) (fun b _ hb hs => hb (by rw [hs]; rfl))
                · exact Hm.out.trans (Gou.Mod.setCell _ ⟨gb, k * 4 + 3, none⟩ _) (fun b hb hs => absurd (own_ge Hown.out gb rfl) (by simp only at hs; omega))
                · exact ((Gou.Mod.setCell _ ⟨gb, k * 4 + 3, none⟩ (.int .i64 y1)).cell (p := ⟨gy, oy + (i + 1), none⟩) hgy Hne.out).trans hcy
                · exact Nat.lt_of_lt_of_le hgy (Gou.Mod.setCell _ ⟨gb, k * 4 + 3, none⟩ (.int .i64 y1)).size
              case measure => have := Hkl.out; simp [intOf, wk]; omega
            · obtain rfl : k = out.length := by have := Hk.out; omega
              have t1 : decide ((out.length : Int) < (out.length : Int)) = false := decide_eq_false (by omega)
              have Hend : Hid (partY out fr y1 out.length = out.take fr ++ (out.drop fr).map (setY1 y1)) := Lib.hid (partY_end _ _ _ Hfr.out)
              have Hlen : Hid ((out.take fr ++ (out.drop fr).map (setY1 y1)).length = out.length) := Lib.hid (by rw [← partY_end _ _ _ Hfr.out, partY_len])
              go_wp2_with fail
              go_roundw
              case rel =>
                refine ⟨i + 1, fr, out.take fr ++ (out.drop fr).map (setY1 y1), last, by go_num, rfl, ⟨fun _ => Hrun.out, fun h => by have := Hi1.out; rw [h] at this; simp at this, fun h => by omega, ?_, Hlst.out, Hm.out, ?_, HI.out.llen, .inl (by have := Hi1.out; omega)⟩⟩
                · rw [Hlen.out, ← Hend.out]; exact Hown.out
                · rw [Hlen.out]; have := HI.out.len; rw [Nat.add_mul]; omega
              case measure => have := Hi1.out; simp [intOf, wi]; omega
        · have Hq : Hid (decide (0 < i ∧ row ≠ [] ∧ row = last) = false) := Lib.hid (decide_eq_false hsame)
          rw [Hq.out]
          have Hrun := Lib.hid (HR.out.other Hup.out Hea.out Heb.out Hy0.out.1 Hy0.out.2 C3.out.1 C3.out.2.1 (by
            by_cases h1 : row = []
            · exact .inl h1
            · refine .inr fun h2 => ?_
              by_cases h3 : 0 < i
              · exact hsame ⟨h3, h1, h2⟩
              · exact h1 (by rw [h2, HI.out.zero (by omega)])))
          clear hsame
          go_wp2_with fail
          go_loopw [7, 74] (fun vo vk wx => ∃ (k : Nat) (o : List Rt), vk = .int .i64 k ∧ k ≤ row.length ∧ o = out ++ bandOf (row.take k) y0 y1 ∧ wx.ownsRow w1.heap.size 32 4 vo o.length (rts o) ∧ SpR (fun k => vo.ownBlock ≠ some k) wx (.slice p3 row.length c3) row ∧ Gou.Mod (fun _ => False) w1 wx) (fun _ vk _ => row.length - (intOf vk).toNat)
          case atStart => exact ⟨0, out, rfl, by omega, by simp [bandOf], HI6.out.1, HRow6.out, HI6.out.2.2⟩
          case round =>
            obtain ⟨k, o, rfl, hk, ho, hown, hrow, hm⟩ := hrel
            obtain ⟨po, co, rfl⟩ := Gou.ownsRow_form hown
            have Ho := Lib.hid ho
            have Hown := Lib.hid hown
            have Hrow := Lib.hid hrow
            have Hm := Lib.hid hm
            clear ho hown hrow hm
            have wk : IntKind.i64.wrap ((k : Int) + 1) = (k : Int) + 1 := wrap_id (by omega) (by have h1 := C3.out.2.2; have := Hxy.out.1; omega)
            by_cases hkl : k < row.length
            · have t1 : decide ((k : Int) < (row.length : Int)) = true := decide_eq_true (by omega)
              obtain ⟨-, br, or_, rfl, hbr, hbne, hcr⟩ := Hrow.out.cells (by omega)
              obtain ⟨r0, r1⟩ := hcr k hkl
              have k0 : (0 : Int) ≤ (k : Int) := by omega
              have k1 : (k : Int) < (row.length : Int) := by omega
              have HF : Hid (o.length + 1 ≤ maxLen ∧ (o.length + 1) * 32 ≤ 140737488355328) := Lib.hid (by
                have h1 := HI.out.len
                have h2 := Hbig.out i (by have := Hi1.out; omega)
                have h3 := C3.out.2.2
                have h6 := Hxy.out.1
                have h4 : o.length = out.length + k := by rw [Ho.out, List.length_append, bandOf_len, List.length_take]; omega
                have h5 := Hn.out
                unfold maxLen
                omega)
              have Hstep : Hid (out ++ bandOf (row.take (k + 1)) y0 y1 = o ++ [⟨row[k].a, y0, row[k].b, y1⟩]) := Lib.hid (by rw [List.take_succ_eq_append_getElem hkl, bandOf_snoc, ← List.append_assoc, ← Ho.out])
              have Hk := Lib.hid (And.intro hk hkl)
              clear hcr hbne
              generalize row[k] = s at *
              obtain ⟨sa, sb⟩ := s
              simp only at r0 r1
              go_wp2_with fail
              have HN := Lib.hid (Blk.new wr 108 #[.int .i64 sa, .int .i64 sb])
              have Hown3 := Lib.hid (own_up Hown.out (Gou.Mod.alloc0 wr (.cells #[.int .i64 sa, .int .i64 sb] 108)))
              have Hrow3 := Lib.hid (RowG.under Hrow.out (Gou.Mod.alloc0 wr (.cells #[.int .i64 sa, .int .i64 sb] 108)))
              have Hm3 : Hid (Gou.Mod (fun _ => False) w1 (wr.alloc (.cells #[.int .i64 sa, .int .i64 sb] 108))) := Lib.hid (Hm.out.trans' (Gou.Mod.alloc0 _ _))
              have Nne : Hid ((Value.slice po o.length co).ownBlock ≠ some wr.heap.size) := Lib.hid (fun h => by have := (Hown.out.lt _ h).2; omega)
              have Gne : Hid ((Value.slice po o.length co).ownBlock ≠ some gy) := Lib.hid (fun h => by have := own_ge Hown.out gy h; have := Hgy1.out; omega)
              have Nlt : Hid (wr.heap.size < (wr.alloc (.cells #[.int .i64 sa, .int .i64 sb] 108)).heap.size) := Lib.hid (by simp)
              clear r0 r1 Hown Hrow Hm
              generalize wr.alloc (.cells #[.int .i64 sa, .int .i64 sb] 108) = W3 at *
              generalize wr.heap.size = N at *
              have cb0 := HN.out.cell 0 rfl
              have cb1 := HN.out.cell 1 rfl
              have cy1 : W3.cell? ⟨gy, oy + (i + 1), none⟩ = some (.int .i64 y1) := (Hm3.out.cell (p := ⟨gy, oy + (i + 1), none⟩) Hgy1.out (fun h => h)).trans Hcy.out.2
              have cy0 : W3.cell? ⟨gy, oy + i, none⟩ = some (.int .i64 y0) := (Hm3.out.cell (p := ⟨gy, oy + i, none⟩) Hgy1.out (fun h => h)).trans Hcy.out.1
              have Hgy : Hid (gy < W3.heap.size) := Lib.hid (Nat.lt_of_lt_of_le Hgy1.out Hm3.out.size)
              go_wp2_with fail
              refine wp_region_held_drew (S := fun w' => Gou.Mod (fun b => (Value.slice po o.length co).ownBlock = some b) W3 w') (by kernel_rfl) (Gou.Mod.drew _ _) (fun hHeld => ?_)
              refine tk 0 (.slice po o.length co) hHeld (h := ?_)
              refine tk 1 (.pointer (some ⟨N, 0, none⟩)) hHeld (h := ?_)
              refine tkC 2 cb0 (by show ¬ (_ = some N); exact Nne.out) hHeld (h := ?_)
              refine tk 3 (.slice (some ⟨gy, oy, none⟩) ys.length cy) hHeld (h := ?_)
              refine tk 4 (.int .i64 (i : Nat)) hHeld (h := ?_)
              refine tk 5 (.pointer (some ⟨gy, oy + i, none⟩)) hHeld (h := ?_)
              refine tkC 6 cy0 (by show ¬ (_ = some gy); exact Gne.out) hHeld (h := ?_)
              refine tk 7 (.pointer (some ⟨N, 1, none⟩)) hHeld (h := ?_)
              refine tkC 8 cb1 (by show ¬ (_ = some N); exact Nne.out) hHeld (h := ?_)
              refine tk 9 (.slice (some ⟨gy, oy, none⟩) ys.length cy) hHeld (h := ?_)
              refine tk 10 (.int .i64 (i : Nat)) hHeld (h := ?_)
              refine tk 11 (.int .i64 ((i : Int) + 1)) hHeld (h := ?_)
              refine tk 12 (.pointer (some ⟨gy, oy + (i + 1), none⟩)) hHeld (h := ?_)
              refine tkC 13 cy1 (by show ¬ (_ = some gy); exact Gne.out) hHeld (h := ?_)
              refine tk 14 (.agg #[.int .i64 sa, .int .i64 y0, .int .i64 sb, .int .i64 y1]) hHeld (h := ?_)
              refine rd 15 (h := fun K hK => ?_)
              go_simp
              refine hK _ _ (hHeld.trans' (Gou.Mod.alloc _ _ _)) (fun hHeld => ?_)
              clear hK K
              try simp only [Act.put, uSa, uSb, uSc]
              refine rd 16 (h := fun K hK => ?_)
              refine wp_append_row T_reg _ _ rfl w1.heap.size (.slice po o.length co) o.length (rts o) (fun _ => True) (.slice (some ⟨W3.heap.size, 0, none⟩) 1 1) 1 [.int .i64 sa, .int .i64 y0, .int .i64 sb, .int .i64 y1] rfl rfl (by have := Hm3.out.size; simp; omega)
                (own_up (own_up Hown3.out (Gou.Mod.drew _ _)) (Gou.Mod.alloc0 _ _)) (RowG.of_blk (Blk.new W3.drew 32 #[.int .i64 sa, .int .i64 y0, .int .i64 sb, .int .i64 y1]) 4 1 rfl _ trivial) (rtC_one ⟨sa, y0, sb, y1⟩) HF.out.1 HF.out.2 ?_
              intro v5 w5 G5
              have Hm5 := Lib.hid (G5.mod0 ((Hm3.out.trans' (Gou.Mod.drew _ _)).trans' (Gou.Mod.alloc0 _ _)) (own_ge Hown3.out))
              have Hl5 := Lib.hid (RowG.grown (((Hrow3.out.under (Gou.Mod.drew _ _))).under (Gou.Mod.alloc0 _ _)) G5)
              have Hown5 := Lib.hid G5.own
              have hS5 := hHeld.trans' G5.mod
              obtain ⟨p5, c5, rfl⟩ := Gou.ownsRow_form Hown5.out
              clear G5
              refine hK _ _ hS5 (fun hHeld => ?_)
              clear hK K
              try simp only [Act.put, uSa, uSb, uSc]
              refine tk 17 (.slice p5 (o.length + 1) c5) hHeld (h := ?_)
              refine wpAnyH_done (by kernel_rfl) ?_ _
              clear hHeld
              go_wp2_with fail
              go_roundw
              case rel =>
                refine ⟨k + 1, o ++ [⟨sa, y0, sb, y1⟩], by go_num, by have := Hk.out; omega, Hstep.out.symm, ?_, Hl5.out, Hm5.out⟩
                have h := Hown5.out
                simpa [rts, rtC] using h
              case measure => have := Hk.out; simp [intOf, wk]; omega
            · obtain rfl : k = row.length := by omega
              have t1 : decide ((row.length : Int) < (row.length : Int)) = false := decide_eq_false (by omega)
              rw [List.take_length] at Ho
              go_wp2_with fail
              go_roundw
              case rel =>
                refine ⟨i + 1, out.length, o, row, by go_num, rfl, ⟨fun _ => by rw [Ho.out]; exact Hrun.out, fun h => by have := Hi1.out; rw [h] at this; simp at this, fun h => by omega, Hown.out, Hrow.out, Hm.out, ?_, C3.out.2.2, .inl (by have := Hi1.out; omega)⟩⟩
                rw [Ho.out, List.length_append, bandOf_len, Nat.add_mul]
                have := HI.out.len
                have := C3.out.2.2
                omega
              case measure => have := Hi1.out; simp [intOf, wi]; omega
    · have e1 : decide ((i : Int) + 1 < (ys.length : Int)) = false := decide_eq_false (by omega)
      have Hend : Hid (CombP w a b f (.returned (.slice po out.length co)) wr) := Lib.hid (by
        refine ⟨Hm1.out.trans' HI.out.mod, _, out, rfl, ownsRow_base HI.out.own Hm1.out.size, ?_, ?_⟩
        · rcases HI.out.at_ with h | ⟨h, _⟩
          · exact (HI.out.run (by omega)).done HW.out.none Hup.out Hea.out Heb.out (by omega)
          · rw [HI.out.none h]
            exact reg_empty HW.out.none (by have := Hea.out; rwa [h] at this) (by have := Heb.out; rwa [h] at this)
        · have h0 := HI.out.len
          rcases HI.out.at_ with h | ⟨_, h⟩
          · have := Hbig.out i h
            omega
          · rw [h, Nat.zero_mul] at h0
            omega)
      go_wp2_with fail
      go_ret
      exact Hend.out
end Go.Proofs.YtlpieeeeolfclaaGreatDoor

/- Regions: the code's regions of rectangles, joined, met, cut; right ones. -/
namespace Go.Reg
/-- A right list of rectangles. -/
def IsRight (l : List Rt) : Prop := (∀ r ∈ l, r.Some ∧ r.Right) ∧ RegOf l (Pts l [] orF)
theorem RegOf.eq_iff {l out : List Rt} (h : RegOf out (Pts l [] orF)) : l = out ↔ RegOf l (Pts l [] orF) := ⟨fun e => by rw [← e] at h; exact h, fun h2 => h2.uniq h (fun _ _ => Iff.rfl)⟩
end Go.Reg
namespace Go.Proofs.YtlpieeeeolfclaaGreatDoor
open Go.RowKit Go.Gou Go.Reg Go.Shelf
set_option maxRecDepth 100000

theorem regOf_any (w : World) (p : Option Addr) (c : Nat) (l : List Rt) (hl : RtR (fun _ => True) w (.slice p l.length c) l) (hx : ∀ r ∈ l, Near r.x0) (xs0 ys0 : List Int) (hE : Edg xs0 ys0 l) (hxs : xs0.length ≤ 30000) (hys : ys0.length ≤ 30000) (hn : l.length ≤ 1000000000) :
    Calls Tryz.prog 28 #[.slice p l.length c] w (CombP w l [] orF) := by
  have hcon := combine_any w 58 orF W_either p none c 0 l [] hl (RowG.nil _ _ _) hx (fun r hr => by cases hr) xs0 ys0 (by simpa using hE) hxs hys (by simpa using hn)
  have Hcon := Lib.hid hcon
  clear hcon hl hx hn hE hxs hys
  go_enter Tryz.func28, Tryz.ntmps28
  go_wp2_with fail
  refine Hcon.out.mono ?_
  rintro e w1 hc
  obtain ⟨hm, v, out, rfl, hown, hr⟩ := hc
  have Hend : Hid (CombP w l [] orF (.returned v) w1) := Lib.hid ⟨hm, v, out, rfl, hown, hr⟩
  obtain ⟨p1, c1, rfl⟩ := Gou.ownsRow_form hown
  clear hm hown hr
  go_wp2_with fail
  go_ret
  exact Hend.out

theorem regJoin_any (w : World) (pa pb : Option Addr) (ca cb : Nat) (a b : List Rt) (hA : RtR (fun _ => True) w (.slice pa a.length ca) a) (hB : RtR (fun _ => True) w (.slice pb b.length cb) b) (hax : ∀ r ∈ a, Near r.x0) (hbx : ∀ r ∈ b, Near r.x0) (xs0 ys0 : List Int) (hE : Edg xs0 ys0 (a ++ b)) (hxs : xs0.length ≤ 30000) (hys : ys0.length ≤ 30000) (hn : a.length + b.length ≤ 1000000000) :
    Calls Tryz.prog 31 #[.slice pa a.length ca, .slice pb b.length cb] w (CombP w a b orF) := by
  have Hcon := Lib.hid (combine_any w 58 orF W_either pa pb ca cb a b hA hB hax hbx xs0 ys0 hE hxs hys hn)
  clear hA hB hax hbx hn hE hxs hys
  go_enter Tryz.func31, Tryz.ntmps31
  go_wp2_with fail
  refine Hcon.out.mono ?_
  rintro e w1 hc
  obtain ⟨hm, v, out, rfl, hown, hr⟩ := hc
  have Hend : Hid (CombP w a b orF (.returned v) w1) := Lib.hid ⟨hm, v, out, rfl, hown, hr⟩
  obtain ⟨p1, c1, rfl⟩ := Gou.ownsRow_form hown
  clear hm hown hr
  go_wp2_with fail
  go_ret
  exact Hend.out

theorem regMeet_any (w : World) (pa pb : Option Addr) (ca cb : Nat) (a b : List Rt) (hA : RtR (fun _ => True) w (.slice pa a.length ca) a) (hB : RtR (fun _ => True) w (.slice pb b.length cb) b) (hax : ∀ r ∈ a, Near r.x0) (hbx : ∀ r ∈ b, Near r.x0) (xs0 ys0 : List Int) (hE : Edg xs0 ys0 (a ++ b)) (hxs : xs0.length ≤ 30000) (hys : ys0.length ≤ 30000) (hn : a.length + b.length ≤ 1000000000) :
    Calls Tryz.prog 27 #[.slice pa a.length ca, .slice pb b.length cb] w (CombP w a b andF) := by
  have Hcon := Lib.hid (combine_any w 57 andF W_both pa pb ca cb a b hA hB hax hbx xs0 ys0 hE hxs hys hn)
  clear hA hB hax hbx hn hE hxs hys
  go_enter Tryz.func27, Tryz.ntmps27
  go_wp2_with fail
  refine Hcon.out.mono ?_
  rintro e w1 hc
  obtain ⟨hm, v, out, rfl, hown, hr⟩ := hc
  have Hend : Hid (CombP w a b andF (.returned v) w1) := Lib.hid ⟨hm, v, out, rfl, hown, hr⟩
  obtain ⟨p1, c1, rfl⟩ := Gou.ownsRow_form hown
  clear hm hown hr
  go_wp2_with fail
  go_ret
  exact Hend.out

end Go.Proofs.YtlpieeeeolfclaaGreatDoor

