/- The node check: pixels, tiles, matrices. -/
import Derived.Test.YtfphlkoneocejaaNodeA
namespace Go.Proofs.Ytfphlkoneocejaa
open Go.RowKit Go.Gou

theorem wrap_u8 {x : Int} (h0 : 0 ≤ x) (h1 : x ≤ 255) : IntKind.u8.wrap x = x := by
  simp [IntKind.wrap, IntKind.signed, IntKind.bits]; omega

def pxRight (a b c d : Int) : Bool := decide (a ≤ d) && (decide (b ≤ d) && decide (c ≤ d))

set_option maxHeartbeats 400000 in
theorem right_any (a b c d : Int) (w : World) :
    Calls Try.prog 30 #[.agg #[.int .u8 a, .int .u8 b, .int .u8 c, .int .u8 d]] w fun e w' => e = .returned (.bool (pxRight a b c d)) ∧ Below w.heap.size w w' := by
  go_enter Try.func30, Try.ntmps30
  go_wp2
  all_goals go_ret
  all_goals refine ⟨ret_bool ?_, (Below.refl _ _).alloc (Nat.le_refl _) _⟩
  all_goals simp only [pxRight]
  all_goals first | (simp; omega) | (simp [*]; done)

def matB (m : List Int) : Bool := decide (m.length = 20) && m.all (withinB (-32768) 32767)

set_option maxHeartbeats 400000 in
theorem matrix_any (w : World) (v : Value) (xs : List Int) (hx : IntsAt w.heap.size w v xs) (hl : xs.length ≤ maxLen) :
    Calls Try.prog 21 #[v] w fun e w' => e = .returned (.bool (matB xs)) ∧ Below w.heap.size w w' := by
  obtain ⟨p, cap, rfl, _, hp⟩ := hx
  unfold maxLen at hl
  by_cases h20 : xs.length = 20
  · have H20 := Lib.hid h20
    have e20 : ((xs.length : Int) != 20) = false := by rw [h20]; rfl
    have hl20 : xs.length ≤ 20 := by omega
    clear h20
    go_enter Try.func21, Try.ntmps21
    go_wp2
    go_loop [10] (fun i => ∃ k : Nat, k ≤ xs.length ∧ i = .int .i64 k ∧ (xs.take k).all (withinB (-32768) 32767) = true) (fun i => xs.length - (intOf i).toNat)
    case atStart => exact ⟨0, Nat.zero_le _, rfl, rfl⟩
    case round =>
      obtain ⟨k, hk, rfl, hall⟩ := hrel
      have Hall := Lib.hid hall
      clear hall
      by_cases hlt : k < xs.length
      · rcases hp with rfl | ⟨b, o, rfl, hb, hc⟩
        · simp at hlt
        have hc' := hc k hlt
        clear hc
        have hn : ∀ h : withinB (-32768) 32767 xs[k] = false, matB xs = false := by
          intro h
          rw [Bool.eq_false_iff]
          intro hm
          simp only [matB, Bool.and_eq_true, List.all_eq_true] at hm
          have := hm.2 _ (List.getElem_mem hlt)
          rw [h] at this
          cases this
        have HN := Lib.hid hn
        clear hn
        by_cases h1 : xs[k] < -32768
        · go_wp2
          go_ret
          exact ⟨ret_bool (by rw [HN.out (by simp [withinB]; omega)]), Below.refl _ _⟩
        · by_cases h2 : 32767 < xs[k]
          · go_wp2
            go_ret
            exact ⟨ret_bool (by rw [HN.out (by simp [withinB]; omega)]), Below.refl _ _⟩
          · go_wp2
            go_round
            case rel => exact ⟨k + 1, by omega, by go_num, by rw [List.all_take_succ _ _ _ hlt, Hall.out]; simp [withinB]; omega⟩
            case measure => simp [intOf]; omega
      · go_wp2
        go_ret
        have : xs.length = k := by omega
        exact ⟨ret_bool (by unfold matB; rw [← Hall.out, List.take_of_length_le (by omega)]; simp [H20.out]), Below.refl _ _⟩
  · have e20 : ((xs.length : Int) != 20) = true := by rw [bne_iff_ne]; omega
    have H20 := Lib.hid h20
    clear h20
    go_enter Try.func21, Try.ntmps21
    go_wp2
    go_ret
    exact ⟨ret_bool (by simp [matB, H20.out]), Below.refl _ _⟩

/-- Of four numbers at least, the first four: in 0 to 255, and a right pixel. -/
def pixB (l : List Int) : Bool := l.all (withinB 0 255) && pxRight (l.getD 0 0) (l.getD 1 0) (l.getD 2 0) (l.getD 3 0)

theorem within_getD {lo hi : Int} {l : List Int} (h : l.all (withinB lo hi) = true) {i : Nat} (hi' : i < l.length) : lo ≤ l.getD i 0 ∧ l.getD i 0 ≤ hi := by
  rw [List.all_eq_true] at h
  have := h l[i] (List.getElem_mem hi')
  simp only [withinB, Bool.and_eq_true, decide_eq_true_eq] at this
  simpa [List.getD, hi'] using this

set_option maxHeartbeats 1000000 in
theorem pixel_any (w : World) (v : Value) (xs : List Int) (hx : IntsAt w.heap.size w v xs) (hl : xs.length = 4) :
    Calls Try.prog 22 #[v] w fun e w' => e = .returned (.bool (pixB xs)) ∧ Below w.heap.size w w' := by
  have hx0 := hx
  obtain ⟨b, o, cap, rfl, hcap, hb, hc⟩ := ints_cells hx (by omega)
  have Hl := Lib.hid hl
  have hle : xs.length ≤ maxLen := by unfold maxLen; omega
  rw [hl] at hc hx0 ⊢
  clear hl
  cases hall : xs.all (withinB 0 255) with
  | false =>
    have Hall := Lib.hid hall
    go_enter Try.func22, Try.ntmps22
    go_wp2_with fail
    refine (within_any _ _ _).mono ?_
    rintro e w1 ⟨fv, rfl, hq, hb1⟩
    have hz1 : w.heap.size ≤ w1.heap.size := hb1.size
    go_wp2_with fail
    refine (all_any w1 _ _ xs _ (hx0.up hb1) (hq.asks xs) hle).mono ?_
    rintro e w2 ⟨rfl, hb2⟩
    go_wp2
    go_ret
    exact ⟨ret_bool (by simp [pixB, Hall.out]), hb1.trans (hb2.mono hz1)⟩
  | true =>
    have Hall := Lib.hid hall
    go_enter Try.func22, Try.ntmps22
    go_wp2_with fail
    refine (within_any _ _ _).mono ?_
    rintro e w1 ⟨fv, rfl, hq, hb1⟩
    have hz1 : w.heap.size ≤ w1.heap.size := hb1.size
    go_wp2_with fail
    refine (all_any w1 _ _ xs _ (hx0.up hb1) (hq.asks xs) hle).mono ?_
    rintro e w2 ⟨rfl, hb2⟩
    rw [hall]
    have hbw2 : b < w2.heap.size := by have := hb2.size; omega
    have hb12 := hb1.trans (hb2.mono hz1)
    have c0 := hc 0 (by omega)
    have c1 := hc 1 (by omega)
    have c2 := hc 2 (by omega)
    have c3 := hc 3 (by omega)
    rw [← hb12.cell (p := ⟨b, o + 0, none⟩) hb] at c0
    rw [← hb12.cell (p := ⟨b, o + 1, none⟩) hb] at c1
    rw [← hb12.cell (p := ⟨b, o + 2, none⟩) hb] at c2
    rw [← hb12.cell (p := ⟨b, o + 3, none⟩) hb] at c3
    obtain ⟨l0, u0⟩ := within_getD hall (i := 0) (by rw [Hl.out]; omega)
    obtain ⟨l1, u1⟩ := within_getD hall (i := 1) (by rw [Hl.out]; omega)
    obtain ⟨l2, u2⟩ := within_getD hall (i := 2) (by rw [Hl.out]; omega)
    obtain ⟨l3, u3⟩ := within_getD hall (i := 3) (by rw [Hl.out]; omega)
    have Hp : Hid (pixB xs = pxRight (xs.getD 0 0) (xs.getD 1 0) (xs.getD 2 0) (xs.getD 3 0)) := by
      show _ = _
      simp only [pixB, hall, Bool.true_and]
    generalize xs.getD 0 0 = x0 at *
    generalize xs.getD 1 0 = x1 at *
    generalize xs.getD 2 0 = x2 at *
    generalize xs.getD 3 0 = x3 at *
    clear hc hall hx0 hx
    rw [Nat.add_zero] at c0
    go_wp2_with fail
    go_region_held3 (fun w' => Below w.heap.size w w' ∧ w'.cell? ⟨b, o, none⟩ = some (.int .i64 x0) ∧ w'.cell? ⟨b, o + 1, none⟩ = some (.int .i64 x1) ∧ w'.cell? ⟨b, o + 2, none⟩ = some (.int .i64 x2) ∧ w'.cell? ⟨b, o + 3, none⟩ = some (.int .i64 x3))
      (first | exact ⟨hb12.drew, c0, c1, c2, c3⟩ | (obtain ⟨g0, g1, g2, g3, g4⟩ := ‹Below w.heap.size w _ ∧ _›; exact ⟨later_below g0 hb3, later_cell g0 hb3 hb g1, later_cell g0 hb3 hb g2, later_cell g0 hb3 hb g3, later_cell g0 hb3 hb g4⟩))
      (first | (go_at_call 30; refine (right_any _ _ _ _ _).mono ?_; rintro e w3 ⟨rfl, hb3⟩))
    go_wp2
    go_ret
    exact ⟨ret_bool (by rw [Hp.out, wrap_u8 l0 u0, wrap_u8 l1 u1, wrap_u8 l2 u2, wrap_u8 l3 u3]), later_below hb12.drew hb3⟩

def tileB (l : List Int) : Bool :=
  decide (0 < l.getD 2 0 - l.getD 0 0) && decide (0 < l.getD 3 0 - l.getD 1 0) && decide (l.getD 2 0 - l.getD 0 0 ≤ 4096) && decide (l.getD 3 0 - l.getD 1 0 ≤ 4096)

set_option maxHeartbeats 1000000 in
theorem tile_any (w : World) (v : Value) (xs : List Int) (hx : IntsAt w.heap.size w v xs) (hl : xs.length = 4) (hall : xs.all (withinB (-1048576) 1048576) = true) :
    Calls Try.prog 23 #[v] w fun e w' => e = .returned (.bool (tileB xs)) ∧ Below w.heap.size w w' := by
  obtain ⟨b, o, cap, rfl, hcap, hb, hc⟩ := ints_cells hx (by omega)
  have c0 := hc 0 (by omega)
  have c1 := hc 1 (by omega)
  have c2 := hc 2 (by omega)
  have c3 := hc 3 (by omega)
  rw [Nat.add_zero] at c0
  obtain ⟨l0, u0⟩ := within_getD hall (i := 0) (by omega)
  obtain ⟨l1, u1⟩ := within_getD hall (i := 1) (by omega)
  obtain ⟨l2, u2⟩ := within_getD hall (i := 2) (by omega)
  obtain ⟨l3, u3⟩ := within_getD hall (i := 3) (by omega)
  rw [hl]
  clear hc hall hx hl
  unfold tileB
  generalize xs.getD 0 0 = x0 at *
  generalize xs.getD 1 0 = x1 at *
  generalize xs.getD 2 0 = x2 at *
  generalize xs.getD 3 0 = x3 at *
  have e1 : IntKind.i64.wrap (x2 - x0) = x2 - x0 := IntWalk.i64_in _ (by omega)
  have e2 : IntKind.i64.wrap (x3 - x1) = x3 - x1 := IntWalk.i64_in _ (by omega)
  go_enter Try.func23, Try.ntmps23
  go_wp2
  go_quiet (fail)
  clear e1 e2
  go_wp2
  all_goals go_ret
  all_goals refine ⟨ret_bool ?_, below_drewN (Below.refl _ _) _⟩
  all_goals first | (simp; omega) | (simp [*]; done)

def boundsB (n : GNode) : Bool :=
  if n.op = 1 ∨ n.op = 12 then n.ps.all (withinB (-1048576) 1048576)
  else if n.op = 2 ∨ n.op = 3 ∨ n.op = 4 then n.ps.all (withinB 0 255)
  else if n.op = 5 then matB n.ps
  else if n.op = 6 then pixB (n.ps.take 4) && (n.ps.drop 4).all (withinB (-1048576) 1048576)
  else if n.op = 7 then n.ps.all (withinB 0 6)
  else if n.op = 8 then n.ps.all (withinB 0 5)
  else if n.op = 10 then n.ps.all (withinB (-1048576) 1048576) && tileB n.ps
  else if n.op = 11 then (n.ps.take 2).all (withinB (-1048576) 1048576) && ((n.ps.drop 2).take 2).all (withinB 0 255) && pixB (n.ps.drop 4)
  else true

end Go.Proofs.Ytfphlkoneocejaa
