/- The document's answer for layer 12: numbers within bounds, pixels, matrices. -/
import Derived.Test.YtfphlkoneocejaaDoorRefA
namespace Go.Proofs.YtfphlkoneocejaaDoor
open Go.RowKit Go.Gou

/-- The part of a list from one place up to another. -/
def seg (l : List Int) (a b : Nat) : List Int := (l.drop a).take (b - a)

theorem seg_succ (l : List Int) (a k : Nat) (ha : a ≤ k) (hk : k < l.length) : seg l a (k + 1) = seg l a k ++ [l.getD k 0] := by
  unfold seg
  rw [show k + 1 - a = (k - a) + 1 by omega, List.take_succ_eq_append_getElem (by simp; omega)]
  congr 1
  simp [List.getD, hk, show a + (k - a) = k by omega]

theorem seg_self (l : List Int) (a : Nat) : seg l a a = [] := by simp [seg]
theorem seg_all (l : List Int) : seg l 0 l.length = l := by simp [seg]

theorem seg_mem {l : List Int} {a b k : Nat} (ha : a ≤ k) (hk : k < b) (hl : k < l.length) : l.getD k 0 ∈ seg l a b := by
  unfold seg
  rw [List.mem_take_iff_getElem]
  refine ⟨k - a, by simp; omega, ?_⟩
  simp [List.getD, hl, show a + (k - a) = k by omega]

set_option maxHeartbeats 1000000 in
theorem near_any (w : World) (v : Value) (xs : List Int) (a b : Nat) (lo hi : Int) (hv : IntsAt w.heap.size w v xs) (hab : a ≤ b) (hb : b ≤ xs.length) (hl : xs.length ≤ 1000) :
    Calls Tryd.prog 19 #[v, .int .i64 a, .int .i64 b, .int .i64 lo, .int .i64 hi] w fun e w' => e = .returned (.bool ((seg xs a b).all (withinB lo hi))) ∧ w' = w := by
  obtain ⟨p, cap, rfl, hcap, hp⟩ := hv
  have Hp := Lib.hid hp
  clear hp
  go_enter Tryd.func19, Tryd.ntmps19
  go_wp2_with fail
  go_loop [11] (fun c => ∃ k : Nat, c = .int .i64 k ∧ a ≤ k ∧ k ≤ b ∧ (seg xs a k).all (withinB lo hi) = true) (fun c => b - (intOf c).toNat)
  case atStart => exact ⟨a, rfl, Nat.le_refl _, hab, by rw [seg_self]; rfl⟩
  case round =>
    obtain ⟨k, rfl, hak, hkb, hall⟩ := hrel
    have Hall := Lib.hid hall
    clear hall
    by_cases hlt : k < b
    · rcases Hp.out with hx | ⟨bb, o, rfl, hbb, hc⟩
      · rw [hx] at hb; simp at hb; omega
      have hx := hc k (by omega)
      have hgd : xs[k]'(by omega) = xs.getD k 0 := by simp [List.getD, show k < xs.length by omega]
      rw [hgd] at hx
      have hmem := seg_mem hak hlt (show k < xs.length by omega)
      have hno : withinB lo hi (xs.getD k 0) = false → (seg xs a b).all (withinB lo hi) = false := by
        intro h
        rw [Bool.eq_false_iff]
        intro hm
        rw [List.all_eq_true] at hm
        have := hm _ hmem
        rw [h] at this
        cases this
      have hyes : withinB lo hi (xs.getD k 0) = true → (seg xs a (k + 1)).all (withinB lo hi) = true := fun h => by
        rw [seg_succ xs a k hak (by omega), List.all_append, Hall.out]
        simp only [List.all_cons, List.all_nil, Bool.and_true, Bool.true_and]
        exact h
      have Hno := Lib.hid hno
      have Hyes := Lib.hid hyes
      clear hc hno hyes hmem hgd
      generalize xs.getD k 0 = x at *
      by_cases h1 : x < lo
      · have Hf := Lib.hid (Hno.out (by simp [withinB]; omega))
        go_wp2_with fail
        go_ret
        exact ⟨ret_bool Hf.out.symm, rfl⟩
      · by_cases h2 : hi < x
        · have Hf := Lib.hid (Hno.out (by simp [withinB]; omega))
          go_wp2_with fail
          go_ret
          exact ⟨ret_bool Hf.out.symm, rfl⟩
        · have Hf := Lib.hid (Hyes.out (by simp [withinB]; omega))
          go_wp2_with fail
          go_round
          case rel => exact ⟨k + 1, by go_num, by omega, by omega, Hf.out⟩
          case measure => simp [intOf]; omega
    · obtain rfl : k = b := by omega
      go_wp2_with fail
      go_ret
      exact ⟨ret_bool Hall.out.symm, rfl⟩

theorem World.drewN_drewN' (w : World) (a b : Nat) : (w.drewN a).drewN b = w.drewN (a + b) := by simp [World.drewN, Nat.add_assoc]

/-- Ahead of a round: the first k tones are no more than alpha. -/
def RR (a b c d : Int) (k : Nat) : Prop := k ≤ 3 ∧ (0 < k → a ≤ d) ∧ (1 < k → b ≤ d) ∧ (2 < k → c ≤ d)

theorem rr_no {a b c d : Int} (h : d < a ∨ d < b ∨ d < c) : pxRight a b c d = false := by
  simp [pxRight]
  omega

set_option maxHeartbeats 1000000 in
theorem refRight_any (a b c d : Int) (w : World) :
    Calls Tryd.prog 32 #[.agg #[.int .u8 a, .int .u8 b, .int .u8 c, .int .u8 d]] w fun e w' => e = .returned (.bool (pxRight a b c d)) ∧ Below w.heap.size w w' := by
  have hb0 := (Below.refl w.heap.size w).alloc (Nat.le_refl _) (.cells #[.int .u8 a, .int .u8 b, .int .u8 c, .int .u8 d] 56)
  have c0 : (w.alloc (.cells #[.int .u8 a, .int .u8 b, .int .u8 c, .int .u8 d] 56)).cell? ⟨w.heap.size, 0, none⟩ = some (.int .u8 a) := by simp [go_sem]
  have c1 : (w.alloc (.cells #[.int .u8 a, .int .u8 b, .int .u8 c, .int .u8 d] 56)).cell? ⟨w.heap.size, 1, none⟩ = some (.int .u8 b) := by simp [go_sem]
  have c2 : (w.alloc (.cells #[.int .u8 a, .int .u8 b, .int .u8 c, .int .u8 d] 56)).cell? ⟨w.heap.size, 2, none⟩ = some (.int .u8 c) := by simp [go_sem]
  have c3 : (w.alloc (.cells #[.int .u8 a, .int .u8 b, .int .u8 c, .int .u8 d] 56)).cell? ⟨w.heap.size, 3, none⟩ = some (.int .u8 d) := by simp [go_sem]
  go_enter Tryd.func32, Tryd.ntmps32
  go_wp2_with fail
  generalize w.alloc (.cells #[.int .u8 a, .int .u8 b, .int .u8 c, .int .u8 d] 56) = wb at *
  go_loopw [3] (fun q wr => ∃ k m : Nat, q = .int .i64 k ∧ RR a b c d k ∧ wr = wb.drewN m) (fun q _ => 3 - (intOf q).toNat)
  case atStart => exact ⟨0, 0, rfl, ⟨by omega, by omega, by omega, by omega⟩, rfl⟩
  case round =>
    obtain ⟨k, m, rfl, ⟨hk, h0, h1, h2⟩, rfl⟩ := hrel
    have H0 := Lib.hid h0
    have H1 := Lib.hid h1
    have H2 := Lib.hid h2
    clear h0 h1 h2
    by_cases hk3 : k = 3
    · subst hk3
      have e0 := H0.out (by omega)
      have e1 := H1.out (by omega)
      have e2 := H2.out (by omega)
      have hr : pxRight a b c d = true := by simp [pxRight, e0, e1, e2]
      have Hr := Lib.hid hr
      clear hr e0 e1 e2
      go_wp2_with fail
      go_ret
      exact ⟨ret_bool Hr.out.symm, below_drewN hb0 _⟩
    · have hcase : k = 0 ∨ k = 1 ∨ k = 2 := by omega
      rcases hcase with rfl | rfl | rfl
      · by_cases hx : d < a
        · have Hr := Lib.hid (rr_no (b := b) (c := c) (.inl hx))
          go_wp2_with fail
          go_quiet (fail)
          go_wp2_with fail
          go_ret
          exact ⟨ret_bool Hr.out.symm, below_drewN (below_drewN hb0 _) _⟩
        · go_wp2_with fail
          go_quiet (fail)
          go_wp2_with fail
          go_roundw
          case rel => exact ⟨1, _, rfl, ⟨by omega, fun _ => by omega, by omega, by omega⟩, rfl⟩
          case measure => simp [intOf]
      · by_cases hx : d < b
        · have Hr := Lib.hid (rr_no (a := a) (c := c) (.inr (.inl hx)))
          go_wp2_with fail
          go_quiet (fail)
          go_wp2_with fail
          go_ret
          exact ⟨ret_bool Hr.out.symm, below_drewN (below_drewN hb0 _) _⟩
        · go_wp2_with fail
          go_quiet (fail)
          go_wp2_with fail
          go_roundw
          case rel => exact ⟨2, _, rfl, ⟨by omega, fun _ => H0.out (by omega), fun _ => by omega, by omega⟩, rfl⟩
          case measure => simp [intOf]
      · by_cases hx : d < c
        · have Hr := Lib.hid (rr_no (a := a) (b := b) (.inr (.inr hx)))
          go_wp2_with fail
          go_quiet (fail)
          go_wp2_with fail
          go_ret
          exact ⟨ret_bool Hr.out.symm, below_drewN (below_drewN hb0 _) _⟩
        · go_wp2_with fail
          go_quiet (fail)
          go_wp2_with fail
          go_roundw
          case rel => exact ⟨3, _, rfl, ⟨by omega, fun _ => H0.out (by omega), fun _ => H1.out (by omega), fun _ => by omega⟩, rfl⟩
          case measure => simp [intOf]

end Go.Proofs.YtfphlkoneocejaaDoor
