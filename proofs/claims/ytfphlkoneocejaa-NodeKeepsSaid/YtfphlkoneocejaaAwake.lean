/- 'awake': the six answers that the document fixes. -/
import Derived.Test.YtfphlkoneocejaaCheck
namespace Go.Proofs.Ytfphlkoneocejaa
open Go.RowKit Go.Gou

def BlurPost (w : World) (g : Gr) (e : Ending) (w' : World) : Prop := ∃ vg, e = .returned vg ∧ GrV w' vg g ∧ Below w.heap.size w w'

def blurG (i : Int) (ps : List Int) : Gr := ⟨[⟨2, [i], ps⟩], 0⟩

theorem ints_new (w : World) (l : List Int) (T : TypeId) (n : Nat) (hn : l.length = n) : IntsAt (w.alloc (.cells (iv l).toArray T)).heap.size (w.alloc (.cells (iv l).toArray T)) (.slice (some ⟨w.heap.size, 0, none⟩) n n) l := by
  subst hn
  refine ⟨_, _, rfl, Nat.le_refl _, .inr ⟨w.heap.size, 0, rfl, by simp, fun i hi => ?_⟩⟩
  rw [Nat.zero_add, World.cell?_alloc_new]
  simp [iv, hi]

theorem blur_gr (w : World) (i : Int) (p : Option Addr) (c : Nat) (ps : List Int) (T1 T2 T3 : TypeId) (hv : IntsAt w.heap.size w (.slice p ps.length c) ps) :
    GrV (((w.alloc (.cells #[.slice (some ⟨w.heap.size + 1 + 1, 0, none⟩) 1 1, .int .i64 0] T1)).alloc (.cells #[.int .i64 i] T2)).alloc (.cells #[.int .i64 2, .slice (some ⟨w.heap.size + 1, 0, none⟩) 1 1, .slice p ps.length c] T3))
      (.agg #[.slice (some ⟨w.heap.size + 1 + 1, 0, none⟩) 1 1, .int .i64 0]) (blurG i ps) := by
  refine ⟨_, rfl, some ⟨w.heap.size + 1 + 1, 0, none⟩, 1, rfl, Nat.le_refl _, .inr ⟨_, _, rfl, by simp, fun j hj => ?_⟩⟩
  obtain rfl : j = 0 := by simp [blurG] at hj; omega
  have hb : ∀ o1 o2 o3, Below w.heap.size w (((w.alloc o1).alloc o2).alloc o3) := fun o1 o2 o3 => (((Below.refl _ _).alloc (Nat.le_refl _) _).alloc (by simp) _).alloc (by simp; omega) _
  refine ⟨.slice (some ⟨w.heap.size + 1, 0, none⟩) 1 1, .slice p ps.length c, by simp [go_sem, blurG], by simp [go_sem], by simp [go_sem], ?_, ?_⟩
  · refine ⟨_, _, rfl, Nat.le_refl _, .inr ⟨w.heap.size + 1, 0, rfl, by simp, fun k hk => ?_⟩⟩
    obtain rfl : k = 0 := by simp [blurG] at hk; omega
    simp [go_sem, blurG]
  · exact (hv.below (hb _ _ _)).mono (by simp; omega)

set_option maxHeartbeats 1000000 in
theorem blur_any (w : World) (i : Int) (v : Value) (ps : List Int) (hv : IntsAt w.heap.size w v ps) :
    Calls Try.prog 12 #[.int .i64 i, v] w (BlurPost w (blurG i ps)) := by
  have hf := hv
  obtain ⟨p, c, rfl⟩ := hf.len
  clear hf
  have Hg := Lib.hid (blur_gr w i p c ps 24 3 27 hv)
  clear hv
  go_enter Try.func12, Try.ntmps12
  go_wp2
  exact bodyPost_ret (v := .agg #[.slice (some ⟨w.heap.size + 1 + 1, 0, none⟩) 1 1, .int .i64 0]) (by simp [results, Try.results12, go_sem]) rfl
    ⟨_, rfl, Hg.out, (((Below.refl _ _).alloc (Nat.le_refl _) _).alloc (by simp) _).alloc (by simp; omega) _⟩

theorem insL_none (i : Int) (h : ¬ (0 ≤ i ∧ i < 1)) : insL 1 [i] = [] := by
  simp [insL, insStep, okIn]
  omega

theorem round_no (i : Int) (ps : List Int) (h : ¬ (0 ≤ i ∧ i < 1)) : roundB (blurG i ps) = false := by
  have hN : insN (blurG i ps) = [[]] := by simp [insN, insG, blurG, insL_none i h]
  simp only [roundB, hN, decide_eq_false_iff_not, not_exists, not_and, Classical.not_not]
  intro j hj
  simp [blurG] at hj
  subst hj
  exact Done.mk 0 (by simp) (by simp)

theorem round_self (ps : List Int) : roundB (blurG 0 ps) = true := by
  have hN : insN (blurG 0 ps) = [[0]] := by simp [insN, insG, blurG, insL, insStep, okIn]
  simp only [roundB, hN, decide_eq_true_eq]
  refine ⟨0, by simp [blurG], fun hd => ?_⟩
  have key : ∀ i, Done [[0]] i → i = 0 → False := by
    intro i hd
    induction hd with
    | mk i hi hk ih =>
      rintro rfl
      exact ih 0 (by simp) rfl
  exact key 0 hd rfl

theorem check_a : checkS (blurG (-1) [3, 3]) = 0 := by
  have h := round_no (-1) [3, 3] (by omega)
  unfold checkS
  rw [h]
  simp [blurG, firstBad, oneS, ofS, aritB, boundsB, withinB]

theorem check_b : checkS (blurG (-1) [3, 256]) = 3 := by
  simp [checkS, blurG, firstBad, oneS, ofS, aritB, boundsB, withinB]

theorem check_c : checkS (blurG (-1) [3]) = 7 := by
  simp [checkS, blurG, firstBad, oneS, ofS, aritB, boundsB, withinB]

theorem check_d : checkS (blurG 5 [3, 3]) = 8 := by
  simp [checkS, blurG, firstBad, oneS, ofS, aritB, boundsB, withinB]

theorem check_e : checkS (blurG 0 [3, 3]) = 6 := by
  have h := round_self [3, 3]
  unfold checkS
  rw [h]
  simp [blurG, firstBad, oneS, ofS, aritB, boundsB, withinB]

theorem check_f : checkS ⟨[], 0⟩ = 3 := by simp [checkS]

theorem blur_wf (i : Int) (ps : List Int) (hi : (Lit.int .i64 i).wf = true) (hp : ∀ x ∈ ps, (Lit.int .i64 x).wf = true) (hl : ps.length ≤ 10) : GrWf (blurG i ps) where
  op := by simp [blurG]; decide
  ins := by simpa [blurG] using hi
  ps := by simpa [blurG] using hp
  out := by simp [blurG]; decide
  insl := by simp [blurG, maxLen]
  psl := by simp [blurG]; unfold maxLen; omega
  len := by simp [blurG, maxLen]

set_option maxHeartbeats 2000000 in
theorem awake_any (w : World) :
    Calls Try.prog 6 #[] w fun e w' => e = .returned (.bool true) ∧ Below w.heap.size w w' := by
  go_enter Try.func6, Try.ntmps6
  go_wp2_with fail
  have hv0 := ints_new w [3, 3] 3 2 rfl
  refine (blur_any _ (-1) _ [3, 3] hv0).mono ?_
  rintro e w1 ⟨vg0, rfl, hg0, hb0⟩
  have hc0 := check_any w1 vg0 _ hg0 (blur_wf _ _ (by decide) (by decide) (by decide))
  rw [check_a] at hc0
  have hd0 := (Below.refl w.heap.size w).trans ((later_below ((Below.refl w.heap.size w).alloc (Nat.le_refl _) _) hb0).mono (Below.refl w.heap.size w).size)
  clear hv0 hg0 hb0
  have Hc0 := Lib.hid hc0
  have Hd0 := Lib.hid hd0
  clear hc0 hd0
  go_wp2_with fail
  refine (Hc0.out).mono ?_
  rintro e w2 ⟨rfl, hb0⟩
  have he0 := Hd0.out.trans (hb0.mono Hd0.out.size)
  have He0 := Lib.hid he0
  clear he0 hb0
  go_wp2_with fail
  have hv1 := ints_new w2 [3, 256] 3 2 rfl
  refine (blur_any _ (-1) _ [3, 256] hv1).mono ?_
  rintro e w3 ⟨vg1, rfl, hg1, hb1⟩
  have hc1 := check_any w3 vg1 _ hg1 (blur_wf _ _ (by decide) (by decide) (by decide))
  rw [check_b] at hc1
  have hd1 := He0.out.trans ((later_below ((Below.refl w2.heap.size w2).alloc (Nat.le_refl _) _) hb1).mono He0.out.size)
  clear hv1 hg1 hb1
  have Hc1 := Lib.hid hc1
  have Hd1 := Lib.hid hd1
  clear hc1 hd1
  go_wp2_with fail
  refine (Hc1.out).mono ?_
  rintro e w4 ⟨rfl, hb1⟩
  have he1 := Hd1.out.trans (hb1.mono Hd1.out.size)
  have He1 := Lib.hid he1
  clear he1 hb1
  go_wp2_with fail
  have hv2 := ints_new w4 [3] 3 1 rfl
  refine (blur_any _ (-1) _ [3] hv2).mono ?_
  rintro e w5 ⟨vg2, rfl, hg2, hb2⟩
  have hc2 := check_any w5 vg2 _ hg2 (blur_wf _ _ (by decide) (by decide) (by decide))
  rw [check_c] at hc2
  have hd2 := He1.out.trans ((later_below ((Below.refl w4.heap.size w4).alloc (Nat.le_refl _) _) hb2).mono He1.out.size)
  clear hv2 hg2 hb2
  have Hc2 := Lib.hid hc2
  have Hd2 := Lib.hid hd2
  clear hc2 hd2
  go_wp2_with fail
  refine (Hc2.out).mono ?_
  rintro e w6 ⟨rfl, hb2⟩
  have he2 := Hd2.out.trans (hb2.mono Hd2.out.size)
  have He2 := Lib.hid he2
  clear he2 hb2
  go_wp2_with fail
  have hv3 := ints_new w6 [3, 3] 3 2 rfl
  refine (blur_any _ (5) _ [3, 3] hv3).mono ?_
  rintro e w7 ⟨vg3, rfl, hg3, hb3⟩
  have hc3 := check_any w7 vg3 _ hg3 (blur_wf _ _ (by decide) (by decide) (by decide))
  rw [check_d] at hc3
  have hd3 := He2.out.trans ((later_below ((Below.refl w6.heap.size w6).alloc (Nat.le_refl _) _) hb3).mono He2.out.size)
  clear hv3 hg3 hb3
  have Hc3 := Lib.hid hc3
  have Hd3 := Lib.hid hd3
  clear hc3 hd3
  go_wp2_with fail
  refine (Hc3.out).mono ?_
  rintro e w8 ⟨rfl, hb3⟩
  have he3 := Hd3.out.trans (hb3.mono Hd3.out.size)
  have He3 := Lib.hid he3
  clear he3 hb3
  go_wp2_with fail
  have hv4 := ints_new w8 [3, 3] 3 2 rfl
  refine (blur_any _ (0) _ [3, 3] hv4).mono ?_
  rintro e w9 ⟨vg4, rfl, hg4, hb4⟩
  have hc4 := check_any w9 vg4 _ hg4 (blur_wf _ _ (by decide) (by decide) (by decide))
  rw [check_e] at hc4
  have hd4 := He3.out.trans ((later_below ((Below.refl w8.heap.size w8).alloc (Nat.le_refl _) _) hb4).mono He3.out.size)
  clear hv4 hg4 hb4
  have Hc4 := Lib.hid hc4
  have Hd4 := Lib.hid hd4
  clear hc4 hd4
  go_wp2_with fail
  refine (Hc4.out).mono ?_
  rintro e w10 ⟨rfl, hb4⟩
  have he4 := Hd4.out.trans (hb4.mono Hd4.out.size)
  have He4 := Lib.hid he4
  clear he4 hb4
  go_wp2_with fail
  have hgf : GrV w10 (.agg #[.slice none 0 0, .int .i64 0]) ⟨[], 0⟩ := ⟨_, rfl, none, 0, rfl, Nat.le_refl _, .inl rfl⟩
  have hcf := check_any w10 _ _ hgf ⟨by simp, by simp, by simp, by decide, by simp, by simp, by simp [maxLen]⟩
  rw [check_f] at hcf
  refine hcf.mono ?_
  rintro e w11 ⟨rfl, hb9⟩
  have he9 := He4.out.trans (hb9.mono He4.out.size)
  have He9 := Lib.hid he9
  clear he9 hb9 hgf
  go_wp2_with fail
  go_ret
  exact ⟨rfl, He9.out⟩

end Go.Proofs.Ytfphlkoneocejaa
