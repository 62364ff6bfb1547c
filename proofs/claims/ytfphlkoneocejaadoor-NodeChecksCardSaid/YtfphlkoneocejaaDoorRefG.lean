/- The document's answer for layer 12: one node; the law NodeOnes. -/
import Derived.Test.YtfphlkoneocejaaDoorRefF
namespace Go.Proofs.YtfphlkoneocejaaDoor
open Go.RowKit Go.Gou

theorem refAr_eq (op a b c : Int) (ok : Bool) (w : World) (ht : Tabs w) (h : ofS op = ((a, b, c), ok)) :
    Calls Tryd.prog 13 #[.int .i64 op] w fun e w' => e = .returned (.tuple #[.int .i64 a, .int .i64 b, .int .i64 c, .bool ok]) ∧ Below w.heap.size w w' := by
  have := refArity_any op w ht
  simpa [h] using this

theorem Tabs.below {w w1 : World} (h : Tabs w) (hb : Below w.heap.size w w1) : Tabs w1 := h.up hb

set_option maxHeartbeats 2000000 in
theorem refOne_any (w : World) (v : Value) (n : GNode) (count : Int) (hv : NodeV w v n) (ht : Tabs w) (hli : n.ins.length ≤ 1000) (hlp : n.ps.length ≤ 1000) (hn0 : 0 ≤ count) (hn1 : count ≤ 1000000) :
    Calls Tryd.prog 8 #[v, .int .i64 count] w fun e w' => e = .returned (.int .i64 (oneS n count)) ∧ Below w.heap.size w w' := by
  obtain ⟨vi, vp, rfl, hi, hp⟩ := hv
  obtain ⟨pi, ci, rfl⟩ := hi.len
  obtain ⟨pp, cp, rfl⟩ := hp.len
  have Ht := Lib.hid (ht.up (box_below w (.cells #[.int .i64 n.op, .slice pi n.ins.length ci, .slice pp n.ps.length cp] 24)))
  have bst := fun (w1 : World) (o1 : Obj) (hb1 : Below (w.alloc o1).heap.size (w.alloc o1) w1) => later_below ((Below.refl w.heap.size w).alloc (Nat.le_refl _) o1) hb1
  have Bst := Lib.hid bst
  clear bst ht
  cases hof : ofS n.op with
  | mk abc ok =>
  obtain ⟨a, b, c⟩ := abc
  have Hof := Lib.hid hof
  clear hof
  cases ok with
  | false =>
    have Hs : Hid (oneS n count = 1) := by show _ = _; simp [oneS, Hof.out]
    go_enter Tryd.func8, Tryd.ntmps8
    go_wp2_with fail
    refine (refAr_eq _ a b c false _ Ht.out Hof.out).mono ?_
    rintro e w1 ⟨rfl, hb1⟩
    go_wp2
    go_ret
    exact ⟨ret_int Hs.out.symm, Bst.out _ _ hb1⟩
  | true =>
    by_cases har : aritB n = true
    · have Hs : Hid (oneS n count = 7) := by show _ = _; simp [oneS, Hof.out, har]
      have Har := Lib.hid har
      clear har
      have hq : (a ≤ n.ins.length ∧ n.ins.length ≤ b) → ((n.ps.length : Int) != c) = true := by
        have h := Har.out
        simp only [aritB, Hof.out, Bool.or_eq_true, decide_eq_true_eq, Bool.not_eq_true', decide_eq_false_iff_not] at h
        intro ⟨h1, h2⟩
        rw [bne_iff_ne]
        omega
      have Hq := Lib.hid hq
      clear hq
      go_enter Tryd.func8, Tryd.ntmps8
      go_wp2_with fail
      refine (refAr_eq _ a b c true _ Ht.out Hof.out).mono ?_
      rintro e w1 ⟨rfl, hb1⟩
      have hz0 : w.heap.size < w1.heap.size := by have := hb1.size; simp at this; omega
      obtain ⟨hc1, _⟩ := bcell hb1
      by_cases h1 : a ≤ n.ins.length
      · by_cases h2 : n.ins.length ≤ b
        · have h3 := Hq.out ⟨h1, h2⟩
          go_wp2_with fail
          go_ret
          exact ⟨ret_int Hs.out.symm, Bst.out _ _ hb1⟩
        · go_wp2_with fail
          go_ret
          exact ⟨ret_int Hs.out.symm, Bst.out _ _ hb1⟩
      · go_wp2_with fail
        go_ret
        exact ⟨ret_int Hs.out.symm, Bst.out _ _ hb1⟩
    · have Har := Lib.hid har
      clear har
      have h := Har.out
      simp only [aritB, Hof.out, Bool.or_eq_true, decide_eq_true_eq, Bool.not_eq_true', decide_eq_false_iff_not, not_or, Classical.not_not, Int.not_lt] at h
      obtain ⟨⟨h1, h2⟩, h3⟩ := h
      have Hlc : Hid ((n.ps.length : Int) = (ofS n.op).1.2.2) := by show _ = _; rw [Hof.out]; exact h3
      have hlc : ((n.ps.length : Int) != c) = false := by rw [h3]; simp
      clear h3
      have hnear := fun (wx : World) (hbx : Below w.heap.size w wx) (r : Bool) (hr : n.ins.all (withinB (-1) (count - 1)) = r) =>
        near_at wx _ n.ins 0 n.ins.length (-1) (count - 1) 0 n.ins.length r rfl rfl (by rw [seg_all]; exact hr) (hi.up hbx) (Nat.zero_le _) (Nat.le_refl _) hli
      have Hnear := Lib.hid hnear
      clear hnear
      go_enter Tryd.func8, Tryd.ntmps8
      go_wp2_with fail
      refine (refAr_eq _ a b c true _ Ht.out Hof.out).mono ?_
      rintro e w1 ⟨rfl, hb1⟩
      have hz0 : w.heap.size < w1.heap.size := by have := hb1.size; simp at this; omega
      obtain ⟨hc1, _⟩ := bcell hb1
      have hbs := Bst.out _ _ hb1
      have Hbs := Lib.hid hbs
      clear hbs
      go_wp2_with fail
      cases hin : n.ins.all (withinB (-1) (count - 1)) with
      | false =>
        have Hs : Hid (oneS n count = 8) := by show _ = _; simp [oneS, Hof.out, Har.out, hin]
        refine (Hnear.out _ Hbs.out false hin).mono ?_
        rintro e w2 ⟨rfl, rfl⟩
        clear hin
        go_wp2_with fail
        go_ret
        exact ⟨ret_int Hs.out.symm, Hbs.out⟩
      | true =>
        have Hin := Lib.hid hin
        refine (Hnear.out _ Hbs.out true hin).mono ?_
        rintro e w2 ⟨rfl, rfl⟩
        clear hin
        go_wp2_with fail
        cases hbo : boundsB n with
        | false =>
          have Hs : Hid (oneS n count = 3) := by show _ = _; simp [oneS, Hof.out, Har.out, Hin.out, hbo]
          refine (refB_any _ _ _ n (hp.up Hbs.out) (by rw [Hof.out]) Hlc.out).mono ?_
          rintro e w3 ⟨rfl, hb3⟩
          rw [hbo]
          clear hbo
          go_wp2_with fail
          go_ret
          exact ⟨ret_int Hs.out.symm, later_below Hbs.out hb3⟩
        | true =>
          have Hs : Hid (oneS n count = 0) := by show _ = _; simp [oneS, Hof.out, Har.out, Hin.out, hbo]
          refine (refB_any _ _ _ n (hp.up Hbs.out) (by rw [Hof.out]) Hlc.out).mono ?_
          rintro e w3 ⟨rfl, hb3⟩
          rw [hbo]
          clear hbo
          go_wp2_with fail
          go_ret
          exact ⟨ret_int Hs.out.symm, later_below Hbs.out hb3⟩

end Go.Proofs.YtfphlkoneocejaaDoor
