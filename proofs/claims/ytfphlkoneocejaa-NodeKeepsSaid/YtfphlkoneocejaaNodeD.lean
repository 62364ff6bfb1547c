/- The node check: one node. -/
import Derived.Test.YtfphlkoneocejaaNodeC
namespace Go.Proofs.Ytfphlkoneocejaa
open Go.RowKit Go.Gou

def aritB (n : GNode) : Bool := decide ((n.ins.length : Int) < (ofS n.op).1.1) || decide ((ofS n.op).1.2.1 < (n.ins.length : Int)) || !decide ((n.ps.length : Int) = (ofS n.op).1.2.2)

def oneS (n : GNode) (count : Int) : Int :=
  if (ofS n.op).2 = false then 1 else if aritB n = true then 7 else if n.ins.all (withinB (-1) (count - 1)) = false then 8 else if boundsB n = false then 3 else 0

/-- A node's value: its number, and its two lists. -/
def NodeV (w : World) (v : Value) (n : GNode) : Prop := ∃ vi vp, v = .agg #[.int .i64 n.op, vi, vp] ∧ IntsAt w.heap.size w vi n.ins ∧ IntsAt w.heap.size w vp n.ps

theorem ret_int {k : IntKind} {a b : Int} (h : a = b) : Ending.returned (.int k a) = .returned (.int k b) := by rw [h]

theorem of_eq (op a b c : Int) (ok : Bool) (w : World) (h : ofS op = ((a, b, c), ok)) :
    Calls Try.prog 14 #[.int .i64 op] w fun e w' => e = .returned (.tuple #[.agg #[.int .i64 a, .int .i64 b, .int .i64 c], .bool ok]) ∧ Below w.heap.size w w' := by
  have := of_any op w
  simpa [ofV, h] using this

theorem Asks.up {w w1 : World} {v : Value} {xs : List Int} {q : Int → Bool} (h : Asks w.heap.size w v xs q) (hb : Below w.heap.size w w1) : Asks w1.heap.size w1 v xs q := by
  obtain ⟨f, caps, rfl, hr, h⟩ := h
  exact ⟨f, caps, rfl, hr, fun w' n hn hb' => h w' n hn (later_below hb hb')⟩

set_option maxHeartbeats 1000000 in
theorem one_any (w : World) (v : Value) (n : GNode) (count : Int) (hv : NodeV w v n) (hli : n.ins.length ≤ maxLen) (hlp : n.ps.length ≤ maxLen) :
    Calls Try.prog 9 #[v, .int .i64 count] w fun e w' => e = .returned (.int .i64 (oneS n count)) ∧ Below w.heap.size w w' := by
  obtain ⟨vi, vp, rfl, hi, hp⟩ := hv
  obtain ⟨pi, ci, rfl⟩ := hi.len
  obtain ⟨pp, cp, rfl⟩ := hp.len
  have bst := fun (w1 : World) (o1 o2 o3 : Obj) (hb1 : Below ((w.alloc o1).alloc o2).heap.size ((w.alloc o1).alloc o2) w1) =>
    (later_below (((Below.refl w.heap.size w).alloc (Nat.le_refl _) o1).alloc (by simp) o2) hb1).alloc (Nat.le_trans (by simp; omega) hb1.size) o3
  have Bst := Lib.hid bst
  clear bst
  cases hof : ofS n.op with
  | mk abc ok =>
  obtain ⟨a, b, c⟩ := abc
  have Hof := Lib.hid hof
  clear hof
  cases ok with
  | false =>
    have Hs : Hid (oneS n count = 1) := by show _ = _; simp [oneS, Hof.out]
    go_enter Try.func9, Try.ntmps9
    go_wp2_with fail
    refine (of_eq _ a b c false _ Hof.out).mono ?_
    rintro e w1 ⟨rfl, hb1⟩
    have hz1 : w.heap.size < w1.heap.size := by have := hb1.size; simp at this; omega
    obtain ⟨hc1, _⟩ := bcell hb1
    go_wp2
    go_ret
    exact ⟨ret_int Hs.out.symm, Bst.out _ _ _ _ hb1⟩
  | true =>
    by_cases har : aritB n = true
    · have Hs : Hid (oneS n count = 7) := by show _ = _; simp [oneS, Hof.out, har]
      have Har := Lib.hid har
      clear har
      have hq : (a ≤ n.ins.length ∧ n.ins.length ≤ b) → ((n.ps.length : Int) != c) = true := by
        have h := Har.out
        simp only [aritB, Hof.out, Bool.or_eq_true, decide_eq_true_eq, Bool.not_eq_true', decide_eq_false_iff_not] at h
        intro ⟨h1, h2⟩
        rw [bne_iff_ne]
        omega
      have Hq := Lib.hid hq
      clear hq
      go_enter Try.func9, Try.ntmps9
      go_wp2_with fail
      refine (of_eq _ a b c true _ Hof.out).mono ?_
      rintro e w1 ⟨rfl, hb1⟩
      have hz1 : w.heap.size + 1 < w1.heap.size := by have := hb1.size; simp at this; omega
      have hz0 : w.heap.size < w1.heap.size := by omega
      obtain ⟨hc1, _⟩ := bcell hb1
      unfold maxLen at hli hlp
      by_cases h1 : a ≤ n.ins.length
      · by_cases h2 : n.ins.length ≤ b
        · have h3 := Hq.out ⟨h1, h2⟩
          go_wp2_with fail
          go_ret
          exact ⟨ret_int Hs.out.symm, Bst.out _ _ _ _ hb1⟩
        · go_wp2_with fail
          go_ret
          exact ⟨ret_int Hs.out.symm, Bst.out _ _ _ _ hb1⟩
      · go_wp2_with fail
        go_ret
        exact ⟨ret_int Hs.out.symm, Bst.out _ _ _ _ hb1⟩
    · have Har := Lib.hid har
      clear har
      have h := Har.out
      simp only [aritB, Hof.out, Bool.or_eq_true, decide_eq_true_eq, Bool.not_eq_true', decide_eq_false_iff_not, not_or, Classical.not_not, Int.not_lt] at h
      obtain ⟨⟨h1, h2⟩, h3⟩ := h
      have Hlc : Hid ((n.ps.length : Int) = (ofS n.op).1.2.2) := by show _ = _; rw [Hof.out]; exact h3
      have hlc : ((n.ps.length : Int) != c) = false := by rw [h3]; simp
      clear h3
      have hli' := Lib.hid hli
      have hlp' := Lib.hid hlp
      have hcnt : ∀ (w1 : World) (ob : Obj), Below ((w.alloc ob).alloc (.cells #[.int .i64 count] 3)).heap.size ((w.alloc ob).alloc (.cells #[.int .i64 count] 3)) w1 →
          Asks w1.heap.size w1 (.func (.func 16) #[] #[.pointer (some ⟨w.heap.size + 1, 0, none⟩)]) n.ins (withinB (-1) (count - 1)) := by
        intro w1 ob hb1
        have hlt : w.heap.size + 1 < ((w.alloc ob).alloc (.cells #[.int .i64 count] 3)).heap.size := by simp
        have hcell : ((w.alloc ob).alloc (.cells #[.int .i64 count] 3)).cell? ⟨w.heap.size + 1, 0, none⟩ = some (.int .i64 count) := by simp [go_sem]
        exact ⟨_, _, rfl, run_one1, fun w' m _ hb => one1_any count m w' _ (later_cell hb1 hb hlt ((hb1.cell (p := ⟨_, _, none⟩) hlt).trans hcell))⟩
      have Hcnt := Lib.hid hcnt
      clear hcnt
      go_enter Try.func9, Try.ntmps9
      go_wp2_with fail
      refine (of_eq _ a b c true _ Hof.out).mono ?_
      rintro e w1 ⟨rfl, hb1⟩
      have hz1 : w.heap.size + 1 < w1.heap.size := by have := hb1.size; simp at this; omega
      have hz0 : w.heap.size < w1.heap.size := by omega
      obtain ⟨hc1, _⟩ := bcell hb1
      unfold maxLen at hli hlp
      have hask := Hcnt.out _ _ hb1
      have hbs := Bst.out _ _ _ (.cells #[.int .i64 a, .int .i64 b, .int .i64 c] 40) hb1
      have hba := (Below.refl w1.heap.size w1).alloc (Nat.le_refl _) (.cells #[.int .i64 a, .int .i64 b, .int .i64 c] 40)
      go_wp2_with fail
      cases hin : n.ins.all (withinB (-1) (count - 1)) with
      | false =>
        have Hs : Hid (oneS n count = 8) := by show _ = _; simp [oneS, Hof.out, Har.out, hin]
        refine (all_any _ _ _ n.ins _ (hi.up hbs) (hask.up hba) hli'.out).mono ?_
        rintro e w2 ⟨rfl, hb2⟩
        rw [hin]
        clear hin
        go_wp2_with fail
        go_ret
        exact ⟨ret_int Hs.out.symm, later_below hbs hb2⟩
      | true =>
        have Hin := Lib.hid hin
        refine (all_any _ _ _ n.ins _ (hi.up hbs) (hask.up hba) hli'.out).mono ?_
        rintro e w2 ⟨rfl, hb2⟩
        rw [hin]
        clear hin
        have hbs2 := later_below hbs hb2
        have hz2 : w.heap.size < w2.heap.size := by have := hb2.size; simp at this; omega
        have hc2 : ∀ o, w2.cell? ⟨w.heap.size, o, none⟩ = w1.cell? ⟨w.heap.size, o, none⟩ := fun o => by
          rw [hb2.cell (p := ⟨w.heap.size, o, none⟩) (by simp; omega), hba.cell (p := ⟨w.heap.size, o, none⟩) hz0]
        go_wp2_with fail
        cases hbo : boundsB n with
        | false =>
          have Hs : Hid (oneS n count = 3) := by show _ = _; simp [oneS, Hof.out, Har.out, Hin.out, hbo]
          refine (bounds_any _ _ _ n (hp.up hbs2) (by rw [Hof.out]) Hlc.out).mono ?_
          rintro e w3 ⟨rfl, hb3⟩
          rw [hbo]
          clear hbo
          go_wp2_with fail
          go_ret
          exact ⟨ret_int Hs.out.symm, later_below hbs2 hb3⟩
        | true =>
          have Hs : Hid (oneS n count = 0) := by show _ = _; simp [oneS, Hof.out, Har.out, Hin.out, hbo]
          refine (bounds_any _ _ _ n (hp.up hbs2) (by rw [Hof.out]) Hlc.out).mono ?_
          rintro e w3 ⟨rfl, hb3⟩
          rw [hbo]
          clear hbo
          go_wp2_with fail
          go_ret
          exact ⟨ret_int Hs.out.symm, later_below hbs2 hb3⟩

end Go.Proofs.Ytfphlkoneocejaa
