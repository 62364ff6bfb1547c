/- The parts of the node check, each function once: what it answers, and that nothing that was there has turned. -/
import Derived.Test.YtfphlkoneocejaaRows
import Derived.Test.YtfphlkoneocejaaMem
import Derived.Deep.RegionHeld3
import Derived.Deep.DeepFit
namespace Go.Proofs.Ytfphlkoneocejaa
open Go.RowKit Go.Gou

theorem ret_bool {a b : Bool} (h : a = b) : Ending.returned (.bool a) = .returned (.bool b) := by rw [h]

def ofS (op : Int) : (Int × Int × Int) × Bool :=
  if op = 1 then ((1, 1, 2), true) else if op = 2 then ((1, 1, 2), true) else if op = 3 then ((1, 1, 2), true) else if op = 4 then ((1, 1, 2), true)
  else if op = 5 then ((1, 1, 20), true) else if op = 6 then ((0, 0, 8), true) else if op = 7 then ((2, 2, 1), true) else if op = 8 then ((2, 2, 1), true)
  else if op = 9 then ((1, 8, 0), true) else if op = 10 then ((1, 1, 4), true) else if op = 11 then ((1, 1, 8), true) else if op = 12 then ((1, 1, 4), true)
  else ((0, 0, 0), false)

abbrev ofV (op : Int) : Value := .tuple #[.agg #[.int .i64 (ofS op).1.1, .int .i64 (ofS op).1.2.1, .int .i64 (ofS op).1.2.2], .bool (ofS op).2]

set_option maxHeartbeats 400000 in
theorem of_any (op : Int) (w : World) :
    Calls Try.prog 14 #[.int .i64 op] w fun e w' => e = .returned (ofV op) ∧ Below w.heap.size w w' := by
  by_cases h1 : op = 1 ∨ op = 2 ∨ op = 3 ∨ op = 4 ∨ op = 5 ∨ op = 6 ∨ op = 7 ∨ op = 8 ∨ op = 9 ∨ op = 10 ∨ op = 11 ∨ op = 12
  · rcases h1 with rfl | rfl | rfl | rfl | rfl | rfl | rfl | rfl | rfl | rfl | rfl | rfl
    all_goals
      go_enter Try.func14, Try.ntmps14
      go_wp2
      exact bodyPost_ret (v := ofV _) (by simp [results, Try.results14, go_sem, ofV, ofS]) rfl ⟨rfl, (Below.refl _ _).alloc (Nat.le_refl _) _⟩
  · simp only [not_or] at h1
    obtain ⟨h1, h2, h3, h4, h5, h6, h7, h8, h9, h10, h11, h12⟩ := h1
    have e1 : (op == 1) = false := by simpa using h1
    have e2 : (op == 2) = false := by simpa using h2
    have e3 : (op == 3) = false := by simpa using h3
    have e4 : (op == 4) = false := by simpa using h4
    have e5 : (op == 5) = false := by simpa using h5
    have e6 : (op == 6) = false := by simpa using h6
    have e7 : (op == 7) = false := by simpa using h7
    have e8 : (op == 8) = false := by simpa using h8
    have e9 : (op == 9) = false := by simpa using h9
    have e10 : (op == 10) = false := by simpa using h10
    have e11 : (op == 11) = false := by simpa using h11
    have e12 : (op == 12) = false := by simpa using h12
    have hof : Hid (ofV op = .tuple #[.agg #[.int .i64 0, .int .i64 0, .int .i64 0], .bool false]) := by
      show _ = _
      simp [ofV, ofS, h1, h2, h3, h4, h5, h6, h7, h8, h9, h10, h11, h12]
    clear h1 h2 h3 h4 h5 h6 h7 h8 h9 h10 h11 h12
    rw [hof.out]
    go_enter Try.func14, Try.ntmps14
    go_wp2
    exact bodyPost_ret (v := .tuple #[.agg #[.int .i64 0, .int .i64 0, .int .i64 0], .bool false]) (by simp [results, Try.results14, go_sem]) rfl ⟨rfl, (Below.refl _ _).alloc (Nat.le_refl _) _⟩

set_option maxHeartbeats 400000 in
theorem arity_any (op : Int) (w : World) :
    Calls Try.prog 11 #[.int .i64 op] w fun e w' => e = .returned (.tuple #[.int .i64 (ofS op).1.1, .int .i64 (ofS op).1.2.1, .int .i64 (ofS op).1.2.2, .bool (ofS op).2]) ∧ Below w.heap.size w w' := by
  go_enter Try.func11, Try.ntmps11
  go_wp2_with (go_at_call 14; refine (of_any _ _).mono ?_; rintro e w1 ⟨rfl, hb⟩)
  have hz : w.heap.size ≤ w1.heap.size := hb.size
  go_quiet (fail)
  go_wp2
  exact bodyPost_ret (v := .tuple #[.int .i64 (ofS op).1.1, .int .i64 (ofS op).1.2.1, .int .i64 (ofS op).1.2.2, .bool (ofS op).2]) (by simp [results, Try.results11, go_sem]) rfl ⟨rfl, below_drewN (hb.alloc hz _) _⟩

/-- 'within': a question; the bounds lie in two new cells. -/
def WithinQ (B : Nat) (w : World) (lo hi : Int) (v : Value) : Prop :=
  ∃ b1 b2 : Nat, v = .func (.func 29) #[] #[.pointer (some ⟨b1, 0, none⟩), .pointer (some ⟨b2, 0, none⟩)] ∧ b1 < B ∧ b2 < B ∧
    w.cell? ⟨b1, 0, none⟩ = some (.int .i64 lo) ∧ w.cell? ⟨b2, 0, none⟩ = some (.int .i64 hi)

theorem WithinQ.below {B : Nat} {w w' : World} {lo hi : Int} {v : Value} (h : WithinQ B w lo hi v) (hb : Below B w w') : WithinQ B w' lo hi v := by
  obtain ⟨b1, b2, rfl, h1, h2, c1, c2⟩ := h
  exact ⟨b1, b2, rfl, h1, h2, by rw [hb.cell (p := ⟨b1, 0, none⟩) h1]; exact c1, by rw [hb.cell (p := ⟨b2, 0, none⟩) h2]; exact c2⟩

theorem WithinQ.up {w w1 : World} {lo hi : Int} {v : Value} (h : WithinQ w.heap.size w lo hi v) (hb : Below w.heap.size w w1) : WithinQ w1.heap.size w1 lo hi v := by
  obtain ⟨b1, b2, rfl, h1, h2, c1, c2⟩ := h.below hb
  have := hb.size
  exact ⟨b1, b2, rfl, by omega, by omega, c1, c2⟩

def WithinPost (w : World) (lo hi : Int) (e : Ending) (w' : World) : Prop := ∃ v, e = .returned v ∧ WithinQ w'.heap.size w' lo hi v ∧ Below w.heap.size w w'

theorem within_any (lo hi : Int) (w : World) :
    Calls Try.prog 20 #[.int .i64 lo, .int .i64 hi] w (WithinPost w lo hi) := by
  go_enter Try.func20, Try.ntmps20
  go_wp2
  go_ret
  exact ⟨_, rfl, ⟨_, _, rfl, by simp; omega, by simp, by simp [go_sem], by simp [go_sem]⟩, ((Below.refl _ _).alloc (Nat.le_refl _) _).alloc (by simp) _⟩

def withinB (lo hi n : Int) : Bool := decide (lo ≤ n) && decide (n ≤ hi)

theorem within1_any (lo hi n : Int) (w : World) (b1 b2 : Nat) (h1 : w.cell? ⟨b1, 0, none⟩ = some (.int .i64 lo)) (h2 : w.cell? ⟨b2, 0, none⟩ = some (.int .i64 hi)) :
    Calls Try.prog 29 #[.int .i64 n, .pointer (some ⟨b1, 0, none⟩), .pointer (some ⟨b2, 0, none⟩)] w
      fun e w' => e = .returned (.bool (withinB lo hi n)) ∧ Below w.heap.size w w' := by
  go_enter Try.func29, Try.ntmps29
  go_wp2
  all_goals go_ret
  · have h : lo ≤ n := by assumption
    exact ⟨ret_bool (by simp [withinB, h]), Below.refl _ _⟩
  · have h : n < lo := by assumption
    exact ⟨ret_bool (by simp [withinB]; omega), Below.refl _ _⟩

theorem one1_any (count n : Int) (w : World) (b1 : Nat) (h1 : w.cell? ⟨b1, 0, none⟩ = some (.int .i64 count)) :
    Calls Try.prog 16 #[.int .i64 n, .pointer (some ⟨b1, 0, none⟩)] w
      fun e w' => e = .returned (.bool (withinB (-1) (count - 1) n)) ∧ Below w.heap.size w w' := by
  go_enter Try.func16, Try.ntmps16
  go_wp2
  all_goals go_ret
  · have h : -1 ≤ n := by assumption
    exact ⟨ret_bool (by simp [withinB, h]; omega), Below.refl _ _⟩
  · have h : n < -1 := by assumption
    exact ⟨ret_bool (by simp [withinB]; omega), Below.refl _ _⟩

/-- A function value that answers, of each number of a list, in whatever world lies above w, as q does, and turns nothing. -/
def Asks (B : Nat) (w : World) (v : Value) (xs : List Int) (q : Int → Bool) : Prop :=
  ∃ (f : FuncId) (caps : Array Value), v = .func (.func f) #[] caps ∧ (∀ (args : Array Value) (w' : World), (callFunc f args).run Try.prog w' = .ok (.enter f args) w') ∧ ∀ (w' : World) (n : Int), n ∈ xs → Below B w w' →
    Calls Try.prog f (#[.int .i64 n] ++ caps) w' fun e w'' => e = .returned (.bool (q n)) ∧ Below w'.heap.size w' w''

theorem run_within1 (args : Array Value) (w : World) : (callFunc 29 args).run Try.prog w = .ok (.enter 29 args) w := by kernel_rfl
theorem run_one1 (args : Array Value) (w : World) : (callFunc 16 args).run Try.prog w = .ok (.enter 16 args) w := by kernel_rfl

theorem WithinQ.asks {B : Nat} {w : World} {lo hi : Int} {v : Value} (h : WithinQ B w lo hi v) (xs : List Int) : Asks B w v xs (withinB lo hi) := by
  obtain ⟨b1, b2, rfl, h1, h2, c1, c2⟩ := h
  refine ⟨_, _, rfl, run_within1, fun w' n _ hb => ?_⟩
  exact within1_any lo hi n w' b1 b2 (by rw [hb.cell (p := ⟨b1, 0, none⟩) h1]; exact c1) (by rw [hb.cell (p := ⟨b2, 0, none⟩) h2]; exact c2)

theorem List.all_take_succ {α : Type} (l : List α) (q : α → Bool) (k : Nat) (h : k < l.length) : (l.take (k + 1)).all q = ((l.take k).all q && q l[k]) := by
  rw [List.take_succ_eq_append_getElem h, List.all_append]; simp

set_option maxHeartbeats 400000 in
theorem all_any (w : World) (v fv : Value) (xs : List Int) (q : Int → Bool) (hx : IntsAt w.heap.size w v xs) (hq : Asks w.heap.size w fv xs q) (hl : xs.length ≤ maxLen) :
    Calls Try.prog 15 #[v, fv] w fun e w' => e = .returned (.bool (xs.all q)) ∧ Below w.heap.size w w' := by
  obtain ⟨p, cap, rfl, _, hp⟩ := hx
  obtain ⟨f, caps, rfl, hcall, hf⟩ := hq
  unfold maxLen at hl
  go_enter Try.func15, Try.ntmps15
  go_wp2
  go_loopw [9] (fun i wr => ∃ k : Nat, k ≤ xs.length ∧ i = .int .i64 k ∧ (xs.take k).all q = true ∧ Below w.heap.size w wr) (fun i _ => xs.length - (intOf i).toNat)
  case atStart => exact ⟨0, Nat.zero_le _, rfl, rfl, Below.refl _ _⟩
  case round =>
    obtain ⟨k, hk, rfl, hall, hbr⟩ := hrel
    have Hall := Lib.hid hall
    clear hall
    by_cases hlt : k < xs.length
    · rcases hp with rfl | ⟨b, o, rfl, hb, hc⟩
      · simp at hlt
      have hc' := hc k hlt
      rw [← hbr.cell (p := ⟨b, o + k, none⟩) hb] at hc'
      clear hc
      have hfk := Lib.hid (hf wr xs[k] (List.getElem_mem hlt) hbr)
      clear hf
      go_wp2_with (refine (hfk.out).mono ?_; rintro e w1 ⟨rfl, hb1⟩)
      · have hqk : q xs[k] = false := by simpa using (show (!q xs[k]) = true by assumption)
        go_ret
        have hne : xs.all q = false := by
          rw [Bool.eq_false_iff]
          intro h
          rw [List.all_eq_true] at h
          have := h _ (List.getElem_mem hlt)
          rw [hqk] at this
          cases this
        exact ⟨ret_bool hne.symm, hbr.trans (hb1.mono hbr.size)⟩
      · have hqk : q xs[k] = true := by simpa using (show (!q xs[k]) = false by assumption)
        go_roundw
        case rel => exact ⟨k + 1, by omega, by go_num, by rw [List.all_take_succ _ _ _ hlt, Hall.out, hqk]; rfl, hbr.trans (hb1.mono hbr.size)⟩
        case measure => simp [intOf]; omega
    · go_wp2
      go_ret
      have : xs.length = k := by omega
      exact ⟨ret_bool (by rw [← Hall.out, List.take_of_length_le (by omega)]), hbr⟩

end Go.Proofs.Ytfphlkoneocejaa
