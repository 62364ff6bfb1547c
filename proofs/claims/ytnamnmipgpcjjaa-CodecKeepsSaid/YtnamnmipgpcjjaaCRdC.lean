/- Acts as bytes: a pixel, a rectangle. -/
import Derived.Test.YtnamnmipgpcjjaaCRdB
namespace Go.Gou
open Go.RowKit

def rawAt (bs : List Nat) (n : Nat) : Option (Nat × Nat) := if h : n < bs.length then some (bs[n], n + 1) else none

/-- k readings, one behind the other. -/
def timesAt {α : Type} (f : Nat → Option (α × Nat)) (n : Nat) : Nat → Option (List α × Nat)
  | 0 => some ([], n)
  | k + 1 => match timesAt f n k with
    | some (xs, m) => match f m with
      | some (x, q) => some (xs ++ [x], q)
      | none => none
    | none => none

theorem timesAt_none {α : Type} {f : Nat → Option (α × Nat)} {n k j : Nat} (h : timesAt f n (k + 1) = none) (hj : k + 1 ≤ j) : timesAt f n j = none := by
  induction j with
  | zero => omega
  | succ j ih =>
    by_cases e : k + 1 = j + 1
    · rw [← e]; exact h
    · rw [timesAt, ih (by omega)]

theorem getD_snoc {α : Type} (xs : List α) (x d : α) (k i : Nat) (h : xs.length = k) : (if i = k then x else xs.getD i d) = (xs ++ [x]).getD i d := by
  subst h
  by_cases e : i = xs.length
  · subst e
    simp [List.getD]
  · rw [if_neg e]
    rcases Nat.lt_or_ge i xs.length with hl | hl
    · simp [List.getD, List.getElem?_append_left hl]
    · have h1 : xs[i]? = none := List.getElem?_eq_none hl
      have h2 : (xs ++ [x])[i]? = none := List.getElem?_eq_none (by simp; omega)
      simp [List.getD, h1, h2]

theorem list4 {α : Type} {xs : List α} (h : xs.length = 4) : ∃ a b c d, xs = [a, b, c, d] := by
  match xs, h with
  | [a, b, c, d], _ => exact ⟨a, b, c, d, rfl⟩

def pixelAt (bs : List Nat) (n : Nat) : Option (List Nat × Nat) := timesAt (rawAt bs) n 4
def boxAt (bs : List Nat) (n : Nat) : Option (List Int × Nat) := timesAt (numAt bs) n 4

/-- A result's box of four cells, and behind it an array of four. -/
structure Four (w : World) (R : Nat) (vb : Value) (bs : List Nat) (f : Nat → Value) (z : Value) (m : Nat) (wr : World) : Prop where
  old : ∃ n, RdAt w R vb bs n
  rd : RdAt wr R vb bs m
  mod : Mod (fun k => k = R) w wr
  z : ∀ i, i < 4 → wr.cell? ⟨w.heap.size, i, none⟩ = some z
  fz : ∀ i, i < 4 → wr.frozen? ⟨w.heap.size, i, none⟩ = false
  a : ∀ i, i < 4 → wr.cell? ⟨w.heap.size + 1, i, none⟩ = some (f i)
  fa : ∀ i, i < 4 → wr.frozen? ⟨w.heap.size + 1, i, none⟩ = false
  lt : w.heap.size + 1 < wr.heap.size

theorem four_cases {p : Nat → Prop} (h0 : p 0) (h1 : p 1) (h2 : p 2) (h3 : p 3) : ∀ i, i < 4 → p i := fun i hi => by
  rcases (show i = 0 ∨ i = 1 ∨ i = 2 ∨ i = 3 by omega) with rfl | rfl | rfl | rfl <;> assumption

theorem Four.start {w : World} {R : Nat} {vb : Value} {bs : List Nat} {n : Nat} (h : RdAt w R vb bs n) (z : Value) (T U : TypeId) : Four w R vb bs (fun _ => z) z n ((w.alloc (.cells #[z, z, z, z] T)).alloc (.cells #[z, z, z, z] U)) := by
  have hs : w.heap.size + 1 = (w.alloc (.cells #[z, z, z, z] T)).heap.size := by simp
  refine ⟨⟨n, h⟩, (h.alloc _).alloc _, (Mod.alloc _ _ _).trans' (Mod.alloc _ _ _), ?_, ?_, ?_, ?_, by simp⟩
  · refine four_cases ?_ ?_ ?_ ?_ <;> (rw [World.cell?_alloc_past _ _ _ (by simp), World.cell?_alloc_new]; rfl)
  · intro i _
    rw [World.frozen?_alloc_old (h := by simp)]
    exact World.frozen?_alloc_new _ _ _ i
  · rw [hs]
    refine four_cases ?_ ?_ ?_ ?_ <;> (rw [World.cell?_alloc_new]; rfl)
  · intro i _
    rw [hs, World.frozen?_alloc_new]

theorem Four.step {w : World} {R : Nat} {vb : Value} {bs : List Nat} {f : Nat → Value} {z : Value} {m q : Nat} {wr w1 : World} (h : Four w R vb bs f z m wr) (hm : Mod (fun k => k = R) wr w1) (hr : RdAt w1 R vb bs q) : Four w R vb bs f z q w1 := by
  obtain ⟨n, hn⟩ := h.old
  have hR := hn.lt
  have hl := h.lt
  refine ⟨h.old, hr, h.mod.trans' hm, fun i hi => ?_, fun i hi => ?_, fun i hi => ?_, fun i hi => ?_, Nat.lt_of_lt_of_le h.lt hm.size⟩
  · rw [hm.cell (p := ⟨w.heap.size, i, none⟩) (by simp; omega) (by simp; omega)]; exact h.z i hi
  · rw [hm.frozen (p := ⟨w.heap.size, i, none⟩) (by simp; omega) (by simp; omega)]; exact h.fz i hi
  · rw [hm.cell (p := ⟨w.heap.size + 1, i, none⟩) (by simp; omega) (by simp; omega)]; exact h.a i hi
  · rw [hm.frozen (p := ⟨w.heap.size + 1, i, none⟩) (by simp; omega) (by simp; omega)]; exact h.fa i hi

theorem Four.congr {w : World} {R : Nat} {vb : Value} {bs : List Nat} {f g : Nat → Value} {z : Value} {m : Nat} {wr : World} (h : Four w R vb bs f z m wr) (hfg : ∀ i, i < 4 → f i = g i) : Four w R vb bs g z m wr :=
  ⟨h.old, h.rd, h.mod, h.z, h.fz, fun i hi => by rw [h.a i hi, hfg i hi], h.fa, h.lt⟩

theorem Four.put {w : World} {R : Nat} {vb : Value} {bs : List Nat} {f : Nat → Value} {z : Value} {m : Nat} {wr : World} (h : Four w R vb bs f z m wr) (k : Nat) (hk : k < 4) (u : Value) :
    Four w R vb bs (fun i => if i = k then u else f i) z m (wr.setCell ⟨w.heap.size + 1, k, none⟩ u) := by
  obtain ⟨n, hn⟩ := h.old
  refine ⟨h.old, hn.own h.rd h.mod _ _ (by simp), h.mod.own _ _ (by simp), fun i hi => ?_, fun i hi => ?_, fun i hi => ?_, fun i hi => ?_, by simpa using h.lt⟩
  · rw [World.cell?_setCell_far _ _ _ _ (by simp)]; exact h.z i hi
  · rw [World.frozen?_setCell]; exact h.fz i hi
  · by_cases e : i = k
    · subst e
      rw [World.cell?_setCell_same (u := f i) _ _ _ (h.a i hi)]
      simp
    · rw [World.cell?_setCell_other _ _ _ _ (by simp [e]), if_neg e]
      exact h.a i hi
  · rw [World.frozen?_setCell]; exact h.fa i hi

end Go.Gou
namespace Go.Proofs.Ytnamnmipgpcjjaa
open Go.RowKit Go.Gou

def IsByte (_ : World) (v : Value) (x : Nat) : Prop := v = .int .u8 (x : Nat)
def IsPx (_ : World) (v : Value) (x : List Nat) : Prop := x.length = 4 ∧ v = .agg #[.int .u8 (x.getD 0 0 : Nat), .int .u8 (x.getD 1 0 : Nat), .int .u8 (x.getD 2 0 : Nat), .int .u8 (x.getD 3 0 : Nat)]
def IsRect (_ : World) (v : Value) (x : List Int) : Prop := x.length = 4 ∧ v = .agg #[.int .i64 (x.getD 0 0), .int .i64 (x.getD 1 0), .int .i64 (x.getD 2 0), .int .i64 (x.getD 3 0)]

theorem raw_any (w : World) (R : Nat) (vb : Value) (bs : List Nat) (n : Nat) (h : RdAt w R vb bs n) :
    Calls Try.prog 34 #[.pointer (some ⟨R, 0, none⟩)] w (RdP w R vb bs IsByte (rawAt bs n)) := by
  by_cases hn : n < bs.length
  · have e : rawAt bs n = some (bs[n], n + 1) := by unfold rawAt; rw [dif_pos hn]
    rw [e]
    refine (raw_some w R vb bs n h hn).mono ?_
    rintro e w' ⟨rfl, h1, h2⟩
    exact ⟨h2, _, rfl, by simp [IsByte, List.getD, hn], h1⟩
  · have e : rawAt bs n = none := by unfold rawAt; rw [dif_neg hn]
    rw [e]
    obtain rfl : n = bs.length := by have := h.le; omega
    refine (raw_none w R vb bs h).mono ?_
    rintro e w' ⟨rfl, h1, h2⟩
    exact ⟨h2, rfl, _, h1⟩

set_option maxHeartbeats 4000000 in
theorem pixel_any (w : World) (R : Nat) (vb : Value) (bs : List Nat) (n : Nat) (h : RdAt w R vb bs n) :
    Calls Try.prog 71 #[.pointer (some ⟨R, 0, none⟩)] w (RdP w R vb bs IsPx (pixelAt bs n)) := by
  have H := Lib.hid h
  have hR := h.lt
  clear h
  have Hst := Lib.hid (Four.start H.out (.int .u8 0) 27 27)
  go_enter Try.func71, Try.ntmps71
  go_wp2_with fail
  go_loopw [5] (fun c wr => ∃ (k : Nat) (xs : List Nat) (m : Nat), c = .int .i64 k ∧ k ≤ 4 ∧ timesAt (rawAt bs) n k = some (xs, m) ∧ xs.length = k ∧ Four w R vb bs (fun i => .int .u8 (xs.getD i 0 : Nat)) (.int .u8 0) m wr) (fun c _ => 4 - (intOf c).toNat)
  case atStart => exact ⟨0, [], n, rfl, by omega, rfl, rfl, Hst.out⟩
  case round =>
    obtain ⟨k, xs, m, rfl, hk, hx, hxl, hf⟩ := hrel
    have Hf := Lib.hid hf
    have Hx := Lib.hid hx
    clear hx
    by_cases hk4 : k < 4
    · have e1 : decide ((k : Int) < 4) = true := by simp; omega
      clear hf
      go_wp2_with fail
      refine (raw_any _ R vb bs m Hf.out.rd).mono ?_
      intro e w1 h1
      cases hn : rawAt bs m with
      | none =>
        rw [hn] at h1
        have hnone : timesAt (rawAt bs) n 4 = none := timesAt_none (k := k) (by rw [timesAt, Hx.out]; simp only [hn]) (by omega)
        obtain ⟨rfl, h2⟩ := h1.fault (J := IsPx) (res := pixelAt bs n) Hf.out.mod hnone
        exact ⟨rfl, h2⟩
      | some p =>
        obtain ⟨x, q⟩ := p
        rw [hn] at h1
        obtain ⟨hm1, _, rfl, rfl, hr⟩ := h1
        have hx2 : Hid (timesAt (rawAt bs) n (k + 1) = some (xs ++ [x], q)) := Lib.hid (by rw [timesAt, Hx.out]; simp only [hn])
        have hf1 := Hf.out.step hm1 hr
        have hck := hf1.a k hk4
        have hfk := hf1.fa k hk4
        have Hf1 := Lib.hid hf1
        have hkI : (k : Int) < 4 := by omega
        have hk0 : (0 : Int) ≤ (k : Int) := by omega
        clear hn hm1 hr hf1 Hx
        go_wp2_with fail
        go_roundw
        case rel => exact ⟨k + 1, xs ++ [x], q, by go_num, by omega, hx2.out, by simp [hxl], (Hf1.out.put k hk4 _).congr fun i _ => by rw [← getD_snoc xs x 0 k i hxl]; split <;> rfl⟩
        case measure => simp [intOf]; omega
    · obtain rfl : k = 4 := by omega
      have a0 := hf.a 0 (by omega)
      have a1 := hf.a 1 (by omega)
      have a2 := hf.a 2 (by omega)
      have a3 := hf.a 3 (by omega)
      have z0 := hf.z 0 (by omega)
      have z1 := hf.z 1 (by omega)
      have z2 := hf.z 2 (by omega)
      have z3 := hf.z 3 (by omega)
      have y0 := hf.fz 0 (by omega)
      have y1 := hf.fz 1 (by omega)
      have y2 := hf.fz 2 (by omega)
      have y3 := hf.fz 3 (by omega)
      obtain ⟨x0, x1, x2, x3, rfl⟩ := list4 hxl
      simp only [List.getD_cons_zero, List.getD_cons_succ] at a0 a1 a2 a3
      clear hf hk hk4
      go_wp2_with fail
      refine bodyPost_ret (v := .agg #[.int .u8 x0, .int .u8 x1, .int .u8 x2, .int .u8 x3]) (by simp [results, Try.results71, go_sem, z0, z1, z2, z3]) rfl ?_
      have m0 := Hf.out.mod
      have r0 := H.out.own Hf.out.rd m0 ⟨w.heap.size, 0, none⟩ (.int .u8 x0) (Nat.le_refl _)
      have m1 := m0.own ⟨w.heap.size, 0, none⟩ (.int .u8 x0) (Nat.le_refl _)
      have r1 := H.out.own r0 m1 ⟨w.heap.size, 1, none⟩ (.int .u8 x1) (Nat.le_refl _)
      have m2 := m1.own ⟨w.heap.size, 1, none⟩ (.int .u8 x1) (Nat.le_refl _)
      have r2 := H.out.own r1 m2 ⟨w.heap.size, 2, none⟩ (.int .u8 x2) (Nat.le_refl _)
      have m3 := m2.own ⟨w.heap.size, 2, none⟩ (.int .u8 x2) (Nat.le_refl _)
      have r3 := H.out.own r2 m3 ⟨w.heap.size, 3, none⟩ (.int .u8 x3) (Nat.le_refl _)
      have m4 := m3.own ⟨w.heap.size, 3, none⟩ (.int .u8 x3) (Nat.le_refl _)
      have hres : pixelAt bs n = some ([x0, x1, x2, x3], m) := Hx.out
      rw [hres]
      exact ⟨m4, _, rfl, ⟨rfl, rfl⟩, r3⟩

set_option maxHeartbeats 4000000 in
theorem box_any (w : World) (R : Nat) (vb : Value) (bs : List Nat) (n : Nat) (h : RdAt w R vb bs n) :
    Calls Try.prog 64 #[.pointer (some ⟨R, 0, none⟩)] w (RdP w R vb bs IsRect (boxAt bs n)) := by
  have H := Lib.hid h
  have hR := h.lt
  clear h
  have Hst := Lib.hid (Four.start H.out (.int .i64 0) 25 125)
  go_enter Try.func64, Try.ntmps64
  go_wp2_with fail
  go_loopw [5] (fun c wr => ∃ (k : Nat) (xs : List Int) (m : Nat), c = .int .i64 k ∧ k ≤ 4 ∧ timesAt (numAt bs) n k = some (xs, m) ∧ xs.length = k ∧ Four w R vb bs (fun i => .int .i64 (xs.getD i 0)) (.int .i64 0) m wr) (fun c _ => 4 - (intOf c).toNat)
  case atStart => exact ⟨0, [], n, rfl, by omega, rfl, rfl, Hst.out⟩
  case round =>
    obtain ⟨k, xs, m, rfl, hk, hx, hxl, hf⟩ := hrel
    have Hf := Lib.hid hf
    have Hx := Lib.hid hx
    clear hx
    by_cases hk4 : k < 4
    · have e1 : decide ((k : Int) < 4) = true := by simp; omega
      clear hf
      go_wp2_with fail
      refine (number_any _ R vb bs m Hf.out.rd).mono ?_
      intro e w1 h1
      cases hn : numAt bs m with
      | none =>
        rw [hn] at h1
        have hnone : timesAt (numAt bs) n 4 = none := timesAt_none (k := k) (by rw [timesAt, Hx.out]; simp only [hn]) (by omega)
        obtain ⟨rfl, h2⟩ := h1.fault (J := IsRect) (res := boxAt bs n) Hf.out.mod hnone
        exact ⟨rfl, h2⟩
      | some p =>
        obtain ⟨x, q⟩ := p
        rw [hn] at h1
        obtain ⟨hm1, _, rfl, rfl, hr⟩ := h1
        have hx2 : Hid (timesAt (numAt bs) n (k + 1) = some (xs ++ [x], q)) := Lib.hid (by rw [timesAt, Hx.out]; simp only [hn])
        have hf1 := Hf.out.step hm1 hr
        have hck := hf1.a k hk4
        have hfk := hf1.fa k hk4
        have Hf1 := Lib.hid hf1
        have hkI : (k : Int) < 4 := by omega
        have hk0 : (0 : Int) ≤ (k : Int) := by omega
        clear hn hm1 hr hf1 Hx
        go_wp2_with fail
        go_roundw
        case rel => exact ⟨k + 1, xs ++ [x], q, by go_num, by omega, hx2.out, by simp [hxl], (Hf1.out.put k hk4 _).congr fun i _ => by rw [← getD_snoc xs x 0 k i hxl]; split <;> rfl⟩
        case measure => simp [intOf]; omega
    · obtain rfl : k = 4 := by omega
      have a0 := hf.a 0 (by omega)
      have a1 := hf.a 1 (by omega)
      have a2 := hf.a 2 (by omega)
      have a3 := hf.a 3 (by omega)
      have z0 := hf.z 0 (by omega)
      have z1 := hf.z 1 (by omega)
      have z2 := hf.z 2 (by omega)
      have z3 := hf.z 3 (by omega)
      have y0 := hf.fz 0 (by omega)
      have y1 := hf.fz 1 (by omega)
      have y2 := hf.fz 2 (by omega)
      have y3 := hf.fz 3 (by omega)
      obtain ⟨x0, x1, x2, x3, rfl⟩ := list4 hxl
      simp only [List.getD_cons_zero, List.getD_cons_succ] at a0 a1 a2 a3
      clear hf hk hk4
      go_wp2_with fail
      refine bodyPost_ret (v := .agg #[.int .i64 x0, .int .i64 x1, .int .i64 x2, .int .i64 x3]) (by simp [results, Try.results64, go_sem, z0, z1, z2, z3]) rfl ?_
      have m0 := Hf.out.mod
      have r0 := H.out.own Hf.out.rd m0 ⟨w.heap.size, 0, none⟩ (.int .i64 x0) (Nat.le_refl _)
      have m1 := m0.own ⟨w.heap.size, 0, none⟩ (.int .i64 x0) (Nat.le_refl _)
      have r1 := H.out.own r0 m1 ⟨w.heap.size, 1, none⟩ (.int .i64 x1) (Nat.le_refl _)
      have m2 := m1.own ⟨w.heap.size, 1, none⟩ (.int .i64 x1) (Nat.le_refl _)
      have r2 := H.out.own r1 m2 ⟨w.heap.size, 2, none⟩ (.int .i64 x2) (Nat.le_refl _)
      have m3 := m2.own ⟨w.heap.size, 2, none⟩ (.int .i64 x2) (Nat.le_refl _)
      have r3 := H.out.own r2 m3 ⟨w.heap.size, 3, none⟩ (.int .i64 x3) (Nat.le_refl _)
      have m4 := m3.own ⟨w.heap.size, 3, none⟩ (.int .i64 x3) (Nat.le_refl _)
      have hres : boxAt bs n = some ([x0, x1, x2, x3], m) := Hx.out
      rw [hres]
      exact ⟨m4, _, rfl, ⟨rfl, rfl⟩, r3⟩

end Go.Proofs.Ytnamnmipgpcjjaa
