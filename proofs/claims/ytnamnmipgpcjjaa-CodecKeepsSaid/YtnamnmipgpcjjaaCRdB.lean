/- Acts as bytes: numbers within bounds, flags, Ids. -/
import Derived.Test.YtnamnmipgpcjjaaCNum
namespace Go.Gou
open Go.RowKit

theorem RdAt.alloc {w : World} {R : Nat} {vb : Value} {bs : List Nat} {n : Nat} (h : RdAt w R vb bs n) (o : Obj) : RdAt (w.alloc o) R vb bs n :=
  h.mod (Mod.alloc (fun _ => False) w o) (fun h => h) (fun _ _ _ h => h)

theorem RdAt.over {w w2 w' : World} {R : Nat} {vb : Value} {bs : List Nat} {n q : Nat} (H : RdAt w R vb bs n) (hm : Mod (fun k => k = R) w w') (h2 : RdAt w2 R vb bs q) (hc : ∀ o, w'.cell? ⟨R, o, none⟩ = w2.cell? ⟨R, o, none⟩)
    (hf : w'.frozen? ⟨R, 1, none⟩ = w2.frozen? ⟨R, 1, none⟩) : RdAt w' R vb bs q :=
  ⟨by rw [hc]; exact h2.c0, by rw [hc]; exact h2.c1, by rw [hf]; exact h2.f1, H.bytes.mod hm (fun _ _ h => h), h2.le, h2.byte, h2.len⟩

/-- A store into a block of the call's own. -/
theorem Mod.own {S : Nat → Prop} {w w2 : World} (h : Mod S w w2) (p : Addr) (u : Value) (hp : w.heap.size ≤ p.block) : Mod S w (w2.setCell p u) :=
  h.trans (Mod.setCell w2 p u) fun i hi e => by omega

theorem RdAt.own {w w2 : World} {R : Nat} {vb : Value} {bs : List Nat} {n q : Nat} (H : RdAt w R vb bs n) (h2 : RdAt w2 R vb bs q) (hm : Mod (fun k => k = R) w w2) (p : Addr) (u : Value) (hp : w.heap.size ≤ p.block) : RdAt (w2.setCell p u) R vb bs q :=
  H.over (hm.own p u hp) h2 (fun o => World.cell?_setCell_far _ _ _ _ (by have := H.lt; simp; omega)) (by rw [World.frozen?_setCell])

def withinAt (bs : List Nat) (n : Nat) (least most : Int) : Option (Int × Nat) :=
  match numAt bs n with
  | some (x, m) => if least ≤ x ∧ x ≤ most then some (x, m) else none
  | none => none

def flagAt (bs : List Nat) (n : Nat) : Option (Bool × Nat) :=
  match withinAt bs n 0 1 with
  | some (x, m) => some (x == 1, m)
  | none => none

def idAt (bs : List Nat) (n : Nat) : Option ((Int × Int) × Nat) :=
  match numAt bs n with
  | some (a, m) => match numAt bs m with
    | some (g, q) => some ((a, g), q)
    | none => none
  | none => none

end Go.Gou
namespace Go.Proofs.Ytnamnmipgpcjjaa
open Go.RowKit Go.Gou

def IsBool (_ : World) (v : Value) (x : Bool) : Prop := v = .bool x
def IsId (_ : World) (v : Value) (x : Int × Int) : Prop := v = .agg #[.int .i64 x.1, .int .i64 x.2]

/-- A call that met a fault on the way hands it on. -/
theorem RdP.fault {α β : Type} {w w1 w2 : World} {R : Nat} {vb : Value} {bs : List Nat} {I : World → Value → α → Prop} {J : World → Value → β → Prop} {res : Option (β × Nat)} {e : Ending} (hm0 : Mod (fun k => k = R) w w1)
    (h : RdP w1 R vb bs I none e w2) (hr : res = none) : e = .panicked faultC ∧ RdP w R vb bs J res e w2 := by
  obtain ⟨hm, rfl, n, hn⟩ := h
  exact ⟨rfl, hm0.trans' hm, by rw [hr]; exact ⟨rfl, n, hn⟩⟩

set_option maxHeartbeats 1000000 in
theorem within_any (w : World) (R : Nat) (vb : Value) (bs : List Nat) (n : Nat) (least most : Int) (h : RdAt w R vb bs n) :
    Calls Try.prog 52 #[.pointer (some ⟨R, 0, none⟩), .int .i64 least, .int .i64 most] w (RdP w R vb bs IsInt (withinAt bs n least most)) := by
  have H := Lib.hid h
  clear h
  go_enter Try.func52, Try.ntmps52
  go_wp2_with fail
  refine (number_any _ R vb bs n H.out).mono ?_
  intro e w1 h1
  cases hn : numAt bs n with
  | none =>
    rw [hn] at h1
    obtain ⟨rfl, h2⟩ := h1.fault (J := IsInt) (res := withinAt bs n least most) (Mod.refl _ _) (by unfold withinAt; rw [hn])
    exact ⟨rfl, h2⟩
  | some p =>
    obtain ⟨x, m⟩ := p
    rw [hn] at h1
    obtain ⟨hm1, _, rfl, rfl, hr⟩ := h1
    by_cases h1 : least ≤ x
    · have e1 : decide (least ≤ x) = true := by simp [h1]
      by_cases h2 : x ≤ most
      · have e2 : decide (x ≤ most) = true := by simp [h2]
        have hw : Hid (withinAt bs n least most = some (x, m)) := by unfold withinAt; rw [hn]; exact if_pos ⟨h1, h2⟩
        clear h1 h2 hn
        go_wp2_with fail
        refine (must_true _).mono ?_
        rintro e w2 ⟨rfl, rfl⟩
        go_wp2_with fail
        go_ret
        exact ⟨hm1, by rw [hw.out]; exact ⟨_, rfl, rfl, hr⟩⟩
      · have e2 : decide (x ≤ most) = false := by simp; omega
        have hw : Hid (withinAt bs n least most = none) := by unfold withinAt; rw [hn]; exact if_neg (fun h => h2 h.2)
        clear h1 h2 hn
        go_wp2_with fail
        refine (must_false _).mono ?_
        rintro e w2 ⟨rfl, rfl⟩
        exact ⟨rfl, hm1, by rw [hw.out]; exact ⟨rfl, _, hr⟩⟩
    · have e1 : decide (least ≤ x) = false := by simp; omega
      have hw : Hid (withinAt bs n least most = none) := by unfold withinAt; rw [hn]; exact if_neg (fun h => h1 h.1)
      clear h1 hn
      go_wp2_with fail
      refine (must_false _).mono ?_
      rintro e w2 ⟨rfl, rfl⟩
      exact ⟨rfl, hm1, by rw [hw.out]; exact ⟨rfl, _, hr⟩⟩

set_option maxHeartbeats 1000000 in
theorem flag_any (w : World) (R : Nat) (vb : Value) (bs : List Nat) (n : Nat) (h : RdAt w R vb bs n) :
    Calls Try.prog 63 #[.pointer (some ⟨R, 0, none⟩)] w (RdP w R vb bs IsBool (flagAt bs n)) := by
  have H := Lib.hid h
  clear h
  go_enter Try.func63, Try.ntmps63
  go_wp2_with fail
  refine (within_any _ R vb bs n 0 1 H.out).mono ?_
  intro e w1 h1
  cases hn : withinAt bs n 0 1 with
  | none =>
    rw [hn] at h1
    obtain ⟨rfl, h2⟩ := h1.fault (J := IsBool) (res := flagAt bs n) (Mod.refl _ _) (by unfold flagAt; rw [hn])
    exact ⟨rfl, h2⟩
  | some p =>
    obtain ⟨x, m⟩ := p
    rw [hn] at h1
    obtain ⟨hm1, _, rfl, rfl, hr⟩ := h1
    have hw : Hid (flagAt bs n = some (x == 1, m)) := by unfold flagAt; rw [hn]; rfl
    clear hn
    go_wp2_with fail
    go_ret
    exact ⟨hm1, by rw [hw.out]; exact ⟨_, rfl, rfl, hr⟩⟩

set_option maxHeartbeats 1000000 in
theorem id_any (w : World) (R : Nat) (vb : Value) (bs : List Nat) (n : Nat) (h : RdAt w R vb bs n) :
    Calls Try.prog 53 #[.pointer (some ⟨R, 0, none⟩)] w (RdP w R vb bs IsId (idAt bs n)) := by
  have H := Lib.hid h
  have hR := h.lt
  clear h
  go_enter Try.func53, Try.ntmps53
  go_wp2_with fail
  refine (number_any _ R vb bs n (H.out.alloc _)).mono ?_
  intro e w1 h1
  have hm0 : Mod (fun k => k = R) w (w.alloc (.cells #[.int .i64 0, .int .i64 0] 23)) := Mod.alloc _ _ _
  cases hn : numAt bs n with
  | none =>
    rw [hn] at h1
    obtain ⟨rfl, h2⟩ := h1.fault (J := IsId) (res := idAt bs n) hm0 (by unfold idAt; rw [hn])
    exact ⟨rfl, h2⟩
  | some p =>
    obtain ⟨x, m⟩ := p
    rw [hn] at h1
    obtain ⟨hm1, _, rfl, rfl, hr⟩ := h1
    have Hm1 := Lib.hid hm1
    go_wp2_with fail
    refine (number_any _ R vb bs m hr).mono ?_
    intro e w2 h2
    cases hn2 : numAt bs m with
    | none =>
      rw [hn2] at h2
      obtain ⟨rfl, h3⟩ := h2.fault (J := IsId) (res := idAt bs n) (hm0.trans' hm1) (by unfold idAt; rw [hn]; simp only [hn2])
      exact ⟨rfl, h3⟩
    | some p =>
      obtain ⟨y, q⟩ := p
      rw [hn2] at h2
      obtain ⟨hm2, _, rfl, rfl, hr2⟩ := h2
      have hw : Hid (idAt bs n = some ((x, y), q)) := Lib.hid (by unfold idAt; rw [hn]; simp only [hn2])
      clear hn hn2
      have hN : ∀ o, w2.cell? ⟨w.heap.size, o, none⟩ = (w.alloc (.cells #[.int .i64 0, .int .i64 0] 23)).cell? ⟨w.heap.size, o, none⟩ := fun o => by
        rw [hm2.cell (p := ⟨w.heap.size, o, none⟩) (Nat.lt_of_lt_of_le (by simp) hm1.size) (by simp; omega), hm1.cell (p := ⟨w.heap.size, o, none⟩) (by simp) (by simp; omega)]
      have hF : ∀ o, w2.frozen? ⟨w.heap.size, o, none⟩ = (w.alloc (.cells #[.int .i64 0, .int .i64 0] 23)).frozen? ⟨w.heap.size, o, none⟩ := fun o => by
        rw [hm2.frozen (p := ⟨w.heap.size, o, none⟩) (Nat.lt_of_lt_of_le (by simp) hm1.size) (by simp; omega), hm1.frozen (p := ⟨w.heap.size, o, none⟩) (by simp) (by simp; omega)]
      have c0 : w2.cell? ⟨w.heap.size, 0, none⟩ = some (.int .i64 0) := by rw [hN, World.cell?_alloc_new]; rfl
      have c1 : w2.cell? ⟨w.heap.size, 1, none⟩ = some (.int .i64 0) := by rw [hN, World.cell?_alloc_new]; rfl
      have f0 : w2.frozen? ⟨w.heap.size, 0, none⟩ = false := by rw [hF, World.frozen?_alloc_new]
      have f1 : w2.frozen? ⟨w.heap.size, 1, none⟩ = false := by rw [hF, World.frozen?_alloc_new]
      have Hr2 := Lib.hid hr2
      have Hm2 := Lib.hid ((hm0.trans' hm1).trans' hm2)
      clear hN hF hr hr2 hm0 hm1 hm2 Hm1
      go_wp2_with fail
      refine bodyPost_ret (v := .agg #[.int .i64 x, .int .i64 y]) (by simp [results, Try.results53, go_sem, c0, c1]) rfl ?_
      exact ⟨(Hm2.out.own _ _ (Nat.le_refl _)).own _ _ (Nat.le_refl _), by
        rw [hw.out]
        exact ⟨_, rfl, rfl, H.out.own (H.out.own Hr2.out Hm2.out _ _ (Nat.le_refl _)) (Hm2.out.own _ _ (Nat.le_refl _)) _ _ (Nat.le_refl _)⟩⟩

end Go.Proofs.Ytnamnmipgpcjjaa
