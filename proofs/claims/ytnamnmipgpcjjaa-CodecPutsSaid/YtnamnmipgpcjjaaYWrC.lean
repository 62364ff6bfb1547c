/- Texts of the codec's proofs, laid together: WrC. -/
import Derived.Test.YtnamnmipgpcjjaaZd
set_option linter.unusedSimpArgs false
set_option linter.unusedVariables false
set_option linter.unusedSectionVars false
set_option linter.constructorNameAsVariable false

/- Acts as bytes: Ids, flags, rectangles are written. -/
namespace Go.Gou
open Go.RowKit

theorem WrAt.alloc {w : World} {W : Nat} {TW TB : TypeId} {bs : List Nat} {vs : Value} (h : WrAt w W TW TB bs vs) (o : Obj) : WrAt (w.alloc o) W TW TB bs vs := h.other (Mod.alloc (fun _ => False) w o) (fun h => h) (fun _ _ h => h)

/-- A literal list of numbers lies in a new block. -/
theorem WrAt.lit {w : World} {W : Nat} {TW TB T : TypeId} {bs : List Nat} {vs : Value} (h : WrAt w W TW TB bs vs) (xs : List Int) (cs : Array Value) (hc : cs.toList = ivs xs) (n : Nat) (hn : n = xs.length) (B : Nat) (hB : B = w.heap.size) :
    IntsR (fun b => b ≠ W ∧ vs.ownBlock ≠ some b) (w.alloc (.cells cs T)) (.slice (some ⟨B, 0, none⟩) n n) xs := by
  subst hn
  subst hB
  have hW := Blk.lt h.box
  refine ⟨by simp [ivs], _, _, rfl, Nat.le_refl _, .inr ⟨w.heap.size, 0, rfl, by simp, ⟨by omega, fun e => by have := (h.own.lt _ e).2; omega⟩, fun j u hu => ?_⟩⟩
  rw [Nat.zero_add, cell_of_row _ w.heap.size j cs T (0, 0) (heap_alloc_new w _)]
  rw [← hc] at hu
  simpa using hu

theorem encNums_append (xs ys : List Int) : encNums (xs ++ ys) = (encNums xs).bind fun a => (encNums ys).map (a ++ ·) := by
  induction xs with
  | nil => simp [encNums]
  | cons x r ih =>
    rw [List.cons_append, encNums, encNums, ih]
    split
    · cases encNums r <;> cases encNums ys <;> simp
    · rfl

/-- The truths below k, as a number. -/
def bitsTo : Nat → Bool × Bool × Bool × Bool → Int
  | 0, _ => 0
  | 1, (b0, _, _, _) => if b0 then 1 else 0
  | 2, (b0, b1, _, _) => (if b0 then 1 else 0) + (if b1 then 2 else 0)
  | 3, (b0, b1, b2, _) => (if b0 then 1 else 0) + (if b1 then 2 else 0) + (if b2 then 4 else 0)
  | _, (b0, b1, b2, b3) => (if b0 then 1 else 0) + (if b1 then 2 else 0) + (if b2 then 4 else 0) + (if b3 then 8 else 0)

end Go.Gou
namespace Go.Proofs.Ytnamnmipgpcjjaa
open Go.RowKit Go.Gou

theorem idxB_i0 : ∀ w : World, ∀ x0 x1 x2 x3 : Bool, (Instr.index 102 (.agg #[.bool x0, .bool x1, .bool x2, .bool x3]) (.int .i64 0)).run Try.prog w = .ok (.bool x0) w := fun _ _ _ _ _ => by kernel_rfl
theorem idxB_i1 : ∀ w : World, ∀ x0 x1 x2 x3 : Bool, (Instr.index 102 (.agg #[.bool x0, .bool x1, .bool x2, .bool x3]) (.int .i64 1)).run Try.prog w = .ok (.bool x1) w := fun _ _ _ _ _ => by kernel_rfl
theorem idxB_i2 : ∀ w : World, ∀ x0 x1 x2 x3 : Bool, (Instr.index 102 (.agg #[.bool x0, .bool x1, .bool x2, .bool x3]) (.int .i64 2)).run Try.prog w = .ok (.bool x2) w := fun _ _ _ _ _ => by kernel_rfl
theorem idxB_i3 : ∀ w : World, ∀ x0 x1 x2 x3 : Bool, (Instr.index 102 (.agg #[.bool x0, .bool x1, .bool x2, .bool x3]) (.int .i64 3)).run Try.prog w = .ok (.bool x3) w := fun _ _ _ _ _ => by kernel_rfl

/-- A writing behind others. -/
theorem WrP.after {w w1 w2 : World} {W : Nat} {bs es : List Nat} {vs v1 : Value} {res res2 : Option (List Nat)} {e : Ending} (h1 : WTo W w vs w1 v1) (h2 : WrP w1 W (bs ++ es) v1 res2 e w2) (hr : res = res2.map (es ++ ·)) : WrP w W bs vs res e w2 := by
  obtain ⟨v2, ht, h⟩ := h2
  refine ⟨v2, h1.trans ht, ?_⟩
  cases res2 with
  | none => subst hr; exact h
  | some e2 => subst hr; obtain ⟨h3, h4⟩ := h; exact ⟨h3, by simpa using h4⟩

set_option maxRecDepth 100000 in
set_option maxHeartbeats 1000000 in
theorem wid_any (w : World) (W : Nat) (bs : List Nat) (vs : Value) (a g : Int) (h : Wr w W bs vs) (hl : bs.length ≤ 900000000) :
    Calls Try.prog 45 #[.pointer (some ⟨W, 0, none⟩), .agg #[.int .i64 a, .int .i64 g]] w (WrP w W bs vs (encNums [a, g])) := by
  have H := Lib.hid h
  clear h
  go_enter Try.func45, Try.ntmps45
  go_wp2_with fail
  refine (numbers_any _ W bs vs _ [a, g] ((H.out.alloc _).alloc _) ((H.out.alloc _).lit [a, g] _ rfl 2 rfl _ (by simp)) (by simp; omega)).mono ?_
  intro e w1 h1
  have ht : WTo W w vs ((w.alloc (.cells #[.int .i64 a, .int .i64 g] 23)).alloc (.cells #[.int .i64 a, .int .i64 g] 3)) vs := WTo.other ((Gou.Mod.alloc _ _ _).trans' (Gou.Mod.alloc _ _ _)) vs
  obtain ⟨v2, ht2, h2⟩ := h1
  have ht3 := ht.trans ht2
  cases hr : encNums [a, g] with
  | none =>
    rw [hr] at h2
    subst h2
    exact ⟨rfl, v2, ht3, rfl⟩
  | some es =>
    rw [hr] at h2
    obtain ⟨rfl, h3⟩ := h2
    have Hr := Lib.hid hr
    clear hr
    go_wp2_with fail
    go_end0
    exact ⟨v2, ht3, by rw [Hr.out]; exact ⟨rfl, h3⟩⟩

set_option maxRecDepth 100000 in
set_option maxHeartbeats 1000000 in
theorem wflag_any (w : World) (W : Nat) (bs : List Nat) (vs : Value) (b : Bool) (h : Wr w W bs vs) (hl : bs.length ≤ 900000000) :
    Calls Try.prog 46 #[.pointer (some ⟨W, 0, none⟩), .bool b] w (WrP w W bs vs (encNums [if b then 1 else 0])) := by
  have H := Lib.hid h
  clear h
  go_enter Try.func46, Try.ntmps46
  cases b with
  | true =>
    go_wp2_with fail
    refine (numbers_any _ W bs vs _ [1] (H.out.alloc _) (H.out.lit [1] _ rfl 1 rfl _ rfl) (by simp; omega)).mono ?_
    intro e w1 h1
    obtain ⟨v2, ht2, h2⟩ := h1
    have ht3 := (WTo.other (W := W) (Gou.Mod.alloc _ w (.cells #[.int .i64 1] 3)) vs).trans ht2
    cases hr : encNums [1] with
    | none => rw [hr] at h2; subst h2; exact ⟨rfl, v2, ht3, by simp [hr]⟩
    | some es =>
      rw [hr] at h2
      obtain ⟨rfl, h3⟩ := h2
      have Hr := Lib.hid hr
      clear hr
      go_wp2_with fail
      go_end0
      exact ⟨v2, ht3, by have := Hr.out; simp only [if_true, this]; exact ⟨trivial, h3⟩⟩
  | false =>
    go_wp2_with fail
    refine (numbers_any _ W bs vs _ [0] (H.out.alloc _) (H.out.lit [0] _ rfl 1 rfl _ rfl) (by simp; omega)).mono ?_
    intro e w1 h1
    obtain ⟨v2, ht2, h2⟩ := h1
    have ht3 := (WTo.other (W := W) (Gou.Mod.alloc _ w (.cells #[.int .i64 0] 3)) vs).trans ht2
    cases hr : encNums [0] with
    | none => rw [hr] at h2; subst h2; exact ⟨rfl, v2, ht3, by simp [hr]⟩
    | some es =>
      rw [hr] at h2
      obtain ⟨rfl, h3⟩ := h2
      have Hr := Lib.hid hr
      clear hr
      go_wp2_with fail
      go_end0
      exact ⟨v2, ht3, by have := Hr.out; simp only [Bool.false_eq_true, if_false, this]; exact ⟨trivial, h3⟩⟩

set_option maxRecDepth 100000 in
set_option maxHeartbeats 1000000 in
theorem wbox_any (w : World) (W : Nat) (bs : List Nat) (vs : Value) (a b c d : Int) (h : Wr w W bs vs) (hl : bs.length ≤ 900000000) :
    Calls Try.prog 47 #[.pointer (some ⟨W, 0, none⟩), .agg #[.int .i64 a, .int .i64 b, .int .i64 c, .int .i64 d]] w (WrP w W bs vs (encNums [a, b, c, d])) := by
  have H := Lib.hid h
  clear h
  go_enter Try.func47, Try.ntmps47
  go_wp2_with fail
  refine (numbers_any _ W bs vs _ [a, b, c, d] ((H.out.alloc _).alloc _) ((H.out.alloc _).lit [a, b, c, d] _ rfl 4 rfl _ (by simp)) (by simp; omega)).mono ?_
  intro e w1 h1
  have ht : WTo W w vs ((w.alloc (.cells #[.int .i64 a, .int .i64 b, .int .i64 c, .int .i64 d] 25)).alloc (.cells #[.int .i64 a, .int .i64 b, .int .i64 c, .int .i64 d] 3)) vs := WTo.other ((Gou.Mod.alloc _ _ _).trans' (Gou.Mod.alloc _ _ _)) vs
  obtain ⟨v2, ht2, h2⟩ := h1
  have ht3 := ht.trans ht2
  cases hr : encNums [a, b, c, d] with
  | none =>
    rw [hr] at h2
    subst h2
    exact ⟨rfl, v2, ht3, rfl⟩
  | some es =>
    rw [hr] at h2
    obtain ⟨rfl, h3⟩ := h2
    have Hr := Lib.hid hr
    clear hr
    go_wp2_with fail
    go_end0
    exact ⟨v2, ht3, by rw [Hr.out]; exact ⟨rfl, h3⟩⟩

set_option maxRecDepth 100000 in
set_option maxHeartbeats 4000000 in
theorem wflags_any (w : World) (c : Cf) :
    Calls Try.prog 31 #[.agg #[.bool c.fuse, .bool c.alias, .bool c.roi, .bool c.damage, .int .i64 c.room]] w fun e w' => e = .returned (.int .i64 ((if c.fuse then 1 else 0) + (if c.alias then 2 else 0) + (if c.roi then 4 else 0) + (if c.damage then 8 else 0))) ∧ Gou.Mod (fun _ => False) w w' := by
  obtain ⟨b0, b1, b2, b3, room⟩ := c
  rcases b0 with _ | _ <;> rcases b1 with _ | _ <;> rcases b2 with _ | _ <;> rcases b3 with _ | _
  · go_enter Try.func31, Try.ntmps31
    have i0 := idxB_i0
    have i1 := idxB_i1
    have i2 := idxB_i2
    have i3 := idxB_i3
    go_wp2_with fail
    go_loopw [15, 3] (fun c s wr => ∃ k : Nat, c = .int .i64 k ∧ k ≤ 4 ∧ s = .int .i64 (bitsTo k (false, false, false, false)) ∧ Gou.Mod (fun _ => False) w wr) (fun c _ _ => 4 - (intOf c).toNat)
    case atStart => exact ⟨0, rfl, by omega, rfl, Gou.Mod.alloc _ _ _⟩
    case round =>
      obtain ⟨k, rfl, hk, rfl, hm⟩ := hrel
      rcases (show k = 0 ∨ k = 1 ∨ k = 2 ∨ k = 3 ∨ k = 4 by omega) with rfl | rfl | rfl | rfl | rfl
      · simp only [bitsTo]
        go_wp2_with fail
        go_roundw
        case rel => exact ⟨1, by simp, by omega, by simp [bitsTo], hm⟩
        case measure => simp [intOf]
      · simp only [bitsTo]
        go_wp2_with fail
        go_roundw
        case rel => exact ⟨2, by simp, by omega, by simp [bitsTo], hm⟩
        case measure => simp [intOf]
      · simp only [bitsTo]
        go_wp2_with fail
        go_roundw
        case rel => exact ⟨3, by simp, by omega, by simp [bitsTo], hm⟩
        case measure => simp [intOf]
      · simp only [bitsTo]
        go_wp2_with fail
        go_roundw
        case rel => exact ⟨4, by simp, by omega, by simp [bitsTo], hm⟩
        case measure => simp [intOf]
      · simp only [bitsTo]
        go_wp2_with fail
        go_ret
        exact ⟨rfl, hm⟩
  · go_enter Try.func31, Try.ntmps31
    have i0 := idxB_i0
    have i1 := idxB_i1
    have i2 := idxB_i2
    have i3 := idxB_i3
    go_wp2_with fail
    go_loopw [15, 3] (fun c s wr => ∃ k : Nat, c = .int .i64 k ∧ k ≤ 4 ∧ s = .int .i64 (bitsTo k (false, false, false, true)) ∧ Gou.Mod (fun _ => False) w wr) (fun c _ _ => 4 - (intOf c).toNat)
    case atStart => exact ⟨0, rfl, by omega, rfl, Gou.Mod.alloc _ _ _⟩
    case round =>
      obtain ⟨k, rfl, hk, rfl, hm⟩ := hrel
      rcases (show k = 0 ∨ k = 1 ∨ k = 2 ∨ k = 3 ∨ k = 4 by omega) with rfl | rfl | rfl | rfl | rfl
      · simp only [bitsTo]
        go_wp2_with fail
        go_roundw
        case rel => exact ⟨1, by simp, by omega, by simp [bitsTo], hm⟩
        case measure => simp [intOf]
      · simp only [bitsTo]
        go_wp2_with fail
        go_roundw
        case rel => exact ⟨2, by simp, by omega, by simp [bitsTo], hm⟩
        case measure => simp [intOf]
      · simp only [bitsTo]
        go_wp2_with fail
        go_roundw
        case rel => exact ⟨3, by simp, by omega, by simp [bitsTo], hm⟩
        case measure => simp [intOf]
      · simp only [bitsTo]
        go_wp2_with fail
        go_roundw
        case rel => exact ⟨4, by simp, by omega, by simp [bitsTo], hm⟩
        case measure => simp [intOf]
      · simp only [bitsTo]
        go_wp2_with fail
        go_ret
        exact ⟨rfl, hm⟩
  · go_enter Try.func31, Try.ntmps31
    have i0 := idxB_i0
    have i1 := idxB_i1
    have i2 := idxB_i2
    have i3 := idxB_i3
    go_wp2_with fail
    go_loopw [15, 3] (fun c s wr => ∃ k : Nat, c = .int .i64 k ∧ k ≤ 4 ∧ s = .int .i64 (bitsTo k (false, false, true, false)) ∧ Gou.Mod (fun _ => False) w wr) (fun c _ _ => 4 - (intOf c).toNat)
    case atStart => exact ⟨0, rfl, by omega, rfl, Gou.Mod.alloc _ _ _⟩
    case round =>
      obtain ⟨k, rfl, hk, rfl, hm⟩ := hrel
      rcases (show k = 0 ∨ k = 1 ∨ k = 2 ∨ k = 3 ∨ k = 4 by omega) with rfl | rfl | rfl | rfl | rfl
      · simp only [bitsTo]
        go_wp2_with fail
        go_roundw
        case rel => exact ⟨1, by simp, by omega, by simp [bitsTo], hm⟩
        case measure => simp [intOf]
      · simp only [bitsTo]
        go_wp2_with fail
        go_roundw
        case rel => exact ⟨2, by simp, by omega, by simp [bitsTo], hm⟩
        case measure => simp [intOf]
      · simp only [bitsTo]
        go_wp2_with fail
        go_roundw
        case rel => exact ⟨3, by simp, by omega, by simp [bitsTo], hm⟩
        case measure => simp [intOf]
      · simp only [bitsTo]
        go_wp2_with fail
        go_roundw
        case rel => exact ⟨4, by simp, by omega, by simp [bitsTo], hm⟩
        case measure => simp [intOf]
      · simp only [bitsTo]
        go_wp2_with fail
        go_ret
        exact ⟨rfl, hm⟩
  · go_enter Try.func31, Try.ntmps31
    have i0 := idxB_i0
    have i1 := idxB_i1
    have i2 := idxB_i2
    have i3 := idxB_i3
    go_wp2_with fail
    go_loopw [15, 3] (fun c s wr => ∃ k : Nat, c = .int .i64 k ∧ k ≤ 4 ∧ s = .int .i64 (bitsTo k (false, false, true, true)) ∧ Gou.Mod (fun _ => False) w wr) (fun c _ _ => 4 - (intOf c).toNat)
    case atStart => exact ⟨0, rfl, by omega, rfl, Gou.Mod.alloc _ _ _⟩
    case round =>
      obtain ⟨k, rfl, hk, rfl, hm⟩ := hrel
      rcases (show k = 0 ∨ k = 1 ∨ k = 2 ∨ k = 3 ∨ k = 4 by omega) with rfl | rfl | rfl | rfl | rfl
      · simp only [bitsTo]
        go_wp2_with fail
        go_roundw
        case rel => exact ⟨1, by simp, by omega, by simp [bitsTo], hm⟩
        case measure => simp [intOf]
      · simp only [bitsTo]
        go_wp2_with fail
        go_roundw
        case rel => exact ⟨2, by simp, by omega, by simp [bitsTo], hm⟩
        case measure => simp [intOf]
      · simp only [bitsTo]
        go_wp2_with fail
        go_roundw
        case rel => exact ⟨3, by simp, by omega, by simp [bitsTo], hm⟩
        case measure => simp [intOf]
      · simp only [bitsTo]
        go_wp2_with fail
        go_roundw
        case rel => exact ⟨4, by simp, by omega, by simp [bitsTo], hm⟩
        case measure => simp [intOf]
      · simp only [bitsTo]
        go_wp2_with fail
        go_ret
        exact ⟨rfl, hm⟩
  · go_enter Try.func31, Try.ntmps31
    have i0 := idxB_i0
    have i1 := idxB_i1
    have i2 := idxB_i2
    have i3 := idxB_i3
    go_wp2_with fail
    go_loopw [15, 3] (fun c s wr => ∃ k : Nat, c = .int .i64 k ∧ k ≤ 4 ∧ s = .int .i64 (bitsTo k (false, true, false, false)) ∧ Gou.Mod (fun _ => False) w wr) (fun c _ _ => 4 - (intOf c).toNat)
    case atStart => exact ⟨0, rfl, by omega, rfl, Gou.Mod.alloc _ _ _⟩
    case round =>
      obtain ⟨k, rfl, hk, rfl, hm⟩ := hrel
      rcases (show k = 0 ∨ k = 1 ∨ k = 2 ∨ k = 3 ∨ k = 4 by omega) with rfl | rfl | rfl | rfl | rfl
      · simp only [bitsTo]
        go_wp2_with fail
        go_roundw
        case rel => exact ⟨1, by simp, by omega, by simp [bitsTo], hm⟩
        case measure => simp [intOf]
      · simp only [bitsTo]
        go_wp2_with fail
        go_roundw
        case rel => exact ⟨2, by simp, by omega, by simp [bitsTo], hm⟩
        case measure => simp [intOf]
      · simp only [bitsTo]
        go_wp2_with fail
        go_roundw
        case rel => exact ⟨3, by simp, by omega, by simp [bitsTo], hm⟩
        case measure => simp [intOf]
      · simp only [bitsTo]
        go_wp2_with fail
        go_roundw
        case rel => exact ⟨4, by simp, by omega, by simp [bitsTo], hm⟩
        case measure => simp [intOf]
      · simp only [bitsTo]
        go_wp2_with fail
        go_ret
        exact ⟨rfl, hm⟩
  · go_enter Try.func31, Try.ntmps31
    have i0 := idxB_i0
    have i1 := idxB_i1
    have i2 := idxB_i2
    have i3 := idxB_i3
    go_wp2_with fail
    go_loopw [15, 3] (fun c s wr => ∃ k : Nat, c = .int .i64 k ∧ k ≤ 4 ∧ s = .int .i64 (bitsTo k (false, true, false, true)) ∧ Gou.Mod (fun _ => False) w wr) (fun c _ _ => 4 - (intOf c).toNat)
    case atStart => exact ⟨0, rfl, by omega, rfl, Gou.Mod.alloc _ _ _⟩
    case round =>
      obtain ⟨k, rfl, hk, rfl, hm⟩ := hrel
      rcases (show k = 0 ∨ k = 1 ∨ k = 2 ∨ k = 3 ∨ k = 4 by omega) with rfl | rfl | rfl | rfl | rfl
      · simp only [bitsTo]
        go_wp2_with fail
        go_roundw
        case rel => exact ⟨1, by simp, by omega, by simp [bitsTo], hm⟩
        case measure => simp [intOf]
      · simp only [bitsTo]
        go_wp2_with fail
        go_roundw
        case rel => exact ⟨2, by simp, by omega, by simp [bitsTo], hm⟩
        case measure => simp [intOf]
      · simp only [bitsTo]
        go_wp2_with fail
        go_roundw
        case rel => exact ⟨3, by simp, by omega, by simp [bitsTo], hm⟩
        case measure => simp [intOf]
      · simp only [bitsTo]
        go_wp2_with fail
        go_roundw
        case rel => exact ⟨4, by simp, by omega, by simp [bitsTo], hm⟩
        case measure => simp [intOf]
      · simp only [bitsTo]
        go_wp2_with fail
        go_ret
        exact ⟨rfl, hm⟩
  · go_enter Try.func31, Try.ntmps31
    have i0 := idxB_i0
    have i1 := idxB_i1
    have i2 := idxB_i2
    have i3 := idxB_i3
    go_wp2_with fail
    go_loopw [15, 3] (fun c s wr => ∃ k : Nat, c = .int .i64 k ∧ k ≤ 4 ∧ s = .int .i64 (bitsTo k (false, true, true, false)) ∧ Gou.Mod (fun _ => False) w wr) (fun c _ _ => 4 - (intOf c).toNat)
    case atStart => exact ⟨0, rfl, by omega, rfl, Gou.Mod.alloc _ _ _⟩
    case round =>
      obtain ⟨k, rfl, hk, rfl, hm⟩ := hrel
      rcases (show k = 0 ∨ k = 1 ∨ k = 2 ∨ k = 3 ∨ k = 4 by omega) with rfl | rfl | rfl | rfl | rfl
      · simp only [bitsTo]
        go_wp2_with fail
        go_roundw
        case rel => exact ⟨1, by simp, by omega, by simp [bitsTo], hm⟩
        case measure => simp [intOf]
      · simp only [bitsTo]
        go_wp2_with fail
        go_roundw
        case rel => exact ⟨2, by simp, by omega, by simp [bitsTo], hm⟩
        case measure => simp [intOf]
      · simp only [bitsTo]
        go_wp2_with fail
        go_roundw
        case rel => exact ⟨3, by simp, by omega, by simp [bitsTo], hm⟩
        case measure => simp [intOf]
      · simp only [bitsTo]
        go_wp2_with fail
        go_roundw
        case rel => exact ⟨4, by simp, by omega, by simp [bitsTo], hm⟩
        case measure => simp [intOf]
      · simp only [bitsTo]
        go_wp2_with fail
        go_ret
        exact ⟨rfl, hm⟩
  · go_enter Try.func31, Try.ntmps31
    have i0 := idxB_i0
    have i1 := idxB_i1
    have i2 := idxB_i2
    have i3 := idxB_i3
    go_wp2_with fail
    go_loopw [15, 3] (fun c s wr => ∃ k : Nat, c = .int .i64 k ∧ k ≤ 4 ∧ s = .int .i64 (bitsTo k (false, true, true, true)) ∧ Gou.Mod (fun _ => False) w wr) (fun c _ _ => 4 - (intOf c).toNat)
    case atStart => exact ⟨0, rfl, by omega, rfl, Gou.Mod.alloc _ _ _⟩
    case round =>
      obtain ⟨k, rfl, hk, rfl, hm⟩ := hrel
      rcases (show k = 0 ∨ k = 1 ∨ k = 2 ∨ k = 3 ∨ k = 4 by omega) with rfl | rfl | rfl | rfl | rfl
      · simp only [bitsTo]
        go_wp2_with fail
        go_roundw
        case rel => exact ⟨1, by simp, by omega, by simp [bitsTo], hm⟩
        case measure => simp [intOf]
      · simp only [bitsTo]
        go_wp2_with fail
        go_roundw
        case rel => exact ⟨2, by simp, by omega, by simp [bitsTo], hm⟩
        case measure => simp [intOf]
      · simp only [bitsTo]
        go_wp2_with fail
        go_roundw
        case rel => exact ⟨3, by simp, by omega, by simp [bitsTo], hm⟩
        case measure => simp [intOf]
      · simp only [bitsTo]
        go_wp2_with fail
        go_roundw
        case rel => exact ⟨4, by simp, by omega, by simp [bitsTo], hm⟩
        case measure => simp [intOf]
      · simp only [bitsTo]
        go_wp2_with fail
        go_ret
        exact ⟨rfl, hm⟩
  · go_enter Try.func31, Try.ntmps31
    have i0 := idxB_i0
    have i1 := idxB_i1
    have i2 := idxB_i2
    have i3 := idxB_i3
    go_wp2_with fail
    go_loopw [15, 3] (fun c s wr => ∃ k : Nat, c = .int .i64 k ∧ k ≤ 4 ∧ s = .int .i64 (bitsTo k (true, false, false, false)) ∧ Gou.Mod (fun _ => False) w wr) (fun c _ _ => 4 - (intOf c).toNat)
    case atStart => exact ⟨0, rfl, by omega, rfl, Gou.Mod.alloc _ _ _⟩
    case round =>
      obtain ⟨k, rfl, hk, rfl, hm⟩ := hrel
      rcases (show k = 0 ∨ k = 1 ∨ k = 2 ∨ k = 3 ∨ k = 4 by omega) with rfl | rfl | rfl | rfl | rfl
      · simp only [bitsTo]
        go_wp2_with fail
        go_roundw
        case rel => exact ⟨1, by simp, by omega, by simp [bitsTo], hm⟩
        case measure => simp [intOf]
      · simp only [bitsTo]
        go_wp2_with fail
        go_roundw
        case rel => exact ⟨2, by simp, by omega, by simp [bitsTo], hm⟩
        case measure => simp [intOf]
      · simp only [bitsTo]
        go_wp2_with fail
        go_roundw
        case rel => exact ⟨3, by simp, by omega, by simp [bitsTo], hm⟩
        case measure => simp [intOf]
      · simp only [bitsTo]
        go_wp2_with fail
        go_roundw
        case rel => exact ⟨4, by simp, by omega, by simp [bitsTo], hm⟩
        case measure => simp [intOf]
      · simp only [bitsTo]
        go_wp2_with fail
        go_ret
        exact ⟨rfl, hm⟩
  · go_enter Try.func31, Try.ntmps31
    have i0 := idxB_i0
    have i1 := idxB_i1
    have i2 := idxB_i2
    have i3 := idxB_i3
    go_wp2_with fail
    go_loopw [15, 3] (fun c s wr => ∃ k : Nat, c = .int .i64 k ∧ k ≤ 4 ∧ s = .int .i64 (bitsTo k (true, false, false, true)) ∧ Gou.Mod (fun _ => False) w wr) (fun c _ _ => 4 - (intOf c).toNat)
    case atStart => exact ⟨0, rfl, by omega, rfl, Gou.Mod.alloc _ _ _⟩
    case round =>
      obtain ⟨k, rfl, hk, rfl, hm⟩ := hrel
      rcases (show k = 0 ∨ k = 1 ∨ k = 2 ∨ k = 3 ∨ k = 4 by omega) with rfl | rfl | rfl | rfl | rfl
      · simp only [bitsTo]
        go_wp2_with fail
        go_roundw
        case rel => exact ⟨1, by simp, by omega, by simp [bitsTo], hm⟩
        case measure => simp [intOf]
      · simp only [bitsTo]
        go_wp2_with fail
        go_roundw
        case rel => exact ⟨2, by simp, by omega, by simp [bitsTo], hm⟩
        case measure => simp [intOf]
      · simp only [bitsTo]
        go_wp2_with fail
        go_roundw
        case rel => exact ⟨3, by simp, by omega, by simp [bitsTo], hm⟩
        case measure => simp [intOf]
      · simp only [bitsTo]
        go_wp2_with fail
        go_roundw
        case rel => exact ⟨4, by simp, by omega, by simp [bitsTo], hm⟩
        case measure => simp [intOf]
      · simp only [bitsTo]
        go_wp2_with fail
        go_ret
        exact ⟨rfl, hm⟩
  · go_enter Try.func31, Try.ntmps31
    have i0 := idxB_i0
    have i1 := idxB_i1
    have i2 := idxB_i2
    have i3 := idxB_i3
    go_wp2_with fail
    go_loopw [15, 3] (fun c s wr => ∃ k : Nat, c = .int .i64 k ∧ k ≤ 4 ∧ s = .int .i64 (bitsTo k (true, false, true, false)) ∧ Gou.Mod (fun _ => False) w wr) (fun c _ _ => 4 - (intOf c).toNat)
    case atStart => exact ⟨0, rfl, by omega, rfl, Gou.Mod.alloc _ _ _⟩
    case round =>
      obtain ⟨k, rfl, hk, rfl, hm⟩ := hrel
      rcases (show k = 0 ∨ k = 1 ∨ k = 2 ∨ k = 3 ∨ k = 4 by omega) with rfl | rfl | rfl | rfl | rfl
      · simp only [bitsTo]
        go_wp2_with fail
        go_roundw
        case rel => exact ⟨1, by simp, by omega, by simp [bitsTo], hm⟩
        case measure => simp [intOf]
      · simp only [bitsTo]
        go_wp2_with fail
        go_roundw
        case rel => exact ⟨2, by simp, by omega, by simp [bitsTo], hm⟩
        case measure => simp [intOf]
      · simp only [bitsTo]
        go_wp2_with fail
        go_roundw
        case rel => exact ⟨3, by simp, by omega, by simp [bitsTo], hm⟩
        case measure => simp [intOf]
      · simp only [bitsTo]
        go_wp2_with fail
        go_roundw
        case rel => exact ⟨4, by simp, by omega, by simp [bitsTo], hm⟩
        case measure => simp [intOf]
      · simp only [bitsTo]
        go_wp2_with fail
        go_ret
        exact ⟨rfl, hm⟩
  · go_enter Try.func31, Try.ntmps31
    have i0 := idxB_i0
    have i1 := idxB_i1
    have i2 := idxB_i2
    have i3 := idxB_i3
    go_wp2_with fail
    go_loopw [15, 3] (fun c s wr => ∃ k : Nat, c = .int .i64 k ∧ k ≤ 4 ∧ s = .int .i64 (bitsTo k (true, false, true, true)) ∧ Gou.Mod (fun _ => False) w wr) (fun c _ _ => 4 - (intOf c).toNat)
    case atStart => exact ⟨0, rfl, by omega, rfl, Gou.Mod.alloc _ _ _⟩
    case round =>
      obtain ⟨k, rfl, hk, rfl, hm⟩ := hrel
      rcases (show k = 0 ∨ k = 1 ∨ k = 2 ∨ k = 3 ∨ k = 4 by omega) with rfl | rfl | rfl | rfl | rfl
      · simp only [bitsTo]
        go_wp2_with fail
        go_roundw
        case rel => exact ⟨1, by simp, by omega, by simp [bitsTo], hm⟩
        case measure => simp [intOf]
      · simp only [bitsTo]
        go_wp2_with fail
        go_roundw
        case rel => exact ⟨2, by simp, by omega, by simp [bitsTo], hm⟩
        case measure => simp [intOf]
      · simp only [bitsTo]
        go_wp2_with fail
        go_roundw
        case rel => exact ⟨3, by simp, by omega, by simp [bitsTo], hm⟩
        case measure => simp [intOf]
      · simp only [bitsTo]
        go_wp2_with fail
        go_roundw
        case rel => exact ⟨4, by simp, by omega, by simp [bitsTo], hm⟩
        case measure => simp [intOf]
      · simp only [bitsTo]
        go_wp2_with fail
        go_ret
        exact ⟨rfl, hm⟩
  · go_enter Try.func31, Try.ntmps31
    have i0 := idxB_i0
    have i1 := idxB_i1
    have i2 := idxB_i2
    have i3 := idxB_i3
    go_wp2_with fail
    go_loopw [15, 3] (fun c s wr => ∃ k : Nat, c = .int .i64 k ∧ k ≤ 4 ∧ s = .int .i64 (bitsTo k (true, true, false, false)) ∧ Gou.Mod (fun _ => False) w wr) (fun c _ _ => 4 - (intOf c).toNat)
    case atStart => exact ⟨0, rfl, by omega, rfl, Gou.Mod.alloc _ _ _⟩
    case round =>
      obtain ⟨k, rfl, hk, rfl, hm⟩ := hrel
      rcases (show k = 0 ∨ k = 1 ∨ k = 2 ∨ k = 3 ∨ k = 4 by omega) with rfl | rfl | rfl | rfl | rfl
      · simp only [bitsTo]
        go_wp2_with fail
        go_roundw
        case rel => exact ⟨1, by simp, by omega, by simp [bitsTo], hm⟩
        case measure => simp [intOf]
      · simp only [bitsTo]
        go_wp2_with fail
        go_roundw
        case rel => exact ⟨2, by simp, by omega, by simp [bitsTo], hm⟩
        case measure => simp [intOf]
      · simp only [bitsTo]
        go_wp2_with fail
        go_roundw
        case rel => exact ⟨3, by simp, by omega, by simp [bitsTo], hm⟩
        case measure => simp [intOf]
      · simp only [bitsTo]
        go_wp2_with fail
        go_roundw
        case rel => exact ⟨4, by simp, by omega, by simp [bitsTo], hm⟩
        case measure => simp [intOf]
      · simp only [bitsTo]
        go_wp2_with fail
        go_ret
        exact ⟨rfl, hm⟩
  · go_enter Try.func31, Try.ntmps31
    have i0 := idxB_i0
    have i1 := idxB_i1
    have i2 := idxB_i2
    have i3 := idxB_i3
    go_wp2_with fail
    go_loopw [15, 3] (fun c s wr => ∃ k : Nat, c = .int .i64 k ∧ k ≤ 4 ∧ s = .int .i64 (bitsTo k (true, true, false, true)) ∧ Gou.Mod (fun _ => False) w wr) (fun c _ _ => 4 - (intOf c).toNat)
    case atStart => exact ⟨0, rfl, by omega, rfl, Gou.Mod.alloc _ _ _⟩
    case round =>
      obtain ⟨k, rfl, hk, rfl, hm⟩ := hrel
      rcases (show k = 0 ∨ k = 1 ∨ k = 2 ∨ k = 3 ∨ k = 4 by omega) with rfl | rfl | rfl | rfl | rfl
      · simp only [bitsTo]
        go_wp2_with fail
        go_roundw
        case rel => exact ⟨1, by simp, by omega, by simp [bitsTo], hm⟩
        case measure => simp [intOf]
      · simp only [bitsTo]
        go_wp2_with fail
        go_roundw
        case rel => exact ⟨2, by simp, by omega, by simp [bitsTo], hm⟩
        case measure => simp [intOf]
      · simp only [bitsTo]
        go_wp2_with fail
        go_roundw
        case rel => exact ⟨3, by simp, by omega, by simp [bitsTo], hm⟩
        case measure => simp [intOf]
      · simp only [bitsTo]
        go_wp2_with fail
        go_roundw
        case rel => exact ⟨4, by simp, by omega, by simp [bitsTo], hm⟩
        case measure => simp [intOf]
      · simp only [bitsTo]
        go_wp2_with fail
        go_ret
        exact ⟨rfl, hm⟩
  · go_enter Try.func31, Try.ntmps31
    have i0 := idxB_i0
    have i1 := idxB_i1
    have i2 := idxB_i2
    have i3 := idxB_i3
    go_wp2_with fail
    go_loopw [15, 3] (fun c s wr => ∃ k : Nat, c = .int .i64 k ∧ k ≤ 4 ∧ s = .int .i64 (bitsTo k (true, true, true, false)) ∧ Gou.Mod (fun _ => False) w wr) (fun c _ _ => 4 - (intOf c).toNat)
    case atStart => exact ⟨0, rfl, by omega, rfl, Gou.Mod.alloc _ _ _⟩
    case round =>
      obtain ⟨k, rfl, hk, rfl, hm⟩ := hrel
      rcases (show k = 0 ∨ k = 1 ∨ k = 2 ∨ k = 3 ∨ k = 4 by omega) with rfl | rfl | rfl | rfl | rfl
      · simp only [bitsTo]
        go_wp2_with fail
        go_roundw
        case rel => exact ⟨1, by simp, by omega, by simp [bitsTo], hm⟩
        case measure => simp [intOf]
      · simp only [bitsTo]
        go_wp2_with fail
        go_roundw
        case rel => exact ⟨2, by simp, by omega, by simp [bitsTo], hm⟩
        case measure => simp [intOf]
      · simp only [bitsTo]
        go_wp2_with fail
        go_roundw
        case rel => exact ⟨3, by simp, by omega, by simp [bitsTo], hm⟩
        case measure => simp [intOf]
      · simp only [bitsTo]
        go_wp2_with fail
        go_roundw
        case rel => exact ⟨4, by simp, by omega, by simp [bitsTo], hm⟩
        case measure => simp [intOf]
      · simp only [bitsTo]
        go_wp2_with fail
        go_ret
        exact ⟨rfl, hm⟩
  · go_enter Try.func31, Try.ntmps31
    have i0 := idxB_i0
    have i1 := idxB_i1
    have i2 := idxB_i2
    have i3 := idxB_i3
    go_wp2_with fail
    go_loopw [15, 3] (fun c s wr => ∃ k : Nat, c = .int .i64 k ∧ k ≤ 4 ∧ s = .int .i64 (bitsTo k (true, true, true, true)) ∧ Gou.Mod (fun _ => False) w wr) (fun c _ _ => 4 - (intOf c).toNat)
    case atStart => exact ⟨0, rfl, by omega, rfl, Gou.Mod.alloc _ _ _⟩
    case round =>
      obtain ⟨k, rfl, hk, rfl, hm⟩ := hrel
      rcases (show k = 0 ∨ k = 1 ∨ k = 2 ∨ k = 3 ∨ k = 4 by omega) with rfl | rfl | rfl | rfl | rfl
      · simp only [bitsTo]
        go_wp2_with fail
        go_roundw
        case rel => exact ⟨1, by simp, by omega, by simp [bitsTo], hm⟩
        case measure => simp [intOf]
      · simp only [bitsTo]
        go_wp2_with fail
        go_roundw
        case rel => exact ⟨2, by simp, by omega, by simp [bitsTo], hm⟩
        case measure => simp [intOf]
      · simp only [bitsTo]
        go_wp2_with fail
        go_roundw
        case rel => exact ⟨3, by simp, by omega, by simp [bitsTo], hm⟩
        case measure => simp [intOf]
      · simp only [bitsTo]
        go_wp2_with fail
        go_roundw
        case rel => exact ⟨4, by simp, by omega, by simp [bitsTo], hm⟩
        case measure => simp [intOf]
      · simp only [bitsTo]
        go_wp2_with fail
        go_ret
        exact ⟨rfl, hm⟩

end Go.Proofs.Ytnamnmipgpcjjaa

