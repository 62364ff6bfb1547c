/- Acts as bytes: the writer's ground. -/
import Derived.Test.YtnamnmipgpcjjaaCGetC
namespace Go.Gou
open Go.RowKit

abbrev u8s (bs : List Nat) : List Value := bs.map fun x => .int .u8 (x : Nat)

/-- A number's bytes. -/
def encM (m : Nat) : List Nat := if h : m < 128 then [m] else (m % 128 + 128) :: encM (m / 128)
termination_by m
decreasing_by omega

def zig (n : Int) : Nat := if n < 0 then (-(2 * n) - 1).toNat else (2 * n).toNat
def encNum (n : Int) : List Nat := encM (zig n)
def encNums : List Int → Option (List Nat)
  | [] => some []
  | x :: r => if -2147483648 ≤ x ∧ x < 2147483648 then (encNums r).map (encNum x ++ ·) else none

theorem encM_lt {m : Nat} (h : m < 128) : encM m = [m] := by rw [encM, dif_pos h]
theorem encM_ge {m : Nat} (h : ¬ m < 128) : encM m = (m % 128 + 128) :: encM (m / 128) := by rw [encM, dif_neg h]

theorem encM_len (k : Nat) : ∀ m, m < 128 ^ (k + 1) → (encM m).length ≤ k + 1 := by
  induction k with
  | zero => intro m hm; rw [encM_lt (by simpa using hm)]; simp
  | succ k ih =>
    intro m hm
    by_cases h : m < 128
    · rw [encM_lt h]; simp
    · rw [encM_ge h]
      have : m / 128 < 128 ^ (k + 1) := by
        rw [Nat.div_lt_iff_lt_mul (by omega)]
        rwa [← Nat.pow_succ]
      have := ih _ this
      simp only [List.length_cons]
      omega

theorem zig_lt {n : Int} (h : -2147483648 ≤ n ∧ n < 2147483648) : zig n < 4294967296 := by
  unfold zig
  split <;> omega

theorem encNum_len {n : Int} (h : -2147483648 ≤ n ∧ n < 2147483648) : (encNum n).length ≤ 5 := encM_len 4 _ (Nat.lt_trans (zig_lt h) (by decide))

theorem encNums_len {xs : List Int} {es : List Nat} (h : encNums xs = some es) : es.length ≤ 5 * xs.length := by
  induction xs generalizing es with
  | nil => simp only [encNums, Option.some.injEq] at h; subst h; simp
  | cons x r ih =>
    rw [encNums] at h
    split at h
    · rename_i hx
      obtain ⟨e2, h2, rfl⟩ := Option.map_eq_some_iff.1 h
      have := ih h2
      have := encNum_len hx
      simp only [List.length_append, List.length_cons]
      omega
    · cases h

/-- The writer's box W: what has been written. -/
structure WrAt (w : World) (W : Nat) (TW TB : TypeId) (bs : List Nat) (vs : Value) : Prop where
  box : Blk w W TW #[vs]
  own : w.ownsRow (W + 1) TB 1 vs bs.length (u8s bs)

/-- Of the blocks that were, only the writer's own have turned. -/
structure WTo (W : Nat) (w : World) (vs : Value) (w' : World) (vs' : Value) : Prop where
  mod : Mod (fun k => k = W ∨ vs.ownBlock = some k) w w'
  fresh : ∀ g, vs'.ownBlock = some g → vs.ownBlock = some g ∨ w.heap.size ≤ g

theorem WTo.refl (W : Nat) (w : World) (vs : Value) : WTo W w vs w vs := ⟨Mod.refl _ _, fun _ h => .inl h⟩

theorem WTo.trans {W : Nat} {w w1 w2 : World} {vs v1 v2 : Value} (h : WTo W w vs w1 v1) (k : WTo W w1 v1 w2 v2) : WTo W w vs w2 v2 := by
  refine ⟨h.mod.trans k.mod fun i hi hs => ?_, fun g hg => ?_⟩
  · rcases hs with hs | hs
    · exact .inl hs
    · rcases h.fresh i hs with h' | h'
      · exact .inr h'
      · omega
  · rcases k.fresh g hg with h' | h'
    · exact h.fresh g h'
    · exact .inr (Nat.le_trans h.mod.size h')

theorem WTo.other {W : Nat} {w w' : World} (h : Mod (fun _ => False) w w') (vs : Value) : WTo W w vs w' vs := ⟨h.imp fun _ _ h => h.elim, fun _ h => .inl h⟩

theorem WrAt.other {w w' : World} {W : Nat} {TW TB : TypeId} {bs : List Nat} {vs : Value} (h : WrAt w W TW TB bs vs) {S : Nat → Prop} (hm : Mod S w w') (hW : ¬ S W) (hS : ∀ k, vs.ownBlock = some k → ¬ S k) : WrAt w' W TW TB bs vs :=
  ⟨h.box.mod hm hW, ownsRow_mod h.own hm hS⟩

/-- A byte is appended. -/
theorem WrAt.push {w w2 : World} {W : Nat} {TW TB : TypeId} {bs : List Nat} {vs : Value} {x : Nat} {o : Obj} {gg cp t : Nat} (h : WrAt w W TW TB bs vs) (ht : t = bs.length + 1)
    (hown : w2.ownsRow (W + 1) TB 1 (.slice (some ⟨gg, 0, none⟩) t cp) t (u8s bs ++ [.int .u8 (x : Nat)])) (hgrow : (w.alloc o).grownBy w2 vs.ownBlock) (hat : vs.ownBlock = some gg ∨ gg = w.heap.size + 1) :
    WrAt (w2.setCell ⟨W, 0, none⟩ (.slice (some ⟨gg, 0, none⟩) t cp)) W TW TB (bs ++ [x]) (.slice (some ⟨gg, 0, none⟩) t cp) ∧ WTo W w vs (w2.setCell ⟨W, 0, none⟩ (.slice (some ⟨gg, 0, none⟩) t cp)) (.slice (some ⟨gg, 0, none⟩) t cp) := by
  subst ht
  have hlt : ∀ k, vs.ownBlock = some k → W + 1 ≤ k ∧ k < w.heap.size := fun k hk => h.own.lt k hk
  have hW := Blk.lt h.box
  have hm2 := Mod.of_grown hgrow
  have hb2 : Blk w2 W TW #[vs] := (h.box.mod (Mod.alloc (fun _ => False) w o) (fun h => h)).mod hm2 (fun e => by have := hlt _ e; omega)
  have hggW : gg ≠ W := by
    rcases hat with hat | hat
    · have := hlt _ hat; omega
    · omega
  refine ⟨⟨hb2.set 0 _, ?_⟩, ⟨?_, ?_⟩⟩
  · have e : u8s (bs ++ [x]) = u8s bs ++ [.int .u8 (x : Nat)] := by simp [u8s]
    rw [e]
    have h1 := ownsRow_mod (S := fun k => k = W) hown (Mod.setCell w2 ⟨W, 0, none⟩ (.slice (some ⟨gg, 0, none⟩) (bs.length + 1) cp)) (fun k hk => by simp only [Value.ownBlock, Option.some.injEq] at hk; subst hk; exact hggW)
    simpa using h1
  · exact (((Mod.alloc _ w o).trans' (hm2.imp fun _ _ h => .inr h)).trans' ((Mod.setCell w2 ⟨W, 0, none⟩ _).imp fun _ _ h => .inl h))
  · intro g hg
    simp only [Value.ownBlock, Option.some.injEq] at hg
    subst hg
    rcases hat with hat | hat
    · exact .inl hat
    · exact .inr (by omega)

/-- Between the append and the store. -/
theorem WrAt.mid {w w2 : World} {W : Nat} {TW TB : TypeId} {bs : List Nat} {vs : Value} {o : Obj} (h : WrAt w W TW TB bs vs) (hgrow : (w.alloc o).grownBy w2 vs.ownBlock) : w2.cell? ⟨W, 0, none⟩ = some vs ∧ w2.frozen? ⟨W, 0, none⟩ = false := by
  have hb2 : Blk w2 W TW #[vs] := (h.box.mod (Mod.alloc (fun _ => False) w o) (fun h => h)).mod (Mod.of_grown hgrow) (fun e => by have := (h.own.lt _ e).1; omega)
  exact ⟨hb2.cell 0 rfl, hb2.frozen 0⟩

theorem IntsR.cells {G : Nat → Prop} {w : World} {p : Option Addr} {c n : Nat} {xs : List Int} (h : IntsR G w (.slice p n c) xs) (h0 : 0 < xs.length) :
    n = xs.length ∧ ∃ b o, p = some ⟨b, o, none⟩ ∧ b < w.heap.size ∧ G b ∧ ∀ i, i < xs.length → w.cell? ⟨b, o + i, none⟩ = some (.int .i64 (xs.getD i 0)) := by
  obtain ⟨hl, p', c', e, hcap, h⟩ := h
  simp only [Value.slice.injEq] at e
  obtain ⟨rfl, rfl, rfl⟩ := e
  rcases h with h | ⟨b, o, rfl, hb, hG, hc⟩
  · omega
  · refine ⟨rfl, b, o, rfl, hb, hG, fun i hi => hc i _ ?_⟩
    simp [ivs, List.getD, hi]

end Go.Gou
