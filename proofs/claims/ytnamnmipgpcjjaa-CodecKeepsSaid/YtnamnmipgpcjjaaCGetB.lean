/- Acts as bytes: acts are read. -/
import Derived.Test.YtnamnmipgpcjjaaCGetA
namespace Go.Gou
open Go.RowKit

/-- A slice of acts, new since base. -/
def ActsV (TA : TypeId) (base : Nat) (w : World) (v : Value) (xs : List Ac) : Prop := ∃ cs lo hi, w.ownsRow base TA 42 v xs.length cs ∧ ActsIn w base cs xs lo hi ∧ ∀ g i, v.ownBlock = some g → i < xs.length → ¬ (lo i ≤ g ∧ g < hi i)

/-- On the way through acts. -/
structure GetIn (w : World) (R : Nat) (vb : Value) (bs : List Nat) (TA : TypeId) (xs : List Ac) (q : Nat) (vs : Value) (cs : List Value) (lo hi : Nat → Nat) (wr : World) : Prop where
  old : RdAt w R vb bs 0
  rd : RdAt wr R vb bs q
  mod : Mod (fun k => k = R) w wr
  reads : Reads bs xs 0 q
  own : wr.ownsRow w.heap.size TA 42 vs xs.length cs
  acts : ActsIn wr w.heap.size cs xs lo hi
  apart : ∀ g i, vs.ownBlock = some g → i < xs.length → ¬ (lo i ≤ g ∧ g < hi i)
  cnt : xs.length ≤ q

theorem BytesAt.imp {G G' : Nat → Prop} {w : World} {v : Value} {bs : List Nat} (h : BytesAt G w v bs) (hG : ∀ k, k < w.heap.size → G k → G' k) : BytesAt G' w v bs := by
  obtain ⟨p, cap, rfl, hcap, h⟩ := h
  refine ⟨p, cap, rfl, hcap, h.imp id ?_⟩
  rintro ⟨b, o, rfl, hB, hg, hc⟩
  exact ⟨b, o, rfl, hB, hG b hB hg, hc⟩

theorem RdAt.make {w : World} {vb : Value} {bs : List Nat} {T : TypeId} (h : BytesAt (fun _ => True) w vb bs) (hb : ∀ x ∈ bs, x < 256) (hl : bs.length ≤ maxLen) : RdAt (w.alloc (.cells #[vb, .int .i64 0] T)) w.heap.size vb bs 0 := by
  refine ⟨by rw [World.cell?_alloc_new]; rfl, by rw [World.cell?_alloc_new]; rfl, World.frozen?_alloc_new _ _ _ _, ?_, Nat.zero_le _, hb, hl⟩
  exact ((h.imp (G' := fun k => k < w.heap.size) fun k hk _ => hk).mod (Mod.alloc (fun _ => False) w _) (fun _ _ _ h => h)).imp fun k _ hk => by omega

theorem GetIn.step {w : World} {R : Nat} {vb : Value} {bs : List Nat} {TA : TypeId} {xs : List Ac} {q : Nat} {vs : Value} {cs : List Value} {lo hi : Nat → Nat} {wr w1 w3 w4 : World} (h : GetIn w R vb bs TA xs q vs cs lo hi wr)
    (hm1 : Mod (fun k => k = R) wr w1) {a : Ac} {m : Nat} (ha : actAt bs q = some (a, m)) (hr1 : RdAt w1 R vb bs m) {vp vf vb2 : Value} (hL : LookR (fun b => wr.heap.size ≤ b) w1 a.op.look vp vf vb2) (hs : SoftB wr.heap.size w1 vp)
    (hm3 : Mod (fun k => w1.heap.size ≤ k) w1 w3) {gg cp t : Nat} (ht : t = xs.length + 1) (hown : w4.ownsRow w.heap.size TA 42 (.slice (some ⟨gg, 0, none⟩) t cp) t (cs ++ (actC a vp vf vb2).toList)) (hgrow : w3.grownBy w4 vs.ownBlock) (hat : vs.ownBlock = some gg ∨ gg = w3.heap.size) (hqm : q < m) :
    ∃ lo' hi', GetIn w R vb bs TA (xs ++ [a]) m (.slice (some ⟨gg, 0, none⟩) t cp) (cs ++ (actC a vp vf vb2).toList) lo' hi' w4 := by
  subst ht
  have hRr := h.old.lt
  have hs0 := h.mod.size
  have hs1 := hm1.size
  have hs3 := hm3.size
  have hvlt : ∀ k, vs.ownBlock = some k → w.heap.size ≤ k ∧ k < wr.heap.size := fun k hk => h.own.lt k hk
  have hm34 : Mod (fun k => vs.ownBlock = some k) w3 w4 := Mod.of_grown hgrow
  have hs4 := hm34.size
  have hmR : Mod (fun k => w1.heap.size ≤ k ∨ vs.ownBlock = some k) w1 w4 := (hm3.imp fun _ _ h => .inl h).trans' (hm34.imp fun _ _ h => .inr h)
  have ha0 : ActsIn w4 w.heap.size cs xs lo hi := by
    refine ((h.acts.mod hm1 fun i b hi' hlo hhi e => ?_)).mod hmR fun i b hi' hlo hhi e => ?_
    · have := (h.acts.top i hi').1; omega
    · have h2 := (h.acts.top i hi').2
      rcases e with e | e
      · omega
      · exact h.apart b i e hi' ⟨hlo, hhi⟩
  have hL1 := (hL.below).mod hmR (fun k hk hG e => by
    rcases e with e | e
    · omega
    · have := hvlt k e; omega)
  have hs2 : ∀ b, vp.ownBlock = some b → (wr.heap.size ≤ b ∧ b < w1.heap.size) ∧ ∃ cur T, w4.heap[b]? = some (.cells cur T (0, 0)) := fun b hb => by
    obtain ⟨h1, cur, T, h2⟩ := hs b hb
    have hlt : b < w1.heap.size := (Array.getElem?_eq_some_iff.1 h2).1
    refine ⟨⟨h1, hlt⟩, cur, T, ?_⟩
    rw [hmR.block b hlt (by
      rintro (e | e)
      · omega
      · have := hvlt b e; omega), h2]
  have hac := ha0.snoc (a := a) (vp := vp) (vf := vf) (vb := vb2) (l := wr.heap.size) (t := w1.heap.size) (fun i hi' => (h.acts.top i hi').2) (by omega) (by omega) hL1 hs2
  have hmW : Mod (fun k => k = R) w w3 := (h.mod.trans' hm1).trans hm3 fun i hi e => by omega
  have hr3 : RdAt w3 R vb bs m := hr1.mod hm3 (by omega) (fun k hk _ e => by omega)
  have hown3 : w3.ownsRow w.heap.size TA 42 vs xs.length cs := ownsRow_mod (ownsRow_mod h.own hm1 fun k hk e => by have := hvlt k hk; omega) hm3 fun k hk e => by have := hvlt k hk; omega
  refine ⟨_, _, h.old, h.old.grown hr3 hmW hown3 hgrow (Nat.le_refl _), hmW.grown hown3 hgrow (Nat.le_refl _), h.reads.snoc ha, by simpa using hown, hac, ?_, ?_⟩
  · intro g i hg hi'
    simp only [Value.ownBlock, Option.some.injEq] at hg
    subst hg
    simp only [List.length_append, List.length_cons, List.length_nil] at hi'
    by_cases e : i = xs.length
    · simp only [e, if_true]
      rintro ⟨h1, h2⟩
      rcases hat with hat | hat
      · have := hvlt _ hat; omega
      · omega
    · simp only [e, if_false]
      rcases hat with hat | hat
      · exact h.apart _ i hat (by omega)
      · have := (h.acts.top i (by omega)).2
        omega
  · have := h.cnt
    simp only [List.length_append, List.length_cons, List.length_nil]
    omega

theorem timesAt_le {α : Type} {f : Nat → Option (α × Nat)} (hf : ∀ n x m, f n = some (x, m) → n ≤ m) {n k : Nat} {xs : List α} {m : Nat} (h : timesAt f n k = some (xs, m)) : n ≤ m := by
  induction k generalizing xs m with
  | zero => simp only [timesAt, Option.some.injEq, Prod.mk.injEq] at h; omega
  | succ k ih =>
    rw [timesAt] at h
    split at h
    · rename_i ys q hq
      have h1 := ih hq
      split at h
      · rename_i x r hr
        simp only [Option.some.injEq, Prod.mk.injEq] at h
        have := hf _ _ _ hr
        omega
      · cases h
    · cases h

theorem numAt_le {bs : List Nat} (n : Nat) (x : Int) (m : Nat) (h : numAt bs n = some (x, m)) : n ≤ m := Nat.le_of_lt (numGo_lt h)
theorem withinAt_le {bs : List Nat} {n : Nat} {lo hi x : Int} {m : Nat} (h : withinAt bs n lo hi = some (x, m)) : n ≤ m := by
  unfold withinAt at h
  split at h
  · rename_i y q hq
    split at h
    · simp only [Option.some.injEq, Prod.mk.injEq] at h
      have := numAt_le _ _ _ hq
      omega
    · cases h
  · cases h
theorem flagAt_le {bs : List Nat} {n : Nat} {x : Bool} {m : Nat} (h : flagAt bs n = some (x, m)) : n ≤ m := by
  unfold flagAt at h
  split at h
  · rename_i y q hq
    simp only [Option.some.injEq, Prod.mk.injEq] at h
    have := withinAt_le hq
    omega
  · cases h
theorem idAt_le {bs : List Nat} {n : Nat} {x : Int × Int} {m : Nat} (h : idAt bs n = some (x, m)) : n ≤ m := by
  unfold idAt at h
  split at h
  · rename_i y q hq
    split at h
    · rename_i z r hr
      simp only [Option.some.injEq, Prod.mk.injEq] at h
      have := numAt_le _ _ _ hq
      have := numAt_le _ _ _ hr
      omega
    · cases h
  · cases h
theorem rawAt_le {bs : List Nat} (n : Nat) (x m : Nat) (h : rawAt bs n = some (x, m)) : n ≤ m := by have := (rawAt_place h).1; omega
theorem pixelAt_le {bs : List Nat} (n : Nat) (x : List Nat) (m : Nat) (h : pixelAt bs n = some (x, m)) : n ≤ m := timesAt_le rawAt_le h
theorem boxAt_le {bs : List Nat} {n : Nat} {x : List Int} {m : Nat} (h : boxAt bs n = some (x, m)) : n ≤ m := timesAt_le numAt_le h

end Go.Gou
