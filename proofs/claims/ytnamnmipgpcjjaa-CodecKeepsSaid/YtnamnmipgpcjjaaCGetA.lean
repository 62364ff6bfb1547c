/- Plain words on memory: rows of acts; acts that stand in bytes one behind the other. -/
import Derived.Test.YtnamnmipgpcjjaaCRdN
namespace Go.Gou
open Go.RowKit

/-- From n on these acts stand, and end at m. -/
def Reads (bs : List Nat) : List Ac → Nat → Nat → Prop
  | [], n, m => n = m
  | a :: xs, n, m => ∃ k, actAt bs n = some (a, k) ∧ Reads bs xs k m

theorem Reads.snoc {bs : List Nat} {xs : List Ac} {n m k : Nat} {a : Ac} (h : Reads bs xs n m) (ha : actAt bs m = some (a, k)) : Reads bs (xs ++ [a]) n k := by
  induction xs generalizing n with
  | nil => obtain rfl : n = m := h; exact ⟨k, ha, rfl⟩
  | cons b r ih => obtain ⟨q, h1, h2⟩ := h; exact ⟨q, h1, ih h2⟩

theorem numGo_lt {bs : List Nat} : ∀ {f n m s : Nat} {x : Int} {q : Nat}, numGo bs f n m s = some (x, q) → n < q := by
  intro f
  induction f with
  | zero => intro n m s x q h; cases h
  | succ f ih =>
    intro n m s x q h
    rw [numGo] at h
    split at h
    · split at h
      · split at h
        · have := ih h; omega
        · cases h
      · split at h
        · simp only [Option.some.injEq, Prod.mk.injEq] at h; omega
        · cases h
    · cases h

theorem rawAt_place {bs : List Nat} {n x m : Nat} (hx : rawAt bs n = some (x, m)) : m = n + 1 ∧ n < bs.length := by
  unfold rawAt at hx
  split at hx
  · simp only [Option.some.injEq, Prod.mk.injEq] at hx
    omega
  · cases hx

/-- The acts of a row, in blocks apart. -/
structure ActsIn (w : World) (base : Nat) (cs : List Value) (xs : List Ac) (lo hi : Nat → Nat) : Prop where
  len : cs.length = xs.length * 42
  ord : ∀ i j, i < j → j < xs.length → hi i ≤ lo j
  top : ∀ i, i < xs.length → base ≤ lo i ∧ hi i ≤ w.heap.size
  at_ : ∀ i, (h : i < xs.length) → ∃ vp vf vb, (∀ j, j < 42 → cs[i * 42 + j]? = (actC xs[i] vp vf vb)[j]?) ∧ LookR (fun b => lo i ≤ b ∧ b < hi i) w xs[i].op.look vp vf vb ∧
    ∀ b, vp.ownBlock = some b → (lo i ≤ b ∧ b < hi i) ∧ ∃ cur T, w.heap[b]? = some (.cells cur T (0, 0))

theorem ActsIn.nil (w : World) (base : Nat) : ActsIn w base [] [] (fun _ => 0) (fun _ => 0) := ⟨rfl, fun i j _ h => by simp at h, fun i h => by simp at h, fun i h => by simp at h⟩

theorem ActsIn.mod {w w' : World} {base : Nat} {cs : List Value} {xs : List Ac} {lo hi : Nat → Nat} {S : Nat → Prop} (h : ActsIn w base cs xs lo hi) (hm : Mod S w w') (hS : ∀ i b, i < xs.length → lo i ≤ b → b < hi i → ¬ S b) : ActsIn w' base cs xs lo hi := by
  refine ⟨h.len, h.ord, fun i hi' => ⟨(h.top i hi').1, Nat.le_trans (h.top i hi').2 hm.size⟩, fun i hi' => ?_⟩
  obtain ⟨vp, vf, vb, h1, h2, h3⟩ := h.at_ i hi'
  refine ⟨vp, vf, vb, h1, h2.mod hm (fun k _ hG => hS i k hi' hG.1 hG.2), fun b hb => ?_⟩
  obtain ⟨h4, cur, T, h5⟩ := h3 b hb
  refine ⟨h4, cur, T, ?_⟩
  have hlt : b < w.heap.size := (Array.getElem?_eq_some_iff.1 h5).1
  rw [hm.block b hlt (hS i b hi' h4.1 h4.2), h5]

theorem actC_size (a : Ac) (vp vf vb : Value) : (actC a vp vf vb).size = 42 := by simp [actC]

theorem LookR.below {B : Nat} {w : World} {l : Lk} {vp vf vb : Value} (h : LookR (fun b => B ≤ b) w l vp vf vb) : LookR (fun b => B ≤ b ∧ b < w.heap.size) w l vp vf vb := h.imp fun k hk hG => ⟨hG, hk⟩

theorem ActsIn.snoc {w : World} {base : Nat} {cs : List Value} {xs : List Ac} {lo hi : Nat → Nat} (h : ActsIn w base cs xs lo hi) {a : Ac} {vp vf vb : Value} {l t : Nat} (hl : ∀ i, i < xs.length → hi i ≤ l) (hb : base ≤ l) (ht : t ≤ w.heap.size)
    (hL : LookR (fun b => l ≤ b ∧ b < t) w a.op.look vp vf vb) (hs : ∀ b, vp.ownBlock = some b → (l ≤ b ∧ b < t) ∧ ∃ cur T, w.heap[b]? = some (.cells cur T (0, 0))) :
    ActsIn w base (cs ++ (actC a vp vf vb).toList) (xs ++ [a]) (fun i => if i = xs.length then l else lo i) (fun i => if i = xs.length then t else hi i) := by
  have hn : (actC a vp vf vb).toList.length = 42 := by simp [actC]
  refine ⟨by simp [h.len, actC]; omega, fun i j hij hj => ?_, fun i hi' => ?_, fun i hi' => ?_⟩
  · simp at hj
    have hi0 : i ≠ xs.length := by omega
    by_cases e : j = xs.length
    · simp only [hi0, if_false, e, if_true]; exact hl i (by omega)
    · simp only [hi0, e, if_false]; exact h.ord i j hij (by omega)
  · simp at hi'
    by_cases e : i = xs.length
    · simp only [e, if_true]; exact ⟨hb, ht⟩
    · simp only [e, if_false]; exact h.top i (by omega)
  · simp at hi'
    by_cases e : i = xs.length
    · subst e
      refine ⟨vp, vf, vb, fun j hj => ?_, ?_, ?_⟩
      · rw [List.getElem?_append_right (by rw [h.len]; omega), h.len]
        have : xs.length * 42 + j - xs.length * 42 = j := by omega
        rw [this]
        simp
      · simpa using hL
      · simpa using hs
    · have hlt : i < xs.length := by omega
      obtain ⟨vp', vf', vb', h1, h2, h3⟩ := h.at_ i hlt
      refine ⟨vp', vf', vb', fun j hj => ?_, ?_, ?_⟩
      · rw [List.getElem?_append_left (by rw [h.len]; omega), h1 j hj]
        simp [List.getElem_append_left hlt]
      · simpa [e, List.getElem_append_left hlt] using h2
      · simpa [e] using h3

theorem actAt_lt {bs : List Nat} {n : Nat} {a : Ac} {m : Nat} (h : actAt bs n = some (a, m)) : n < bs.length := by
  unfold actAt at h
  cases hr : rawAt bs n with
  | none => rw [hr] at h; cases h
  | some p => exact (rawAt_place (x := p.1) (m := p.2) hr).2

end Go.Gou
