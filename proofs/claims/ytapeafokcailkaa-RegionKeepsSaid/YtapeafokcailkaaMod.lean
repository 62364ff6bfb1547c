/- Plain words on memory: what a call may have turned, block by block. -/
import Derived.Test.YtapeafokcailkaaMem
import Derived.ChangeAlike
set_option linter.unusedSimpArgs false
set_option linter.unusedVariables false
set_option linter.unusedSectionVars false
set_option linter.constructorNameAsVariable false
namespace Go.Gou
open Go.RowKit

/-- Of the blocks of w only those in S may have turned. -/
structure Mod (S : Nat → Prop) (w w' : World) : Prop where
  os : w'.os = w.os
  tape : w'.tape = w.tape
  output : w'.output = w.output
  size : w.heap.size ≤ w'.heap.size
  block : ∀ k, k < w.heap.size → ¬ S k → w'.heap[k]? = w.heap[k]?

theorem Mod.refl (S : Nat → Prop) (w : World) : Mod S w w := ⟨rfl, rfl, rfl, Nat.le_refl _, fun _ _ _ => rfl⟩

theorem Mod.trans {S S' : Nat → Prop} {a b c : World} (h : Mod S a b) (k : Mod S' b c) (hS : ∀ i, i < a.heap.size → S' i → S i) : Mod S a c :=
  ⟨k.os.trans h.os, k.tape.trans h.tape, k.output.trans h.output, Nat.le_trans h.size k.size,
    fun i hi hs => (k.block i (Nat.lt_of_lt_of_le hi h.size) (fun hs' => hs (hS i hi hs'))).trans (h.block i hi hs)⟩

theorem Mod.trans' {S : Nat → Prop} {a b c : World} (h : Mod S a b) (k : Mod S b c) : Mod S a c := h.trans k fun _ _ h => h

theorem Mod.imp {S S' : Nat → Prop} {a b : World} (h : Mod S a b) (hS : ∀ i, i < a.heap.size → S i → S' i) : Mod S' a b :=
  ⟨h.os, h.tape, h.output, h.size, fun i hi hs => h.block i hi fun hs' => hs (hS i hi hs')⟩

theorem Mod.of_grown {w w' : World} {row : Option Nat} (h : w.grownBy w' row) : Mod (fun k => row = some k) w w' :=
  ⟨h.os, h.tape, h.output, h.size, fun k hk hs => h.block k hk fun e => hs e.symm⟩

theorem Mod.of_below {w w' : World} (h : Below w.heap.size w w') (S : Nat → Prop) : Mod S w w' :=
  ⟨h.os, h.tape, h.output, h.size, fun k hk _ => h.block k hk⟩

theorem Mod.below {S : Nat → Prop} {B : Nat} {w w' : World} (h : Mod S w w') (hB : B ≤ w.heap.size) (hS : ∀ k, k < B → ¬ S k) : Below B w w' :=
  ⟨h.os, h.tape, h.output, h.size, fun k hk => h.block k (Nat.lt_of_lt_of_le hk hB) (hS k hk)⟩

theorem Mod.setCell (w : World) (p : Addr) (u : Value) : Mod (fun k => k = p.block) w (w.setCell p u) :=
  ⟨rfl, rfl, rfl, by simp, fun k _ hs => Below.heap_setCell w p u k hs⟩

theorem Mod.alloc (S : Nat → Prop) (w : World) (o : Obj) : Mod S w (w.alloc o) :=
  ⟨rfl, rfl, rfl, by simp, fun k hk _ => Below.heap_alloc w o k hk⟩

theorem Mod.drew (S : Nat → Prop) (w : World) : Mod S w w.drew := ⟨rfl, rfl, rfl, Nat.le_refl _, fun _ _ _ => rfl⟩
theorem Mod.drewN (S : Nat → Prop) (w : World) (n : Nat) : Mod S w (w.drewN n) := ⟨rfl, rfl, rfl, Nat.le_refl _, fun _ _ _ => rfl⟩

theorem Mod.of_alike {w w' : World} (h : w'.Alike w) (ht : w'.tape = w.tape) (S : Nat → Prop := fun _ => False) : Mod S w w' := by
  obtain ⟨h1, h2, h3⟩ := h
  exact ⟨h2, ht, h3, by rw [h1]; exact Nat.le_refl _, fun k _ _ => by rw [h1]⟩

theorem Mod.cell {S : Nat → Prop} {w w' : World} (h : Mod S w w') {p : Addr} (hp : p.block < w.heap.size) (hs : ¬ S p.block) : w'.cell? p = w.cell? p := World.cell?_of_block (h.block _ hp hs)
theorem Mod.frozen {S : Nat → Prop} {w w' : World} (h : Mod S w w') {p : Addr} (hp : p.block < w.heap.size) (hs : ¬ S p.block) : w'.frozen? p = w.frozen? p := World.frozen?_of_block (h.block _ hp hs)

/-- A row that the call owns stays so where its block has not turned. -/
theorem ownsRow_mod {S : Nat → Prop} {w w' : World} {base : Nat} {e : TypeId} {size : Nat} {v : Value} {n : Nat} {xs : List Value} (h : w.ownsRow base e size v n xs) (hm : Mod S w w')
    (hs : ∀ k, v.ownBlock = some k → ¬ S k) : w'.ownsRow base e size v n xs := by
  have hlt := h.lt
  obtain ⟨h1, h2⟩ := h
  refine ⟨h1, ?_⟩
  rcases h2 with h2 | ⟨g, cap, cur, rfl, hg, hh, r⟩
  · exact .inl h2
  · refine .inr ⟨g, cap, cur, rfl, hg, ?_, r⟩
    rw [hm.block g (hlt g rfl).2 (hs g rfl)]
    exact hh

theorem ownsRow_nodup {w : World} {base : Nat} {e : TypeId} {size : Nat} {v : Value} {n : Nat} {xs : List Value} (h : w.ownsRow base e size v n xs) : ∀ k, v.ownBlock = some k → k < w.heap.size := fun k hk => (h.lt k hk).2

theorem ownsRow_cap {w : World} {base : Nat} {e : TypeId} {size g n cap : Nat} {xs : List Value} (h : w.ownsRow base e size (.slice (some ⟨g, 0, none⟩) n cap) n xs) : n ≤ cap := by
  rcases h.2 with ⟨h', _⟩ | ⟨g', cap', cur, h', _, _, hn, _⟩
  · simp at h'
  · simp only [Value.slice.injEq] at h'
    omega

theorem ownsRow_base {w : World} {base base' : Nat} {e : TypeId} {size : Nat} {v : Value} {n : Nat} {xs : List Value} (h : w.ownsRow base e size v n xs) (hb : base' ≤ base) : w.ownsRow base' e size v n xs := by
  obtain ⟨h1, h2⟩ := h
  refine ⟨h1, h2.imp id ?_⟩
  rintro ⟨g, cap, cur, hv, hg, r⟩
  exact ⟨g, cap, cur, hv, by omega, r⟩

theorem ownsRow_form {w : World} {base : Nat} {e : TypeId} {size : Nat} {v : Value} {n : Nat} {xs : List Value} (h : w.ownsRow base e size v n xs) : ∃ p c, v = .slice p n c := by
  rcases h.2 with ⟨rfl, rfl⟩ | ⟨g, cap, cur, rfl, _⟩
  · exact ⟨_, _, rfl⟩
  · exact ⟨_, _, rfl⟩

/-- A one-cell block. -/
def Cell1 (w : World) (N : Nat) (T : TypeId) (v : Value) : Prop := w.heap[N]? = some (.cells #[v] T (0, 0))

theorem Cell1.new (w : World) (T : TypeId) (v : Value) : Cell1 (w.alloc (.cells #[v] T)) w.heap.size T v :=
  heap_alloc_new w _

theorem Cell1.lt {w : World} {N : Nat} {T : TypeId} {v : Value} (h : Cell1 w N T v) : N < w.heap.size := by
  unfold Cell1 at h
  exact (Array.getElem?_eq_some_iff.1 h).1

theorem Cell1.cell {w : World} {N : Nat} {T : TypeId} {v : Value} (h : Cell1 w N T v) : w.cell? ⟨N, 0, none⟩ = some v := by
  unfold Cell1 at h
  simp [World.cell?, h]

theorem Cell1.frozen {w : World} {N : Nat} {T : TypeId} {v : Value} (h : Cell1 w N T v) : w.frozen? ⟨N, 0, none⟩ = false := by
  unfold Cell1 at h
  simp [World.frozen?, h]

theorem Cell1.mod {S : Nat → Prop} {w w' : World} {N : Nat} {T : TypeId} {v : Value} (h : Cell1 w N T v) (hm : Mod S w w') (hs : ¬ S N) : Cell1 w' N T v := by
  have := h.lt
  unfold Cell1 at h ⊢
  rw [hm.block N this hs]
  exact h

theorem Cell1.set {w : World} {N : Nat} {T : TypeId} {v : Value} (h : Cell1 w N T v) (u : Value) : Cell1 (w.setCell ⟨N, 0, none⟩ u) N T u := by
  unfold Cell1 at h ⊢
  rw [heap_setCell_same w N 0 #[v] T u h]
  rfl

/-- A parameter of two cells in its box (the first block of the call's own), and all that was there as it was. -/
structure BoxAt (w : World) (x y : Value) (wr : World) : Prop where
  c0 : wr.cell? ⟨w.heap.size, 0, none⟩ = some x
  c1 : wr.cell? ⟨w.heap.size, 1, none⟩ = some y
  lt : w.heap.size < wr.heap.size
  bel : Below w.heap.size w wr

theorem BoxAt.start (w : World) (x y : Value) (T : TypeId) : BoxAt w x y (w.alloc (.cells #[x, y] T)) :=
  ⟨by rw [World.cell?_alloc_new]; rfl, by rw [World.cell?_alloc_new]; rfl, by simp, (Below.refl _ _).alloc (Nat.le_refl _) _⟩

theorem BoxAt.step {w : World} {x y : Value} {wr w2 : World} (h : BoxAt w x y wr) (hb : Below wr.heap.size wr w2) : BoxAt w x y w2 :=
  ⟨by rw [hb.cell (p := ⟨w.heap.size, 0, none⟩) h.lt]; exact h.c0, by rw [hb.cell (p := ⟨w.heap.size, 1, none⟩) h.lt]; exact h.c1, Nat.lt_of_lt_of_le h.lt hb.size, h.bel.trans (hb.mono (Nat.le_of_lt h.lt))⟩

theorem BoxAt.mod {w : World} {x y : Value} {wr w2 : World} {S : Nat → Prop} (h : BoxAt w x y wr) (hm : Mod S wr w2) (hs : ∀ k, k ≤ w.heap.size → ¬ S k) : BoxAt w x y w2 :=
  ⟨by rw [hm.cell (p := ⟨w.heap.size, 0, none⟩) h.lt (hs _ (Nat.le_refl _))]; exact h.c0, by rw [hm.cell (p := ⟨w.heap.size, 1, none⟩) h.lt (hs _ (Nat.le_refl _))]; exact h.c1, Nat.lt_of_lt_of_le h.lt hm.size,
    h.bel.trans (hm.below (Nat.le_of_lt h.lt) fun k hk => hs k (Nat.le_of_lt hk))⟩

theorem BoxAt.alloc {w : World} {x y : Value} {wr : World} (h : BoxAt w x y wr) (o : Obj) : BoxAt w x y (wr.alloc o) := h.step ((Below.refl _ _).alloc (Nat.le_refl _) o)

end Go.Gou
