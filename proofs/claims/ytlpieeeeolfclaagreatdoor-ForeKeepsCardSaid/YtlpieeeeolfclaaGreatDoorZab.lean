/- Texts of the scenes' proofs, laid together: Mod, RgA, RgB, RgC, RgD, RgE, RgF, RgG. -/
import Derived.Test.YtlpieeeeolfclaaGreatDoorZaa
import Derived.ChangeAlike
set_option linter.unusedSimpArgs false
set_option linter.unusedVariables false
set_option linter.unusedSectionVars false
set_option linter.constructorNameAsVariable false

/- Plain words on memory: what a call may have turned, block by block. -/
namespace Go.Gou
open Go.RowKit

/-- Of the blocks of w only those in S may have turned. -/
structure Mod (S : Nat → Prop) (w w' : World) : Prop where
  os : w'.os = w.os
  tape : w'.tape = w.tape
  output : w'.output = w.output
  size : w.heap.size ≤ w'.heap.size
  block : ∀ k, k < w.heap.size → ¬ S k → w'.heap[k]? = w.heap[k]?

theorem Mod.refl (S : Nat → Prop) (w : World) : Mod S w w := ⟨rfl, rfl, rfl, Nat.le_refl _, fun _ _ _ => rfl⟩

theorem Mod.trans {S S' : Nat → Prop} {a b c : World} (h : Mod S a b) (k : Mod S' b c) (hS : ∀ i, i < a.heap.size → S' i → S i) : Mod S a c :=
  ⟨k.os.trans h.os, k.tape.trans h.tape, k.output.trans h.output, Nat.le_trans h.size k.size,
    fun i hi hs => (k.block i (Nat.lt_of_lt_of_le hi h.size) (fun hs' => hs (hS i hi hs'))).trans (h.block i hi hs)⟩

theorem Mod.trans' {S : Nat → Prop} {a b c : World} (h : Mod S a b) (k : Mod S b c) : Mod S a c := h.trans k fun _ _ h => h

theorem Mod.imp {S S' : Nat → Prop} {a b : World} (h : Mod S a b) (hS : ∀ i, i < a.heap.size → S i → S' i) : Mod S' a b :=
  ⟨h.os, h.tape, h.output, h.size, fun i hi hs => h.block i hi fun hs' => hs (hS i hi hs')⟩

theorem Mod.of_grown {w w' : World} {row : Option Nat} (h : w.grownBy w' row) : Mod (fun k => row = some k) w w' :=
  ⟨h.os, h.tape, h.output, h.size, fun k hk hs => h.block k hk fun e => hs e.symm⟩

theorem Mod.of_below {w w' : World} (h : Below w.heap.size w w') (S : Nat → Prop) : Mod S w w' :=
  ⟨h.os, h.tape, h.output, h.size, fun k hk _ => h.block k hk⟩

theorem Mod.below {S : Nat → Prop} {B : Nat} {w w' : World} (h : Mod S w w') (hB : B ≤ w.heap.size) (hS : ∀ k, k < B → ¬ S k) : Below B w w' :=
  ⟨h.os, h.tape, h.output, h.size, fun k hk => h.block k (Nat.lt_of_lt_of_le hk hB) (hS k hk)⟩

theorem Mod.setCell (w : World) (p : Addr) (u : Value) : Mod (fun k => k = p.block) w (w.setCell p u) :=
  ⟨rfl, rfl, rfl, by simp, fun k _ hs => Below.heap_setCell w p u k hs⟩

theorem Mod.alloc (S : Nat → Prop) (w : World) (o : Obj) : Mod S w (w.alloc o) :=
  ⟨rfl, rfl, rfl, by simp, fun k hk _ => Below.heap_alloc w o k hk⟩

theorem Mod.drew (S : Nat → Prop) (w : World) : Mod S w w.drew := ⟨rfl, rfl, rfl, Nat.le_refl _, fun _ _ _ => rfl⟩
theorem Mod.drewN (S : Nat → Prop) (w : World) (n : Nat) : Mod S w (w.drewN n) := ⟨rfl, rfl, rfl, Nat.le_refl _, fun _ _ _ => rfl⟩

theorem Mod.of_alike {w w' : World} (h : w'.Alike w) (ht : w'.tape = w.tape) (S : Nat → Prop := fun _ => False) : Mod S w w' := by
  obtain ⟨h1, h2, h3⟩ := h
  exact ⟨h2, ht, h3, by rw [h1]; exact Nat.le_refl _, fun k _ _ => by rw [h1]⟩

theorem Mod.cell {S : Nat → Prop} {w w' : World} (h : Mod S w w') {p : Addr} (hp : p.block < w.heap.size) (hs : ¬ S p.block) : w'.cell? p = w.cell? p := World.cell?_of_block (h.block _ hp hs)
theorem Mod.frozen {S : Nat → Prop} {w w' : World} (h : Mod S w w') {p : Addr} (hp : p.block < w.heap.size) (hs : ¬ S p.block) : w'.frozen? p = w.frozen? p := World.frozen?_of_block (h.block _ hp hs)

/-- A row that the call owns stays so where its block has not turned. -/
theorem ownsRow_mod {S : Nat → Prop} {w w' : World} {base : Nat} {e : TypeId} {size : Nat} {v : Value} {n : Nat} {xs : List Value} (h : w.ownsRow base e size v n xs) (hm : Mod S w w')
    (hs : ∀ k, v.ownBlock = some k → ¬ S k) : w'.ownsRow base e size v n xs := by
  have hlt := h.lt
  obtain ⟨h1, h2⟩ := h
  refine ⟨h1, ?_⟩
  rcases h2 with h2 | ⟨g, cap, cur, rfl, hg, hh, r⟩
  · exact .inl h2
  · refine .inr ⟨g, cap, cur, rfl, hg, ?_, r⟩
    rw [hm.block g (hlt g rfl).2 (hs g rfl)]
    exact hh

theorem ownsRow_nodup {w : World} {base : Nat} {e : TypeId} {size : Nat} {v : Value} {n : Nat} {xs : List Value} (h : w.ownsRow base e size v n xs) : ∀ k, v.ownBlock = some k → k < w.heap.size := fun k hk => (h.lt k hk).2

theorem ownsRow_cap {w : World} {base : Nat} {e : TypeId} {size g n cap : Nat} {xs : List Value} (h : w.ownsRow base e size (.slice (some ⟨g, 0, none⟩) n cap) n xs) : n ≤ cap := by
  rcases h.2 with ⟨h', _⟩ | ⟨g', cap', cur, h', _, _, hn, _⟩
  · simp at h'
  · simp only [Value.slice.injEq] at h'
    omega

theorem ownsRow_base {w : World} {base base' : Nat} {e : TypeId} {size : Nat} {v : Value} {n : Nat} {xs : List Value} (h : w.ownsRow base e size v n xs) (hb : base' ≤ base) : w.ownsRow base' e size v n xs := by
  obtain ⟨h1, h2⟩ := h
  refine ⟨h1, h2.imp id ?_⟩
  rintro ⟨g, cap, cur, hv, hg, r⟩
  exact ⟨g, cap, cur, hv, by omega, r⟩

theorem ownsRow_form {w : World} {base : Nat} {e : TypeId} {size : Nat} {v : Value} {n : Nat} {xs : List Value} (h : w.ownsRow base e size v n xs) : ∃ p c, v = .slice p n c := by
  rcases h.2 with ⟨rfl, rfl⟩ | ⟨g, cap, cur, rfl, _⟩
  · exact ⟨_, _, rfl⟩
  · exact ⟨_, _, rfl⟩

/-- A one-cell block. -/
def Cell1 (w : World) (N : Nat) (T : TypeId) (v : Value) : Prop := w.heap[N]? = some (.cells #[v] T (0, 0))

theorem Cell1.new (w : World) (T : TypeId) (v : Value) : Cell1 (w.alloc (.cells #[v] T)) w.heap.size T v :=
  heap_alloc_new w _

theorem Cell1.lt {w : World} {N : Nat} {T : TypeId} {v : Value} (h : Cell1 w N T v) : N < w.heap.size := by
  unfold Cell1 at h
  exact (Array.getElem?_eq_some_iff.1 h).1

theorem Cell1.cell {w : World} {N : Nat} {T : TypeId} {v : Value} (h : Cell1 w N T v) : w.cell? ⟨N, 0, none⟩ = some v := by
  unfold Cell1 at h
  simp [World.cell?, h]

theorem Cell1.frozen {w : World} {N : Nat} {T : TypeId} {v : Value} (h : Cell1 w N T v) : w.frozen? ⟨N, 0, none⟩ = false := by
  unfold Cell1 at h
  simp [World.frozen?, h]

theorem Cell1.mod {S : Nat → Prop} {w w' : World} {N : Nat} {T : TypeId} {v : Value} (h : Cell1 w N T v) (hm : Mod S w w') (hs : ¬ S N) : Cell1 w' N T v := by
  have := h.lt
  unfold Cell1 at h ⊢
  rw [hm.block N this hs]
  exact h

theorem Cell1.set {w : World} {N : Nat} {T : TypeId} {v : Value} (h : Cell1 w N T v) (u : Value) : Cell1 (w.setCell ⟨N, 0, none⟩ u) N T u := by
  unfold Cell1 at h ⊢
  rw [heap_setCell_same w N 0 #[v] T u h]
  rfl

/-- A parameter of two cells in its box (the first block of the call's own), and all that was there as it was. -/
structure BoxAt (w : World) (x y : Value) (wr : World) : Prop where
  c0 : wr.cell? ⟨w.heap.size, 0, none⟩ = some x
  c1 : wr.cell? ⟨w.heap.size, 1, none⟩ = some y
  lt : w.heap.size < wr.heap.size
  bel : Below w.heap.size w wr

theorem BoxAt.start (w : World) (x y : Value) (T : TypeId) : BoxAt w x y (w.alloc (.cells #[x, y] T)) :=
  ⟨by rw [World.cell?_alloc_new]; rfl, by rw [World.cell?_alloc_new]; rfl, by simp, (Below.refl _ _).alloc (Nat.le_refl _) _⟩

theorem BoxAt.step {w : World} {x y : Value} {wr w2 : World} (h : BoxAt w x y wr) (hb : Below wr.heap.size wr w2) : BoxAt w x y w2 :=
  ⟨by rw [hb.cell (p := ⟨w.heap.size, 0, none⟩) h.lt]; exact h.c0, by rw [hb.cell (p := ⟨w.heap.size, 1, none⟩) h.lt]; exact h.c1, Nat.lt_of_lt_of_le h.lt hb.size, h.bel.trans (hb.mono (Nat.le_of_lt h.lt))⟩

theorem BoxAt.mod {w : World} {x y : Value} {wr w2 : World} {S : Nat → Prop} (h : BoxAt w x y wr) (hm : Mod S wr w2) (hs : ∀ k, k ≤ w.heap.size → ¬ S k) : BoxAt w x y w2 :=
  ⟨by rw [hm.cell (p := ⟨w.heap.size, 0, none⟩) h.lt (hs _ (Nat.le_refl _))]; exact h.c0, by rw [hm.cell (p := ⟨w.heap.size, 1, none⟩) h.lt (hs _ (Nat.le_refl _))]; exact h.c1, Nat.lt_of_lt_of_le h.lt hm.size,
    h.bel.trans (hm.below (Nat.le_of_lt h.lt) fun k hk => hs k (Nat.le_of_lt hk))⟩

theorem BoxAt.alloc {w : World} {x y : Value} {wr : World} (h : BoxAt w x y wr) (o : Obj) : BoxAt w x y (wr.alloc o) := h.step ((Below.refl _ _).alloc (Nat.le_refl _) o)

end Go.Gou

/- Regions: a row's spans, in plain numbers. -/
namespace Go.Reg

/-- A row's points from one x to another one. -/
structure Sp where
  a : Int
  b : Int
  deriving DecidableEq

/-- A rectangle. -/
structure Rt where
  x0 : Int
  y0 : Int
  x1 : Int
  y1 : Int
  deriving DecidableEq

/-- Has a row's list of spans a point? -/
def In (l : List Sp) (x : Int) : Prop := ∃ s ∈ l, s.a ≤ x ∧ x < s.b

/-- Spans that rise, with a gap between each two. -/
def Canon : List Sp → Prop
  | [] => True
  | [s] => s.a < s.b
  | s :: t :: r => s.a < s.b ∧ s.b < t.a ∧ Canon (t :: r)

theorem In.nil (x : Int) : ¬ In [] x := fun ⟨_, h, _⟩ => by cases h
theorem In.cons (s : Sp) (l : List Sp) (x : Int) : In (s :: l) x ↔ (s.a ≤ x ∧ x < s.b) ∨ In l x := by
  constructor
  · rintro ⟨t, ht, h⟩
    rcases List.mem_cons.1 ht with rfl | ht
    · exact .inl h
    · exact .inr ⟨t, ht, h⟩
  · rintro (h | ⟨t, ht, h⟩)
    · exact ⟨s, List.mem_cons_self .., h⟩
    · exact ⟨t, List.mem_cons_of_mem _ ht, h⟩
theorem In.app (l m : List Sp) (x : Int) : In (l ++ m) x ↔ In l x ∨ In m x := by
  induction l with
  | nil => simp [In.nil]
  | cons s l ih => rw [List.cons_append, In.cons, In.cons, ih, or_assoc]

theorem Canon.head {s : Sp} {l : List Sp} (h : Canon (s :: l)) : s.a < s.b := by
  cases l with
  | nil => exact h
  | cons t r => exact h.1
theorem Canon.tail {s : Sp} {l : List Sp} (h : Canon (s :: l)) : Canon l := by
  cases l with
  | nil => trivial
  | cons t r => exact h.2.2
/-- What stands behind the first span lies beyond a gap. -/
theorem Canon.beyond {s : Sp} {l : List Sp} (h : Canon (s :: l)) : ∀ t ∈ l, s.b < t.a ∧ t.a < t.b := by
  induction l generalizing s with
  | nil => intro t ht; cases ht
  | cons t r ih =>
    intro u hu
    rcases List.mem_cons.1 hu with rfl | hu
    · exact ⟨h.2.1, h.2.2.head⟩
    · have := ih h.2.2 u hu
      have := h.2.2.head
      have := h.2.1
      omega
theorem Canon.in_beyond {s : Sp} {l : List Sp} (h : Canon (s :: l)) {x : Int} (hx : In l x) : s.b < x := by
  obtain ⟨t, ht, h1, _⟩ := hx
  have := (h.beyond t ht).1
  omega
theorem Canon.low {s : Sp} {l : List Sp} (h : Canon (s :: l)) {x : Int} (hx : In (s :: l) x) : s.a ≤ x := by
  rcases (In.cons _ _ _).1 hx with h1 | h1
  · exact h1.1
  · have := h.in_beyond h1
    have := h.head
    omega
theorem Canon.first {s : Sp} {l : List Sp} (h : Canon (s :: l)) : In (s :: l) s.a := (In.cons _ _ _).2 (.inl ⟨Int.le_refl _, h.head⟩)

/-- The same points are the same spans. -/
theorem Canon.uniq : ∀ {l m : List Sp}, Canon l → Canon m → (∀ x, In l x ↔ In m x) → l = m
  | [], [], _, _, _ => rfl
  | [], t :: m, _, hm, h => ((In.nil _) ((h _).2 hm.first)).elim
  | s :: l, [], hl, _, h => ((In.nil _) ((h _).1 hl.first)).elim
  | s :: l, t :: m, hl, hm, h => by
    have h1 : s.a = t.a := by
      have a1 := hm.low ((h _).1 hl.first)
      have a2 := hl.low ((h _).2 hm.first)
      omega
    have hs := hl.head
    have ht := hm.head
    have no : ∀ {s : Sp} {l : List Sp}, Canon (s :: l) → ¬ In (s :: l) s.b := fun {s l} hc hx => by
      rcases (In.cons _ _ _).1 hx with h1 | h1
      · omega
      · have := hc.in_beyond h1
        omega
    have h2 : s.b = t.b := by
      rcases Int.lt_trichotomy s.b t.b with hlt | he | hlt
      · exact (no hl ((h _).2 ((In.cons _ _ _).2 (.inl ⟨by omega, hlt⟩)))).elim
      · exact he
      · exact (no hm ((h _).1 ((In.cons _ _ _).2 (.inl ⟨by omega, hlt⟩)))).elim
    have he : s = t := by
      cases s; cases t
      simp only at h1 h2
      rw [h1, h2]
    subst he
    congr 1
    refine Canon.uniq hl.tail hm.tail fun x => ⟨fun hx => ?_, fun hx => ?_⟩
    · have := hl.in_beyond hx
      rcases (In.cons _ _ _).1 ((h x).1 ((In.cons _ _ _).2 (.inr hx))) with h3 | h3
      · omega
      · exact h3
    · have := hm.in_beyond hx
      rcases (In.cons _ _ _).1 ((h x).2 ((In.cons _ _ _).2 (.inr hx))) with h3 | h3
      · omega
      · exact h3

/-- One span more behind the others. -/
theorem Canon.snoc : ∀ {l : List Sp} {s : Sp}, Canon l → s.a < s.b → (∀ t ∈ l, t.b < s.a) → Canon (l ++ [s])
  | [], s, _, h, _ => h
  | [t], s, h1, h2, h3 => ⟨h1, h3 t (List.mem_cons_self ..), h2⟩
  | t :: u :: r, s, h1, h2, h3 => ⟨h1.1, h1.2.1, Canon.snoc (l := u :: r) h1.2.2 h2 fun v hv => h3 v (List.mem_cons_of_mem _ hv)⟩
theorem Canon.init : ∀ {l : List Sp} {s : Sp}, Canon (l ++ [s]) → Canon l ∧ s.a < s.b ∧ ∀ t ∈ l, t.b < s.a
  | [], s, h => ⟨trivial, h, fun t ht => by cases ht⟩
  | [t], s, h => ⟨h.1, h.2.2, fun u hu => by
      rcases List.mem_cons.1 hu with rfl | hu
      · exact h.2.1
      · cases hu⟩
  | t :: u :: r, s, h => by
    have ih := Canon.init (l := u :: r) h.2.2
    refine ⟨⟨h.1, h.2.1, ih.1⟩, ih.2.1, fun v hv => ?_⟩
    rcases List.mem_cons.1 hv with rfl | hv
    · have h1 := ih.2.2 u (List.mem_cons_self ..)
      have h2 := h.2.1
      have h3 := ih.1.head
      omega
    · exact ih.2.2 v hv

/-! Spans that touch, or cross, are one. -/

def joinStep (out : List Sp) (s : Sp) : List Sp :=
  match out.getLast? with
  | some t => if s.a ≤ t.b then out.dropLast ++ [⟨t.a, max t.b s.b⟩] else out ++ [s]
  | none => [s]
def joinP (l : List Sp) : List Sp := l.foldl joinStep []

/-- Rising by their beginnings. -/
def Rise (l : List Sp) : Prop := l.Pairwise fun s t => s.a ≤ t.a

theorem joinStep_snoc (l : List Sp) (t s : Sp) : joinStep (l ++ [t]) s = if s.a ≤ t.b then l ++ [⟨t.a, max t.b s.b⟩] else l ++ [t] ++ [s] := by
  simp [joinStep]
theorem last_cases (l : List Sp) : l = [] ∨ ∃ m t, l = m ++ [t] := by
  rcases List.eq_nil_or_concat l with h | ⟨m, t, h⟩
  · exact .inl h
  · exact .inr ⟨m, t, by rw [h, List.concat_eq_append]⟩

theorem joinStep_canon {out : List Sp} {s : Sp} (h : Canon out) (hs : s.a < s.b) (hr : ∀ t ∈ out, t.a ≤ s.a) : Canon (joinStep out s) ∧ (∀ x, In (joinStep out s) x ↔ In out x ∨ (s.a ≤ x ∧ x < s.b)) ∧ ∀ t ∈ joinStep out s, t.a ≤ s.a := by
  rcases last_cases out with rfl | ⟨m, t, rfl⟩
  · refine ⟨hs, fun x => ?_, fun t ht => ?_⟩
    · simp [joinStep, In]
    · simp [joinStep] at ht
      subst ht
      exact Int.le_refl _
  · obtain ⟨h1, h2, h3⟩ := h.init
    have h4 := hr t (by simp)
    rw [joinStep_snoc]
    split
    · rename_i hle
      refine ⟨h1.snoc (by simp only; omega) fun u hu => h3 u hu, fun x => ?_, fun u hu => ?_⟩
      · rw [In.app, In.app, In.cons, In.cons]
        simp only [In.nil, or_false]
        have : ∀ p : Prop, ((p ∨ t.a ≤ x ∧ x < max t.b s.b) ↔ (p ∨ t.a ≤ x ∧ x < t.b) ∨ s.a ≤ x ∧ x < s.b) := fun p => by
          constructor
          · rintro (h | h)
            · exact .inl (.inl h)
            · by_cases hx : x < t.b
              · exact .inl (.inr ⟨h.1, hx⟩)
              · exact .inr (by omega)
          · rintro ((h | h) | h)
            · exact .inl h
            · exact .inr (by omega)
            · exact .inr (by omega)
        exact this _
      · rcases List.mem_append.1 hu with hu | hu
        · exact hr u (by simp [hu])
        · simp only [List.mem_singleton] at hu
          subst hu
          exact h4
    · rename_i hle
      refine ⟨h.snoc hs fun u hu => ?_, fun x => ?_, fun u hu => ?_⟩
      · rcases List.mem_append.1 hu with hu | hu
        · have := h3 u hu
          omega
        · simp only [List.mem_singleton] at hu
          subst hu
          omega
      · rw [In.app, In.cons]
        simp only [In.nil, or_false]
      · rcases List.mem_append.1 hu with hu | hu
        · exact hr u hu
        · simp only [List.mem_singleton] at hu
          subst hu
          exact Int.le_refl _

theorem joinP_run : ∀ (l : List Sp) (out : List Sp), Canon out → (∀ s ∈ l, s.a < s.b) → Rise l → (∀ t ∈ out, ∀ s ∈ l, t.a ≤ s.a) → Canon (l.foldl joinStep out) ∧ ∀ x, In (l.foldl joinStep out) x ↔ In out x ∨ In l x
  | [], out, h, _, _, _ => ⟨h, fun x => by simp [In.nil]⟩
  | s :: l, out, h, hs, hr, ho => by
    obtain ⟨h1, h2, h3⟩ := joinStep_canon h (hs s (List.mem_cons_self ..)) fun t ht => ho t ht s (List.mem_cons_self ..)
    rw [Rise, List.pairwise_cons] at hr
    obtain ⟨k1, k2⟩ := joinP_run l (joinStep out s) h1 (fun u hu => hs u (List.mem_cons_of_mem _ hu)) hr.2 fun t ht u hu => by
      have := h3 t ht
      have := hr.1 u hu
      omega
    refine ⟨k1, fun x => ?_⟩
    show In (l.foldl joinStep (joinStep out s)) x ↔ _
    rw [k2, h2, In.cons, or_assoc]
theorem joinP_canon {l : List Sp} (hs : ∀ s ∈ l, s.a < s.b) (hr : Rise l) : Canon (joinP l) ∧ ∀ x, In (joinP l) x ↔ In l x := by
  have := joinP_run l [] trivial hs hr (fun t ht => by cases ht)
  exact ⟨this.1, fun x => by rw [joinP, this.2]; simp [In.nil]⟩

end Go.Reg

/- Regions: two rows' edges merged, in plain numbers. -/
namespace Go.Reg

/-- A row's edges, one behind the other. -/
def edgesOf : List Sp → List Int
  | [] => []
  | s :: r => s.a :: s.b :: edgesOf r

theorem edgesOf_len (l : List Sp) : (edgesOf l).length = 2 * l.length := by
  induction l with
  | nil => rfl
  | cons s r ih => simp only [edgesOf, List.length_cons, ih]; omega

theorem edgesOf_get : ∀ (l : List Sp) (k : Nat) (h : k < l.length), (edgesOf l)[2 * k]? = some l[k].a ∧ (edgesOf l)[2 * k + 1]? = some l[k].b
  | [], k, h => by simp at h
  | s :: r, 0, _ => ⟨rfl, rfl⟩
  | s :: r, k + 1, h => by
    have := edgesOf_get r k (by simpa using h)
    rw [show 2 * (k + 1) = 2 * k + 1 + 1 from by omega]
    simpa [edgesOf] using this

/-- How many edges are no greater than a point: the first i. -/
structure Upto (e : List Int) (i : Nat) (y : Int) : Prop where
  le : i ≤ e.length
  lo : ∀ j u, j < i → e[j]? = some u → u ≤ y
  hi : ∀ j u, i ≤ j → e[j]? = some u → y < u

theorem Upto.nil (y : Int) : Upto [] 0 y := ⟨Nat.le_refl _, fun j u h => by omega, fun j u _ h => by simp at h⟩

/-- A point is in a row if so many edges are no greater than it as is odd. -/
theorem parity : ∀ {l : List Sp} {i : Nat} {y : Int}, Canon l → Upto (edgesOf l) i y → (In l y ↔ i % 2 = 1)
  | [], i, y, _, h => by
    have := h.le
    simp [edgesOf] at this
    subst this
    simp [In.nil]
  | s :: r, 0, y, hc, h => by
    have := h.hi 0 s.a (Nat.le_refl _) rfl
    constructor
    · intro hx
      have := hc.low hx
      omega
    · intro h; simp at h
  | s :: r, 1, y, hc, h => by
    have h1 := h.lo 0 s.a (by omega) rfl
    have h2 := h.hi 1 s.b (Nat.le_refl _) rfl
    simp only [Nat.reduceMod, iff_true]
    exact (In.cons _ _ _).2 (.inl ⟨h1, h2⟩)
  | s :: r, i + 2, y, hc, h => by
    have h1 := h.lo 1 s.b (by omega) rfl
    have ih := parity (i := i) (y := y) hc.tail ⟨by have := h.le; simp only [edgesOf, List.length_cons] at this; omega,
      fun j u hj hu => h.lo (j + 2) u (by omega) (by simpa [edgesOf] using hu), fun j u hj hu => h.hi (j + 2) u (by omega) (by simpa [edgesOf] using hu)⟩
    rw [In.cons, ih]
    omega

/-- Edges rise. -/
theorem edges_rise : ∀ {l : List Sp}, Canon l → ∀ {i j : Nat} {u v : Int}, i < j → (edgesOf l)[i]? = some u → (edgesOf l)[j]? = some v → u < v := by
  intro l hc i j u v hij hu hv
  induction l generalizing i j with
  | nil => simp [edgesOf] at hu
  | cons s r ih =>
    have hs := hc.head
    have low : ∀ (j : Nat) (v : Int), (edgesOf r)[j]? = some v → s.b < v := by
      intro j v hv
      have hj : j < (edgesOf r).length := (List.getElem?_eq_some_iff.1 hv).1
      rw [edgesOf_len] at hj
      have h0 := edgesOf_get r (j / 2) (by omega)
      have hb := hc.beyond r[j / 2] (List.getElem_mem _)
      rcases (by omega : j = 2 * (j / 2) ∨ j = 2 * (j / 2) + 1) with h | h
      · rw [h, h0.1] at hv
        simp only [Option.some.injEq] at hv
        omega
      · rw [h, h0.2] at hv
        simp only [Option.some.injEq] at hv
        omega
    match i, j, hij with
    | 0, 1, _ =>
      simp [edgesOf] at hu hv
      omega
    | 0, j + 2, _ =>
      simp [edgesOf] at hu hv
      have := low j v hv
      omega
    | 1, j + 2, _ =>
      simp [edgesOf] at hu hv
      have := low j v hv
      omega
    | i + 2, j + 2, hij =>
      simp only [edgesOf, List.getElem?_cons_succ] at hu hv
      exact ih hc.tail (by omega) hu hv

/-- What is wanted at a point. -/
def Want (f : Bool → Bool → Bool) (p q : Prop) [Decidable p] [Decidable q] : Prop := f (decide p) (decide q) = true

instance (l : List Sp) (x : Int) : Decidable (In l x) := by unfold In; infer_instance

/-- The way through two rows' edges: upto the edge c all is told. -/
structure MInv (a b : List Sp) (f : Bool → Bool → Bool) (i k : Nat) (op : Int) (is : Bool) (out : List Sp) (c : Int) : Prop where
  ui : Upto (edgesOf a) i c
  uk : Upto (edgesOf b) k c
  canon : Canon out
  isc : is = f (decide (i % 2 = 1)) (decide (k % 2 = 1))
  on : is = true → op ≤ c ∧ ∀ t ∈ out, t.b < op
  off : is = false → ∀ t ∈ out, t.b ≤ c
  all : ∀ y, y ≤ c → (Want f (In a y) (In b y) ↔ In out y ∨ (is = true ∧ op ≤ y))

theorem want_at {a b : List Sp} {f : Bool → Bool → Bool} {i k : Nat} {y : Int} (ha : Canon a) (hb : Canon b) (h1 : Upto (edgesOf a) i y) (h2 : Upto (edgesOf b) k y) : Want f (In a y) (In b y) ↔ f (decide (i % 2 = 1)) (decide (k % 2 = 1)) = true := by
  unfold Want
  rw [decide_eq_decide.2 (parity ha h1), decide_eq_decide.2 (parity hb h2)]

theorem exists_below (l : List Int) : ∃ c, ∀ u ∈ l, c < u := by
  induction l with
  | nil => exact ⟨0, fun u h => by cases h⟩
  | cons x r ih =>
    obtain ⟨c, hc⟩ := ih
    refine ⟨min c (x - 1), fun u hu => ?_⟩
    rcases List.mem_cons.1 hu with rfl | hu
    · omega
    · have := hc u hu
      omega

theorem MInv.start (a b : List Sp) {f : Bool → Bool → Bool} (ha : Canon a) (hb : Canon b) (hf : f false false = false) : ∃ c, MInv a b f 0 0 0 false [] c := by
  obtain ⟨c, hc⟩ := exists_below (edgesOf a ++ edgesOf b)
  have u1 : ∀ y, y ≤ c → Upto (edgesOf a) 0 y := fun y hy => ⟨by omega, fun j u h => by omega, fun j u _ h => by
    have := hc u (List.mem_append_left _ (List.mem_of_getElem? h))
    omega⟩
  have u2 : ∀ y, y ≤ c → Upto (edgesOf b) 0 y := fun y hy => ⟨by omega, fun j u h => by omega, fun j u _ h => by
    have := hc u (List.mem_append_right _ (List.mem_of_getElem? h))
    omega⟩
  refine ⟨c, u1 c (by omega), u2 c (by omega), trivial, by simp [hf], fun h => (by cases h), fun _ t ht => (by cases ht), fun y hy => ?_⟩
  rw [want_at ha hb (u1 y hy) (u2 y hy)]
  simp [hf, In.nil]

/-- The next edge. -/
structure Next (e : List Int) (i i' : Nat) (x : Int) : Prop where
  ge : ∀ u, e[i]? = some u → x ≤ u
  up : Upto e i' x

theorem Next.before {l : List Sp} (hc : Canon l) {i i' : Nat} {x c y : Int} (h : Next (edgesOf l) i i' x) (hu : Upto (edgesOf l) i c) (h1 : c ≤ y) (h2 : y < x) : Upto (edgesOf l) i y :=
  ⟨hu.le, fun j u hj he => Int.le_trans (hu.lo j u hj he) h1, fun j u hj he => by
    rcases Nat.lt_or_ge i j with hij | hij
    · have hi : i < (edgesOf l).length := by
        have := (List.getElem?_eq_some_iff.1 he).1
        omega
      have h3 := h.ge _ (List.getElem?_eq_getElem hi)
      have h4 := edges_rise hc hij (List.getElem?_eq_getElem hi) he
      omega
    · obtain rfl : i = j := by omega
      have := h.ge u he
      omega⟩

theorem MInv.step {a b : List Sp} {f : Bool → Bool → Bool} {i k i' k' : Nat} {op : Int} {is : Bool} {out : List Sp} {c x : Int} (ha : Canon a) (hb : Canon b) (h : MInv a b f i k op is out c) (hx : c < x)
    (n1 : Next (edgesOf a) i i' x) (n2 : Next (edgesOf b) k k' x) (now : Bool) (hnow : now = f (decide (i' % 2 = 1)) (decide (k' % 2 = 1))) :
    MInv a b f i' k' (if now = is then op else x) now (if now = is then out else if is then out ++ [⟨op, x⟩] else out) x := by
  have hS : ∀ y, y ≤ x → (Want f (In a y) (In b y) ↔ if y ≤ c then In out y ∨ (is = true ∧ op ≤ y) else if y < x then is = true else now = true) := by
    intro y hy
    split
    · rename_i hyc
      exact h.all y hyc
    · split
      · rename_i hyc hyx
        rw [want_at ha hb (n1.before ha h.ui (by omega) hyx) (n2.before hb h.uk (by omega) hyx), h.isc]
      · rename_i hyc hyx
        obtain rfl : y = x := by omega
        rw [want_at ha hb n1.up n2.up, hnow]
  have hout : ∀ y, c < y → ¬ In out y := by
    rintro y hy ⟨t, ht, h1, h2⟩
    cases his : is with
    | true =>
      have := (h.on his).2 t ht
      have := (h.on his).1
      omega
    | false =>
      have := h.off his t ht
      omega
  cases his : is with
  | true =>
    have h1 := (h.on his).1
    have h2 := (h.on his).2
    cases hn : now with
    | true =>
      rw [hn] at hnow
      simp only [if_true]
      refine ⟨n1.up, n2.up, h.canon, hnow, fun _ => ⟨by omega, h2⟩, fun h => (by cases h), fun y hy => ?_⟩
      rw [hS y hy, his, hn]
      have := hout y
      split
      · exact Iff.rfl
      · simp
        right
        omega
    | false =>
      rw [hn] at hnow
      simp only [Bool.false_eq_true, if_false, if_true]
      refine ⟨n1.up, n2.up, h.canon.snoc (by simp only; omega) h2, hnow, fun h => (by cases h), fun _ t ht => ?_, fun y hy => ?_⟩
      · rcases List.mem_append.1 ht with ht | ht
        · have := h2 t ht
          omega
        · simp only [List.mem_singleton] at ht
          subst ht
          exact Int.le_refl _
      · rw [hS y hy, his, hn, In.app, In.cons]
        simp only [In.nil, or_false, Bool.false_eq_true, false_and, true_and]
        have := hout y
        split
        · rename_i hc
          constructor
          · rintro (h | h)
            · exact .inl h
            · exact .inr (by omega)
          · rintro (h | h)
            · exact .inl h
            · exact .inr h.1
        · split
          · rename_i h3 h4
            simp only [true_iff]
            exact .inr (by omega)
          · rename_i h3 h4
            simp only [false_iff]
            rintro (h | h)
            · exact this (by omega) h
            · omega
  | false =>
    have h2 := h.off his
    cases hn : now with
    | true =>
      rw [hn] at hnow
      simp only [Bool.true_eq_false, if_false, Bool.false_eq_true]
      refine ⟨n1.up, n2.up, h.canon, hnow, fun _ => ⟨by omega, fun t ht => by have := h2 t ht; omega⟩, fun h => (by cases h), fun y hy => ?_⟩
      rw [hS y hy, his, hn]
      have := hout y
      split
      · simp only [Bool.false_eq_true, false_and, or_false, true_and]
        constructor
        · exact fun h => .inl h
        · rintro (h | h)
          · exact h
          · omega
      · split
        · simp only [Bool.false_eq_true, true_and, false_iff]
          rintro (h | h)
          · exact this (by omega) h
          · omega
        · simp only [true_and, true_iff]
          exact .inr (by omega)
    | false =>
      rw [hn] at hnow
      simp only [if_true]
      refine ⟨n1.up, n2.up, h.canon, hnow, fun h => (by cases h), fun _ t ht => (by have := h2 t ht; omega), fun y hy => ?_⟩
      rw [hS y hy, his, hn]
      have := hout y
      split
      · exact Iff.rfl
      · simp only [Bool.false_eq_true, false_and, or_false]
        split <;> simp only [false_iff] <;> exact this (by omega)

theorem MInv.done {a b : List Sp} {f : Bool → Bool → Bool} {op : Int} {is : Bool} {out : List Sp} {c : Int} (ha : Canon a) (hb : Canon b) (hf : f false false = false) (h : MInv a b f (2 * a.length) (2 * b.length) op is out c) :
    Canon out ∧ ∀ y, In out y ↔ Want f (In a y) (In b y) := by
  have his : is = false := by
    rw [h.isc]
    simp [hf]
  refine ⟨h.canon, fun y => ?_⟩
  by_cases hy : y ≤ c
  · rw [h.all y hy, his]
    simp
  · have hu1 : Upto (edgesOf a) (2 * a.length) y := ⟨by rw [edgesOf_len]; omega, fun j u hj he => by have := h.ui.lo j u hj he; omega, fun j u hj he => by
      have := (List.getElem?_eq_some_iff.1 he).1
      rw [edgesOf_len] at this
      omega⟩
    have hu2 : Upto (edgesOf b) (2 * b.length) y := ⟨by rw [edgesOf_len]; omega, fun j u hj he => by have := h.uk.lo j u hj he; omega, fun j u hj he => by
      have := (List.getElem?_eq_some_iff.1 he).1
      rw [edgesOf_len] at this
      omega⟩
    rw [want_at ha hb hu1 hu2]
    simp only [Nat.mul_mod_right, Nat.zero_ne_one, decide_false, hf, Bool.false_eq_true, iff_false]
    rintro ⟨t, ht, h1, h2⟩
    have := h.off his t ht
    omega

end Go.Reg

/- Regions: a grid's rows; rectangles in bands, in plain numbers. -/
namespace Go.Reg

/-! A row out of a grid's cells. -/

def gridStep (p : Int → Prop) [DecidablePred p] (row : List Sp) (x0 x1 : Int) : List Sp :=
  if p x0 then (match row.getLast? with
    | some t => if t.b = x0 then row.dropLast ++ [⟨t.a, x1⟩] else row ++ [⟨x0, x1⟩]
    | none => [⟨x0, x1⟩]) else row

/-- On the way through a grid's row. -/
structure GInv (p : Int → Prop) (row : List Sp) (x : Int) : Prop where
  canon : Canon row
  lo : ∀ t ∈ row, t.b ≤ x
  all : ∀ y, y < x → (p y ↔ In row y)

theorem GInv.start (p : Int → Prop) (x : Int) (h : ∀ y, y < x → ¬ p y) : GInv p [] x := ⟨trivial, fun t ht => (by cases ht), fun y hy => (by simp [In.nil, h y hy])⟩
theorem GInv.step {p : Int → Prop} [DecidablePred p] {row : List Sp} {x0 x1 : Int} (h : GInv p row x0) (hx : x0 < x1) (hp : ∀ y, x0 ≤ y → y < x1 → (p y ↔ p x0)) : GInv p (gridStep p row x0 x1) x1 := by
  have hno : ∀ y, x0 ≤ y → ¬ In row y := by
    rintro y hy ⟨t, ht, h1, h2⟩
    have := h.lo t ht
    omega
  unfold gridStep
  by_cases h0 : p x0
  · rw [if_pos h0]
    rcases last_cases row with rfl | ⟨m, t, rfl⟩
    · refine ⟨hx, fun t ht => ?_, fun y hy => ?_⟩
      · simp at ht
        subst ht
        exact Int.le_refl _
      · by_cases hy0 : y < x0
        · have := h.all y hy0
          rw [this]
          simp [In]
          omega
        · rw [hp y (by omega) hy]
          simp [In, h0]
          omega
    · obtain ⟨h1, h2, h3⟩ := h.canon.init
      simp only [List.getLast?_append, List.getLast?_singleton, Option.some_or]
      have hmem : ∀ u ∈ m, u.b ≤ x0 := fun u hu => h.lo u (List.mem_append_left _ hu)
      have htb := h.lo t (by simp)
      split
      · rename_i he
        have hdl : (m ++ [t]).dropLast = m := by simp
        rw [hdl]
        refine ⟨h1.snoc (by simp only; omega) fun u hu => h3 u hu, fun u hu => ?_, fun y hy => ?_⟩
        · rcases List.mem_append.1 hu with hu | hu
          · have := hmem u hu
            omega
          · simp only [List.mem_singleton] at hu
            subst hu
            exact Int.le_refl _
        · rw [In.app, In.cons]
          simp only [In.nil, or_false]
          by_cases hy0 : y < x0
          · rw [h.all y hy0, In.app, In.cons]
            simp only [In.nil, or_false]
            constructor
            · rintro (h | h)
              · exact .inl h
              · exact .inr (by omega)
            · rintro (h | h)
              · exact .inl h
              · exact .inr (by omega)
          · rw [hp y (by omega) hy]
            simp only [h0, true_iff]
            exact .inr (by omega)
      · rename_i he
        refine ⟨h.canon.snoc hx fun u hu => ?_, fun u hu => ?_, fun y hy => ?_⟩
        · rcases List.mem_append.1 hu with hu | hu
          · have := h3 u hu
            simp only
            omega
          · simp only [List.mem_singleton] at hu
            subst hu
            simp only
            omega
        · rcases List.mem_append.1 hu with hu | hu
          · have := h.lo u hu
            omega
          · simp only [List.mem_singleton] at hu
            subst hu
            exact Int.le_refl _
        · rw [In.app, In.cons (⟨x0, x1⟩ : Sp)]
          simp only [In.nil, or_false]
          by_cases hy0 : y < x0
          · rw [h.all y hy0]
            constructor
            · exact fun h => .inl h
            · rintro (h | h)
              · exact h
              · omega
          · rw [hp y (by omega) hy]
            simp only [h0, true_iff]
            exact .inr (by omega)
  · rw [if_neg h0]
    refine ⟨h.canon, fun t ht => by have := h.lo t ht; omega, fun y hy => ?_⟩
    by_cases hy0 : y < x0
    · exact h.all y hy0
    · rw [hp y (by omega) hy]
      simp only [h0, false_iff]
      exact hno y (by omega)
theorem GInv.done {p : Int → Prop} {row : List Sp} {x : Int} (h : GInv p row x) (hp : ∀ y, x ≤ y → ¬ p y) : Canon row ∧ ∀ y, In row y ↔ p y := by
  refine ⟨h.canon, fun y => ?_⟩
  by_cases hy : y < x
  · exact (h.all y hy).symm
  · simp only [hp y (by omega), iff_false]
    rintro ⟨t, ht, h1, h2⟩
    have := h.lo t ht
    omega

/-! Rectangles. -/

def Rt.Has (r : Rt) (x y : Int) : Prop := r.x0 ≤ x ∧ x < r.x1 ∧ r.y0 ≤ y ∧ y < r.y1
def Has (l : List Rt) (x y : Int) : Prop := ∃ r ∈ l, r.Has x y
def Rt.Some (r : Rt) : Prop := r.x0 < r.x1 ∧ r.y0 < r.y1
instance (r : Rt) (x y : Int) : Decidable (r.Has x y) := by unfold Rt.Has; infer_instance
instance (r : Rt) : Decidable r.Some := by unfold Rt.Some; infer_instance
instance (l : List Rt) (x y : Int) : Decidable (Has l x y) := by unfold Has; infer_instance

theorem Has.nil (x y : Int) : ¬ Has [] x y := fun ⟨_, h, _⟩ => by cases h
theorem Has.cons (r : Rt) (l : List Rt) (x y : Int) : Has (r :: l) x y ↔ r.Has x y ∨ Has l x y := by
  constructor
  · rintro ⟨t, ht, h⟩
    rcases List.mem_cons.1 ht with rfl | ht
    · exact .inl h
    · exact .inr ⟨t, ht, h⟩
  · rintro (h | ⟨t, ht, h⟩)
    · exact ⟨r, List.mem_cons_self .., h⟩
    · exact ⟨t, List.mem_cons_of_mem _ ht, h⟩
theorem Has.app (l m : List Rt) (x y : Int) : Has (l ++ m) x y ↔ Has l x y ∨ Has m x y := by
  induction l with
  | nil => simp [Has.nil]
  | cons r l ih => rw [List.cons_append, Has.cons, Has.cons, ih, or_assoc]

/-- A row's spans of rectangles. -/
def rowOf (l : List Rt) (y : Int) : List Sp := (l.filter fun r => decide (r.y0 ≤ y ∧ y < r.y1 ∧ r.x0 < r.x1)).map fun r => ⟨r.x0, r.x1⟩
theorem rowOf_in (l : List Rt) (x y : Int) : In (rowOf l y) x ↔ Has l x y := by
  induction l with
  | nil => simp [rowOf, In.nil, Has.nil]
  | cons r l ih =>
    rw [Has.cons, ← ih]
    unfold rowOf
    rw [List.filter_cons]
    unfold Rt.Has
    split
    · rename_i h
      simp only [decide_eq_true_eq] at h
      rw [List.map_cons, In.cons]
      simp only
      constructor
      · rintro (h1 | h1)
        · exact .inl (by omega)
        · exact .inr h1
      · rintro (h1 | h1)
        · exact .inl (by omega)
        · exact .inr h1
    · rename_i h
      simp only [decide_eq_true_eq] at h
      constructor
      · exact fun h1 => .inr h1
      · rintro (h1 | h1)
        · exact (h (by omega)).elim
        · exact h1
theorem rowOf_some (l : List Rt) (y : Int) : ∀ s ∈ rowOf l y, s.a < s.b := by
  intro s hs
  unfold rowOf at hs
  obtain ⟨r, hr, rfl⟩ := List.mem_map.1 hs
  have := (List.mem_filter.1 hr).2
  simp only [decide_eq_true_eq] at this
  exact this.2.2

/-! Bands. -/

structure Bd where
  y0 : Int
  y1 : Int
  row : List Sp
  deriving DecidableEq

def Bd.rects (b : Bd) : List Rt := b.row.map fun s => ⟨s.a, b.y0, s.b, b.y1⟩
def flat (l : List Bd) : List Rt := l.flatMap Bd.rects
def In2 (l : List Bd) (x y : Int) : Prop := ∃ b ∈ l, b.y0 ≤ y ∧ y < b.y1 ∧ In b.row x

theorem In2.nil (x y : Int) : ¬ In2 [] x y := fun ⟨_, h, _⟩ => by cases h
theorem In2.cons (b : Bd) (l : List Bd) (x y : Int) : In2 (b :: l) x y ↔ (b.y0 ≤ y ∧ y < b.y1 ∧ In b.row x) ∨ In2 l x y := by
  constructor
  · rintro ⟨t, ht, h⟩
    rcases List.mem_cons.1 ht with rfl | ht
    · exact .inl h
    · exact .inr ⟨t, ht, h⟩
  · rintro (h | ⟨t, ht, h⟩)
    · exact ⟨b, List.mem_cons_self .., h⟩
    · exact ⟨t, List.mem_cons_of_mem _ ht, h⟩
theorem In2.app (l m : List Bd) (x y : Int) : In2 (l ++ m) x y ↔ In2 l x y ∨ In2 m x y := by
  induction l with
  | nil => simp [In2.nil]
  | cons r l ih => rw [List.cons_append, In2.cons, In2.cons, ih, or_assoc]

theorem Bd.has (b : Bd) (x y : Int) : Has b.rects x y ↔ b.y0 ≤ y ∧ y < b.y1 ∧ In b.row x := by
  unfold Bd.rects Has In Rt.Has
  constructor
  · rintro ⟨r, hr, h⟩
    obtain ⟨s, hs, rfl⟩ := List.mem_map.1 hr
    exact ⟨h.2.2.1, h.2.2.2, s, hs, h.1, h.2.1⟩
  · rintro ⟨h1, h2, s, hs, h3, h4⟩
    exact ⟨_, List.mem_map.2 ⟨s, hs, rfl⟩, h3, h4, h1, h2⟩
theorem flat_has (l : List Bd) (x y : Int) : Has (flat l) x y ↔ In2 l x y := by
  induction l with
  | nil => simp [flat, Has.nil, In2.nil]
  | cons b l ih =>
    rw [In2.cons, ← ih, flat, List.flatMap_cons, Has.app, Bd.has]
    rfl

structure Bd.Ok (b : Bd) : Prop where
  lt : b.y0 < b.y1
  some : b.row ≠ []
  canon : Canon b.row

/-- Bands in their one order. -/
def Canon2 : List Bd → Prop
  | [] => True
  | [b] => b.Ok
  | b :: t :: r => b.Ok ∧ b.y1 ≤ t.y0 ∧ (b.y1 = t.y0 → b.row ≠ t.row) ∧ Canon2 (t :: r)

theorem Canon2.head {b : Bd} {l : List Bd} (h : Canon2 (b :: l)) : b.Ok := by
  cases l with
  | nil => exact h
  | cons t r => exact h.1
theorem Canon2.tail {b : Bd} {l : List Bd} (h : Canon2 (b :: l)) : Canon2 l := by
  cases l with
  | nil => trivial
  | cons t r => exact h.2.2.2
theorem Canon2.beyond {b : Bd} {l : List Bd} (h : Canon2 (b :: l)) : ∀ t ∈ l, b.y1 ≤ t.y0 := by
  induction l generalizing b with
  | nil => intro t ht; cases ht
  | cons t r ih =>
    intro u hu
    rcases List.mem_cons.1 hu with rfl | hu
    · exact h.2.1
    · have := ih h.2.2.2 u hu
      have := h.2.2.2.head.lt
      have := h.2.1
      omega
theorem Canon2.in_beyond {b : Bd} {l : List Bd} (h : Canon2 (b :: l)) {x y : Int} (hx : In2 l x y) : b.y1 ≤ y := by
  obtain ⟨t, ht, h1, _⟩ := hx
  have := h.beyond t ht
  omega
theorem Bd.Ok.point {b : Bd} (h : b.Ok) : ∃ x, In b.row x := by
  have := h.some
  have hc := h.canon
  cases hr : b.row with
  | nil => exact (this hr).elim
  | cons s r =>
    rw [hr] at hc
    exact ⟨_, hc.first⟩
/-- The row of a canonical list's first band, at each y of it. -/
theorem Canon2.row_at {b : Bd} {l : List Bd} (h : Canon2 (b :: l)) {x y : Int} (h1 : b.y0 ≤ y) (h2 : y < b.y1) : In2 (b :: l) x y ↔ In b.row x := by
  rw [In2.cons]
  constructor
  · rintro (h3 | h3)
    · exact h3.2.2
    · have := h.in_beyond h3
      omega
  · exact fun h3 => .inl ⟨h1, h2, h3⟩
theorem Canon2.low {b : Bd} {l : List Bd} (h : Canon2 (b :: l)) {x y : Int} (hx : In2 (b :: l) x y) : b.y0 ≤ y := by
  rcases (In2.cons _ _ _ _).1 hx with h1 | h1
  · exact h1.1
  · have := h.in_beyond h1
    have := h.head.lt
    omega

theorem canon2_half {b c : Bd} {l m : List Bd} (hl : Canon2 (b :: l)) (hm : Canon2 (c :: m)) (h : ∀ x y, In2 (b :: l) x y ↔ In2 (c :: m) x y) (h0 : b.y0 = c.y0) (hr : b.row = c.row) : ¬ b.y1 < c.y1 := by
  intro hlt
  have hb := hl.head
  have hb0 := hb.lt
  have hc := hm.head
  -- at the first band's end the other one goes on
  have key : ∀ x, In2 l x b.y1 ↔ In b.row x := fun x => by
    have h1 := h x b.y1
    rw [hm.row_at (by omega) hlt, In2.cons, hr] at h1
    rw [hr, ← h1]
    constructor
    · exact fun h => .inr h
    · rintro (h | h)
      · omega
      · exact h
  cases l with
  | nil =>
    obtain ⟨x, hx⟩ := hb.point
    exact In2.nil _ _ ((key x).2 hx)
  | cons t r =>
    obtain ⟨x, hx⟩ := hb.point
    have h1 := hl.tail.low ((key x).2 hx)
    have h2 := hl.2.1
    have he : b.y1 = t.y0 := by omega
    refine hl.2.2.1 he (hb.canon.uniq hl.tail.head.canon fun x => ?_)
    rw [← key x, hl.tail.row_at (by omega) (by have := hl.tail.head.lt; omega)]

/-- The same points are the same bands. -/
theorem Canon2.uniq : ∀ {l m : List Bd}, Canon2 l → Canon2 m → (∀ x y, In2 l x y ↔ In2 m x y) → l = m
  | [], [], _, _, _ => rfl
  | [], c :: m, _, hm, h => by
    obtain ⟨x, hx⟩ := hm.head.point
    exact ((In2.nil _ _) ((h x c.y0).2 ((In2.cons _ _ _ _).2 (.inl ⟨Int.le_refl _, hm.head.lt, hx⟩)))).elim
  | b :: l, [], hl, _, h => by
    obtain ⟨x, hx⟩ := hl.head.point
    exact ((In2.nil _ _) ((h x b.y0).1 ((In2.cons _ _ _ _).2 (.inl ⟨Int.le_refl _, hl.head.lt, hx⟩)))).elim
  | b :: l, c :: m, hl, hm, h => by
    have hb := hl.head
    have hc := hm.head
    have h0 : b.y0 = c.y0 := by
      obtain ⟨x, hx⟩ := hb.point
      obtain ⟨z, hz⟩ := hc.point
      have a1 := hm.low ((h x b.y0).1 ((In2.cons _ _ _ _).2 (.inl ⟨Int.le_refl _, hb.lt, hx⟩)))
      have a2 := hl.low ((h z c.y0).2 ((In2.cons _ _ _ _).2 (.inl ⟨Int.le_refl _, hc.lt, hz⟩)))
      omega
    have hr : b.row = c.row := hb.canon.uniq hc.canon fun x => by
      rw [← hl.row_at (Int.le_refl _) hb.lt, h x b.y0, h0, hm.row_at (Int.le_refl _) hc.lt]
    have h1 : b.y1 = c.y1 := by
      have a1 := canon2_half hl hm h h0 hr
      have a2 := canon2_half hm hl (fun x y => (h x y).symm) h0.symm hr.symm
      omega
    have he : b = c := by
      cases b; cases c
      simp only at h0 h1 hr
      rw [h0, h1, hr]
    subst he
    congr 1
    refine Canon2.uniq hl.tail hm.tail fun x y => ⟨fun hx => ?_, fun hx => ?_⟩
    · have := hl.in_beyond hx
      rcases (In2.cons _ _ _ _).1 ((h x y).1 ((In2.cons _ _ _ _).2 (.inr hx))) with h3 | h3
      · omega
      · exact h3
    · have := hm.in_beyond hx
      rcases (In2.cons _ _ _ _).1 ((h x y).2 ((In2.cons _ _ _ _).2 (.inr hx))) with h3 | h3
      · omega
      · exact h3
theorem Canon2.snoc : ∀ {l : List Bd} {b : Bd}, Canon2 l → b.Ok → (∀ t ∈ l, t.y1 ≤ b.y0) → (∀ t, l.getLast? = some t → t.y1 = b.y0 → t.row ≠ b.row) → Canon2 (l ++ [b])
  | [], b, _, h, _, _ => h
  | [t], b, h1, h2, h3, h4 => ⟨h1, h3 t (List.mem_cons_self ..), h4 t rfl, h2⟩
  | t :: u :: r, b, h1, h2, h3, h4 => ⟨h1.1, h1.2.1, h1.2.2.1, Canon2.snoc (l := u :: r) h1.2.2.2 h2 (fun v hv => h3 v (List.mem_cons_of_mem _ hv)) fun v hv => h4 v (by rw [List.getLast?_cons_cons]; exact hv)⟩
theorem Canon2.init : ∀ {l : List Bd} {b : Bd}, Canon2 (l ++ [b]) → Canon2 l ∧ b.Ok ∧ (∀ t ∈ l, t.y1 ≤ b.y0) ∧ (∀ t, l.getLast? = some t → t.y1 = b.y0 → t.row ≠ b.row)
  | [], b, h => ⟨trivial, h, fun t ht => (by cases ht), fun t ht => (by cases ht)⟩
  | [t], b, h => ⟨h.1, h.2.2.2, fun u hu => (by
      rcases List.mem_cons.1 hu with rfl | hu
      · exact h.2.1
      · cases hu), fun u hu => (by
      simp at hu
      subst hu
      exact h.2.2.1)⟩
  | t :: u :: r, b, h => by
    have ih := Canon2.init (l := u :: r) h.2.2.2
    refine ⟨⟨h.1, h.2.1, h.2.2.1, ih.1⟩, ih.2.1, fun v hv => ?_, fun v hv => ih.2.2.2 v (by rw [List.getLast?_cons_cons] at hv; exact hv)⟩
    rcases List.mem_cons.1 hv with rfl | hv
    · have h1 := ih.2.2.1 u (List.mem_cons_self ..)
      have h2 := h.2.1
      have h3 := ih.1.head.lt
      omega
    · exact ih.2.2.1 v hv

end Go.Reg

/- Regions: bands on the way; edges; points that are wanted; in plain numbers. -/
namespace Go.Reg

def bandStep (acc : List Bd) (y0 y1 : Int) (row : List Sp) : List Bd :=
  if row = [] then acc else match acc.getLast? with
  | some t => if t.y1 = y0 ∧ t.row = row then acc.dropLast ++ [⟨t.y0, y1, t.row⟩] else acc ++ [⟨y0, y1, row⟩]
  | none => [⟨y0, y1, row⟩]

/-- On the way through the bands: below y all is told. -/
structure BInv (p : Int → Int → Prop) (acc : List Bd) (y : Int) : Prop where
  canon : Canon2 acc
  lo : ∀ t ∈ acc, t.y1 ≤ y
  all : ∀ x v, v < y → (p x v ↔ In2 acc x v)

theorem bands_cases (l : List Bd) : l = [] ∨ ∃ m t, l = m ++ [t] := by
  rcases List.eq_nil_or_concat l with h | ⟨m, t, h⟩
  · exact .inl h
  · exact .inr ⟨m, t, by rw [h, List.concat_eq_append]⟩

theorem BInv.start (p : Int → Int → Prop) (y : Int) (h : ∀ x v, v < y → ¬ p x v) : BInv p [] y :=
  ⟨trivial, fun t ht => (by cases ht), fun x v hv => (by simp [In2.nil, h x v hv])⟩
theorem BInv.high {p : Int → Int → Prop} {acc : List Bd} {y : Int} (h : BInv p acc y) {x v : Int} (hv : y ≤ v) : ¬ In2 acc x v := by
  rintro ⟨t, ht, h1, h2, _⟩
  have := h.lo t ht
  omega
theorem BInv.step {p : Int → Int → Prop} {acc : List Bd} {y0 y1 : Int} {row : List Sp} (h : BInv p acc y0) (hy : y0 < y1) (hc : Canon row) (hr : ∀ x, In row x ↔ p x y0) (hp : ∀ x v, y0 ≤ v → v < y1 → (p x v ↔ p x y0)) : BInv p (bandStep acc y0 y1 row) y1 := by
  have hin : ∀ x v, y0 ≤ v → v < y1 → (p x v ↔ In row x) := fun x v h1 h2 => (hp x v h1 h2).trans (hr x).symm
  unfold bandStep
  by_cases he : row = []
  · rw [if_pos he]
    subst he
    refine ⟨h.canon, fun t ht => by have := h.lo t ht; omega, fun x v hv => ?_⟩
    by_cases h0 : v < y0
    · exact h.all x v h0
    · rw [hin x v (by omega) hv]
      simp [In.nil, h.high (by omega : y0 ≤ v)]
  · rw [if_neg he]
    have new : ∀ acc', Canon2 acc' → (∀ t ∈ acc', t.y1 ≤ y0) → (∀ x v, v < y0 → (p x v ↔ In2 acc' x v)) → (∀ t, acc'.getLast? = some t → t.y1 = y0 → t.row ≠ row) → BInv p (acc' ++ [⟨y0, y1, row⟩]) y1 := by
      intro acc' c1 c2 c3 c4
      refine ⟨c1.snoc ⟨hy, he, hc⟩ c2 c4, fun t ht => ?_, fun x v hv => ?_⟩
      · rcases List.mem_append.1 ht with ht | ht
        · have := c2 t ht
          omega
        · simp only [List.mem_singleton] at ht
          subst ht
          exact Int.le_refl _
      · rw [In2.app, In2.cons]
        simp only [In2.nil, or_false]
        by_cases h0 : v < y0
        · rw [c3 x v h0]
          constructor
          · exact fun h => .inl h
          · rintro (h | h)
            · exact h
            · omega
        · rw [hin x v (by omega) hv]
          constructor
          · exact fun h => .inr ⟨by omega, hv, h⟩
          · rintro (⟨t, ht, h1, h2, _⟩ | h)
            · have := c2 t ht
              omega
            · exact h.2.2
    rcases bands_cases acc with rfl | ⟨m, t, rfl⟩
    · exact new [] trivial (fun t ht => by cases ht) h.all (fun t ht => by cases ht)
    · simp only [List.getLast?_append, List.getLast?_singleton, Option.some_or]
      split
      · rename_i hm
        obtain ⟨h1, h2⟩ := hm
        have hdl : (m ++ [t]).dropLast = m := by simp
        rw [hdl]
        obtain ⟨i1, i2, i3, i4⟩ := h.canon.init
        refine ⟨i1.snoc ⟨by have := i2.lt; simp only; omega, i2.some, i2.canon⟩ i3 i4, fun u hu => ?_, fun x v hv => ?_⟩
        · rcases List.mem_append.1 hu with hu | hu
          · have := h.lo u (by simp [hu])
            omega
          · simp only [List.mem_singleton] at hu
            subst hu
            exact Int.le_refl _
        · rw [In2.app, In2.cons]
          simp only [In2.nil, or_false]
          by_cases h0 : v < y0
          · rw [h.all x v h0, In2.app, In2.cons]
            simp only [In2.nil, or_false]
            constructor
            · rintro (h | h)
              · exact .inl h
              · exact .inr ⟨h.1, hv, h.2.2⟩
            · rintro (h | h)
              · exact .inl h
              · exact .inr ⟨h.1, by omega, h.2.2⟩
          · rw [hin x v (by omega) hv, ← h2]
            have := i2.lt
            constructor
            · exact fun h => .inr ⟨by omega, hv, h⟩
            · rintro (⟨u, hu, k1, k2, _⟩ | h)
              · have := h.lo u (by simp [hu])
                omega
              · exact h.2.2
      · rename_i hm
        refine new _ h.canon h.lo h.all fun u hu => ?_
        simp at hu
        subst hu
        exact fun h1 h2 => hm ⟨h1, h2⟩
theorem BInv.done {p : Int → Int → Prop} {acc : List Bd} {y : Int} (h : BInv p acc y) (hp : ∀ x v, y ≤ v → ¬ p x v) : Canon2 acc ∧ ∀ x v, In2 acc x v ↔ p x v := by
  refine ⟨h.canon, fun x v => ?_⟩
  by_cases hv : v < y
  · exact (h.all x v hv).symm
  · simp only [hp x v (by omega), iff_false]
    exact h.high (by omega)

/-! Edges. -/

/-- Numbers that rise, each once. -/
def Up (l : List Int) : Prop := l.Pairwise (· < ·)

theorem Up.gap {l : List Int} (h : Up l) {j : Nat} {u v e : Int} (hu : l[j]? = some u) (hv : l[j + 1]? = some v) (he : e ∈ l) : e ≤ u ∨ v ≤ e := by
  obtain ⟨k, hk, rfl⟩ := List.getElem_of_mem he
  obtain ⟨hj, rfl⟩ := List.getElem?_eq_some_iff.1 hu
  obtain ⟨hj1, rfl⟩ := List.getElem?_eq_some_iff.1 hv
  have hp := List.pairwise_iff_getElem.1 h
  rcases Nat.lt_trichotomy k (j + 1) with h1 | h1 | h1
  · left
    rcases Nat.lt_or_eq_of_le (Nat.le_of_lt_succ h1) with h2 | h2
    · exact Int.le_of_lt (hp k j hk hj h2)
    · subst h2
      exact Int.le_refl _
  · subst h1
    exact .inr (Int.le_refl _)
  · exact .inr (Int.le_of_lt (hp (j + 1) k hj1 hk h1))
theorem Up.next {l : List Int} (h : Up l) {j : Nat} {u v : Int} (hu : l[j]? = some u) (hv : l[j + 1]? = some v) : u < v := by
  obtain ⟨hj, rfl⟩ := List.getElem?_eq_some_iff.1 hu
  obtain ⟨hj1, rfl⟩ := List.getElem?_eq_some_iff.1 hv
  exact List.pairwise_iff_getElem.1 h j (j + 1) hj hj1 (by omega)
theorem Up.first {l : List Int} (h : Up l) {u e : Int} (hu : l[0]? = some u) (he : e ∈ l) : u ≤ e := by
  obtain ⟨k, hk, rfl⟩ := List.getElem_of_mem he
  obtain ⟨hj, rfl⟩ := List.getElem?_eq_some_iff.1 hu
  rcases Nat.eq_zero_or_pos k with h1 | h1
  · subst h1
    exact Int.le_refl _
  · exact Int.le_of_lt (List.pairwise_iff_getElem.1 h 0 k hj hk h1)
theorem Up.last {l : List Int} (h : Up l) {u e : Int} {n : Nat} (hn : l.length = n + 1) (hu : l[n]? = some u) (he : e ∈ l) : e ≤ u := by
  obtain ⟨k, hk, rfl⟩ := List.getElem_of_mem he
  obtain ⟨hj, rfl⟩ := List.getElem?_eq_some_iff.1 hu
  rcases Nat.lt_or_ge k n with h1 | h1
  · exact Int.le_of_lt (List.pairwise_iff_getElem.1 h k n hk hj h1)
  · have : k = n := by omega
    subst this
    exact Int.le_refl _

/-- Have these numbers all edges of rectangles in Y? in X? -/
def YEdges (ys : List Int) (l : List Rt) : Prop := ∀ r ∈ l, r.Some → r.y0 ∈ ys ∧ r.y1 ∈ ys
def XEdges (xs : List Int) (l : List Rt) : Prop := ∀ r ∈ l, r.Some → r.x0 ∈ xs ∧ r.x1 ∈ xs

theorem Rt.Has.some {r : Rt} {x y : Int} (h : r.Has x y) : r.Some := by
  unfold Rt.Has at h
  unfold Rt.Some
  omega
theorem YEdges.const {ys : List Int} {l : List Rt} (h : YEdges ys l) (hu : Up ys) {j : Nat} {u v : Int} (h0 : ys[j]? = some u) (h1 : ys[j + 1]? = some v) {x y : Int} (hy : u ≤ y) (hy1 : y < v) : Has l x y ↔ Has l x u := by
  constructor
  · rintro ⟨r, hr, hh⟩
    refine ⟨r, hr, ?_⟩
    have e := h r hr hh.some
    have g0 := hu.gap h0 h1 e.1
    have g1 := hu.gap h0 h1 e.2
    unfold Rt.Has at hh ⊢
    omega
  · rintro ⟨r, hr, hh⟩
    refine ⟨r, hr, ?_⟩
    have e := h r hr hh.some
    have g0 := hu.gap h0 h1 e.1
    have g1 := hu.gap h0 h1 e.2
    unfold Rt.Has at hh ⊢
    omega
theorem XEdges.const {xs : List Int} {l : List Rt} (h : XEdges xs l) (hu : Up xs) {j : Nat} {u v : Int} (h0 : xs[j]? = some u) (h1 : xs[j + 1]? = some v) {x y : Int} (hx : u ≤ x) (hx1 : x < v) : Has l x y ↔ Has l u y := by
  constructor
  · rintro ⟨r, hr, hh⟩
    refine ⟨r, hr, ?_⟩
    have e := h r hr hh.some
    have g0 := hu.gap h0 h1 e.1
    have g1 := hu.gap h0 h1 e.2
    unfold Rt.Has at hh ⊢
    omega
  · rintro ⟨r, hr, hh⟩
    refine ⟨r, hr, ?_⟩
    have e := h r hr hh.some
    have g0 := hu.gap h0 h1 e.1
    have g1 := hu.gap h0 h1 e.2
    unfold Rt.Has at hh ⊢
    omega
theorem YEdges.below {ys : List Int} {l : List Rt} (h : YEdges ys l) (hu : Up ys) {u : Int} (h0 : ys[0]? = some u) {x y : Int} (hy : y < u) : ¬ Has l x y := by
  rintro ⟨r, hr, hh⟩
  have e := hu.first h0 (h r hr hh.some).1
  unfold Rt.Has at hh
  omega
theorem YEdges.above {ys : List Int} {l : List Rt} (h : YEdges ys l) (hu : Up ys) {n : Nat} (hn : ys.length = n + 1) {u : Int} (h0 : ys[n]? = some u) {x y : Int} (hy : u ≤ y) : ¬ Has l x y := by
  rintro ⟨r, hr, hh⟩
  have e := hu.last hn h0 (h r hr hh.some).2
  unfold Rt.Has at hh
  omega
theorem YEdges.none {l : List Rt} (h : YEdges [] l) {x y : Int} : ¬ Has l x y := by
  rintro ⟨r, hr, hh⟩
  have := (h r hr hh.some).1
  cases this
theorem XEdges.below {xs : List Int} {l : List Rt} (h : XEdges xs l) (hu : Up xs) {u : Int} (h0 : xs[0]? = some u) {x y : Int} (hx : x < u) : ¬ Has l x y := by
  rintro ⟨r, hr, hh⟩
  have e := hu.first h0 (h r hr hh.some).1
  unfold Rt.Has at hh
  omega
theorem XEdges.above {xs : List Int} {l : List Rt} (h : XEdges xs l) (hu : Up xs) {n : Nat} (hn : xs.length = n + 1) {u : Int} (h0 : xs[n]? = some u) {x y : Int} (hx : u ≤ x) : ¬ Has l x y := by
  rintro ⟨r, hr, hh⟩
  have e := hu.last hn h0 (h r hr hh.some).2
  unfold Rt.Has at hh
  omega
theorem XEdges.none {l : List Rt} (h : XEdges [] l) {x y : Int} : ¬ Has l x y := by
  rintro ⟨r, hr, hh⟩
  have := (h r hr hh.some).1
  cases this

/-- The points that are wanted. -/
def Pts (a b : List Rt) (f : Bool → Bool → Bool) (x y : Int) : Prop := f (decide (Has a x y)) (decide (Has b x y)) = true
instance (a b : List Rt) (f : Bool → Bool → Bool) (x y : Int) : Decidable (Pts a b f x y) := by unfold Pts; infer_instance

theorem Pts.congr {a b : List Rt} {f : Bool → Bool → Bool} {x y x' y' : Int} (h1 : Has a x y ↔ Has a x' y') (h2 : Has b x y ↔ Has b x' y') : Pts a b f x y ↔ Pts a b f x' y' := by
  unfold Pts
  rw [decide_eq_decide.2 h1, decide_eq_decide.2 h2]
theorem Pts.out {a b : List Rt} {f : Bool → Bool → Bool} (hf : f false false = false) {x y : Int} (h1 : ¬ Has a x y) (h2 : ¬ Has b x y) : ¬ Pts a b f x y := by
  unfold Pts
  rw [decide_eq_false h1, decide_eq_false h2, hf]
  simp

/-- A right region: rectangles in their one order of bands. -/
structure RegOf (out : List Rt) (p : Int → Int → Prop) : Prop where
  ex : ∃ B, Canon2 B ∧ out = flat B ∧ ∀ x y, In2 B x y ↔ p x y
theorem RegOf.uniq {o1 o2 : List Rt} {p q : Int → Int → Prop} (h1 : RegOf o1 p) (h2 : RegOf o2 q) (h : ∀ x y, p x y ↔ q x y) : o1 = o2 := by
  obtain ⟨B1, c1, rfl, i1⟩ := h1.ex
  obtain ⟨B2, c2, rfl, i2⟩ := h2.ex
  rw [c1.uniq c2 fun x y => by rw [i1, h, i2]]
theorem RegOf.has {o : List Rt} {p : Int → Int → Prop} (h : RegOf o p) (x y : Int) : Has o x y ↔ p x y := by
  obtain ⟨B, c, rfl, i⟩ := h.ex
  rw [flat_has, i]

/-- The row of the points that are wanted, of two rows' spans. -/
theorem rows_want {a b : List Rt} {f : Bool → Bool → Bool} {y : Int} {sa sb row : List Sp} (h1 : ∀ x, In sa x ↔ Has a x y) (h2 : ∀ x, In sb x ↔ Has b x y) (h : ∀ x, In row x ↔ Want f (In sa x) (In sb x)) (x : Int) : In row x ↔ Pts a b f x y := by
  rw [h]
  unfold Want Pts
  rw [decide_eq_decide.2 (h1 x), decide_eq_decide.2 (h2 x)]

end Go.Reg

/- Regions: the code's bands and the document's; numbers that rise; in plain numbers. -/
namespace Go.Reg

theorem flat_app (a b : List Bd) : flat (a ++ b) = flat a ++ flat b := by simp [flat]
theorem flat_one (b : Bd) : flat [b] = b.rects := by simp [flat]

/-- The code's own way to keep the bands: what is out, where the last band begins, its row ([]: none). -/
structure CodeB (acc : List Bd) (out : List Rt) (fr : Nat) (last : List Sp) (y : Int) : Prop where
  out_eq : out = flat acc
  lo : ∀ t ∈ acc, t.y1 ≤ y
  ok : ∀ t ∈ acc, t.row ≠ []
  way : (last = [] ∧ fr = out.length ∧ ∀ t ∈ acc, t.y1 < y) ∨ ∃ m t, acc = m ++ [t] ∧ t.row = last ∧ t.y1 = y ∧ fr = (flat m).length

theorem CodeB.start (y : Int) : CodeB [] [] 0 [] y := ⟨rfl, fun t ht => (by cases ht), fun t ht => (by cases ht), .inl ⟨rfl, rfl, fun t ht => (by cases ht)⟩⟩

def setY1 (y : Int) (r : Rt) : Rt := ⟨r.x0, r.y0, r.x1, y⟩

theorem CodeB.same {acc : List Bd} {out : List Rt} {fr : Nat} {last row : List Sp} {y0 y1 : Int} (h : CodeB acc out fr last y0) (hy : y0 < y1) (hr : row ≠ []) (he : row = last) :
    CodeB (bandStep acc y0 y1 row) (out.take fr ++ (out.drop fr).map (setY1 y1)) fr last y1 := by
  rcases h.way with ⟨h1, _, _⟩ | ⟨m, t, rfl, h2, h3, h4⟩
  · exact (hr (he.trans h1)).elim
  · have hb : bandStep (m ++ [t]) y0 y1 row = m ++ [⟨t.y0, y1, t.row⟩] := by
      unfold bandStep
      rw [if_neg hr]
      simp only [List.getLast?_append, List.getLast?_singleton, Option.some_or]
      rw [if_pos ⟨h3, by rw [h2, he]⟩]
      simp
    rw [hb]
    have ho := h.out_eq
    rw [flat_app, flat_one] at ho
    have e1 : out.take fr = flat m := by rw [ho, h4]; simp
    have e2 : out.drop fr = t.rects := by rw [ho, h4]; simp
    refine ⟨?_, fun u hu => ?_, fun u hu => ?_, .inr ⟨m, _, rfl, h2, rfl, h4⟩⟩
    · rw [e1, e2, flat_app, flat_one]
      congr 1
      simp only [Bd.rects, List.map_map]
      rfl
    · rcases List.mem_append.1 hu with hu | hu
      · have := h.lo u (by simp [hu])
        omega
      · simp only [List.mem_singleton] at hu
        subst hu
        exact Int.le_refl _
    · rcases List.mem_append.1 hu with hu | hu
      · exact h.ok u (by simp [hu])
      · simp only [List.mem_singleton] at hu
        subst hu
        exact h.ok t (by simp)
theorem CodeB.other {acc : List Bd} {out : List Rt} {fr : Nat} {last row : List Sp} {y0 y1 : Int} (h : CodeB acc out fr last y0) (hy : y0 < y1) (hr : row = [] ∨ row ≠ last) :
    CodeB (bandStep acc y0 y1 row) (out ++ row.map fun s => ⟨s.a, y0, s.b, y1⟩) out.length row y1 := by
  by_cases he : row = []
  · subst he
    have hb : bandStep acc y0 y1 [] = acc := by simp [bandStep]
    rw [hb]
    exact ⟨by simpa using h.out_eq, fun t ht => by have := h.lo t ht; omega, h.ok, .inl ⟨rfl, by simp, fun t ht => by have := h.lo t ht; omega⟩⟩
  · have hne : row ≠ last := hr.resolve_left he
    have hb : bandStep acc y0 y1 row = acc ++ [⟨y0, y1, row⟩] := by
      unfold bandStep
      rw [if_neg he]
      rcases bands_cases acc with rfl | ⟨m, t, rfl⟩
      · rfl
      · simp only [List.getLast?_append, List.getLast?_singleton, Option.some_or]
        rw [if_neg]
        rintro ⟨k1, k2⟩
        rcases h.way with ⟨_, _, h3⟩ | ⟨m', t', e, h2, _, _⟩
        · have := h3 t (by simp)
          omega
        · have := List.append_inj_right' e rfl
          simp only [List.cons.injEq, and_true] at this
          subst this
          exact hne (k2.symm.trans h2)
    rw [hb]
    refine ⟨?_, fun u hu => ?_, fun u hu => ?_, .inr ⟨acc, _, rfl, rfl, rfl, by rw [h.out_eq]⟩⟩
    · rw [flat_app, flat_one, h.out_eq]
      rfl
    · rcases List.mem_append.1 hu with hu | hu
      · have := h.lo u hu
        omega
      · simp only [List.mem_singleton] at hu
        subst hu
        exact Int.le_refl _
    · rcases List.mem_append.1 hu with hu | hu
      · exact h.ok u hu
      · simp only [List.mem_singleton] at hu
        subst hu
        exact he

/-- The document's test whether a row is the last band's. -/
theorem CodeB.test {acc : List Bd} {out : List Rt} {fr : Nat} {last row : List Sp} {y : Int} (h : CodeB acc out fr last y) (hr : row ≠ []) :
    (out.length - fr = row.length ∧ ∀ i, (hi : i < row.length) → ∃ r, out[fr + i]? = some r ∧ r.x0 = row[i].a ∧ r.x1 = row[i].b ∧ r.y1 = y) ↔ row = last := by
  rcases h.way with ⟨h1, h2, _⟩ | ⟨m, t, rfl, h2, h3, h4⟩
  · constructor
    · rintro ⟨k, _⟩
      have : row.length = 0 := by omega
      exact (hr (List.length_eq_zero_iff.1 this)).elim
    · intro k
      exact (hr (k.trans h1)).elim
  · have ho := h.out_eq
    rw [flat_app, flat_one] at ho
    have hl : out.length - fr = t.row.length := by rw [ho, h4]; simp [Bd.rects]
    have hg : ∀ i, out[fr + i]? = t.rects[i]? := fun i => by
      rw [ho, h4, List.getElem?_append_right (by omega), Nat.add_sub_cancel_left]
    constructor
    · rintro ⟨k1, k2⟩
      rw [← h2]
      refine List.ext_getElem (by omega) fun i hi hi' => ?_
      obtain ⟨r, e1, e2, e3, _⟩ := k2 i hi
      rw [hg i] at e1
      simp only [Bd.rects, List.getElem?_map, List.getElem?_eq_getElem hi', Option.map_some, Option.some.injEq] at e1
      subst e1
      simp only at e2 e3
      cases hrow : row[i]
      cases htrow : t.row[i]
      rw [hrow, htrow] at e2 e3
      simp only at e2 e3
      rw [e2, e3]
    · rintro rfl
      refine ⟨by rw [hl, h2], fun i hi => ⟨⟨row[i].a, t.y0, row[i].b, t.y1⟩, ?_, rfl, rfl, h3⟩⟩
      rw [hg i]
      have hi' : i < t.row.length := by rw [h2]; exact hi
      simp only [Bd.rects, List.getElem?_map, List.getElem?_eq_getElem hi', Option.map_some]
      simp only [h2]

/-! Numbers that rise: one more. -/

def putN (l : List Int) (n : Int) : List Int := l.filter (fun x => decide (x < n)) ++ [n] ++ l.filter (fun x => decide (n < x))
theorem putN_mem (l : List Int) (n x : Int) : x ∈ putN l n ↔ x = n ∨ x ∈ l := by
  unfold putN
  simp only [List.mem_append, List.mem_filter, decide_eq_true_eq, List.mem_singleton]
  constructor
  · rintro ((h | h) | h)
    · exact .inr h.1
    · exact .inl h
    · exact .inr h.1
  · rintro (h | h)
    · exact .inl (.inr h)
    · rcases Int.lt_trichotomy x n with h1 | h1 | h1
      · exact .inl (.inl ⟨h, h1⟩)
      · exact .inl (.inr h1)
      · exact .inr ⟨h, h1⟩
theorem putN_up {l : List Int} (h : Up l) (n : Int) : Up (putN l n) := by
  unfold putN Up
  rw [List.pairwise_append]
  refine ⟨?_, h.filter _, ?_⟩
  · rw [List.pairwise_append]
    refine ⟨h.filter _, by simp, fun a ha b hb => ?_⟩
    simp only [List.mem_filter, decide_eq_true_eq] at ha
    simp only [List.mem_singleton] at hb
    omega
  · intro a ha b hb
    simp only [List.mem_append, List.mem_filter, decide_eq_true_eq, List.mem_singleton] at ha hb
    omega

/-! Numbers in order, each once: by sorting and leaving out. -/

def Sorted (l : List Int) : Prop := l.Pairwise (· ≤ ·)
def compactP : List Int → List Int
  | [] => []
  | [x] => [x]
  | x :: y :: r => if x = y then compactP (y :: r) else x :: compactP (y :: r)
theorem compactP_mem : ∀ (l : List Int) (x : Int), x ∈ compactP l ↔ x ∈ l
  | [], x => Iff.rfl
  | [y], x => Iff.rfl
  | y :: z :: r, x => by
    rw [compactP]
    have ih := compactP_mem (z :: r) x
    split
    · rename_i h
      subst h
      rw [ih]
      simp
    · rw [List.mem_cons, ih, List.mem_cons (a := x) (b := y)]
theorem compactP_up : ∀ {l : List Int}, Sorted l → Up (compactP l)
  | [], _ => List.Pairwise.nil
  | [x], _ => List.pairwise_singleton _ _
  | x :: y :: r, h => by
    rw [compactP]
    have h2 := List.pairwise_cons.1 h
    split
    · exact compactP_up h2.2
    · rename_i hne
      refine List.pairwise_cons.2 ⟨fun z hz => ?_, compactP_up h2.2⟩
      rw [compactP_mem] at hz
      have h3 := h2.1 y (List.mem_cons_self ..)
      rcases List.mem_cons.1 hz with rfl | hz
      · omega
      · have := (List.pairwise_cons.1 h2.2).1 z hz
        omega

end Go.Reg

/- Regions: the way through the bands; areas; in plain numbers. -/
namespace Go.Reg

/-- The way through the bands, at the edge j. -/
structure RunB (a b : List Rt) (f : Bool → Bool → Bool) (ys : List Int) (j : Nat) (out : List Rt) (fr : Nat) (last : List Sp) : Prop where
  ex : ∃ acc y, ys[j]? = some y ∧ BInv (Pts a b f) acc y ∧ CodeB acc out fr last y

theorem RunB.start {a b : List Rt} {f : Bool → Bool → Bool} {ys : List Int} (hf : f false false = false) (hu : Up ys) (ha : YEdges ys a) (hb : YEdges ys b) (h : 0 < ys.length) : RunB a b f ys 0 [] 0 [] :=
  ⟨[], ys[0], List.getElem?_eq_getElem h, BInv.start _ _ fun x v hv => Pts.out hf (ha.below hu (List.getElem?_eq_getElem h) hv) (hb.below hu (List.getElem?_eq_getElem h) hv), CodeB.start _⟩

theorem RunB.binv {a b : List Rt} {f : Bool → Bool → Bool} {ys : List Int} {y0 y1 : Int} {j : Nat} (hu : Up ys) (ha : YEdges ys a) (hb : YEdges ys b) (h0 : ys[j]? = some y0) (h1 : ys[j + 1]? = some y1) {acc : List Bd} {row : List Sp} (h : BInv (Pts a b f) acc y0) (hc : Canon row) (hr : ∀ x, In row x ↔ Pts a b f x y0) : BInv (Pts a b f) (bandStep acc y0 y1 row) y1 :=
  h.step (hu.next h0 h1) hc hr fun _ _ k1 k2 => Pts.congr (ha.const hu h0 h1 k1 k2) (hb.const hu h0 h1 k1 k2)

theorem RunB.same {a b : List Rt} {f : Bool → Bool → Bool} {ys : List Int} {j : Nat} {out : List Rt} {fr : Nat} {last row : List Sp} {y0 y1 : Int} (h : RunB a b f ys j out fr last) (hu : Up ys) (ha : YEdges ys a) (hb : YEdges ys b) (h0 : ys[j]? = some y0) (h1 : ys[j + 1]? = some y1)
    (hc : Canon row) (hr : ∀ x, In row x ↔ Pts a b f x y0) (hne : row ≠ []) (he : row = last) : RunB a b f ys (j + 1) (out.take fr ++ (out.drop fr).map (setY1 y1)) fr last := by
  obtain ⟨acc, y, hy, k1, k2⟩ := h.ex
  rw [h0, Option.some.injEq] at hy
  subst hy
  exact ⟨_, y1, h1, RunB.binv hu ha hb h0 h1 k1 hc hr, k2.same (hu.next h0 h1) hne he⟩
theorem RunB.other {a b : List Rt} {f : Bool → Bool → Bool} {ys : List Int} {j : Nat} {out : List Rt} {fr : Nat} {last row : List Sp} {y0 y1 : Int} (h : RunB a b f ys j out fr last) (hu : Up ys) (ha : YEdges ys a) (hb : YEdges ys b) (h0 : ys[j]? = some y0) (h1 : ys[j + 1]? = some y1)
    (hc : Canon row) (hr : ∀ x, In row x ↔ Pts a b f x y0) (he : row = [] ∨ row ≠ last) : RunB a b f ys (j + 1) (out ++ row.map fun s => ⟨s.a, y0, s.b, y1⟩) out.length row := by
  obtain ⟨acc, y, hy, k1, k2⟩ := h.ex
  rw [h0, Option.some.injEq] at hy
  subst hy
  exact ⟨_, y1, h1, RunB.binv hu ha hb h0 h1 k1 hc hr, k2.other (hu.next h0 h1) he⟩
theorem RunB.test {a b : List Rt} {f : Bool → Bool → Bool} {ys : List Int} {j : Nat} {out : List Rt} {fr : Nat} {last row : List Sp} {y0 : Int} (h : RunB a b f ys j out fr last) (h0 : ys[j]? = some y0) (hr : row ≠ []) :
    (out.length - fr = row.length ∧ ∀ i, (hi : i < row.length) → ∃ r, out[fr + i]? = some r ∧ r.x0 = row[i].a ∧ r.x1 = row[i].b ∧ r.y1 = y0) ↔ row = last := by
  obtain ⟨acc, y, hy, k1, k2⟩ := h.ex
  rw [h0, Option.some.injEq] at hy
  subst hy
  exact k2.test hr
theorem CodeB.fr_le {acc : List Bd} {out : List Rt} {fr : Nat} {last : List Sp} {y : Int} (h : CodeB acc out fr last y) : fr ≤ out.length := by
  rcases h.way with ⟨_, h2, _⟩ | ⟨m, t, rfl, _, _, h4⟩
  · omega
  · rw [h.out_eq, flat_app, List.length_append]
    omega
theorem RunB.fr_le {a b : List Rt} {f : Bool → Bool → Bool} {ys : List Int} {j : Nat} {out : List Rt} {fr : Nat} {last : List Sp} (h : RunB a b f ys j out fr last) : fr ≤ out.length := by
  obtain ⟨acc, y, hy, k1, k2⟩ := h.ex
  exact k2.fr_le
theorem RunB.done {a b : List Rt} {f : Bool → Bool → Bool} {ys : List Int} {n : Nat} {out : List Rt} {fr : Nat} {last : List Sp} (h : RunB a b f ys n out fr last) (hf : f false false = false) (hu : Up ys) (ha : YEdges ys a) (hb : YEdges ys b) (hn : ys.length = n + 1) : RegOf out (Pts a b f) := by
  obtain ⟨acc, y, hy, k1, k2⟩ := h.ex
  obtain ⟨c, hin⟩ := k1.done fun x v hv => Pts.out hf (ha.above hu hn hy hv) (hb.above hu hn hy hv)
  exact ⟨acc, c, k2.out_eq, hin⟩
theorem reg_empty {a b : List Rt} {f : Bool → Bool → Bool} (hf : f false false = false) (ha : YEdges [] a) (hb : YEdges [] b) : RegOf [] (Pts a b f) :=
  ⟨[], trivial, rfl, fun x y => by
    have := Pts.out (f := f) hf (ha.none (x := x) (y := y)) (hb.none (x := x) (y := y))
    simp [In2.nil, this]⟩

/-! Areas. -/

/-- How many of the n points from L on. -/
def cnt (p : Int → Prop) [DecidablePred p] (L : Int) : Nat → Int
  | 0 => 0
  | n + 1 => cnt p L n + if p (L + n) then 1 else 0

theorem cnt_add (p q : Int → Prop) [DecidablePred p] [DecidablePred q] (r s : Int → Prop) [DecidablePred r] [DecidablePred s] (L : Int) (h : ∀ x, (if p x then (1 : Int) else 0) + (if q x then 1 else 0) = (if r x then 1 else 0) + (if s x then 1 else 0)) : ∀ n, cnt p L n + cnt q L n = cnt r L n + cnt s L n
  | 0 => rfl
  | n + 1 => by
    have ih := cnt_add p q r s L h n
    have := h (L + n)
    simp only [cnt]
    omega
theorem cnt_congr {p q : Int → Prop} [DecidablePred p] [DecidablePred q] (L : Int) (h : ∀ x, p x ↔ q x) : ∀ n, cnt p L n = cnt q L n
  | 0 => rfl
  | n + 1 => by
    simp only [cnt, cnt_congr L h n]
    by_cases hp : p (L + n)
    · rw [if_pos hp, if_pos ((h _).1 hp)]
    · rw [if_neg hp, if_neg (fun k => hp ((h _).2 k))]
theorem cnt_none {p : Int → Prop} [DecidablePred p] (L : Int) (h : ∀ x, ¬ p x) : ∀ n, cnt p L n = 0
  | 0 => rfl
  | n + 1 => by simp only [cnt, cnt_none L h n, if_neg (h _)]; rfl
theorem cnt_nonneg (p : Int → Prop) [DecidablePred p] (L : Int) : ∀ n, 0 ≤ cnt p L n
  | 0 => Int.le_refl _
  | n + 1 => by
    have := cnt_nonneg p L n
    simp only [cnt]
    split <;> omega

/-- Points of one span. -/
theorem cnt_span (a b L : Int) (hL : L ≤ a) (hab : a ≤ b) : ∀ n : Nat, cnt (fun x => a ≤ x ∧ x < b) L n = max 0 (min b (L + n) - a)
  | 0 => by simp only [cnt]; omega
  | n + 1 => by
    have ih := cnt_span a b L hL hab n
    simp only [cnt, ih]
    split <;> omega

/-- So many points as spans are long. -/
def wide (l : List Sp) : Int := (l.map fun s => s.b - s.a).sum
theorem cnt_row {l : List Sp} (h : Canon l) (L : Int) (n : Nat) (hL : ∀ s ∈ l, L ≤ s.a ∧ s.b ≤ L + n) : cnt (fun x => In l x) L n = wide l := by
  induction l with
  | nil => rw [cnt_none L fun x => In.nil x]; rfl
  | cons s r ih =>
    have hs := h.head
    have h1 := cnt_span s.a s.b L (hL s (List.mem_cons_self ..)).1 (by omega) n
    have h2 := ih h.tail fun t ht => hL t (List.mem_cons_of_mem _ ht)
    have h3 := cnt_add (fun x => In (s :: r) x) (fun _ => False) (fun x => s.a ≤ x ∧ x < s.b) (fun x => In r x) L (fun x => by
      have hc := In.cons s r x
      by_cases k1 : s.a ≤ x ∧ x < s.b
      · have k2 : ¬ In r x := fun k => by have := h.in_beyond k; omega
        rw [if_pos (hc.2 (.inl k1)), if_pos k1, if_neg k2]
        simp
      · by_cases k2 : In r x
        · rw [if_pos (hc.2 (.inr k2)), if_neg k1, if_pos k2]
          simp
        · rw [if_neg (fun k => (hc.1 k).elim k1 k2), if_neg k1, if_neg k2]
          simp) n
    rw [cnt_none (p := fun _ => False) L fun x h => h] at h3
    have h4 := (hL s (List.mem_cons_self ..)).2
    rw [wide, List.map_cons, List.sum_cons]
    have h5 : (r.map fun s => s.b - s.a).sum = wide r := rfl
    rw [h5]
    omega

/-- How many of m rows of n points. -/
def cnt2 (p : Int → Int → Prop) [∀ x y, Decidable (p x y)] (L : Int) (n : Nat) : Nat → Int
  | 0 => 0
  | m + 1 => cnt2 p L n m + cnt (fun x => p x (L + m)) L n

theorem cnt2_add (p q r s : Int → Int → Prop) [∀ x y, Decidable (p x y)] [∀ x y, Decidable (q x y)] [∀ x y, Decidable (r x y)] [∀ x y, Decidable (s x y)] (L : Int) (n : Nat)
    (h : ∀ x y, (if p x y then (1 : Int) else 0) + (if q x y then 1 else 0) = (if r x y then 1 else 0) + (if s x y then 1 else 0)) : ∀ m, cnt2 p L n m + cnt2 q L n m = cnt2 r L n m + cnt2 s L n m
  | 0 => rfl
  | m + 1 => by
    have ih := cnt2_add p q r s L n h m
    have := cnt_add (fun x => p x (L + m)) (fun x => q x (L + m)) (fun x => r x (L + m)) (fun x => s x (L + m)) L (fun x => h x _) n
    simp only [cnt2]
    omega
theorem cnt2_none {p : Int → Int → Prop} [∀ x y, Decidable (p x y)] (L : Int) (n : Nat) (h : ∀ x y, ¬ p x y) : ∀ m, cnt2 p L n m = 0
  | 0 => rfl
  | m + 1 => by simp only [cnt2, cnt2_none L n h m, cnt_none (p := fun x => p x (L + m)) L (fun x => h x _)]; rfl
theorem cnt2_nonneg (p : Int → Int → Prop) [∀ x y, Decidable (p x y)] (L : Int) (n : Nat) : ∀ m, 0 ≤ cnt2 p L n m
  | 0 => Int.le_refl _
  | m + 1 => by
    have h1 := cnt2_nonneg p L n m
    have h2 := cnt_nonneg (fun x => p x (L + m)) L n
    simp only [cnt2]
    omega
theorem cnt2_congr {p q : Int → Int → Prop} [∀ x y, Decidable (p x y)] [∀ x y, Decidable (q x y)] (L : Int) (n : Nat) (h : ∀ x y, p x y ↔ q x y) : ∀ m, cnt2 p L n m = cnt2 q L n m
  | 0 => rfl
  | m + 1 => by simp only [cnt2, cnt2_congr L n h m, cnt_congr (p := fun x => p x (L + m)) (q := fun x => q x (L + m)) L (fun x => h x _)]

instance (l : List Bd) (x y : Int) : Decidable (In2 l x y) := by unfold In2; infer_instance

theorem cnt2_band (y0 y1 : Int) {row : List Sp} (hc : Canon row) (L : Int) (n : Nat) (hr : ∀ s ∈ row, L ≤ s.a ∧ s.b ≤ L + n) (hL : L ≤ y0) (h01 : y0 ≤ y1) : ∀ m : Nat, cnt2 (fun x y => y0 ≤ y ∧ y < y1 ∧ In row x) L n m = max 0 (min y1 (L + m) - y0) * wide row
  | 0 => by
    have : max 0 (min y1 (L + (0 : Nat)) - y0) = 0 := by omega
    rw [this, Int.zero_mul]
    rfl
  | m + 1 => by
    have ih := cnt2_band y0 y1 hc L n hr hL h01 m
    simp only [cnt2, ih]
    by_cases hm : y0 ≤ L + m ∧ L + m < y1
    · rw [cnt_congr (q := fun x => In row x) L (fun x => by simp [hm]), cnt_row hc L n hr]
      have : max 0 (min y1 (L + ((m + 1 : Nat) : Int)) - y0) = max 0 (min y1 (L + m) - y0) + 1 := by omega
      rw [this, Int.add_mul, Int.one_mul]
    · rw [cnt_none (p := fun x => y0 ≤ L + m ∧ L + m < y1 ∧ In row x) L (fun x h => hm ⟨h.1, h.2.1⟩), Int.add_zero]
      congr 1
      omega

def Rt.area (r : Rt) : Int := (r.x1 - r.x0) * (r.y1 - r.y0)
def total (l : List Rt) : Int := (l.map Rt.area).sum

theorem total_app (a b : List Rt) : total (a ++ b) = total a + total b := by simp [total]
theorem total_band (b : Bd) : total b.rects = (b.y1 - b.y0) * wide b.row := by
  unfold Bd.rects total wide
  rw [List.map_map]
  generalize b.row = l
  induction l with
  | nil => simp
  | cons s r ih =>
    simp only [List.map_cons, List.sum_cons, Function.comp, Rt.area] at ih ⊢
    rw [ih, Int.mul_add, Int.mul_comm]

theorem total_flat {B : List Bd} (h : Canon2 B) (L : Int) (n : Nat) (hr : ∀ b ∈ B, (∀ s ∈ b.row, L ≤ s.a ∧ s.b ≤ L + n) ∧ L ≤ b.y0 ∧ b.y1 ≤ L + n) : total (flat B) = cnt2 (fun x y => In2 B x y) L n n := by
  induction B with
  | nil => rw [cnt2_none L n fun x y => In2.nil x y]; rfl
  | cons b r ih =>
    have hb := h.head
    obtain ⟨h1, h2, h3⟩ := hr b (List.mem_cons_self ..)
    have k1 := cnt2_band b.y0 b.y1 hb.canon L n h1 h2 (Int.le_of_lt hb.lt) n
    have k2 := ih h.tail fun t ht => hr t (List.mem_cons_of_mem _ ht)
    have k3 := cnt2_add (fun x y => In2 (b :: r) x y) (fun _ _ => False) (fun x y => b.y0 ≤ y ∧ y < b.y1 ∧ In b.row x) (fun x y => In2 r x y) L n (fun x y => by
      have hc := In2.cons b r x y
      by_cases j1 : b.y0 ≤ y ∧ y < b.y1 ∧ In b.row x
      · have j2 : ¬ In2 r x y := fun k => by have := h.in_beyond k; omega
        rw [if_pos (hc.2 (.inl j1)), if_pos j1, if_neg j2]
        simp
      · by_cases j2 : In2 r x y
        · rw [if_pos (hc.2 (.inr j2)), if_neg j1, if_pos j2]
          simp
        · rw [if_neg (fun k => (hc.1 k).elim j1 j2), if_neg j1, if_neg j2]
          simp) n
    rw [cnt2_none (p := fun _ _ => False) L n fun x y h => h] at k3
    have h4 : max 0 (min b.y1 (L + n) - b.y0) = b.y1 - b.y0 := by have := hb.lt; omega
    rw [h4] at k1
    have h5 : total (flat (b :: r)) = (b.y1 - b.y0) * wide b.row + total (flat r) := by
      rw [flat, List.flatMap_cons, total_app, total_band]
      rfl
    rw [h5]
    omega

end Go.Reg

/- Regions: what regions come to, and their areas, in plain numbers. -/
namespace Go.Reg

def orF (p q : Bool) : Bool := p || q
def andF (p q : Bool) : Bool := p && q
def cutF (p q : Bool) : Bool := p && !q

theorem pts_or (a b : List Rt) (x y : Int) : Pts a b orF x y ↔ Has a x y ∨ Has b x y := by simp [Pts, orF]
theorem pts_and (a b : List Rt) (x y : Int) : Pts a b andF x y ↔ Has a x y ∧ Has b x y := by simp [Pts, andF]
theorem pts_cut (a b : List Rt) (x y : Int) : Pts a b cutF x y ↔ Has a x y ∧ ¬ Has b x y := by simp [Pts, cutF]

/-- A region that is what it comes to. -/
theorem RegOf.self {a : List Rt} {o : List Rt} (h : RegOf o (Pts a [] orF)) (he : a = o) : RegOf a (fun x y => Has a x y) := by
  obtain ⟨B, c, e, i⟩ := h.ex
  exact ⟨B, c, he.trans e, fun x y => by rw [i, pts_or]; simp [Has.nil]⟩
theorem RegOf.imp {o : List Rt} {p q : Int → Int → Prop} (h : RegOf o p) (hq : ∀ x y, p x y ↔ q x y) : RegOf o q := by
  obtain ⟨B, c, e, i⟩ := h.ex
  exact ⟨B, c, e, fun x y => (i x y).trans (hq x y)⟩
theorem RegOf.nil_of {o : List Rt} {p : Int → Int → Prop} (h : RegOf o p) (hp : ∀ x y, ¬ p x y) : o = [] :=
  RegOf.uniq h (q := fun _ _ => False) ⟨[], trivial, rfl, fun x y => by simp [In2.nil]⟩ fun x y => by simp [hp x y]
theorem RegOf.some {o : List Rt} {p : Int → Int → Prop} (h : RegOf o p) : ∀ r ∈ o, r.Some := by
  obtain ⟨B, c, rfl, _⟩ := h.ex
  intro r hr
  unfold flat at hr
  obtain ⟨b, hb, hr⟩ := List.mem_flatMap.1 hr
  obtain ⟨s, hs, rfl⟩ := List.mem_map.1 hr
  have hok : ∀ {B : List Bd}, Canon2 B → ∀ b ∈ B, b.Ok := by
    intro B
    induction B with
    | nil => intro _ b hb; cases hb
    | cons t r ih =>
      intro hc b hb
      rcases List.mem_cons.1 hb with rfl | hb
      · exact hc.head
      · exact ih hc.tail b hb
  have ho := hok c b hb
  have hsp : ∀ {l : List Sp}, Canon l → ∀ s ∈ l, s.a < s.b := by
    intro l
    induction l with
    | nil => intro _ s hs; cases hs
    | cons t r ih =>
      intro hc s hs
      rcases List.mem_cons.1 hs with rfl | hs
      · exact hc.head
      · exact ih hc.tail s hs
  exact ⟨hsp ho.canon s hs, ho.lt⟩

theorem bounds (B : List Bd) : ∃ K : Nat, ∀ b ∈ B, (∀ s ∈ b.row, -(K : Int) ≤ s.a ∧ s.b ≤ K) ∧ -(K : Int) ≤ b.y0 ∧ b.y1 ≤ K := by
  have rowB : ∀ l : List Sp, ∃ K : Nat, ∀ s ∈ l, -(K : Int) ≤ s.a ∧ s.b ≤ K := by
    intro l
    induction l with
    | nil => exact ⟨0, fun s hs => by cases hs⟩
    | cons s r ih =>
      obtain ⟨K, hK⟩ := ih
      refine ⟨K + s.a.natAbs + s.b.natAbs, fun t ht => ?_⟩
      rcases List.mem_cons.1 ht with rfl | ht
      · omega
      · have := hK t ht
        omega
  induction B with
  | nil => exact ⟨0, fun b hb => by cases hb⟩
  | cons b r ih =>
    obtain ⟨K, hK⟩ := ih
    obtain ⟨M, hM⟩ := rowB b.row
    refine ⟨K + M + b.y0.natAbs + b.y1.natAbs, fun t ht => ?_⟩
    rcases List.mem_cons.1 ht with rfl | ht
    · exact ⟨fun s hs => by have := hM s hs; omega, by omega, by omega⟩
    · obtain ⟨h1, h2, h3⟩ := hK t ht
      exact ⟨fun s hs => by have := h1 s hs; omega, by omega, by omega⟩

/-- A region's points, counted in a square that has it. -/
theorem RegOf.count {o : List Rt} {p : Int → Int → Prop} [∀ x y, Decidable (p x y)] (h : RegOf o p) : ∃ K : Nat, ∀ k : Nat, K ≤ k → total o = cnt2 p (-(k : Int)) (2 * k) (2 * k) := by
  obtain ⟨B, c, rfl, i⟩ := h.ex
  obtain ⟨K, hK⟩ := bounds B
  refine ⟨K, fun k hk => ?_⟩
  rw [total_flat c (-(k : Int)) (2 * k) fun b hb => ?_, cnt2_congr _ _ i]
  obtain ⟨h1, h2, h3⟩ := hK b hb
  exact ⟨fun s hs => by have := h1 s hs; omega, by omega, by omega⟩

theorem RegOf.nonneg {o : List Rt} {p : Int → Int → Prop} [∀ x y, Decidable (p x y)] (h : RegOf o p) : 0 ≤ total o := by
  obtain ⟨K, hK⟩ := h.count
  rw [hK K (Nat.le_refl _)]
  exact cnt2_nonneg _ _ _ _

/-- Areas add up. -/
theorem RegOf.add {o1 o2 o3 o4 : List Rt} {p q r s : Int → Int → Prop} [∀ x y, Decidable (p x y)] [∀ x y, Decidable (q x y)] [∀ x y, Decidable (r x y)] [∀ x y, Decidable (s x y)] (h1 : RegOf o1 p) (h2 : RegOf o2 q) (h3 : RegOf o3 r) (h4 : RegOf o4 s)
    (h : ∀ x y, (if p x y then (1 : Int) else 0) + (if q x y then 1 else 0) = (if r x y then 1 else 0) + (if s x y then 1 else 0)) : total o1 + total o2 = total o3 + total o4 := by
  obtain ⟨K1, k1⟩ := h1.count
  obtain ⟨K2, k2⟩ := h2.count
  obtain ⟨K3, k3⟩ := h3.count
  obtain ⟨K4, k4⟩ := h4.count
  have e1 := k1 (K1 + K2 + K3 + K4) (by omega)
  have e2 := k2 (K1 + K2 + K3 + K4) (by omega)
  have e3 := k3 (K1 + K2 + K3 + K4) (by omega)
  have e4 := k4 (K1 + K2 + K3 + K4) (by omega)
  rw [e1, e2, e3, e4]
  exact cnt2_add p q r s _ _ h _

theorem reg_none : RegOf [] (fun _ _ => False) := ⟨[], trivial, rfl, fun x y => by simp [In2.nil]⟩

/-- The areas of what two regions come to. -/
theorem areas {a b m one j : List Rt} (ha : RegOf a (fun x y => Has a x y)) (hb : RegOf b (fun x y => Has b x y)) (hm : RegOf m (Pts a b andF)) (ho : RegOf one (Pts a b cutF)) (hj : RegOf j (Pts a b orF)) :
    total m + total one = total a ∧ total j + total m = total a + total b ∧ 0 ≤ total m ∧ 0 ≤ total one ∧ 0 ≤ total a ∧ 0 ≤ total b ∧ total a ≤ total j ∧ total b ≤ total j := by
  have e1 := hm.add ho ha reg_none fun x y => by
    simp only [pts_and, pts_cut]
    by_cases h1 : Has a x y <;> by_cases h2 : Has b x y <;> simp [h1, h2]
  have e2 := hj.add hm ha hb fun x y => by
    simp only [pts_and, pts_or]
    by_cases h1 : Has a x y <;> by_cases h2 : Has b x y <;> simp [h1, h2]
  have z : total [] = 0 := rfl
  have n1 := hm.nonneg
  have n2 := ho.nonneg
  have n3 := ha.nonneg
  have n4 := hb.nonneg
  -- m is a part of a, and of b
  obtain ⟨K, hK⟩ := (RegOf.imp hm (q := fun x y => Has a x y ∧ Has b x y) (pts_and a b)).count
  obtain ⟨K2, hK2⟩ := hb.count
  have part : total m ≤ total b := by
    have d1 := hK (K + K2) (by omega)
    have d2 := hK2 (K + K2) (by omega)
    have d3 := cnt2_add (fun x y => Has b x y) (fun _ _ => False) (fun x y => Has a x y ∧ Has b x y) (fun x y => ¬ Has a x y ∧ Has b x y) (-((K + K2 : Nat) : Int)) (2 * (K + K2)) (fun x y => by
      by_cases h1 : Has a x y <;> by_cases h2 : Has b x y <;> simp [h1, h2]) (2 * (K + K2))
    have d4 := cnt2_nonneg (fun x y => ¬ Has a x y ∧ Has b x y) (-((K + K2 : Nat) : Int)) (2 * (K + K2)) (2 * (K + K2))
    rw [cnt2_none (p := fun _ _ => False) _ _ fun x y h => h] at d3
    omega
  refine ⟨by omega, by omega, n1, n2, n3, n4, by omega, by omega⟩

/-! Areas as they are told. -/

def maxArea : Int := 2305843009213693952
/-- A rectangle's area, as far as it is told. -/
def areaP (r : Rt) : Int := if r.Some then (if maxArea / (r.y1 - r.y0) < r.x1 - r.x0 then maxArea else (r.x1 - r.x0) * (r.y1 - r.y0)) else 0
theorem areaP_eq {r : Rt} (h : r.Some) : areaP r = min r.area maxArea := by
  unfold areaP
  rw [if_pos h]
  have hy : 0 < r.y1 - r.y0 := by have := h.2; omega
  unfold Rt.area
  split
  · rename_i h1
    have := (Int.ediv_lt_iff_lt_mul hy).1 h1
    omega
  · rename_i h1
    have h2 : ¬ maxArea < (r.x1 - r.x0) * (r.y1 - r.y0) := fun k => h1 ((Int.ediv_lt_iff_lt_mul hy).2 k)
    omega
def areasP (l : List Rt) : Int := l.foldl (fun n r => min (n + areaP r) maxArea) 0
theorem area_pos {r : Rt} (h : r.Some) : 0 < r.area := by
  unfold Rt.area
  exact Int.mul_pos (by have := h.1; omega) (by have := h.2; omega)
theorem areas_run : ∀ (l : List Rt) (n t : Int), (∀ r ∈ l, r.Some) → 0 ≤ t → n = min t maxArea → l.foldl (fun n r => min (n + areaP r) maxArea) n = min (t + total l) maxArea
  | [], n, t, _, _, h => by simp [total, h]
  | r :: l, n, t, hs, ht, h => by
    have hr := hs r (List.mem_cons_self ..)
    have hp := area_pos hr
    rw [List.foldl_cons, areas_run l _ (t + r.area) (fun x hx => hs x (List.mem_cons_of_mem _ hx)) (by omega) (by
      rw [areaP_eq hr, h]
      unfold maxArea
      omega)]
    simp only [total, List.map_cons, List.sum_cons]
    congr 1
    omega
theorem areasP_eq {l : List Rt} (h : ∀ r ∈ l, r.Some) : areasP l = min (total l) maxArea := by
  unfold areasP
  rw [areas_run l 0 0 h (Int.le_refl _) (by unfold maxArea; omega), Int.zero_add]
theorem areasP_take_le (l : List Rt) (h : ∀ r ∈ l, r.Some) : 0 ≤ areasP l ∧ areasP l ≤ maxArea := by
  rw [areasP_eq h]
  have tn : ∀ l : List Rt, (∀ r ∈ l, r.Some) → 0 ≤ total l := by
    intro l h
    induction l with
    | nil => exact Int.le_refl _
    | cons r l ih =>
      have h1 := area_pos (h r (List.mem_cons_self ..))
      have h2 := ih fun x hx => h x (List.mem_cons_of_mem _ hx)
      have : total (r :: l) = r.area + total l := by simp [total]
      omega
  have := tn l h
  unfold maxArea
  omega

end Go.Reg

