/- What comes in, opened: from the reading of an argument to the plain words on memory. -/
import Derived.Test.YtnamnmipgpcjjaaMod
import Derived.Deep.Slices
import Derived.Deep.Fields
import Derived.Deep.OwnShut
import Derived.Lib.SmallJoins
import Derived.ChangeSame
import Derived.ProofKit
import Derived.OpenShut
namespace Go.Gou
open Go.RowKit Go.ChangeShapes Go.WideShapes Go.Deep Go.Joins

section
variable {H : Type} {enc : TypeId × Value → H} {P : Program} {w : World} {base : Nat} {spare : Nat → Bool} {held : Bool}

theorem open_slice_fields {t e : TypeId} {fs : Array Field} {fuel : Nat} {cs : List Value} {x : DataW H × List MemPlace} (ht : P.underlying t = some (.slice e)) (he : P.underlying e = some (.struct fs))
    (hone : oneCellFields P fs = true) (hC : P.cellsOf e = fs.size) (h : DataW.trod enc P w base spare held fuel t cs = some x) :
    (cs = [.slice none 0 0] ∧ x = (.nil, [])) ∨
    ∃ (a : Addr) (len cap m : Nat) (D : Nat → DataW H) (Pl : Nat → List MemPlace), cs = [.slice (some a) len cap] ∧ base ≤ a.block ∧ len ≤ cap ∧ cap ≤ maxLen ∧ m = (if spare a.block then cap else len) ∧
      x = (.slice ((List.range len).map D) ((List.range (m - len)).map fun j => D (len + j)), MemPlace.row a (m * fs.size) ++ (List.range m).flatMap Pl) ∧
      ∀ i, i < m → ∃ (ys : List (DataW H × List MemPlace)) (n : Nat), D i = .agg (ys.map (·.1)) ∧ Pl i = ys.flatMap (·.2) ∧ ys.length = fs.size ∧
        ∀ (j : Nat) (f : Field), fs[j]? = some f → ∃ (v : Value) (y : DataW H × List MemPlace), w.cell? (a.add (i * fs.size + j)) = some v ∧ ys[j]? = some y ∧ DataW.trod enc P w base spare held n f.type [v] = some y := by
  rcases open_slice ht h with h0 | ⟨a, len, cap, m, n, D, Pl, hcs, hb, hl, hm, hmm, hx, hi⟩
  · exact .inl h0
  · refine .inr ⟨a, len, cap, m, D, Pl, hcs, hb, hl, hm, hmm, by rw [hC] at hx; exact hx, fun i him => ?_⟩
    obtain ⟨cs', hc, ht'⟩ := hi i him
    rw [hC] at hc
    obtain ⟨ys, n', hn', hy, hlen, hyl, hf⟩ := DataW.trod_struct he ht'
    obtain ⟨_, hcl, hat⟩ := World.cells?_some hc
    simp only [Prod.mk.injEq] at hy
    refine ⟨ys, n', hy.1, hy.2, hyl, fun j f hj => ?_⟩
    obtain ⟨ho, hk⟩ := hone_of hone j f hj
    have hjl : j < fs.size := (Array.getElem?_eq_some_iff.1 hj).1
    have hcell := hat j hjl
    have hv : cs'[j]? = some (cs'[j]'(by omega)) := List.getElem?_eq_getElem (by omega)
    have h1 := hf j f hj
    rw [ho, hk] at h1
    have hone' : (cs'.drop j).take 1 = [cs'[j]'(by omega)] := by
      rw [List.drop_eq_getElem_cons (by omega)]
      rfl
    rw [hone'] at h1
    have hys : ys[j]? = some (ys[j]'(by omega)) := List.getElem?_eq_getElem (by omega)
    refine ⟨_, _, ?_, hys, h1.trans hys⟩
    rw [← Go.Deep.add_add, hcell, hv]

/-- A slice of ints. -/
theorem open_ints_at {t e : TypeId} {fuel : Nat} {v : Value} {x : DataW H × List MemPlace} (ht : P.underlying t = some (.slice e)) (he : P.underlying e = some (.int .i64)) (hc : P.cellsOf e = 1)
    (h : DataW.trod enc P w base spare held fuel t [v] = some x) : ∃ xs, IntsAt w.heap.size w v xs ∧ (∀ y ∈ xs, (Lit.int .i64 y).wf = true) ∧ xs.length ≤ maxLen := by
  rcases open_slice1 ht hc h with ⟨hcs, _⟩ | ⟨a, len, cap, m, n, V, D, Pl, hcs, _, hl, hm, hmm, _, hi⟩
  · obtain rfl : v = .slice none 0 0 := by simpa using hcs
    exact ⟨[], ⟨none, 0, rfl, Nat.le_refl _, .inl rfl⟩, by simp, by simp⟩
  · obtain rfl : v = .slice (some a) len cap := by simpa using hcs
    have hlm : len ≤ m := by rw [hmm]; split <;> omega
    have hint : ∀ i, i < len → ∃ q : Int, V i = .int .i64 q ∧ (Lit.int .i64 q).wf = true := by
      intro i hil
      obtain ⟨_, ht'⟩ := hi i (by omega)
      obtain ⟨q, hq, _, hw⟩ := DataW.trod_int he ht'
      simp at hq
      exact ⟨q, hq, hw⟩
    obtain ⟨f, hf⟩ := choose_lt (p := fun i (q : Int) => V i = .int .i64 q ∧ (Lit.int .i64 q).wf = true) hint
    refine ⟨(List.range len).map f, ?_, ?_, by simp; omega⟩
    · by_cases h0 : len = 0
      · subst h0
        exact ⟨some a, cap, rfl, by simp, .inl rfl⟩
      · obtain ⟨b, o, sp⟩ := a
        have hsp : sp = none := by
          have := World.cell?_spot (hi 0 (by omega)).1
          simpa [Addr.add] using this
        subst hsp
        refine ⟨_, cap, by simp, by simpa using hl, .inr ⟨b, o, rfl, ?_, ?_⟩⟩
        · have := World.block_lt_of_cell? w _ (hi 0 (by omega)).1
          simpa [Addr.add] using this
        · intro i hil
          have hil' : i < len := by simpa using hil
          have h1 := (hi i (by omega)).1
          rw [add_plain] at h1
          rw [h1, (hf i hil').1]
          simp
    · intro y hy
      simp at hy
      obtain ⟨i, hil, rfl⟩ := hy
      exact (hf i hil).2

/-- What a node's fields are. -/
structure NodeT (P : Program) (e : TypeId) (fs : Array Field) (ti tn : TypeId) : Prop where
  ty : P.underlying e = some (.struct fs)
  one : oneCellFields P fs = true
  cells : P.cellsOf e = fs.size
  size : fs.size = 3
  f0 : ∃ f, fs[0]? = some f ∧ P.underlying f.type = some (.int .i64)
  f1 : ∃ f, fs[1]? = some f ∧ P.underlying f.type = some (.slice tn)
  f2 : ∃ f, fs[2]? = some f ∧ P.underlying f.type = some (.slice tn)
  tint : P.underlying tn = some (.int .i64)
  tc : P.cellsOf tn = 1

/-- A node's numbers are numbers of the machine. -/
structure NodeWf (n : GNode) : Prop where
  op : (Lit.int .i64 n.op).wf = true
  ins : ∀ x ∈ n.ins, (Lit.int .i64 x).wf = true
  ps : ∀ x ∈ n.ps, (Lit.int .i64 x).wf = true
  insl : n.ins.length ≤ maxLen
  psl : n.ps.length ≤ maxLen

instance : Inhabited GNode := ⟨⟨0, [], []⟩⟩

/-- A slice of nodes. -/
theorem open_nodes_at {t e ti tn : TypeId} {fs : Array Field} {fuel : Nat} {v : Value} {x : DataW H × List MemPlace} (N : NodeT P e fs ti tn) (ht : P.underlying t = some (.slice e))
    (h : DataW.trod enc P w base spare held fuel t [v] = some x) : ∃ ns, NodesAt w.heap.size w v ns ∧ (∀ n ∈ ns, NodeWf n) ∧ ns.length ≤ maxLen := by
  rcases open_slice_fields ht N.ty N.one N.cells h with ⟨hcs, _⟩ | ⟨a, len, cap, m, D, Pl, hcs, _, hl, hm, hmm, _, hi⟩
  · obtain rfl : v = .slice none 0 0 := by simpa using hcs
    exact ⟨[], ⟨none, 0, rfl, Nat.le_refl _, .inl rfl⟩, by simp, by simp⟩
  · obtain rfl : v = .slice (some a) len cap := by simpa using hcs
    have hlm : len ≤ m := by rw [hmm]; split <;> omega
    have hnode : ∀ i, i < len → ∃ n : GNode, NodeWf n ∧ ∃ vi vp, w.cell? (a.add (i * 3)) = some (.int .i64 n.op) ∧ w.cell? (a.add (i * 3 + 1)) = some vi ∧ w.cell? (a.add (i * 3 + 2)) = some vp ∧ IntsAt w.heap.size w vi n.ins ∧ IntsAt w.heap.size w vp n.ps := by
      intro i hil
      obtain ⟨ys, k, _, _, _, hf⟩ := hi i (by omega)
      rw [N.size] at hf
      obtain ⟨f0, h0, t0⟩ := N.f0
      obtain ⟨f1, h1, t1⟩ := N.f1
      obtain ⟨f2, h2, t2⟩ := N.f2
      obtain ⟨v0, y0, c0, _, r0⟩ := hf 0 f0 h0
      obtain ⟨v1, y1, c1, _, r1⟩ := hf 1 f1 h1
      obtain ⟨v2, y2, c2, _, r2⟩ := hf 2 f2 h2
      obtain ⟨q, hq, _, hw⟩ := DataW.trod_int t0 r0
      obtain rfl : v0 = .int .i64 q := by simpa using hq
      obtain ⟨ins, hi1, hw1, hl1⟩ := open_ints_at t1 N.tint N.tc r1
      obtain ⟨ps, hi2, hw2, hl2⟩ := open_ints_at t2 N.tint N.tc r2
      exact ⟨⟨q, ins, ps⟩, ⟨hw, hw1, hw2, hl1, hl2⟩, v1, v2, by simpa using c0, c1, c2, hi1, hi2⟩
    obtain ⟨f, hf⟩ := choose_lt (p := fun i (n : GNode) => NodeWf n ∧ ∃ vi vp, w.cell? (a.add (i * 3)) = some (.int .i64 n.op) ∧ w.cell? (a.add (i * 3 + 1)) = some vi ∧ w.cell? (a.add (i * 3 + 2)) = some vp ∧ IntsAt w.heap.size w vi n.ins ∧ IntsAt w.heap.size w vp n.ps) hnode
    refine ⟨(List.range len).map f, ?_, ?_, by simp; omega⟩
    · by_cases h0 : len = 0
      · subst h0
        exact ⟨some a, cap, rfl, by simp, .inl rfl⟩
      · obtain ⟨b, o, sp⟩ := a
        obtain ⟨_, _, _, hc0, _⟩ := hf 0 (by omega)
        have hsp : sp = none := by
          have := World.cell?_spot hc0
          simpa [Addr.add] using this
        subst hsp
        refine ⟨_, cap, by simp, by simpa using hl, .inr ⟨b, o, rfl, ?_, ?_⟩⟩
        · have := World.block_lt_of_cell? w _ hc0
          simpa [Addr.add] using this
        · intro i hil
          have hil' : i < len := by simpa using hil
          obtain ⟨_, vi, vp, k0, k1, k2, r1, r2⟩ := hf i hil'
          rw [add_plain] at k0 k1 k2
          refine ⟨vi, vp, ?_, by rw [Nat.add_assoc]; exact k1, by rw [Nat.add_assoc]; exact k2, by simpa using r1, by simpa using r2⟩
          rw [k0]
          simp
    · intro n hn
      simp at hn
      obtain ⟨i, hil, rfl⟩ := hn
      exact (hf i hil).1

end

end Go.Gou
