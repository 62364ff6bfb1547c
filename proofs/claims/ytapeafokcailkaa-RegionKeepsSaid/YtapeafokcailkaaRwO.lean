/- What comes in, opened: rows of rectangles. -/
import Derived.Test.YtapeafokcailkaaRwA
import Derived.Test.YtapeafokcailkaaRgH
import Derived.Deep.Slices
import Derived.Deep.Fields
import Derived.Deep.OwnShut
import Derived.Lib.SmallJoins
import Derived.ChangeSame
import Derived.ProofKit
import Derived.OpenShut
set_option linter.unusedSimpArgs false
set_option linter.unusedVariables false
set_option linter.unusedSectionVars false
set_option linter.constructorNameAsVariable false
namespace Go.Gou
open Go.RowKit Go.ChangeShapes Go.WideShapes Go.Deep Go.Joins Go.Reg

section
variable {H : Type} {enc : TypeId × Value → H} {P : Program} {w : World} {base : Nat} {spare : Nat → Bool} {held : Bool}

theorem open_slice_fields {t e : TypeId} {fs : Array Field} {fuel : Nat} {cs : List Value} {x : DataW H × List MemPlace} (ht : P.underlying t = some (.slice e)) (he : P.underlying e = some (.struct fs))
    (hone : oneCellFields P fs = true) (hC : P.cellsOf e = fs.size) (h : DataW.trod enc P w base spare held fuel t cs = some x) :
    (cs = [.slice none 0 0] ∧ x = (.nil, [])) ∨
    ∃ (a : Addr) (len cap m : Nat) (D : Nat → DataW H) (Pl : Nat → List MemPlace), cs = [.slice (some a) len cap] ∧ base ≤ a.block ∧ len ≤ cap ∧ cap ≤ maxLen ∧ m = (if spare a.block then cap else len) ∧
      x = (.slice ((List.range len).map D) ((List.range (m - len)).map fun j => D (len + j)), MemPlace.row a (m * fs.size) ++ (List.range m).flatMap Pl) ∧
      ∀ i, i < m → ∃ (ys : List (DataW H × List MemPlace)) (n : Nat), D i = .agg (ys.map (·.1)) ∧ Pl i = ys.flatMap (·.2) ∧ ys.length = fs.size ∧
        ∀ (j : Nat) (f : Field), fs[j]? = some f → ∃ (v : Value) (y : DataW H × List MemPlace), w.cell? (a.add (i * fs.size + j)) = some v ∧ ys[j]? = some y ∧ DataW.trod enc P w base spare held n f.type [v] = some y := by
  rcases open_slice ht h with h0 | ⟨a, len, cap, m, n, D, Pl, hcs, hb, hl, hm, hmm, hx, hi⟩
  · exact .inl h0
  · refine .inr ⟨a, len, cap, m, D, Pl, hcs, hb, hl, hm, hmm, by rw [hC] at hx; exact hx, fun i him => ?_⟩
    obtain ⟨cs', hc, ht'⟩ := hi i him
    rw [hC] at hc
    obtain ⟨ys, n', hn', hy, hlen, hyl, hf⟩ := DataW.trod_struct he ht'
    obtain ⟨_, hcl, hat⟩ := World.cells?_some hc
    simp only [Prod.mk.injEq] at hy
    refine ⟨ys, n', hy.1, hy.2, hyl, fun j f hj => ?_⟩
    obtain ⟨ho, hk⟩ := hone_of hone j f hj
    have hjl : j < fs.size := (Array.getElem?_eq_some_iff.1 hj).1
    have hcell := hat j hjl
    have hv : cs'[j]? = some (cs'[j]'(by omega)) := List.getElem?_eq_getElem (by omega)
    have h1 := hf j f hj
    rw [ho, hk] at h1
    have hone' : (cs'.drop j).take 1 = [cs'[j]'(by omega)] := by
      rw [List.drop_eq_getElem_cons (by omega)]
      rfl
    rw [hone'] at h1
    have hys : ys[j]? = some (ys[j]'(by omega)) := List.getElem?_eq_getElem (by omega)
    refine ⟨_, _, ?_, hys, h1.trans hys⟩
    rw [← Go.Deep.add_add, hcell, hv]

/-- What a rectangle's fields are. -/
structure RectT (P : Program) (e : TypeId) (fs : Array Field) : Prop where
  ty : P.underlying e = some (.struct fs)
  one : oneCellFields P fs = true
  cells : P.cellsOf e = fs.size
  size : fs.size = 4
  ints : ∀ i, i < 4 → ∃ f, fs[i]? = some f ∧ P.underlying f.type = some (.int .i64)

/-- A rectangle's numbers are numbers of the machine. -/
structure RtWf (r : Rt) : Prop where
  x0 : (Lit.int .i64 r.x0).wf = true
  y0 : (Lit.int .i64 r.y0).wf = true
  x1 : (Lit.int .i64 r.x1).wf = true
  y1 : (Lit.int .i64 r.y1).wf = true

instance : Inhabited Rt := ⟨⟨0, 0, 0, 0⟩⟩

theorem RtR.of_cells {w : World} {b o cap : Nat} {l : List Rt} (hcap : l.length ≤ cap) (hb : b < w.heap.size) (hc : ∀ i, (h : i < l.length) → w.cell? ⟨b, o + i * 4, none⟩ = some (.int .i64 l[i].x0) ∧ w.cell? ⟨b, o + i * 4 + 1, none⟩ = some (.int .i64 l[i].y0) ∧ w.cell? ⟨b, o + i * 4 + 2, none⟩ = some (.int .i64 l[i].x1) ∧ w.cell? ⟨b, o + i * 4 + 3, none⟩ = some (.int .i64 l[i].y1)) :
    RtR (fun _ => True) w (.slice (some ⟨b, o, none⟩) l.length cap) l := by
  refine ⟨rts_len l, _, cap, rfl, hcap, .inr ⟨b, o, rfl, hb, trivial, fun j u hu => ?_⟩⟩
  have hj : j < l.length * 4 := by
    have := (List.getElem?_eq_some_iff.1 hu).1
    rwa [rts_len] at this
  have hi : j / 4 < l.length := by omega
  obtain ⟨g0, g1, g2, g3⟩ := rts_get l (j / 4) hi
  obtain ⟨c0, c1, c2, c3⟩ := hc (j / 4) hi
  rcases (by omega : j = j / 4 * 4 ∨ j = j / 4 * 4 + 1 ∨ j = j / 4 * 4 + 2 ∨ j = j / 4 * 4 + 3) with h | h | h | h
  · rw [h] at hu
    rw [g0] at hu
    rw [h, c0, hu]
  · rw [h] at hu
    rw [g1] at hu
    rw [h, ← Nat.add_assoc, c1, hu]
  · rw [h] at hu
    rw [g2] at hu
    rw [h, ← Nat.add_assoc, c2, hu]
  · rw [h] at hu
    rw [g3] at hu
    rw [h, ← Nat.add_assoc, c3, hu]

/-- A slice of rectangles. -/
theorem open_rects_at {t e : TypeId} {fs : Array Field} {fuel : Nat} {v : Value} {x : DataW H × List MemPlace} (N : RectT P e fs) (ht : P.underlying t = some (.slice e))
    (h : DataW.trod enc P w base spare held fuel t [v] = some x) : ∃ l, RtR (fun _ => True) w v l ∧ (∀ r ∈ l, RtWf r) ∧ l.length ≤ maxLen := by
  rcases open_slice_fields ht N.ty N.one N.cells h with ⟨hcs, _⟩ | ⟨a, len, cap, m, D, Pl, hcs, _, hl, hm, hmm, _, hi⟩
  · obtain rfl : v = .slice none 0 0 := by simpa using hcs
    exact ⟨[], RowG.nil _ _ _, by simp, by simp⟩
  · obtain rfl : v = .slice (some a) len cap := by simpa using hcs
    have hlm : len ≤ m := by rw [hmm]; split <;> omega
    have hnode : ∀ i, i < len → ∃ r : Rt, RtWf r ∧ w.cell? (a.add (i * 4)) = some (.int .i64 r.x0) ∧ w.cell? (a.add (i * 4 + 1)) = some (.int .i64 r.y0) ∧ w.cell? (a.add (i * 4 + 2)) = some (.int .i64 r.x1) ∧ w.cell? (a.add (i * 4 + 3)) = some (.int .i64 r.y1) := by
      intro i hil
      obtain ⟨ys, k, _, _, _, hf⟩ := hi i (by omega)
      rw [N.size] at hf
      have one : ∀ j, j < 4 → ∃ q : Int, w.cell? (a.add (i * 4 + j)) = some (.int .i64 q) ∧ (Lit.int .i64 q).wf = true := fun j hj => by
        obtain ⟨f, h0, t0⟩ := N.ints j hj
        obtain ⟨v0, y0, c0, _, r0⟩ := hf j f h0
        obtain ⟨q, hq, _, hw⟩ := DataW.trod_int t0 r0
        obtain rfl : v0 = .int .i64 q := by simpa using hq
        exact ⟨q, c0, hw⟩
      obtain ⟨q0, c0, w0⟩ := one 0 (by omega)
      obtain ⟨q1, c1, w1⟩ := one 1 (by omega)
      obtain ⟨q2, c2, w2⟩ := one 2 (by omega)
      obtain ⟨q3, c3, w3⟩ := one 3 (by omega)
      exact ⟨⟨q0, q1, q2, q3⟩, ⟨w0, w1, w2, w3⟩, by simpa using c0, c1, c2, c3⟩
    obtain ⟨f, hf⟩ := choose_lt (p := fun i (r : Rt) => RtWf r ∧ w.cell? (a.add (i * 4)) = some (.int .i64 r.x0) ∧ w.cell? (a.add (i * 4 + 1)) = some (.int .i64 r.y0) ∧ w.cell? (a.add (i * 4 + 2)) = some (.int .i64 r.x1) ∧ w.cell? (a.add (i * 4 + 3)) = some (.int .i64 r.y1)) hnode
    refine ⟨(List.range len).map f, ?_, ?_, by simp; omega⟩
    · by_cases h0 : len = 0
      · subst h0
        exact ⟨by simp, some a, cap, rfl, by simp, .inl rfl⟩
      · obtain ⟨b, o, sp⟩ := a
        obtain ⟨_, hc0, _⟩ := hf 0 (by omega)
        have hsp : sp = none := by
          have := World.cell?_spot hc0
          simpa [Addr.add] using this
        subst hsp
        have hb := World.block_lt_of_cell? w _ hc0
        have := RtR.of_cells (w := w) (b := b) (o := o) (cap := cap) (l := (List.range len).map f) (by simpa using hl) (by simpa [Addr.add] using hb) (fun i hil => by
          have hil' : i < len := by simpa using hil
          obtain ⟨_, k0, k1, k2, k3⟩ := hf i hil'
          rw [add_plain] at k0 k1 k2 k3
          refine ⟨?_, ?_, ?_, ?_⟩
          · simpa using k0
          · rw [Nat.add_assoc]; simpa using k1
          · rw [Nat.add_assoc]; simpa using k2
          · rw [Nat.add_assoc]; simpa using k3)
        simpa using this
    · intro n hn
      simp at hn
      obtain ⟨i, hil, rfl⟩ := hn
      exact (hf i hil).1

end

end Go.Gou
