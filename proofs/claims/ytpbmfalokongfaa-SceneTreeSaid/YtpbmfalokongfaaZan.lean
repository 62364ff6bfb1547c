/- Texts of the scenes' proofs, laid together: Open, ArgSA, ArgSC, Law12, SdS, SdV, SdU, SdW. -/
import Derived.Test.YtpbmfalokongfaaZaa
import Derived.Deep.Slices
import Derived.Deep.Fields
import Derived.Deep.OwnShut
import Derived.Lib.SmallJoins
import Derived.ChangeSame
import Derived.ProofKit
import Derived.OpenShut
import Derived.Test.YtpbmfalokongfaaZah
import Derived.Test.YtpbmfalokongfaaZam
import Derived.Test.YtpbmfalokongfaaZal
import Derived.Shelf.SlicesG.Turned
set_option linter.unusedSimpArgs false
set_option linter.unusedVariables false
set_option linter.unusedSectionVars false
set_option linter.constructorNameAsVariable false

/- What comes in, opened: from the reading of an argument to the plain words on memory. -/
namespace Go.Gou
open Go.RowKit Go.ChangeShapes Go.WideShapes Go.Deep Go.Joins

section
variable {H : Type} {enc : TypeId × Value → H} {P : Program} {w : World} {base : Nat} {spare : Nat → Bool} {held : Bool}

theorem open_slice_fields {t e : TypeId} {fs : Array Field} {fuel : Nat} {cs : List Value} {x : DataW H × List MemPlace} (ht : P.underlying t = some (.slice e)) (he : P.underlying e = some (.struct fs))
    (hone : oneCellFields P fs = true) (hC : P.cellsOf e = fs.size) (h : DataW.trod enc P w base spare held fuel t cs = some x) :
    (cs = [.slice none 0 0] ∧ x = (.nil, [])) ∨
    ∃ (a : Addr) (len cap m : Nat) (D : Nat → DataW H) (Pl : Nat → List MemPlace), cs = [.slice (some a) len cap] ∧ base ≤ a.block ∧ len ≤ cap ∧ cap ≤ maxLen ∧ m = (if spare a.block then cap else len) ∧
      x = (.slice ((List.range len).map D) ((List.range (m - len)).map fun j => D (len + j)), MemPlace.row a (m * fs.size) ++ (List.range m).flatMap Pl) ∧
      ∀ i, i < m → ∃ (ys : List (DataW H × List MemPlace)) (n : Nat), D i = .agg (ys.map (·.1)) ∧ Pl i = ys.flatMap (·.2) ∧ ys.length = fs.size ∧
        ∀ (j : Nat) (f : Field), fs[j]? = some f → ∃ (v : Value) (y : DataW H × List MemPlace), w.cell? (a.add (i * fs.size + j)) = some v ∧ ys[j]? = some y ∧ DataW.trod enc P w base spare held n f.type [v] = some y := by
  rcases open_slice ht h with h0 | ⟨a, len, cap, m, n, D, Pl, hcs, hb, hl, hm, hmm, hx, hi⟩
  · exact .inl h0
  · refine .inr ⟨a, len, cap, m, D, Pl, hcs, hb, hl, hm, hmm, by rw [hC] at hx; exact hx, fun i him => ?_⟩
    obtain ⟨cs', hc, ht'⟩ := hi i him
    rw [hC] at hc
    obtain ⟨ys, n', hn', hy, hlen, hyl, hf⟩ := DataW.trod_struct he ht'
    obtain ⟨_, hcl, hat⟩ := World.cells?_some hc
    simp only [Prod.mk.injEq] at hy
    refine ⟨ys, n', hy.1, hy.2, hyl, fun j f hj => ?_⟩
    obtain ⟨ho, hk⟩ := hone_of hone j f hj
    have hjl : j < fs.size := (Array.getElem?_eq_some_iff.1 hj).1
    have hcell := hat j hjl
    have hv : cs'[j]? = some (cs'[j]'(by omega)) := List.getElem?_eq_getElem (by omega)
    have h1 := hf j f hj
    rw [ho, hk] at h1
    have hone' : (cs'.drop j).take 1 = [cs'[j]'(by omega)] := by
      rw [List.drop_eq_getElem_cons (by omega)]
      rfl
    rw [hone'] at h1
    have hys : ys[j]? = some (ys[j]'(by omega)) := List.getElem?_eq_getElem (by omega)
    refine ⟨_, _, ?_, hys, h1.trans hys⟩
    rw [← Go.Deep.add_add, hcell, hv]

/-- A slice of ints. -/
theorem open_ints_at {t e : TypeId} {fuel : Nat} {v : Value} {x : DataW H × List MemPlace} (ht : P.underlying t = some (.slice e)) (he : P.underlying e = some (.int .i64)) (hc : P.cellsOf e = 1)
    (h : DataW.trod enc P w base spare held fuel t [v] = some x) : ∃ xs, IntsAt w.heap.size w v xs ∧ (∀ y ∈ xs, (Lit.int .i64 y).wf = true) ∧ xs.length ≤ maxLen := by
  rcases open_slice1 ht hc h with ⟨hcs, _⟩ | ⟨a, len, cap, m, n, V, D, Pl, hcs, _, hl, hm, hmm, _, hi⟩
  · obtain rfl : v = .slice none 0 0 := by simpa using hcs
    exact ⟨[], ⟨none, 0, rfl, Nat.le_refl _, .inl rfl⟩, by simp, by simp⟩
  · obtain rfl : v = .slice (some a) len cap := by simpa using hcs
    have hlm : len ≤ m := by rw [hmm]; split <;> omega
    have hint : ∀ i, i < len → ∃ q : Int, V i = .int .i64 q ∧ (Lit.int .i64 q).wf = true := by
      intro i hil
      obtain ⟨_, ht'⟩ := hi i (by omega)
      obtain ⟨q, hq, _, hw⟩ := DataW.trod_int he ht'
      simp at hq
      exact ⟨q, hq, hw⟩
    obtain ⟨f, hf⟩ := choose_lt (p := fun i (q : Int) => V i = .int .i64 q ∧ (Lit.int .i64 q).wf = true) hint
    refine ⟨(List.range len).map f, ?_, ?_, by simp; omega⟩
    · by_cases h0 : len = 0
      · subst h0
        exact ⟨some a, cap, rfl, by simp, .inl rfl⟩
      · obtain ⟨b, o, sp⟩ := a
        have hsp : sp = none := by
          have := World.cell?_spot (hi 0 (by omega)).1
          simpa [Addr.add] using this
        subst hsp
        refine ⟨_, cap, by simp, by simpa using hl, .inr ⟨b, o, rfl, ?_, ?_⟩⟩
        · have := World.block_lt_of_cell? w _ (hi 0 (by omega)).1
          simpa [Addr.add] using this
        · intro i hil
          have hil' : i < len := by simpa using hil
          have h1 := (hi i (by omega)).1
          rw [add_plain] at h1
          rw [h1, (hf i hil').1]
          simp
    · intro y hy
      simp at hy
      obtain ⟨i, hil, rfl⟩ := hy
      exact (hf i hil).2

/-- What a node's fields are. -/
structure NodeT (P : Program) (e : TypeId) (fs : Array Field) (ti tn : TypeId) : Prop where
  ty : P.underlying e = some (.struct fs)
  one : oneCellFields P fs = true
  cells : P.cellsOf e = fs.size
  size : fs.size = 3
  f0 : ∃ f, fs[0]? = some f ∧ P.underlying f.type = some (.int .i64)
  f1 : ∃ f, fs[1]? = some f ∧ P.underlying f.type = some (.slice tn)
  f2 : ∃ f, fs[2]? = some f ∧ P.underlying f.type = some (.slice tn)
  tint : P.underlying tn = some (.int .i64)
  tc : P.cellsOf tn = 1

/-- A node's numbers are numbers of the machine. -/
structure NodeWf (n : GNode) : Prop where
  op : (Lit.int .i64 n.op).wf = true
  ins : ∀ x ∈ n.ins, (Lit.int .i64 x).wf = true
  ps : ∀ x ∈ n.ps, (Lit.int .i64 x).wf = true
  insl : n.ins.length ≤ maxLen
  psl : n.ps.length ≤ maxLen

instance : Inhabited GNode := ⟨⟨0, [], []⟩⟩

/-- A slice of nodes. -/
theorem open_nodes_at {t e ti tn : TypeId} {fs : Array Field} {fuel : Nat} {v : Value} {x : DataW H × List MemPlace} (N : NodeT P e fs ti tn) (ht : P.underlying t = some (.slice e))
    (h : DataW.trod enc P w base spare held fuel t [v] = some x) : ∃ ns, NodesAt w.heap.size w v ns ∧ (∀ n ∈ ns, NodeWf n) ∧ ns.length ≤ maxLen := by
  rcases open_slice_fields ht N.ty N.one N.cells h with ⟨hcs, _⟩ | ⟨a, len, cap, m, D, Pl, hcs, _, hl, hm, hmm, _, hi⟩
  · obtain rfl : v = .slice none 0 0 := by simpa using hcs
    exact ⟨[], ⟨none, 0, rfl, Nat.le_refl _, .inl rfl⟩, by simp, by simp⟩
  · obtain rfl : v = .slice (some a) len cap := by simpa using hcs
    have hlm : len ≤ m := by rw [hmm]; split <;> omega
    have hnode : ∀ i, i < len → ∃ n : GNode, NodeWf n ∧ ∃ vi vp, w.cell? (a.add (i * 3)) = some (.int .i64 n.op) ∧ w.cell? (a.add (i * 3 + 1)) = some vi ∧ w.cell? (a.add (i * 3 + 2)) = some vp ∧ IntsAt w.heap.size w vi n.ins ∧ IntsAt w.heap.size w vp n.ps := by
      intro i hil
      obtain ⟨ys, k, _, _, _, hf⟩ := hi i (by omega)
      rw [N.size] at hf
      obtain ⟨f0, h0, t0⟩ := N.f0
      obtain ⟨f1, h1, t1⟩ := N.f1
      obtain ⟨f2, h2, t2⟩ := N.f2
      obtain ⟨v0, y0, c0, _, r0⟩ := hf 0 f0 h0
      obtain ⟨v1, y1, c1, _, r1⟩ := hf 1 f1 h1
      obtain ⟨v2, y2, c2, _, r2⟩ := hf 2 f2 h2
      obtain ⟨q, hq, _, hw⟩ := DataW.trod_int t0 r0
      obtain rfl : v0 = .int .i64 q := by simpa using hq
      obtain ⟨ins, hi1, hw1, hl1⟩ := open_ints_at t1 N.tint N.tc r1
      obtain ⟨ps, hi2, hw2, hl2⟩ := open_ints_at t2 N.tint N.tc r2
      exact ⟨⟨q, ins, ps⟩, ⟨hw, hw1, hw2, hl1, hl2⟩, v1, v2, by simpa using c0, c1, c2, hi1, hi2⟩
    obtain ⟨f, hf⟩ := choose_lt (p := fun i (n : GNode) => NodeWf n ∧ ∃ vi vp, w.cell? (a.add (i * 3)) = some (.int .i64 n.op) ∧ w.cell? (a.add (i * 3 + 1)) = some vi ∧ w.cell? (a.add (i * 3 + 2)) = some vp ∧ IntsAt w.heap.size w vi n.ins ∧ IntsAt w.heap.size w vp n.ps) hnode
    refine ⟨(List.range len).map f, ?_, ?_, by simp; omega⟩
    · by_cases h0 : len = 0
      · subst h0
        exact ⟨some a, cap, rfl, by simp, .inl rfl⟩
      · obtain ⟨b, o, sp⟩ := a
        obtain ⟨_, _, _, hc0, _⟩ := hf 0 (by omega)
        have hsp : sp = none := by
          have := World.cell?_spot hc0
          simpa [Addr.add] using this
        subst hsp
        refine ⟨_, cap, by simp, by simpa using hl, .inr ⟨b, o, rfl, ?_, ?_⟩⟩
        · have := World.block_lt_of_cell? w _ hc0
          simpa [Addr.add] using this
        · intro i hil
          have hil' : i < len := by simpa using hil
          obtain ⟨_, vi, vp, k0, k1, k2, r1, r2⟩ := hf i hil'
          rw [add_plain] at k0 k1 k2
          refine ⟨vi, vp, ?_, by rw [Nat.add_assoc]; exact k1, by rw [Nat.add_assoc]; exact k2, by simpa using r1, by simpa using r2⟩
          rw [k0]
          simp
    · intro n hn
      simp at hn
      obtain ⟨i, hil, rfl⟩ := hn
      exact (hf i hil).1

end

end Go.Gou

/- What comes in, opened: pixels, fields of structs. -/
namespace Go.Gou
open Go.RowKit Go.ChangeShapes Go.WideShapes Go.Deep Go.Joins

def Pxl.Small (p : Pxl) : Prop := p.p0 < 256 ∧ p.p1 < 256 ∧ p.p2 < 256 ∧ p.p3 < 256
theorem pxs_len (ps : List Pxl) : (pxs ps).length = 4 * ps.length := by
  induction ps with
  | nil => rfl
  | cons p r ih => simp only [pxs, List.flatMap_cons, List.length_append, List.length_cons] at ih ⊢; rw [ih]; simp [Pxl.cells]; omega

section
variable {H : Type} {enc : TypeId × Value → H} {P : Program} {w : World} {base : Nat} {spare : Nat → Bool} {held : Bool}

/-- A struct's cells, field by field. -/
def Parts (enc : TypeId × Value → H) (P : Program) (w : World) (base : Nat) (spare : Nat → Bool) (held : Bool) (n : Nat) : List Field → List Value → Prop
  | [], cs => cs = []
  | f :: r, cs => ∃ c1 c2 y, cs = c1 ++ c2 ∧ DataW.trod enc P w base spare held n f.type c1 = some y ∧ Parts enc P w base spare held n r c2

def contig (P : Program) : List Field → Nat → Option Nat
  | [], o => some o
  | f :: r, o => if f.offset = o then contig P r (o + P.cellsOf f.type) else none

theorem parts_of {n : Nat} {cs : List Value} : ∀ (fs : List Field) (o : Nat), contig P fs o = some cs.length → (∀ f ∈ fs, ∃ y, DataW.trod enc P w base spare held n f.type ((cs.drop f.offset).take (P.cellsOf f.type)) = some y) → Parts enc P w base spare held n fs (cs.drop o)
  | [], o, h, _ => by
    simp only [contig, Option.some.injEq] at h
    subst h
    show cs.drop cs.length = []
    simp
  | f :: r, o, h, hf => by
    rw [contig] at h
    split at h
    · rename_i ho
      obtain ⟨y, hy⟩ := hf f (List.mem_cons_self ..)
      rw [ho] at hy
      have := parts_of r _ h (fun g hg => hf g (List.mem_cons_of_mem _ hg))
      exact ⟨_, cs.drop (o + P.cellsOf f.type), y, by rw [← List.drop_drop]; exact (List.take_append_drop _ _).symm, hy, this⟩
    · cases h

theorem trod_parts {t : TypeId} {fs : Array Field} {fuel : Nat} {cs : List Value} {x : DataW H × List MemPlace} (ht : P.underlying t = some (.struct fs)) (hc : contig P fs.toList 0 = some (P.cellsOf t)) (h : DataW.trod enc P w base spare held fuel t cs = some x) :
    ∃ n, Parts enc P w base spare held n fs.toList cs := by
  obtain ⟨xs, n, _, _, hl, hxl, hf⟩ := DataW.trod_struct ht h
  refine ⟨n, ?_⟩
  have := parts_of (enc := enc) (P := P) (w := w) (base := base) (spare := spare) (held := held) (n := n) (cs := cs) fs.toList 0 (by rw [hc, hl]) (fun f hf' => by
    obtain ⟨i, hi⟩ := List.getElem?_of_mem hf'
    have hi' : fs[i]? = some f := by rw [← hi]; simp
    have h1 := hf i f hi'
    have : i < xs.length := by rw [hxl]; exact (Array.getElem?_eq_some_iff.1 hi').1
    exact ⟨xs[i], h1.trans (List.getElem?_eq_getElem this)⟩)
  simpa using this

theorem trod_slice_one {t e : TypeId} {fuel : Nat} {cs : List Value} {x : DataW H × List MemPlace} (ht : P.underlying t = some (.slice e)) (h : DataW.trod enc P w base spare held fuel t cs = some x) : ∃ v, cs = [v] := by
  rcases open_slice ht h with ⟨hcs, _⟩ | ⟨a, len, cap, m, n, D, Pl, hcs, _⟩
  · exact ⟨_, hcs⟩
  · exact ⟨_, hcs⟩

theorem IntsR.of_at {v : Value} {xs : List Int} (h : IntsAt w.heap.size w v xs) : IntsR (fun _ => True) w v xs := by
  obtain ⟨p, cap, rfl, hcap, h⟩ := h
  refine ⟨by simp, p, cap, rfl, hcap, ?_⟩
  rcases h with rfl | ⟨b, o, rfl, hb, hc⟩
  · exact .inl rfl
  · refine .inr ⟨b, o, rfl, hb, trivial, fun j u hu => ?_⟩
    simp only [ivs, List.getElem?_map, Option.map_eq_some_iff] at hu
    obtain ⟨y, hy, rfl⟩ := hu
    obtain ⟨hj, rfl⟩ := List.getElem?_eq_some_iff.1 hy
    exact hc j hj

theorem NodesR.of_at {v : Value} {ns : List GNode} (h : NodesAt w.heap.size w v ns) : NodesR (fun _ => True) w v ns := by
  obtain ⟨p, cap, rfl, hcap, h⟩ := h
  rcases h with rfl | ⟨b, o, rfl, hb, hc⟩
  · exact ⟨[], ⟨rfl, p, cap, rfl, hcap, .inl rfl⟩, NodeC.nil _ _⟩
  · have hcells : ∀ i, (h : i < ns.length) → ∃ q : Value × Value, w.cell? ⟨b, o + i * 3, none⟩ = some (.int .i64 ns[i].op) ∧ w.cell? ⟨b, o + i * 3 + 1, none⟩ = some q.1 ∧ w.cell? ⟨b, o + i * 3 + 2, none⟩ = some q.2 ∧ IntsAt w.heap.size w q.1 ns[i].ins ∧ IntsAt w.heap.size w q.2 ns[i].ps := fun i hi => by
      obtain ⟨vi, vp, h1⟩ := hc i hi
      exact ⟨(vi, vp), h1⟩
    obtain ⟨f, hf⟩ := choose_lt (p := fun i (q : Value × Value) => ∃ h : i < ns.length, w.cell? ⟨b, o + i * 3, none⟩ = some (.int .i64 ns[i].op) ∧ w.cell? ⟨b, o + i * 3 + 1, none⟩ = some q.1 ∧ w.cell? ⟨b, o + i * 3 + 2, none⟩ = some q.2 ∧ IntsAt w.heap.size w q.1 ns[i].ins ∧ IntsAt w.heap.size w q.2 ns[i].ps) (n := ns.length) (fun i hi => by
      obtain ⟨q, hq⟩ := hcells i hi
      exact ⟨q, hi, hq⟩)
    have hlen : ∀ l : List Nat, (l.flatMap fun i => [Value.int .i64 ns[i]!.op, (f i).1, (f i).2]).length = l.length * 3 := by
      intro l
      induction l with
      | nil => rfl
      | cons a r ih => rw [List.flatMap_cons, List.length_append, ih]; simp; omega
    have hget : ∀ (n : Nat) (j : Nat), j < n * 3 → ((List.range n).flatMap fun i => [Value.int .i64 ns[i]!.op, (f i).1, (f i).2])[j]? = [Value.int .i64 ns[j / 3]!.op, (f (j / 3)).1, (f (j / 3)).2][j % 3]? := by
      intro n
      induction n with
      | zero => intro j hj; omega
      | succ n ih =>
        intro j hj
        rw [List.range_succ, List.flatMap_append]
        by_cases hjn : j < n * 3
        · rw [List.getElem?_append_left (by rw [hlen]; simpa using hjn), ih j hjn]
        · rw [List.getElem?_append_right (by rw [hlen]; simp; omega), hlen]
          have e1 : j / 3 = n := by omega
          have e2 : j - (List.range n).length * 3 = j % 3 := by simp; omega
          rw [e1, e2]
          simp
    refine ⟨(List.range ns.length).flatMap fun i => [Value.int .i64 ns[i]!.op, (f i).1, (f i).2], ⟨by rw [hlen]; simp, some ⟨b, o, none⟩, cap, rfl, hcap, .inr ⟨b, o, rfl, hb, trivial, fun j u hu => ?_⟩⟩, ⟨by rw [hlen]; simp, fun i hi => ?_⟩⟩
    · have hj : j < ns.length * 3 := by
        have := (List.getElem?_eq_some_iff.1 hu).1
        rw [hlen] at this
        simpa using this
      rw [hget _ j hj] at hu
      obtain ⟨hi, h0, h1, h2, _⟩ := hf (j / 3) (by omega)
      have hbang : ns[j / 3]! = ns[j / 3] := getElem!_pos ns (j / 3) hi
      rw [hbang] at hu
      have hm : j % 3 = 0 ∨ j % 3 = 1 ∨ j % 3 = 2 := by omega
      rcases hm with hm | hm | hm
      · rw [hm] at hu; simp at hu; subst hu
        have : o + j = o + j / 3 * 3 := by omega
        rw [this]; exact h0
      · rw [hm] at hu; simp at hu; subst hu
        have : o + j = o + j / 3 * 3 + 1 := by omega
        rw [this]; exact h1
      · rw [hm] at hu; simp at hu; subst hu
        have : o + j = o + j / 3 * 3 + 2 := by omega
        rw [this]; exact h2
    · obtain ⟨hi', h0, h1, h2, h3, h4⟩ := hf i hi
      have hbang : ns[i]! = ns[i] := getElem!_pos ns i hi
      refine ⟨(f i).1, (f i).2, ?_, ?_, ?_, IntsR.of_at h3, IntsR.of_at h4⟩
      · rw [hget _ _ (by omega)]
        have e1 : i * 3 / 3 = i := by omega
        have e2 : i * 3 % 3 = 0 := by omega
        rw [e1, e2, hbang]; rfl
      · rw [hget _ _ (by omega)]
        have e1 : (i * 3 + 1) / 3 = i := by omega
        have e2 : (i * 3 + 1) % 3 = 1 := by omega
        rw [e1, e2]; rfl
      · rw [hget _ _ (by omega)]
        have e1 : (i * 3 + 2) / 3 = i := by omega
        have e2 : (i * 3 + 2) % 3 = 2 := by omega
        rw [e1, e2]; rfl

/-- Four bytes. -/
theorem open_px {t e : TypeId} {fuel : Nat} {cs : List Value} {x : DataW H × List MemPlace} (ht : P.underlying t = some (.array 4 e)) (he : P.underlying e = some (.int .u8)) (hc : P.cellsOf e = 1) (hct : P.cellsOf t = 4)
    (h : DataW.trod enc P w base spare held fuel t cs = some x) : ∃ p : Pxl, cs = p.cells ∧ p.Small := by
  obtain ⟨xs, m, _, _, hl, hxl, hi⟩ := DataW.trod_array ht h
  rw [hct] at hl
  have one : ∀ i, i < 4 → ∃ q : Nat, cs[i]? = some (.int .u8 (q : Int)) ∧ q < 256 := by
    intro i hi4
    have h1 := hi i hi4
    rw [hc, Nat.mul_one] at h1
    have hx : xs[i]? = some (xs[i]'(by omega)) := List.getElem?_eq_getElem (by omega)
    rw [hx] at h1
    obtain ⟨q, hq, _, hw⟩ := DataW.trod_int he h1
    simp only [Lit.wf, Bool.and_eq_true, decide_eq_true_eq] at hw
    have h2 : (0 : Int) ≤ q := hw.1
    have h3 : q ≤ 255 := hw.2
    refine ⟨q.toNat, ?_, by omega⟩
    have h4 := congrArg (fun l => l[0]?) hq
    simp only [List.getElem?_take, List.getElem?_drop, Nat.zero_lt_one, if_true, Nat.add_zero, List.getElem?_cons_zero] at h4
    rw [h4]
    congr 2
    omega
  obtain ⟨q0, h0, s0⟩ := one 0 (by omega)
  obtain ⟨q1, h1, s1⟩ := one 1 (by omega)
  obtain ⟨q2, h2, s2⟩ := one 2 (by omega)
  obtain ⟨q3, h3, s3⟩ := one 3 (by omega)
  obtain ⟨a, b, c, d, rfl⟩ : ∃ a b c d, cs = [a, b, c, d] := by
    match cs, hl with
    | [a, b, c, d], _ => exact ⟨a, b, c, d, rfl⟩
  simp at h0 h1 h2 h3
  subst h0 h1 h2 h3
  exact ⟨⟨q0, q1, q2, q3⟩, rfl, s0, s1, s2, s3⟩

/-- A row of pixels. -/
theorem open_pixels {t e u : TypeId} {fuel : Nat} {v : Value} {x : DataW H × List MemPlace} (ht : P.underlying t = some (.slice e)) (he : P.underlying e = some (.array 4 u)) (hu : P.underlying u = some (.int .u8)) (hc : P.cellsOf u = 1) (hct : P.cellsOf e = 4)
    (h : DataW.trod enc P w base spare held fuel t [v] = some x) : ∃ ps, PixR (fun _ => True) w v ps ∧ (∀ p ∈ ps, Pxl.Small p) ∧ ps.length ≤ maxLen := by
  rcases open_slice ht h with ⟨hcs, _⟩ | ⟨a, len, cap, m, n, D, Pl, hcs, _, hl, hm, hmm, _, hi⟩
  · obtain rfl : v = .slice none 0 0 := by simpa using hcs
    exact ⟨[], PixR.nil _ _, by simp, by simp⟩
  · obtain rfl : v = .slice (some a) len cap := by simpa using hcs
    have hlm : len ≤ m := by rw [hmm]; split <;> omega
    have hone : ∀ i, i < len → ∃ p : Pxl, p.Small ∧ ∀ j u, p.cells[j]? = some u → w.cell? (a.add (i * 4 + j)) = some u := by
      intro i hil
      obtain ⟨cs', h1, h2⟩ := hi i (by omega)
      obtain ⟨p, rfl, hs⟩ := open_px he hu hc hct h2
      rw [hct] at h1
      obtain ⟨_, _, hat⟩ := World.cells?_some h1
      refine ⟨p, hs, fun j u hj => ?_⟩
      have hj4 : j < 4 := by
        have := (List.getElem?_eq_some_iff.1 hj).1
        simpa [Pxl.cells] using this
      rw [← Go.Deep.add_add, hat j hj4]
      exact hj
    obtain ⟨f, hf⟩ := choose_lt (p := fun i (p : Pxl) => p.Small ∧ ∀ j u, p.cells[j]? = some u → w.cell? (a.add (i * 4 + j)) = some u) hone
    refine ⟨(List.range len).map f, ⟨by rw [pxs_len]; omega, some a, cap, by simp, by simpa using hl, ?_⟩, ?_, by simp; omega⟩
    · by_cases h0 : len = 0
      · subst h0; exact .inl (by simp)
      · obtain ⟨b, o, sp⟩ := a
        obtain ⟨_, h1⟩ := hf 0 (by omega)
        have hc0 := h1 0 _ rfl
        have hsp : sp = none := by
          have := World.cell?_spot hc0
          simpa [Addr.add] using this
        subst hsp
        refine .inr ⟨b, o, rfl, ?_, trivial, ?_⟩
        · have := World.block_lt_of_cell? w _ hc0
          simpa [Addr.add] using this
        · have key : ∀ (n : Nat) (j : Nat) (u : Value), n ≤ len → (pxs ((List.range n).map f))[j]? = some u → w.cell? ⟨b, o + j, none⟩ = some u := by
            intro n
            induction n with
            | zero => intro j u _ hu; simp at hu
            | succ n ih =>
              intro j u hn hu
              rw [List.range_succ, List.map_append, pxs, List.flatMap_append] at hu
              by_cases hj : j < (pxs ((List.range n).map f)).length
              · rw [List.getElem?_append_left hj] at hu
                exact ih j u (by omega) hu
              · rw [List.getElem?_append_right (by simp only [pxs] at hj; omega)] at hu
                rw [pxs_len] at hj
                simp at hj
                have hl2 : (((List.range n).map f).flatMap Pxl.cells).length = 4 * n := by
                  have := pxs_len ((List.range n).map f)
                  simpa [pxs] using this
                rw [hl2] at hu
                have := (hf n (by omega)).2 (j - 4 * n) u (by simpa using hu)
                rw [add_plain] at this
                have e : o + (n * 4 + (j - 4 * n)) = o + j := by omega
                rw [e] at this
                exact this
          intro j u hu
          exact key len j u (Nat.le_refl _) hu
    · intro p hp
      simp at hp
      obtain ⟨i, hil, rfl⟩ := hp
      exact (hf i hil).1
end

end Go.Gou

/- Operations that come in, opened. -/
namespace Go.Gou
open Go.RowKit
/-- A value that reads as an operation; a slice of such. -/
def OpV (G : Nat → Prop) (w : World) (v : Value) (o : Opr) : Prop := ∃ vp vf vb, v = .agg (oprC o vp vf vb) ∧ LookR G w o.look vp vf vb
instance instInhOpr : Inhabited Opr := ⟨Opr.zero⟩
def OpsR (w : World) (v : Value) (xs : List Opr) : Prop := ∃ (p : Option Addr) (cap : Nat), v = .slice p xs.length cap ∧ xs.length ≤ cap ∧ (xs.length = 0 ∨ ∃ b o, p = some ⟨b, o, none⟩ ∧ b < w.heap.size ∧
  ∀ i, (h : i < xs.length) → ∃ vp vf vb, (∀ j u, (oprC xs[i] vp vf vb)[j]? = some u → w.cell? ⟨b, o + i * 34 + j, none⟩ = some u) ∧ LookR (fun _ => True) w xs[i].look vp vf vb)
end Go.Gou
namespace Go.Proofs.Ytpbmfalokongfaa
open Go.RowKit Go.Gou Go.ChangeShapes Go.WideShapes Go.Deep Go.Joins
/-- A look's lists are a machine's. -/
structure LkWf (l : Lk) : Prop where
  pix : l.content.pix.length ≤ maxLen
  filt : GrWf l.filt
  back : GrWf l.back
theorem laidOut : laidOutB Try.prog = true := by kernel_rfl
theorem own : ownKnob Try.prog.godebug = none := by kernel_rfl
theorem cellsNode : Try.prog.cellsOf 77 = 3 := by kernel_rfl
theorem cellsInt : Try.prog.cellsOf 3 = 1 := by kernel_rfl
theorem cellsByte : Try.prog.cellsOf 5 = 1 := by kernel_rfl
theorem cellsPx : Try.prog.cellsOf 34 = 4 := by kernel_rfl
theorem cellsOp : Try.prog.cellsOf 53 = 34 := by kernel_rfl

theorem nodeT : ∃ fs, NodeT Try.prog 77 fs 0 3 :=
  ⟨_, { ty := Try.underlying77, one := by kernel_rfl, cells := cellsNode, size := rfl, f0 := ⟨_, rfl, Try.underlying3⟩, f1 := ⟨_, rfl, Try.underlying25⟩, f2 := ⟨_, rfl, Try.underlying25⟩, tint := Try.underlying3, tc := cellsInt }⟩

set_option linter.constructorNameAsVariable false
set_option maxRecDepth 100000

section
variable {H : Type} {enc : TypeId × Value → H} {w : World} {base : Nat} {spare : Nat → Bool} {held : Bool} {r : Reach} {b0 : Nat} {v : Value} {d : DataW H} {p : List MemPlace} {fuel : Nat} {cs : List Value} {x : DataW H × List MemPlace}

theorem open_icell (h : DataW.trod enc Try.prog w base spare held fuel 3 cs = some x) : ∃ q : Int, cs = [.int .i64 q] := by
  obtain ⟨q, hq, _, _⟩ := DataW.trod_int Try.underlying3 h
  exact ⟨q, hq⟩
theorem open_bcell (h : DataW.trod enc Try.prog w base spare held fuel 4 cs = some x) : ∃ q : Bool, cs = [.bool q] := by
  obtain ⟨q, hq, _⟩ := DataW.trod_bool Try.underlying4 h
  exact ⟨q, hq⟩
theorem open_id (h : DataW.trod enc Try.prog w base spare held fuel 30 cs = some x) : ∃ i : Int × Int, cs = [.int .i64 i.1, .int .i64 i.2] := by
  obtain ⟨n, h⟩ := trod_parts Try.underlying30 (by kernel_rfl) h
  obtain ⟨c0, _, y0, rfl, h0, c1, _, y1, rfl, h1, rfl⟩ := h
  obtain ⟨q0, rfl⟩ := open_icell h0
  obtain ⟨q1, rfl⟩ := open_icell h1
  exact ⟨(q0, q1), rfl⟩
theorem open_rect (h : DataW.trod enc Try.prog w base spare held fuel 32 cs = some x) : ∃ i : Rc, cs = [.int .i64 i.x0, .int .i64 i.y0, .int .i64 i.x1, .int .i64 i.y1] := by
  obtain ⟨n, h⟩ := trod_parts Try.underlying32 (by kernel_rfl) h
  obtain ⟨c0, _, y0, rfl, h0, c1, _, y1, rfl, h1, c2, _, y2, rfl, h2, c3, _, y3, rfl, h3, rfl⟩ := h
  obtain ⟨q0, rfl⟩ := open_icell h0
  obtain ⟨q1, rfl⟩ := open_icell h1
  obtain ⟨q2, rfl⟩ := open_icell h2
  obtain ⟨q3, rfl⟩ := open_icell h3
  exact ⟨⟨q0, q1, q2, q3⟩, rfl⟩
theorem open_content (h : DataW.trod enc Try.prog w base spare held fuel 37 cs = some x) : ∃ (c : Ct) (vp : Value), cs = (contC c vp).toList ∧ PixR (fun _ => True) w vp c.pix ∧ c.pix.length ≤ maxLen := by
  obtain ⟨n, h⟩ := trod_parts Try.underlying37 (by kernel_rfl) h
  obtain ⟨c0, _, y0, rfl, h0, c1, _, y1, rfl, h1, c2, _, y2, rfl, h2, c3, _, y3, rfl, h3, c4, _, y4, rfl, h4, c5, _, y5, rfl, h5, c6, _, y6, rfl, h6, rfl⟩ := h
  obtain ⟨q0, rfl⟩ := open_icell h0
  obtain ⟨q1, rfl⟩ := open_rect h1
  obtain ⟨q2, rfl, s2⟩ := open_px Try.underlying34 Try.underlying5 cellsByte cellsPx h2
  obtain ⟨q3, rfl⟩ := open_icell h3
  obtain ⟨q4, rfl⟩ := open_icell h4
  obtain ⟨q5, rfl⟩ := open_icell h5
  obtain ⟨vp, rfl⟩ := trod_slice_one Try.underlying35 h6
  obtain ⟨ps, k1, k2, k3⟩ := open_pixels Try.underlying35 Try.underlying34 Try.underlying5 cellsByte cellsPx h6
  exact ⟨⟨q0, q1, q2, q3, q4, q5, ps⟩, vp, rfl, k1, k3⟩
theorem open_graph (h : DataW.trod enc Try.prog w base spare held fuel 40 cs = some x) : ∃ (g : Gr) (vf : Value), cs = [vf, .int .i64 g.out] ∧ NodesR (fun _ => True) w vf g.nodes ∧ GrWf g := by
  obtain ⟨n, h⟩ := trod_parts Try.underlying40 (by kernel_rfl) h
  obtain ⟨c0, _, y0, rfl, h0, c1, _, y1, rfl, h1, rfl⟩ := h
  obtain ⟨vf, rfl⟩ := trod_slice_one Try.underlying38 h0
  obtain ⟨fs, hN⟩ := nodeT
  obtain ⟨ns, k1, hwf, hl⟩ := open_nodes_at hN Try.underlying38 h0
  obtain ⟨q, rfl, _, hw⟩ := DataW.trod_int Try.underlying3 h1
  exact ⟨⟨ns, q⟩, vf, rfl, NodesR.of_at k1, ⟨fun n hn => (hwf n hn).op, fun n hn => (hwf n hn).ins, fun n hn => (hwf n hn).ps, hw, fun n hn => (hwf n hn).insl, fun n hn => (hwf n hn).psl, hl⟩⟩
theorem open_look (h : DataW.trod enc Try.prog w base spare held fuel 42 cs = some x) : ∃ (l : Lk) (vp vf vb : Value), cs = (lookC l vp vf vb).toList ∧ LookR (fun _ => True) w l vp vf vb ∧ LkWf l := by
  obtain ⟨n, h⟩ := trod_parts Try.underlying42 (by kernel_rfl) h
  obtain ⟨c0, _, y0, rfl, h0, c1, _, y1, rfl, h1, c2, _, y2, rfl, h2, c3, _, y3, rfl, h3, c4, _, y4, rfl, h4, c5, _, y5, rfl, h5, c6, _, y6, rfl, h6, h⟩ := h
  obtain ⟨c7, _, y7, rfl, h7, c8, _, y8, rfl, h8, c9, _, y9, rfl, h9, c10, _, y10, rfl, h10, rfl⟩ := h
  obtain ⟨q0, rfl⟩ := open_icell h0
  obtain ⟨q1, rfl⟩ := open_icell h1
  obtain ⟨q2, rfl⟩ := open_bcell h2
  obtain ⟨q3, rfl⟩ := open_rect h3
  obtain ⟨q4, rfl⟩ := open_icell h4
  obtain ⟨q5, rfl⟩ := open_icell h5
  obtain ⟨q6, vp, rfl, a1, a3⟩ := open_content h6
  obtain ⟨q7, rfl⟩ := open_bcell h7
  obtain ⟨q8, vf, rfl, b1, b2⟩ := open_graph h8
  obtain ⟨q9, rfl⟩ := open_bcell h9
  obtain ⟨q10, vb, rfl, d1, d2⟩ := open_graph h10
  exact ⟨⟨q0, q1, q2, q3, q4, q5, q6, q7, q8, q9, q10⟩, vp, vf, vb, rfl, ⟨a1, b1, d1⟩, a3, b2, d2⟩
theorem open_op_cells (h : DataW.trod enc Try.prog w base spare held fuel 53 cs = some x) : ∃ (o : Opr) (vp vf vb : Value), cs = (oprC o vp vf vb).toList ∧ LookR (fun _ => True) w o.look vp vf vb ∧ LkWf o.look := by
  obtain ⟨n, h⟩ := trod_parts Try.underlying53 (by kernel_rfl) h
  obtain ⟨c0, _, y0, rfl, h0, c1, _, y1, rfl, h1, c2, _, y2, rfl, h2, c3, _, y3, rfl, h3, c4, _, y4, rfl, h4, rfl⟩ := h
  obtain ⟨q0, rfl⟩ := open_icell h0
  obtain ⟨q1, rfl⟩ := open_id h1
  obtain ⟨q2, rfl⟩ := open_id h2
  obtain ⟨q3, rfl⟩ := open_icell h3
  obtain ⟨q4, vp, vf, vb, rfl, k⟩ := open_look h4
  exact ⟨⟨q0, q1, q2, q3, q4⟩, vp, vf, vb, rfl, k⟩
theorem open_op (hv : Value.okWide Try.prog w r b0 53 v) (h : DataW.Trod enc Try.prog w base spare held 53 v d p) : ∃ a, OpV (fun _ => True) w v a ∧ LkWf a.look := by
  obtain ⟨cs, rfl, _⟩ := okWide_struct Try.underlying53 hv
  obtain ⟨n, h⟩ := h
  have h : DataW.trod enc Try.prog w base spare held n 53 cs.toList = some (d, p) := h
  obtain ⟨a, vp, vf, vb, hcs, h1, h2⟩ := open_op_cells h
  have : cs = oprC a vp vf vb := Array.toList_inj.1 hcs
  subst this
  exact ⟨a, ⟨vp, vf, vb, rfl, h1⟩, h2⟩

theorem open_ident (hv : Value.okWide Try.prog w r b0 30 v) (h : DataW.Trod enc Try.prog w base spare held 30 v d p) : ∃ i : Idt, v = .agg #[.int .i64 i.1, .int .i64 i.2] ∧ True := by
  obtain ⟨cs, rfl, _⟩ := okWide_struct Try.underlying30 hv
  obtain ⟨n, h⟩ := h
  have h : DataW.trod enc Try.prog w base spare held n 30 cs.toList = some (d, p) := h
  obtain ⟨i, hcs⟩ := open_id h
  have : cs = #[.int .i64 i.1, .int .i64 i.2] := Array.toList_inj.1 hcs
  subst this
  exact ⟨i, rfl, trivial⟩

theorem open_ops (hv : Value.okWide Try.prog w r b0 22 v) (h : DataW.Trod enc Try.prog w base spare held 22 v d p) : ∃ xs, OpsR w v xs ∧ ((∀ a ∈ xs, LkWf a.look) ∧ xs.length ≤ maxLen) := by
  obtain ⟨a, len, cap, rfl⟩ := okWide_slice Try.underlying22 hv
  obtain ⟨n, h⟩ := h
  have h : DataW.trod enc Try.prog w base spare held n 22 [.slice a len cap] = some (d, p) := h
  rcases open_slice Try.underlying22 h with ⟨hcs, _⟩ | ⟨a', len', cap', m, n', D, Pl, hcs, _, hl, hm, hmm, _, hi⟩
  · simp only [List.cons.injEq, Value.slice.injEq, and_true] at hcs
    obtain ⟨rfl, rfl, rfl⟩ := hcs
    exact ⟨[], ⟨none, 0, rfl, Nat.le_refl _, .inl rfl⟩, by simp, by simp⟩
  · simp only [List.cons.injEq, Value.slice.injEq, and_true] at hcs
    obtain ⟨rfl, rfl, rfl⟩ := hcs
    have hlm : len ≤ m := by rw [hmm]; split <;> omega
    have hone : ∀ i, i < len → ∃ x : Opr, LkWf x.look ∧ ∃ vp vf vb, (∀ j u, (oprC x vp vf vb)[j]? = some u → w.cell? (a'.add (i * 34 + j)) = some u) ∧ LookR (fun _ => True) w x.look vp vf vb := by
      intro i hil
      obtain ⟨cs', h1, h2⟩ := hi i (by omega)
      obtain ⟨x, vp, vf, vb, rfl, k1, k2⟩ := open_op_cells h2
      rw [cellsOp] at h1
      obtain ⟨_, _, hat⟩ := World.cells?_some h1
      refine ⟨x, k2, vp, vf, vb, fun j u hj => ?_, k1⟩
      have hj4 : j < 34 := by
        have := (Array.getElem?_eq_some_iff.1 hj).1
        simpa [oprC] using this
      rw [← Go.Deep.add_add, hat j hj4, Array.getElem?_toList]
      exact hj
    obtain ⟨f, hf⟩ := choose_lt (p := fun i (x : Opr) => LkWf x.look ∧ ∃ vp vf vb, (∀ j u, (oprC x vp vf vb)[j]? = some u → w.cell? (a'.add (i * 34 + j)) = some u) ∧ LookR (fun _ => True) w x.look vp vf vb) hone
    refine ⟨(List.range len).map f, ⟨some a', cap, by simp, by simpa using hl, ?_⟩, ?_, by simp; omega⟩
    · by_cases h0 : len = 0
      · subst h0; exact .inl (by simp)
      · obtain ⟨b, o, sp⟩ := a'
        obtain ⟨_, vp, vf, vb, h1, _⟩ := hf 0 (by omega)
        have hc0 := h1 0 _ rfl
        have hsp : sp = none := by
          have := World.cell?_spot hc0
          simpa [Addr.add] using this
        subst hsp
        refine .inr ⟨b, o, rfl, ?_, fun i hil => ?_⟩
        · have := World.block_lt_of_cell? w _ hc0
          simpa [Addr.add] using this
        · have hil' : i < len := by simpa using hil
          obtain ⟨_, vp, vf, vb, k1, k2⟩ := hf i hil'
          simp only [List.getElem_map, List.getElem_range]
          refine ⟨vp, vf, vb, fun j u hu => ?_, k2⟩
          have := k1 j u hu
          rw [add_plain] at this
          rw [Nat.add_assoc]
          exact this
    · intro x hx
      simp at hx
      obtain ⟨i, hil, rfl⟩ := hx
      exact (hf i hil).1
end

end Go.Proofs.Ytpbmfalokongfaa

/- The laws of layer 12 that speak of the program alone: what each answers. -/
set_option maxRecDepth 100000
namespace Go.Proofs.Ytpbmfalokongfaa
open Go.RowKit Go.Gou

def fewN (n : GNode) : Bool := decide (n.ins.length ≤ 20) && decide (n.ps.length ≤ 40)
def fewB (g : Gr) (most : Int) : Bool := decide ((g.nodes.length : Int) ≤ most) && g.nodes.all fewN

set_option maxHeartbeats 1000000 in
theorem few_any (w : World) (v : Value) (g : Gr) (most : Int) (hg : GrV w v g) (hwf : GrWf g) :
    Calls Try.prog 15 #[v, .int .i64 most] w fun e w' => e = .returned (.bool (fewB g most)) ∧ Below w.heap.size w w' := by
  obtain ⟨vn, rfl, p, cap, rfl, _, hp⟩ := hg
  have hl := hwf.len
  have Hwf := Lib.hid hwf
  clear hwf
  unfold maxLen at hl
  by_cases hm : most < g.nodes.length
  · have hs : fewB g most = false := by simp [fewB]; omega
    have Hs := Lib.hid hs
    clear hs
    go_enter Try.func15, Try.ntmps15
    go_wp2
    go_ret
    exact ⟨ret_bool Hs.out.symm, (Below.refl _ _).alloc (Nat.le_refl _) _⟩
  · have hs : fewB g most = g.nodes.all fewN := by simp [fewB]; omega
    have Hs := Lib.hid hs
    clear hs
    go_enter Try.func15, Try.ntmps15
    go_wp2
    go_loop [5] (fun i => ∃ k : Nat, k ≤ g.nodes.length ∧ i = .int .i64 k ∧ (g.nodes.take k).all fewN = true) (fun i => g.nodes.length - (intOf i).toNat)
    case atStart => exact ⟨0, Nat.zero_le _, rfl, rfl⟩
    case round =>
      obtain ⟨k, hk, rfl, hall⟩ := hrel
      have Hall := Lib.hid hall
      clear hall
      by_cases hlt : k < g.nodes.length
      · rcases hp with hp | ⟨b, o, rfl, hb, hc⟩
        · rw [hp] at hlt; simp at hlt
        obtain ⟨vi, vp, h0, h1, h2, hi, hpp⟩ := hc k hlt
        obtain ⟨pi, ci, rfl⟩ := hi.len
        obtain ⟨pp, cp, rfl⟩ := hpp.len
        have hli := Hwf.out.insl _ (List.getElem_mem hlt)
        have hlp := Hwf.out.psl _ (List.getElem_mem hlt)
        unfold maxLen at hli hlp
        have hn : fewN g.nodes[k] = false → g.nodes.all fewN = false := by
          intro h
          rw [Bool.eq_false_iff]
          intro hm
          rw [List.all_eq_true] at hm
          have := hm _ (List.getElem_mem hlt)
          rw [h] at this
          cases this
        have hy : fewN g.nodes[k] = true → (g.nodes.take (k + 1)).all fewN = true := fun h => by rw [List.all_take_succ _ _ _ hlt, Hall.out, h]; rfl
        have Hn := Lib.hid hn
        have Hy := Lib.hid hy
        clear hc hi hpp hn hy
        generalize g.nodes[k] = nk at *
        by_cases hf1 : nk.ins.length ≤ 20
        · by_cases hf2 : nk.ps.length ≤ 40
          · have hfn : fewN nk = true := by simp [fewN, hf1, hf2]
            have Hfn := Lib.hid (Hy.out hfn)
            clear hfn
            go_wp2
            go_round
            case rel => exact ⟨k + 1, by omega, by go_num, Hfn.out⟩
            case measure => simp [intOf]; omega
          · have hfn : fewN nk = false := by simp [fewN]; omega
            have Hfn := Lib.hid (Hn.out hfn)
            clear hfn
            go_wp2
            go_ret
            exact ⟨ret_bool (by rw [Hs.out, Hfn.out]), (Below.refl _ _).alloc (Nat.le_refl _) _⟩
        · have hfn : fewN nk = false := by simp [fewN]; omega
          have Hfn := Lib.hid (Hn.out hfn)
          clear hfn
          go_wp2
          go_ret
          exact ⟨ret_bool (by rw [Hs.out, Hfn.out]), (Below.refl _ _).alloc (Nat.le_refl _) _⟩
      · go_wp2
        go_ret
        exact ⟨ret_bool (by rw [Hs.out, ← Hall.out, List.take_of_length_le (by omega)]), (Below.refl _ _).alloc (Nat.le_refl _) _⟩

end Go.Proofs.Ytpbmfalokongfaa

/- Scenes: few operations, with little in them. -/
namespace Go.Gou
/-- An operation in its row. -/
theorem OpsR.at_ {w : World} {p : Option Addr} {n cap : Nat} {xs : List Opr} (h : OpsR w (.slice p n cap) xs) {i : Nat} {q : Opr} (hi : xs[i]? = some q) : ∃ b o vp vf vb, p = some ⟨b, o, none⟩ ∧ b < w.heap.size ∧ w.rangeAt b (o + i * 34) (oprC q vp vf vb).toList ∧ LookR (fun _ => True) w q.look vp vf vb := by
  obtain ⟨p', cap', e, _, h⟩ := h
  simp only [Value.slice.injEq] at e
  obtain ⟨rfl, -, -⟩ := e
  obtain ⟨hl, rfl⟩ := List.getElem?_eq_some_iff.1 hi
  rcases h with h | ⟨b, o, rfl, hb, hc⟩
  · omega
  · obtain ⟨vp, vf, vb, h1, h2⟩ := hc i hl
    exact ⟨b, o, vp, vf, vb, rfl, hb, fun j v hv => h1 j v (by rw [← Array.getElem?_toList]; exact hv), h2⟩
theorem OpsR.len {w : World} {p : Option Addr} {n cap : Nat} {xs : List Opr} (h : OpsR w (.slice p n cap) xs) : n = xs.length := by
  obtain ⟨p', cap', e, _, _⟩ := h
  simp only [Value.slice.injEq] at e
  exact e.2.1
theorem OpsR.up {w w' : World} {v : Value} {xs : List Opr} (h : OpsR w v xs) (hm : Mod (fun _ => False) w w') : OpsR w' v xs := by
  obtain ⟨p, cap, e, h1, h⟩ := h
  refine ⟨p, cap, e, h1, h.imp id ?_⟩
  rintro ⟨b, o, e1, hb, hc⟩
  refine ⟨b, o, e1, Nat.lt_of_lt_of_le hb hm.size, fun i hi => ?_⟩
  obtain ⟨vp, vf, vb, h1, h2⟩ := hc i hi
  exact ⟨vp, vf, vb, fun j u hu => (hm.cell (p := ⟨b, o + i * 34 + j, none⟩) hb (fun h => h)).trans (h1 j u hu), h2.mod hm (fun _ _ _ h => h)⟩
end Go.Gou
namespace Go.Proofs.Ytpbmfalokongfaa
open Go.RowKit Go.Gou
set_option maxRecDepth 100000
set_option linter.constructorNameAsVariable false
def fewOp (o : Opr) : Bool := decide (o.look.content.pix.length ≤ 300) && (fewB o.look.filt 10 && fewB o.look.back 10)
def fewO (l : List Opr) : Bool := decide (l.length ≤ 60) && l.all fewOp
theorem fewOp_split (o : Opr) : fewOp o = (decide (o.look.content.pix.length ≤ 300) && (fewB o.look.filt 10 && fewB o.look.back 10)) := rfl
theorem fewO_big {l : List Opr} (h : 60 < l.length) : fewO l = false := by
  unfold fewO
  rw [decide_eq_false (by omega)]
  rfl
theorem fewO_bad {l : List Opr} {o : Opr} (h : o ∈ l) (hf : fewOp o = false) : fewO l = false := by
  unfold fewO
  rw [Bool.and_eq_false_iff]
  refine .inr ?_
  rw [List.all_eq_false]
  exact ⟨o, h, by rw [hf]; simp⟩
theorem fewO_ok {l : List Opr} (h : l.length ≤ 60) (hf : l.all fewOp = true) : fewO l = true := by
  unfold fewO
  rw [decide_eq_true h, hf]
  rfl

set_option maxHeartbeats 8000000 in
theorem few23_any (w : World) (v : Value) (xs : List Opr) (h : OpsR w v xs) (hwf : ∀ a ∈ xs, LkWf a.look) (hl : xs.length ≤ maxLen) :
    Calls Try.prog 5 #[v] w fun e w' => e = .returned (.bool (fewO xs)) ∧ Gou.Mod (fun _ => False) w w' := by
  obtain ⟨p, cap, rfl, hcap, _⟩ := id h
  have Hh := Lib.hid h
  have Hwf := Lib.hid hwf
  have Hl := Lib.hid hl
  clear h hwf hl hcap
  go_enter Try.func5, Try.ntmps5
  rcases Nat.lt_or_ge 60 xs.length with hbig | hsm
  · have e1 : decide ((60 : Int) < (xs.length : Int)) = true := decide_eq_true (by omega)
    go_wp2_with fail
    go_ret
    exact ⟨by rw [fewO_big hbig]; rfl, Gou.Mod.refl _ _⟩
  · have e1 : decide ((60 : Int) < (xs.length : Int)) = false := decide_eq_false (by omega)
    have Hsm := Lib.hid hsm
    clear hsm
    go_wp2_with fail
    clear e1
    go_loopw [3] (fun vi wr => ∃ j : Nat, vi = .int .i64 j ∧ j ≤ xs.length ∧ (xs.take j).all fewOp = true ∧ Gou.Mod (fun _ => False) w wr) (fun vi _ => xs.length - (intOf vi).toNat)
    case atStart => exact ⟨0, rfl, Nat.zero_le _, by simp, Gou.Mod.refl _ _⟩
    case round =>
      obtain ⟨j, rfl, hj, hall, hm⟩ := hrel
      have Hm := Lib.hid hm
      have Hall := Lib.hid hall
      clear hm hall
      by_cases hil : j < xs.length
      · have e0 : decide ((j : Int) < (xs.length : Int)) = true := decide_eq_true (by omega)
        obtain ⟨q, hq⟩ : ∃ q, xs[j]? = some q := ⟨_, List.getElem?_eq_getElem hil⟩
        have hqm : q ∈ xs := List.mem_of_getElem? hq
        obtain ⟨b, o, vp, vf, vb, rfl, hb, hrg, hlk⟩ := (Hh.out.up Hm.out).at_ hq
        obtain ⟨⟨pp, cp, rfl⟩, ⟨pf, cf, rfl⟩, ⟨pb, cb, rfl⟩⟩ := hlk.forms
        have Hrg : Hid (wr.rangeAt b (o + j * 34 + 6) (lookC q.look (.slice pp q.look.content.pix.length cp) (.slice pf q.look.filt.nodes.length cf) (.slice pb q.look.back.nodes.length cb)).toList) := Lib.hid (fun i v hv => by
          have e : (oprC q (.slice pp q.look.content.pix.length cp) (.slice pf q.look.filt.nodes.length cf) (.slice pb q.look.back.nodes.length cb)).toList = [.int .i64 q.kind, .int .i64 q.id.1, .int .i64 q.id.2, .int .i64 q.to.1, .int .i64 q.to.2, .int .i64 q.at_] ++ (lookC q.look (.slice pp q.look.content.pix.length cp) (.slice pf q.look.filt.nodes.length cf) (.slice pb q.look.back.nodes.length cb)).toList := rfl
          have := hrg (6 + i) v (by rw [e, List.getElem?_append_right (by simp)]; simpa using hv)
          rw [Nat.add_assoc (o + j * 34) 6 i]
          exact this)
        have Hlk := Lib.hid hlk
        have Hw := Lib.hid (Hwf.out q hqm)
        have Hqm := Lib.hid hqm
        have Hst : Hid (fewOp q = true → (xs.take (j + 1)).all fewOp = true) := Lib.hid (fun hf => by
          obtain ⟨hl, rfl⟩ := List.getElem?_eq_some_iff.1 hq
          rw [List.take_succ_eq_append_getElem hl, List.all_append, Hall.out]
          simpa using hf)
        have Hil := Lib.hid hil
        clear hrg hlk hqm hq hb hil
        go_upto_region 7 with (first | ((with_reducible refine wpList_load_mid ?g1_1 42 ?x1_1 ?o1_1 (b) (o + j * 34 + 6) ?h1_1 ((lookC q.look (.slice pp q.look.content.pix.length cp) (.slice pf q.look.filt.nodes.length cf) (.slice pb q.look.back.nodes.length cb)).toList) ?d1_1 ?c1_1 ?u1_1 ?e1_1 ?i1_1 ?r1_1); (case g1_1 => exact rfl); (case o1_1 => exact rfl); (case h1_1 => exact rfl); (case c1_1 => exact Hrg.out); (case u1_1 => exact Try.underlying42); (case e1_1 => exact rfl); (case i1_1 => exact size_look)) | ((with_reducible refine wpList_store_mid ?g1_2 42 ?x1_2 ?y1_2 ?o1_2 (wr.heap.size) (0) (lookC q.look (.slice pp q.look.content.pix.length cp) (.slice pf q.look.filt.nodes.length cf) (.slice pb q.look.back.nodes.length cb)) ?h1_2 ?j1_2 ?t1_2 ?i1_2 ?s1_2 ?r1_2); (case g1_2 => exact rfl); (case o1_2 => exact rfl); (case h1_2 => exact rfl); (case j1_2 => exact rfl); (case t1_2 => exact (Blk.new wr 42 (lookC Lk.zero (.slice none 0 0) (.slice none 0 0) (.slice none 0 0))).there 0 28 (by simp [lookC])); (case i1_2 => exact size_look); (case s1_2 => exact look_one)) | fail)
        have HB := Lib.hid ((Blk.new wr 42 (lookC Lk.zero (.slice none 0 0) (.slice none 0 0) (.slice none 0 0))).setAll (lookC q.look (.slice pp q.look.content.pix.length cp) (.slice pf q.look.filt.nodes.length cf) (.slice pb q.look.back.nodes.length cb)) rfl)
        have hma : Gou.Mod (fun _ => False) wr ((wr.alloc (.cells (lookC Lk.zero (.slice none 0 0) (.slice none 0 0) (.slice none 0 0)) 42)).setCells wr.heap.size 0 (lookC q.look (.slice pp q.look.content.pix.length cp) (.slice pf q.look.filt.nodes.length cf) (.slice pb q.look.back.nodes.length cb)).toList) := Gou.Mod.allocSet _ _ _
        show Code.wp _ _ _ _ ((wr.alloc (.cells (lookC Lk.zero (.slice none 0 0) (.slice none 0 0) (.slice none 0 0)) 42)).setCells wr.heap.size 0 (lookC q.look (.slice pp q.look.content.pix.length cp) (.slice pf q.look.filt.nodes.length cf) (.slice pb q.look.back.nodes.length cb)).toList)
        have HM2 := Lib.hid (Hm.out.trans' hma)
        have Hlk2 := Lib.hid (Hlk.out.mod hma (fun _ _ _ h => h))
        clear hma Hm Hlk Hrg e0
        generalize (wr.alloc (.cells (lookC Lk.zero (.slice none 0 0) (.slice none 0 0) (.slice none 0 0)) 42)).setCells wr.heap.size 0 (lookC q.look (.slice pp q.look.content.pix.length cp) (.slice pf q.look.filt.nodes.length cf) (.slice pb q.look.back.nodes.length cb)).toList = W2 at *
        generalize wr.heap.size = N at *
        have n21 : W2.cell? ⟨N, 21, none⟩ = some (.slice pp q.look.content.pix.length cp) := HB.out.cell 21 rfl
        have n23 : W2.cell? ⟨N, 23, none⟩ = some (.slice pf q.look.filt.nodes.length cf) := HB.out.cell 23 rfl
        have n24 : W2.cell? ⟨N, 24, none⟩ = some (.int .i64 q.look.filt.out) := HB.out.cell 24 rfl
        have hwi : wrap64 ((j : Int) + 1) = ((j + 1 : Nat) : Int) := by have := Hil.out; have := Hsm.out; unfold wrap64; omega
        rcases Nat.lt_or_ge 300 q.look.content.pix.length with hbig | hpx
        · have e1 : decide ((300 : Int) < (q.look.content.pix.length : Int)) = true := decide_eq_true (by omega)
          have Hf : Hid (fewO xs = false) := Lib.hid (fewO_bad Hqm.out (by rw [fewOp_split, decide_eq_false (by omega)]; rfl))
          go_wp2_with fail
          go_ret
          exact ⟨by rw [Hf.out]; rfl, HM2.out⟩
        · have e1 : decide ((300 : Int) < (q.look.content.pix.length : Int)) = false := decide_eq_false (by omega)
          have Hpx : Hid (decide (q.look.content.pix.length ≤ 300) = true) := Lib.hid (decide_eq_true hpx)
          clear hpx
          go_wp2_with fail
          refine (few_any _ (.agg #[.slice pf q.look.filt.nodes.length cf, .int .i64 q.look.filt.out]) q.look.filt 10 ⟨_, rfl, NodesR.at_ Hlk2.out.filt⟩ Hw.out.filt).mono ?_
          rintro e w3 ⟨rfl, hb3⟩
          have hm3 := Gou.Mod.of_below hb3 (fun _ => False)
          have HM3 := Lib.hid (HM2.out.trans' hm3)
          have HB3 := Lib.hid (HB.out.up hm3)
          have Hlk3 := Lib.hid (Hlk2.out.mod hm3 (fun _ _ _ h => h))
          clear n21 n23 n24 hb3 hm3 e1
          have n26 : w3.cell? ⟨N, 26, none⟩ = some (.slice pb q.look.back.nodes.length cb) := HB3.out.cell 26 rfl
          have n27 : w3.cell? ⟨N, 27, none⟩ = some (.int .i64 q.look.back.out) := HB3.out.cell 27 rfl
          cases hf1 : fewB q.look.filt 10
          · have Hf : Hid (fewO xs = false) := Lib.hid (fewO_bad Hqm.out (by rw [fewOp_split, hf1]; simp))
            clear hf1
            go_wp2_with fail
            go_ret
            exact ⟨by rw [Hf.out]; rfl, HM3.out⟩
          · have Hf1 := Lib.hid hf1
            clear hf1
            go_wp2_with fail
            refine (few_any _ (.agg #[.slice pb q.look.back.nodes.length cb, .int .i64 q.look.back.out]) q.look.back 10 ⟨_, rfl, NodesR.at_ Hlk3.out.back⟩ Hw.out.back).mono ?_
            rintro e w4 ⟨rfl, hb4⟩
            have HM4 := Lib.hid (HM3.out.trans' (Gou.Mod.of_below hb4 (fun _ => False)))
            clear n26 n27 hb4
            cases hf2 : fewB q.look.back 10
            · have Hf : Hid (fewO xs = false) := Lib.hid (fewO_bad Hqm.out (by rw [fewOp_split, hf2]; simp))
              clear hf2
              go_wp2_with fail
              go_ret
              exact ⟨by rw [Hf.out]; rfl, HM4.out⟩
            · have Hf : Hid (fewOp q = true) := Lib.hid (by rw [fewOp_split, Hpx.out, Hf1.out, hf2]; rfl)
              clear hf2
              go_wp2_with fail
              go_roundw
              case rel => exact ⟨j + 1, by rw [← hwi], by have := Hil.out; omega, Hst.out Hf.out, HM4.out⟩
              case measure => rw [hwi]; have := Hil.out; simp only [intOf]; omega
      · have e0 : decide ((j : Int) < (xs.length : Int)) = false := decide_eq_false (by omega)
        have hil' : j = xs.length := by omega
        subst hil'
        rw [List.take_length] at Hall
        have Hf := Lib.hid (fewO_ok Hsm.out Hall.out)
        go_wp2_with fail
        go_ret
        exact ⟨by rw [Hf.out]; rfl, Hm.out⟩
end Go.Proofs.Ytpbmfalokongfaa

/- Scenes: what is played stays bounded. -/
namespace Go.Gou
set_option linter.constructorNameAsVariable false
namespace Ly
mutual
def lks : Ly → List Lk
  | .mk _ l ks => l :: lksL ks
def lksL : List Ly → List Lk
  | [] => []
  | k :: ks => k.lks ++ lksL ks
end
theorem mem_lksL {ks : List Ly} {x : Lk} : x ∈ lksL ks ↔ ∃ k ∈ ks, x ∈ k.lks := by
  induction ks with
  | nil => simp [lksL]
  | cons k ks ih => rw [lksL, List.mem_append, ih]; simp
theorem lks_mk (i : Idt) (l : Lk) (ks : List Ly) : lks (.mk i l ks) = l :: lksL ks := by rw [lks]
theorem lks_get : ∀ {π : List Nat} {T s : Ly}, T.get? π = some s → ∀ x ∈ s.lks, x ∈ T.lks
  | [], T, s, h, x, hx => by cases T; cases h; exact hx
  | i :: π, T, s, h, x, hx => by
    rw [get?] at h
    cases hk : T.kids[i]? with
    | none => rw [hk] at h; cases h
    | some k =>
      rw [hk] at h
      have := lks_get h x hx
      cases T with
      | mk j l ks =>
        rw [lks_mk]
        exact List.mem_cons_of_mem _ (mem_lksL.2 ⟨k, List.mem_of_getElem? hk, this⟩)
theorem lks_put : ∀ {π : List Nat} {T s s2 : Ly}, T.get? π = some s → ∀ x ∈ (T.put π s2).lks, x ∈ T.lks ∨ x ∈ s2.lks
  | [], T, s, s2, _, x, hx => by rw [put] at hx; exact .inr hx
  | i :: π, T, s, s2, h, x, hx => by
    rw [get?] at h
    cases hk : T.kids[i]? with
    | none => rw [hk] at h; cases h
    | some k =>
      rw [hk] at h
      rw [put, hk] at hx
      cases T with
      | mk j l ks =>
        simp only [id_mk, look_mk, kids_mk, lks_mk, List.mem_cons] at hx hk ⊢
        rcases hx with rfl | hx
        · exact .inl (.inl rfl)
        · obtain ⟨k', h1, h2⟩ := mem_lksL.1 hx
          rcases List.mem_or_eq_of_mem_set h1 with h1 | rfl
          · exact .inl (.inr (mem_lksL.2 ⟨k', h1, h2⟩))
          · rcases lks_put h x h2 with h3 | h3
            · exact .inl (.inr (mem_lksL.2 ⟨k, List.mem_of_getElem? hk, h3⟩))
            · exact .inr h3
theorem lks_insAt {n : Int} {m : Ly} {ks : List Ly} {x : Lk} (h : x ∈ lksL (insAt n m ks)) : x ∈ m.lks ∨ x ∈ lksL ks := by
  unfold insAt at h
  split at h
  · obtain ⟨k, h1, h2⟩ := mem_lksL.1 h
    rcases List.mem_append.1 h1 with h1 | h1
    · exact .inr (mem_lksL.2 ⟨k, List.mem_of_mem_take h1, h2⟩)
    · rcases List.mem_cons.1 h1 with rfl | h1
      · exact .inl h2
      · exact .inr (mem_lksL.2 ⟨k, List.mem_of_mem_drop h1, h2⟩)
  · exact .inr h
theorem lks_erase {i : Nat} {ks : List Ly} {x : Lk} (h : x ∈ lksL (ks.eraseIdx i)) : x ∈ lksL ks := by
  obtain ⟨k, h1, h2⟩ := mem_lksL.1 h
  exact mem_lksL.2 ⟨k, List.mem_of_mem_eraseIdx h1, h2⟩
theorem fit_of : ∀ (T : Ly), (∀ x ∈ T.lks, LkFit x) → T.ids.length ≤ 1000000 → TFit T := by
  intro T
  induction T using ind with
  | h i l ks ih =>
    intro h hn
    rw [ids_mk, List.length_cons] at hn
    have hlen : ∀ ks : List Ly, ks.length ≤ (idsL ks).length := by
      intro ks
      induction ks with
      | nil => simp
      | cons k ks ihk => rw [idsL, List.length_append, List.length_cons]; cases k; rw [ids_mk, List.length_cons]; omega
    refine .mk _ _ _ (h l (by rw [lks_mk]; exact List.mem_cons_self ..)) (by have := hlen ks; omega) (fun k hk => ih k hk (fun x hx => h x (by rw [lks_mk]; exact List.mem_cons_of_mem _ (mem_lksL.2 ⟨k, hk, hx⟩))) ?_)
    have : k.ids.length ≤ (idsL ks).length := by
      obtain ⟨a, b, rfl⟩ := List.append_of_mem hk
      rw [idsL_eq, List.flatMap_append, List.flatMap_cons, List.length_append, List.length_append]
      omega
    omega
end Ly
def LkAll (s : Sn) : Prop := ∀ x ∈ s.root.lks, LkFit x
theorem Inv.few {n : Nat} {s : Sn} (h : Inv n s) : s.root.ids.length ≤ n + 1 := by
  have h1 := h.cnt
  have h2 := Ar.count_le (a := s.arena)
  have h3 := h.small
  have h4 := h.ok.len
  omega
theorem Inv.fit {n : Nat} {s : Sn} (h : Inv n s) (hn : n ≤ 100) (hl : LkAll s) : SnFit s := by
  have h1 := h.few
  have h3 := h.small
  have h4 := h.ok.len
  exact ⟨Ly.fit_of _ hl (by omega), by omega, by omega⟩
theorem ct_own_pix (c : Ct) : c.own.pix.length ≤ c.pix.length := by
  unfold Ct.own
  split
  · simp [Ct.zero]
  · split
    · simp
    · simp [Ct.zero]
theorem lookP_fit {check : Gr → Int} {l : Lk} {o : Opr} (h : LkFit l) (ho : LkFit o.look) : LkFit (lookP check l o).1 := by
  unfold lookP
  simp only
  repeat' split
  all_goals first
    | exact h
    | exact ⟨h.pix, h.filt, h.back⟩
    | exact ⟨Nat.le_trans (ct_own_pix _) ho.pix, h.filt, h.back⟩
    | exact ⟨h.pix, ho.filt, h.back⟩
    | exact ⟨h.pix, h.filt, ho.back⟩
    | exact ⟨h.pix, ⟨by simp [Gr.zero], by simp [Gr.zero]⟩, h.back⟩
    | exact ⟨h.pix, h.filt, ⟨by simp [Gr.zero], by simp [Gr.zero]⟩⟩
theorem plain_fit : LkFit Lk.plain := ⟨by simp [Lk.plain, Lk.zero, Ct.zero], by simp [Lk.plain, Lk.zero, Gr.zero], by simp [Lk.plain, Lk.zero, Gr.zero]⟩
theorem Ly.kids_lks {T : Ly} {x : Lk} (h : x ∈ lksL T.kids) : x ∈ T.lks := by cases T; rw [lks_mk]; exact List.mem_cons_of_mem _ h
theorem doP_lks {n : Nat} {s : Sn} (hI : Inv n s) (check : Gr → Int) (o : Opr) (hs : LkAll s) (ho : LkFit o.look) : LkAll (doP check s o).1 := by
  by_cases h1 : o.kind < 1 ∨ 11 < o.kind
  · rw [doP_bad check s o h1]; exact hs
  cases hst : stale s.arena o with
  | true => rw [doP_stale check s o (by omega) (by omega) hst]; exact hs
  | false =>
    by_cases h5 : 5 ≤ o.kind
    · obtain ⟨π, x, p1, p2, e⟩ := doP_set hI check o h5 (by omega) hst
      rw [e]
      split
      · exact hs
      · intro y hy
        rcases Ly.lks_put p2 y hy with hy | hy
        · exact hs y hy
        · rw [Ly.lks_mk, List.mem_cons] at hy
          rcases hy with rfl | hy
          · refine lookP_fit (hs _ (Ly.lks_get p2 _ ?_)) ho
            cases x; rw [Ly.lks_mk]; exact List.mem_cons_self ..
          · exact hs y (Ly.lks_get p2 y (Ly.kids_lks hy))
    · by_cases k1 : o.kind = 1
      · obtain ⟨π, x, p1, p2, e⟩ := doP_insert hI check o k1 hst
        rw [e]
        split
        · exact hs
        · split
          · exact hs
          · intro y hy
            rcases Ly.lks_put p2 y hy with hy | hy
            · exact hs y hy
            · rw [Ly.lks_mk, List.mem_cons] at hy
              rcases hy with rfl | hy
              · refine hs _ (Ly.lks_get p2 _ ?_)
                cases x; rw [Ly.lks_mk]; exact List.mem_cons_self ..
              · rcases Ly.lks_insAt hy with hy | hy
                · rw [Ly.lks_mk] at hy
                  simp only [Ly.lksL, List.mem_singleton] at hy
                  rw [hy]
                  exact plain_fit
                · exact hs y (Ly.lks_get p2 y (Ly.kids_lks hy))
      · by_cases hid : o.id = (0, 0)
        · rw [doP_root check s o (by omega) (by omega) hst hid]; exact hs
        · obtain ⟨π, i, q, k, T2, hO⟩ := outAt hI o k1 hst hid
          have hk : ∀ y ∈ k.lks, LkFit y := fun y hy => hs y (Ly.lks_get hO.geti y hy)
          have hq : ∀ y ∈ q.lks, LkFit y := fun y hy => hs y (Ly.lks_get hO.get y hy)
          have hT : ∀ y ∈ T2.lks, LkFit y := fun y hy => by
            rw [← hO.out] at hy
            rcases Ly.lks_put hO.get y hy with hy | hy
            · exact hs y hy
            · rw [Ly.lks_mk, List.mem_cons] at hy
              rcases hy with rfl | hy
              · refine hq _ ?_
                cases q; rw [Ly.lks_mk]; exact List.mem_cons_self ..
              · exact hq y (Ly.kids_lks (Ly.lks_erase hy))
          by_cases k2 : o.kind = 2
          · rw [doP_remove check o hO k2 hst hid]; exact hT
          · by_cases k3 : o.kind = 3
            · by_cases hto : k.pathOf o.to = none
              · obtain ⟨σ, x, p1, p2, _, e⟩ := doP_reparent hI check o hO k3 hst hid hto
                rw [e]
                split
                · exact hs
                · intro y hy
                  rcases Ly.lks_put p2 y hy with hy | hy
                  · exact hT y hy
                  · rw [Ly.lks_mk, List.mem_cons] at hy
                    rcases hy with rfl | hy
                    · refine hT _ (Ly.lks_get p2 _ ?_)
                      cases x; rw [Ly.lks_mk]; exact List.mem_cons_self ..
                    · rcases Ly.lks_insAt hy with hy | hy
                      · exact hk y hy
                      · exact hT y (Ly.lks_get p2 y (Ly.kids_lks hy))
              · rw [doP_cycle check o hO k3 hst hid hto]; exact hs
            · rw [doP_reorder hI check o hO (by omega) hst hid]
              split
              · exact hs
              · intro y hy
                have hg : T2.get? π = some (.mk q.id q.look (q.kids.eraseIdx i)) := by
                  rw [← hO.out]
                  exact Ly.get_put hO.get
                rcases Ly.lks_put hg y hy with hy | hy
                · exact hT y hy
                · rw [Ly.lks_mk, List.mem_cons] at hy
                  rcases hy with rfl | hy
                  · refine hq _ ?_
                    cases q; rw [Ly.lks_mk]; exact List.mem_cons_self ..
                  · rcases Ly.lks_insAt hy with hy | hy
                    · exact hk y hy
                    · exact hq y (Ly.kids_lks (Ly.lks_erase hy))
theorem playP_snoc (check : Gr → Int) {l : List Opr} {j : Nat} {q : Opr} (h : l[j]? = some q) : playP check (l.take (j + 1)) = (doP check (playP check (l.take j)) q).1 := by
  obtain ⟨hl, rfl⟩ := List.getElem?_eq_some_iff.1 h
  unfold playP
  rw [List.take_succ_eq_append_getElem hl, List.foldl_append]
  rfl
theorem play_lks (check : Gr → Int) {l : List Opr} (h : ∀ o ∈ l, LkFit o.look) : ∀ j, j ≤ l.length → LkAll (playP check (l.take j)) ∧ Inv j (playP check (l.take j))
  | 0, _ => by
    refine ⟨?_, ?_⟩
    · intro x hx
      simp only [playP, List.take_zero, List.foldl_nil, Sn.new, Ly.lks_mk, Ly.lksL, List.mem_singleton] at hx
      rw [hx]
      exact plain_fit
    · exact Inv.new
  | j + 1, hj => by
    obtain ⟨h1, h2⟩ := play_lks check h j (by omega)
    have hq : l[j]? = some l[j] := List.getElem?_eq_getElem (by omega)
    rw [playP_snoc check hq]
    exact ⟨doP_lks h2 check _ h1 (h _ (List.getElem_mem _)), Inv.do_ h2 check _⟩
end Go.Gou

/- Scenes: the arena is right. -/
namespace Go.Proofs.Ytpbmfalokongfaa
open Go.Shelf
def minInt_ren : Go.Shelf.Ren := ⟨fun | 39 => 20 | n => n, fun | 22 => 25 | 23 => 3 | 3 => 3 | 4 => 4 | 9 => 9 | 20 => 20 | 0 => 0 | n => n, fun | n => n⟩
theorem minInt : Go.Proofs.SlLaysN.n39 Try.prog minInt_ren := {
  mixed := by kernel_rfl
  f39 := ⟨Try.f20.name, by decide, Try.func20.trans (congrArg some (by kernel_rfl))⟩
  t0 := Try.underlying0
  a0 := Try.isAgg0
  z0 := Try.sizeOf0
  v0 := Try.zeroValue0
  t3 := Try.underlying3
  a3 := Try.isAgg3
  z3 := Try.sizeOf3
  v3 := Try.zeroValue3
  t4 := Try.underlying4
  a4 := Try.isAgg4
  z4 := Try.sizeOf4
  v4 := Try.zeroValue4
  t9 := Try.underlying9
  a9 := Try.isAgg9
  z9 := Try.sizeOf9
  v9 := Try.zeroValue9
  t20 := Try.underlying20
  a20 := Try.isAgg20
  z20 := Try.sizeOf20
  v20 := Try.zeroValue20
  t22 := Try.underlying25
  a22 := Try.isAgg25
  z22 := Try.sizeOf25
  v22 := Try.zeroValue25
  t23 := Try.underlying3
  a23 := Try.isAgg3
  z23 := Try.sizeOf3
  v23 := Try.zeroValue3 }
end Go.Proofs.Ytpbmfalokongfaa
namespace Go.Gou
open Go.RowKit
theorem minOf_pos (zs : List Int) (h : ∀ z ∈ zs, 0 ≤ z) : ∀ k, 0 < k → k ≤ zs.length → 0 ≤ Lib.minOf (zs.take k)
  | 0, h0, _ => absurd h0 (Nat.lt_irrefl _)
  | 1, _, hk => by
    rw [Lib.minOf_one, List.getD_eq_getElem?_getD, List.getElem?_eq_getElem (by omega)]
    exact h _ (List.getElem_mem _)
  | k + 2, _, hk => by
    rw [Lib.minOf_step zs (k + 1) (by omega) (by omega), List.getD_eq_getElem?_getD, List.getElem?_eq_getElem (by omega)]
    have h1 := minOf_pos zs h (k + 1) (by omega) (by omega)
    have h2 := h (zs[k + 1]) (List.getElem_mem _)
    simp only [Option.getD_some]
    omega
theorem RowG.one_cell {G : Nat → Prop} {w : World} {p : Option Addr} {n c : Nat} {cs : List Value} (h : RowG G w 1 (.slice p n c) n cs) (h0 : 0 < n) : ∃ b o, p = some ⟨b, o, none⟩ ∧ ∀ (j : Nat) (u : Value), cs[j]? = some u → w.cell? ⟨b, o + j, none⟩ = some u := by
  obtain ⟨_, p', cap, e, _, h⟩ := h
  simp only [Value.slice.injEq] at e
  obtain ⟨rfl, -, -⟩ := e
  rcases h with h | ⟨b, o, rfl, _, _, hc⟩
  · omega
  · exact ⟨b, o, rfl, hc⟩
theorem ivs_get {l : List Int} {j : Nat} {x : Int} (h : l[j]? = some x) : (ivs l)[j]? = some (.int .i64 x) := by simp [ivs, h]
end Go.Gou
namespace Go.Proofs.Ytpbmfalokongfaa
open Go.RowKit Go.Gou
set_option maxRecDepth 100000
set_option linter.constructorNameAsVariable false

set_option maxHeartbeats 4000000 in
theorem arRight_any (w : World) (vg vl : Value) (a : Ar) (n : Nat) (h : ArR w vg vl a) (ha : ArOk a n) (hn : a.gens.length ≤ 1024) :
    Calls Try.prog 8 #[.agg #[vg, vl]] w fun e w' => e = .returned (.bool true) ∧ Gou.Mod (fun _ => False) w w' := by
  obtain ⟨⟨pg, cg, rfl⟩, ⟨pl, cl, rfl⟩⟩ := h.forms
  have h0 : 0 < a.gens.length := (List.getElem?_eq_some_iff.1 ha.g0).1
  have hl0 : 0 < a.live.length := (List.getElem?_eq_some_iff.1 ha.l0).1
  have hlen := ha.len
  have hL := h.l
  rw [← hlen] at hL ⊢
  have HB := Lib.hid (Blk.new w 28 #[.slice pg a.gens.length cg, .slice pl a.gens.length cl])
  have HMa := Lib.hid (Gou.Mod.alloc0 w (.cells #[.slice pg a.gens.length cg, .slice pl a.gens.length cl] 28))
  obtain ⟨bg, og, rfl, hcg⟩ := RowG.one_cell (RowG.mod h.g HMa.out (fun _ _ _ h => h)) h0
  obtain ⟨bl, ol, rfl, hcl⟩ := RowG.one_cell (RowG.mod hL HMa.out (fun _ _ _ h => h)) h0
  have g0 := hcg 0 _ (ivs_get ha.g0)
  have l0 := hcl 0 _ (bvs_get ha.l0)
  rw [Nat.add_zero] at g0 l0
  have Hcg := Lib.hid hcg
  have Hpos := Lib.hid (minOf_pos a.gens (fun z hz => (ha.gen z hz).1) a.gens.length h0 (Nat.le_refl _))
  rw [List.take_length] at Hpos
  have Hb := Lib.hid (And.intro h0 (And.intro hn hlen))
  have e2 : decide ((a.gens.length : Int) < 1) = false := decide_eq_false (by omega)
  have e3 : decide ((1024 : Int) < (a.gens.length : Int)) = false := decide_eq_false (by omega)
  have i0 : decide ((0 : Int) < (a.gens.length : Int)) = true := decide_eq_true (by omega)
  have j0 : 0 < a.gens.length := h0
  clear h ha hn hlen hcg hcl hL hl0
  go_enter Try.func8, Try.ntmps8
  go_upto_region 1 with fail
  generalize w.alloc (.cells #[.slice (some ⟨bg, og, none⟩) a.gens.length cg, .slice (some ⟨bl, ol, none⟩) a.gens.length cl] 28) = W1 at *
  have c0 : W1.cell? ⟨w.heap.size, 0, none⟩ = some (.slice (some ⟨bg, og, none⟩) a.gens.length cg) := HB.out.cell 0 rfl
  have c1 : W1.cell? ⟨w.heap.size, 1, none⟩ = some (.slice (some ⟨bl, ol, none⟩) a.gens.length cl) := HB.out.cell 1 rfl
  go_wp2_with fail
  have hmin := AnyG.slices_Min_int minInt bg og a.gens.length cg a.gens W1 Hb.out.1 (Nat.le_refl _) (by have := Hb.out; omega) (fun j hj => Hcg.out j _ (ivs_get (by rw [List.getD_eq_getElem?_getD, List.getElem?_eq_getElem hj]; rfl)))
  rw [List.take_length] at hmin
  refine Calls.mono hmin ?_
  rintro e w2 ⟨rfl, rfl⟩
  have e4 : decide (0 ≤ Lib.minOf a.gens) = true := decide_eq_true Hpos.out
  clear hmin
  generalize Lib.minOf a.gens = mm at *
  go_wp2_with fail
  go_ret
  exact ⟨rfl, HMa.out⟩
end Go.Proofs.Ytpbmfalokongfaa

/- Scenes: SceneTree, the law's walk. -/
namespace Go.Proofs.Ytpbmfalokongfaa
open Go.RowKit Go.Gou
set_option maxRecDepth 100000
set_option linter.constructorNameAsVariable false
theorem count_one {x : Idt} : ∀ {l : List Idt}, l.Nodup → x ∈ l → l.count x = 1
  | [], _, h => by simp at h
  | a :: l, hn, h => by
    rw [List.nodup_cons] at hn
    rw [List.count_cons]
    by_cases ha : a = x
    · subst ha
      rw [List.count_eq_zero_of_not_mem hn.1]
      simp
    · rw [count_one hn.2 (by simpa [Ne.symm ha] using h)]
      simp [ha]
theorem few_fit {l : List Opr} (h : fewO l = true) : l.length ≤ 60 ∧ ∀ o ∈ l, LkFit o.look := by
  unfold fewO at h
  rw [Bool.and_eq_true, decide_eq_true_eq, List.all_eq_true] at h
  refine ⟨h.1, fun o ho => ?_⟩
  have h1 := h.2 o ho
  rw [fewOp_split, Bool.and_eq_true, Bool.and_eq_true, decide_eq_true_eq] at h1
  have gf : ∀ g : Gr, fewB g 10 = true → g.nodes.length ≤ 1000000 ∧ ∀ n ∈ g.nodes, n.ins.length ≤ 1000000 ∧ n.ps.length ≤ 1000000 := fun g hg => by
    unfold fewB at hg
    rw [Bool.and_eq_true, decide_eq_true_eq, List.all_eq_true] at hg
    refine ⟨by omega, fun n hn => ?_⟩
    have := hg.2 n hn
    unfold fewN at this
    rw [Bool.and_eq_true, decide_eq_true_eq, decide_eq_true_eq] at this
    omega
  exact ⟨by omega, gf _ h1.2.1, gf _ h1.2.2⟩
theorem SnB.mk' {w : World} {b : Nat} {v : Value} {s : Sn} {base : Nat} {vg vl vp vf vb vk : Value} (h : SnO base w v s) (he : v = .agg (scA vg vl s.root.id s.root.look vp vf vb vk)) (hb : Blk w b 47 (scA vg vl s.root.id s.root.look vp vf vb vk)) : SnB w b s := by
  obtain ⟨vg', vl', vp', vf', vb', vk', F, e, ha, hl⟩ := h.low (Nat.zero_le _)
  rw [he] at e
  have e2 := Value.agg.inj e
  exact ⟨_, _, _, _, _, _, F, e2 ▸ hb, ha, hl⟩

set_option maxHeartbeats 16000000 in
theorem sceneTree_law (w : World) (v : Value) (xs : List Opr) (h : OpsR w v xs) (hwf : ∀ a ∈ xs, LkWf a.look) (hl : xs.length ≤ maxLen) :
    Calls Try.prog 3 #[v] w fun e w' => e = .returned (.bool true) ∧ Gou.Mod (fun _ => False) w w' := by
  obtain ⟨p, cap, rfl, _, _⟩ := id h
  have Hh := Lib.hid h
  have Hwf := Lib.hid hwf
  have Hl := Lib.hid hl
  clear h hwf hl
  go_enter Try.func3, Try.ntmps3
  go_wp2_with fail
  refine (awake_any _).mono ?_
  rintro e w1 ⟨rfl, hm1⟩
  have HM1 := Lib.hid hm1
  have Hh1 := Lib.hid (Hh.out.up hm1)
  clear hm1
  go_wp2_with fail
  refine (few23_any _ _ xs Hh1.out Hwf.out Hl.out).mono ?_
  rintro e w2 ⟨rfl, hm2⟩
  have HM2 := Lib.hid (HM1.out.trans' hm2)
  have Hh2 := Lib.hid (Hh1.out.up hm2)
  clear hm2 HM1 Hh1
  cases hfew : fewO xs
  · clear hfew
    go_wp2_with fail
    refine (awake_any _).mono ?_
    rintro e w3 ⟨rfl, hm3⟩
    have HM3 := Lib.hid (HM2.out.trans' hm3)
    clear hm3
    go_wp2_with fail
    go_ret
    exact ⟨rfl, HM3.out⟩
  · have Hfit := Lib.hid (few_fit hfew)
    clear hfew
    go_upto_region 3 with fail
    go_wp2_with fail
    refine (new_any _).mono ?_
    rintro e w3 ⟨v3, rfl, hs3, hm3⟩
    obtain ⟨vg, vl, vp, vf, vb, vk, F, rfl, ha, hly⟩ := hs3
    have Hone := Lib.hid (scO_one ha hly)
    have Hs3 : Hid (SnO w2.heap.size w3 (.agg (scA vg vl Sn.new.root.id Sn.new.root.look vp vf vb vk)) Sn.new) := Lib.hid ⟨_, _, _, _, _, _, F, rfl, ha, hly⟩
    have HM3 := Lib.hid (HM2.out.trans' hm3)
    have Hh3 := Lib.hid (Hh2.out.up hm3)
    clear hm3 ha hly HM2 Hh2
    go_upto_region 4 with (first | ((with_reducible refine wpList_store_mid ?g1_1 47 ?x1_1 ?y1_1 ?o1_1 (w3.heap.size) (0) (scA vg vl Sn.new.root.id Sn.new.root.look vp vf vb vk) ?h1_1 ?j1_1 ?t1_1 ?i1_1 ?s1_1 ?r1_1); (case g1_1 => exact rfl); (case o1_1 => exact rfl); (case h1_1 => exact rfl); (case j1_1 => exact rfl); (case t1_1 => exact (Blk.new w3 47 (scA (.slice none 0 0) (.slice none 0 0) (0, 0) Lk.zero (.slice none 0 0) (.slice none 0 0) (.slice none 0 0) (.slice none 0 0))).there 0 33 (by simp [scA])); (case i1_1 => exact size_scene); (case s1_1 => exact Hone.out)) | fail)
    have hma : Gou.Mod (fun _ => False) w3 ((w3.alloc (.cells (scA (.slice none 0 0) (.slice none 0 0) (0, 0) Lk.zero (.slice none 0 0) (.slice none 0 0) (.slice none 0 0) (.slice none 0 0)) 47)).setCells w3.heap.size 0 (scA vg vl Sn.new.root.id Sn.new.root.look vp vf vb vk).toList) := Gou.Mod.allocSet _ _ _
    have HSB : Hid (SnB ((w3.alloc (.cells (scA (.slice none 0 0) (.slice none 0 0) (0, 0) Lk.zero (.slice none 0 0) (.slice none 0 0) (.slice none 0 0) (.slice none 0 0)) 47)).setCells w3.heap.size 0 (scA vg vl Sn.new.root.id Sn.new.root.look vp vf vb vk).toList) w3.heap.size Sn.new) := Lib.hid (SnB.mk' (Hs3.out.up hma) rfl ((Blk.new w3 47 (scA (.slice none 0 0) (.slice none 0 0) (0, 0) Lk.zero (.slice none 0 0) (.slice none 0 0) (.slice none 0 0) (.slice none 0 0))).setAll (scA vg vl Sn.new.root.id Sn.new.root.look vp vf vb vk) rfl))
    have HM4 := Lib.hid (HM3.out.trans' hma)
    have Hh4 := Lib.hid (Hh3.out.up hma)
    have HBge : Hid (w.heap.size ≤ w3.heap.size) := Lib.hid HM3.out.size
    show Code.wp _ _ _ _ ((w3.alloc (.cells (scA (.slice none 0 0) (.slice none 0 0) (0, 0) Lk.zero (.slice none 0 0) (.slice none 0 0) (.slice none 0 0) (.slice none 0 0)) 47)).setCells w3.heap.size 0 (scA vg vl Sn.new.root.id Sn.new.root.look vp vf vb vk).toList)
    clear hma Hs3 Hone HM3 Hh3
    generalize (w3.alloc (.cells (scA (.slice none 0 0) (.slice none 0 0) (0, 0) Lk.zero (.slice none 0 0) (.slice none 0 0) (.slice none 0 0) (.slice none 0 0)) 47)).setCells w3.heap.size 0 (scA vg vl Sn.new.root.id Sn.new.root.look vp vf vb vk).toList = W4 at *
    generalize w3.heap.size = B at *
    go_wp2_with fail
    go_loopw [4] (fun vi wr => ∃ j : Nat, vi = .int .i64 j ∧ j ≤ xs.length ∧ SnB wr B (playP checkS (xs.take j)) ∧ Gou.Mod (fun _ => False) w wr) (fun vi _ => xs.length - (intOf vi).toNat)
    case atStart => exact ⟨0, rfl, Nat.zero_le _, HSB.out, HM4.out⟩
    case round =>
      obtain ⟨j, rfl, hj, hsb, hm⟩ := hrel
      have Hm := Lib.hid hm
      have Hsb := Lib.hid hsb
      clear hm hsb HSB HM4 Hh4
      by_cases hil : j < xs.length
      · have e0 : decide ((j : Int) < (xs.length : Int)) = true := decide_eq_true (by omega)
        obtain ⟨q, hq⟩ : ∃ q, xs[j]? = some q := ⟨_, List.getElem?_eq_getElem hil⟩
        have Hqm := Lib.hid (List.mem_of_getElem? hq)
        have Hsnoc := Lib.hid (playP_snoc checkS hq)
        obtain ⟨b, o, vp0, vf0, vb0, rfl, hbw, _, _⟩ := Hh.out.at_ hq
        obtain ⟨b', o', vp2, vf2, vb2, hbe, hb, hrg, hlk⟩ := (Hh.out.up Hm.out).at_ hq
        simp only [Option.some.injEq, Addr.mk.injEq, and_true] at hbe
        obtain ⟨rfl, rfl⟩ := hbe
        obtain ⟨⟨pp, cp, rfl⟩, ⟨pf, cf, rfl⟩, ⟨pb, cb, rfl⟩⟩ := hlk.forms
        have Hlk := Lib.hid hlk
        have HbL : Hid (b < wr.heap.size ∧ b < w.heap.size) := Lib.hid ⟨hb, hbw⟩
        have Hpl := Lib.hid (play_lks checkS Hfit.out.2 j hj)
        have Hjn : Hid (j ≤ 100) := Lib.hid (by have := Hfit.out.1; omega)
        obtain ⟨S, hS⟩ : ∃ S, S = playP checkS (xs.take j) := ⟨_, rfl⟩
        rw [← hS] at Hsnoc Hpl Hsb
        obtain ⟨svg, svl, svp, svf, svb, svk, SF, sb1, sb2, sb3⟩ := Hsb.out.box
        have Hbk := Lib.hid sb1
        have HSr := Lib.hid sb1.whole
        have HOr := Lib.hid hrg
        have HSn : Hid (SnR (fun _ => True) wr (.agg (scA svg svl S.root.id S.root.look svp svf svb svk)) S) := Lib.hid ⟨_, _, _, _, _, _, rfl, ⟨RowG.own_of sb2.g (fun _ _ _ => trivial), RowG.own_of sb2.l (fun _ _ _ => trivial)⟩, sb3.reads.imp (fun _ _ _ => trivial)⟩
        have Hil := Lib.hid hil
        clear sb1 sb2 sb3 hrg hlk hb hS hq
        go_upto_region 7 with fail
        have HbB : Hid (¬ b = B) := Lib.hid (by have := HBge.out; have := HbL.out; omega)
        have HSd := Lib.hid (range_up HSr.out (Gou.Mod.drew (fun _ => False) wr) (fun h => h))
        have hdr : Gou.Mod (fun _ => False) wr wr.drew := Gou.Mod.drew _ _
        have HDr := Lib.hid hdr
        clear hdr
        refine wp_region_held_drew (S := fun w' => Gou.Mod (fun x => x = B) wr w') (by kernel_rfl) (Gou.Mod.drew _ _) (fun hHeld => ?_)
        refine wpAnyH_take (i := 1) (oi := ({ dst := some 23, op := Op.move (Operand.tmp 0), type := 22, pos := "law.go:62", after := #[], guard := none } : Oper)) (v := .slice (some ⟨b, o, none⟩) xs.length cap) rfl (by kernel_rfl) (by kernel_rfl) (by kernel_rfl) (fun _ _ _ h => h) (Or.inl ⟨by rfl, ?_⟩) hHeld ?_
        · (intro w' hSw; (try dsimp only at hSw); clear hSw hHeld; go_simp; (try with_reducible rfl))
        try simp only [Act.put, List.setIfInBounds_toArray, List.set_cons_zero, List.set_cons_succ]
        refine wpAnyH_take (i := 2) (oi := ({ dst := some 24, op := Op.move (Operand.tmp 4), type := 3, pos := "law.go:62", after := #[], guard := none } : Oper)) (v := .int .i64 (j : Int)) rfl (by kernel_rfl) (by kernel_rfl) (by kernel_rfl) (fun _ _ _ h => h) (Or.inl ⟨by rfl, ?_⟩) hHeld ?_
        · (intro w' hSw; (try dsimp only at hSw); clear hSw hHeld; go_simp; (try with_reducible rfl))
        try simp only [Act.put, List.setIfInBounds_toArray, List.set_cons_zero, List.set_cons_succ]
        refine wpAnyH_take (i := 3) (oi := ({ dst := some 25, op := Op.indexAddr 22 (Operand.tmp 23) (Operand.tmp 24), type := 0, pos := "law.go:62", after := #[{ on := 1, ground := Ground.data }, { on := 2, ground := Ground.data }], guard := none } : Oper)) (v := .pointer (some ⟨b, o + j * 34, none⟩)) rfl (by kernel_rfl) (by kernel_rfl) (by kernel_rfl) (fun _ _ _ h => h) (Or.inl ⟨by rfl, ?_⟩) hHeld ?_
        · (intro w' hSw; (try dsimp only at hSw); clear hSw hHeld; go_simp; (try with_reducible rfl))
        try simp only [Act.put, List.setIfInBounds_toArray, List.set_cons_zero, List.set_cons_succ]
        refine wpAnyH_take (i := 4) (oi := ({ dst := some 26, op := Op.load 53 (Operand.tmp 25), type := 53, pos := "law.go:62", after := #[{ on := 3, ground := Ground.data }], guard := none } : Oper)) (v := .agg (oprC q (.slice pp q.look.content.pix.length cp) (.slice pf q.look.filt.nodes.length cf) (.slice pb q.look.back.nodes.length cb))) rfl (by kernel_rfl) (by kernel_rfl) (by kernel_rfl) (fun _ _ _ h => h) (yieldsIf_load_mid (by rfl) 53 _ rfl b (o + j * 34) rfl ((oprC q (.slice pp q.look.content.pix.length cp) (.slice pf q.look.filt.nodes.length cf) (.slice pb q.look.back.nodes.length cb)).toList) _ (fun w' hSw => range_up HOr.out hSw HbB.out) Try.underlying53 rfl size_op) hHeld ?_
        try simp only [Act.put, List.setIfInBounds_toArray, List.set_cons_zero, List.set_cons_succ]
        refine wpAnyH_ready (rs := [0]) (by kernel_rfl) (by simp) (AllReadyH.cons (o := ({ dst := some 22, op := Op.load 47 (Operand.tmp 3), type := 47, pos := "law.go:62", after := #[], guard := none } : Oper)) rfl (fun K hK => ?_) AllReadyH.nil)
        rw [if_pos (by rfl)]
        refine wp_load_mid 47 _ rfl B (0) rfl ((scA svg svl S.root.id S.root.look svp svf svb svk).toList) _ (HSd.out) Try.underlying47 rfl size_scene ?_
        have M := Lib.hid hHeld
        clear hHeld
        refine hK _ _ M.out (fun hHeld => ?_)
        clear hK K M
        try simp only [Act.put, List.setIfInBounds_toArray, List.set_cons_zero, List.set_cons_succ]
        refine wpAnyH_ready (rs := [5]) (by kernel_rfl) (by simp) (AllReadyH.cons (o := ({ dst := some 27, op := Op.call { callee := Callee.value (Operand.func 7), args := #[Operand.tmp 22, Operand.tmp 26], argTypes := #[47, 53] }, type := 50, pos := "law.go:62", after := #[{ on := 0, ground := Ground.data }, { on := 4, ground := Ground.data }], guard := none } : Oper)) rfl (fun K hK => ?_) AllReadyH.nil)
        go_simp
        refine (doS_any _ _ S q _ _ _ (HSn.out.up HDr.out) (Hpl.out.2.fit Hjn.out Hpl.out.1) (Hlk.out.mod HDr.out (fun _ _ _ h => h)) j Hpl.out.2 Hjn.out (Hfit.out.2 q Hqm.out) (Hwf.out q Hqm.out).filt (Hwf.out q Hqm.out).back).mono ?_
        rintro e w5 ⟨v5, rfl, hs5, hm5⟩
        obtain ⟨vg, vl, vp, vf, vb, vk, F, rfl, ha, hly⟩ := hs5
        have Hone := Lib.hid (scO_one ha hly)
        have Hs5 : Hid (SnO wr.drew.heap.size w5 (.agg (scA vg vl (doP checkS S q).1.root.id (doP checkS S q).1.root.look vp vf vb vk)) (doP checkS S q).1) := Lib.hid ⟨_, _, _, _, _, _, F, rfl, ha, hly⟩
        have M := Lib.hid (hHeld.trans' (hm5.imp (fun _ _ h => h.elim)))
        have HM5a := Lib.hid (HDr.out.trans' hm5)
        clear hHeld hm5 ha hly
        refine hK _ _ M.out (fun hHeld => ?_)
        clear hK K M
        try simp only [Act.put, List.setIfInBounds_toArray, List.set_cons_zero, List.set_cons_succ]
        refine wpAnyH_take (i := 6) (oi := ({ dst := some 21, op := Op.move (Operand.tmp 27), type := 50, pos := "law.go:62", after := #[{ on := 5, ground := Ground.data }], guard := none } : Oper)) (v := .tuple #[.agg (scA vg vl (doP checkS S q).1.root.id (doP checkS S q).1.root.look vp vf vb vk), .agg #[.int .i64 (doP checkS S q).2.1.1, .int .i64 (doP checkS S q).2.1.2], .int .i64 (doP checkS S q).2.2]) rfl (by kernel_rfl) (by kernel_rfl) (by kernel_rfl) (fun _ _ _ h => h) (Or.inl ⟨by rfl, ?_⟩) hHeld ?_
        · (intro w' hSw; (try dsimp only at hSw); clear hSw hHeld; go_simp; (try with_reducible rfl))
        try simp only [Act.put, List.setIfInBounds_toArray, List.set_cons_zero, List.set_cons_succ]
        refine wpAnyH_take (i := 7) (oi := ({ dst := some 28, op := Op.extract (Operand.tmp 21) 0, type := 47, pos := "law.go:62", after := #[{ on := 6, ground := Ground.data }], guard := none } : Oper)) (v := .agg (scA vg vl (doP checkS S q).1.root.id (doP checkS S q).1.root.look vp vf vb vk)) rfl (by kernel_rfl) (by kernel_rfl) (by kernel_rfl) (fun _ _ _ h => h) (Or.inl ⟨by rfl, ?_⟩) hHeld ?_
        · (intro w' hSw; (try dsimp only at hSw); clear hSw hHeld; go_simp; (try with_reducible rfl))
        try simp only [Act.put, List.setIfInBounds_toArray, List.set_cons_zero, List.set_cons_succ]
        refine wpAnyH_take (i := 8) (oi := ({ dst := some 29, op := Op.extract (Operand.tmp 21) 1, type := 30, pos := "law.go:62", after := #[{ on := 6, ground := Ground.data }, { on := 10, ground := Ground.gcOnly Departure.lateStores }], guard := none } : Oper)) (v := .agg #[.int .i64 (doP checkS S q).2.1.1, .int .i64 (doP checkS S q).2.1.2]) rfl (by kernel_rfl) (by kernel_rfl) (by kernel_rfl) (fun _ _ _ h => h) (Or.inl ⟨by rfl, ?_⟩) hHeld ?_
        · (intro w' hSw; (try dsimp only at hSw); clear hSw hHeld; go_simp; (try with_reducible rfl))
        try simp only [Act.put, List.setIfInBounds_toArray, List.set_cons_zero, List.set_cons_succ]
        refine wpAnyH_take (i := 9) (oi := ({ dst := some 30, op := Op.extract (Operand.tmp 21) 2, type := 49, pos := "law.go:62", after := #[{ on := 6, ground := Ground.data }, { on := 10, ground := Ground.gcOnly Departure.lateStores }], guard := none } : Oper)) (v := .int .i64 (doP checkS S q).2.2) rfl (by kernel_rfl) (by kernel_rfl) (by kernel_rfl) (fun _ _ _ h => h) (Or.inl ⟨by rfl, ?_⟩) hHeld ?_
        · (intro w' hSw; (try dsimp only at hSw); clear hSw hHeld; go_simp; (try with_reducible rfl))
        try simp only [Act.put, List.setIfInBounds_toArray, List.set_cons_zero, List.set_cons_succ]
        refine wpAnyH_ready (rs := [10]) (by kernel_rfl) (by simp) (AllReadyH.cons (o := ({ dst := none, op := Op.store 47 (Operand.tmp 3) (Operand.tmp 28), type := 0, pos := "law.go:62", after := #[{ on := 7, ground := Ground.data }, { on := 5, ground := Ground.chain }, { on := 0, ground := Ground.phase }, { on := 1, ground := Ground.phase }, { on := 2, ground := Ground.phase }, { on := 3, ground := Ground.phase }, { on := 4, ground := Ground.phase }, { on := 5, ground := Ground.phase }, { on := 6, ground := Ground.phase }, { on := 7, ground := Ground.phase }, { on := 8, ground := Ground.textOnly Departure.lateStores }, { on := 9, ground := Ground.textOnly Departure.lateStores }], guard := none } : Oper)) rfl (fun K hK => ?_) AllReadyH.nil)
        rw [if_pos (by rfl)]
        refine wp_store_mid 47 _ _ rfl B 0 (scA vg vl (doP checkS S q).1.root.id (doP checkS S q).1.root.look vp vf vb vk) rfl rfl ((Hbk.out.up HM5a.out).there 0 33 (by simp [scA])) size_scene Hone.out ?_
        have HS := Lib.hid (Blk.setMod w5 B 0 (scA vg vl (doP checkS S q).1.root.id (doP checkS S q).1.root.look vp vf vb vk).toList)
        have HSB5 := Lib.hid (SnB.mk' (Hs5.out.box (Hbk.out.up HM5a.out) (by decide) HS.out) rfl ((Hbk.out.up HM5a.out).setAll (scA vg vl (doP checkS S q).1.root.id (doP checkS S q).1.root.look vp vf vb vk) rfl))
        have HM5 := Lib.hid ((Hm.out.trans' HM5a.out).trans HS.out (fun k hk e => by have := HBge.out; omega))
        have M := Lib.hid (hHeld.trans' HS.out)
        clear hHeld HS
        generalize w5.setCells B 0 (scA vg vl (doP checkS S q).1.root.id (doP checkS S q).1.root.look vp vf vb vk).toList = W5 at *
        refine hK _ _ M.out (fun hHeld => ?_)
        clear hK K M
        try simp only [Act.put, List.setIfInBounds_toArray, List.set_cons_zero, List.set_cons_succ]
        have MS := Lib.hid hHeld
        refine wpAnyH_done (by kernel_rfl) ?_ _
        clear hHeld
        try simp only [Act.put]
        have hwi : wrap64 ((j : Int) + 1) = ((j + 1 : Nat) : Int) := by have := Hil.out; have := Hfit.out.1; unfold wrap64; omega
        clear MS
        go_wp2_with fail
        go_roundw
        case rel => exact ⟨j + 1, by rw [← hwi], by have := Hil.out; omega, by rw [Hsnoc.out]; exact HSB5.out, HM5.out⟩
        case measure => rw [hwi]; have := Hil.out; simp only [intOf]; omega
      · have e0 : decide ((j : Int) < (xs.length : Int)) = false := decide_eq_false (by omega)
        have hil' : j = xs.length := by omega
        have Hpl := Lib.hid (play_lks checkS Hfit.out.2 j hj)
        obtain ⟨S, hS⟩ : ∃ S, S = playP checkS (xs.take j) := ⟨_, rfl⟩
        rw [← hS] at Hpl Hsb
        have HI := Lib.hid Hpl.out.2
        have HF : Hid (SnFit S) := Lib.hid (Hpl.out.2.fit (by have := Hfit.out.1; omega) Hpl.out.1)
        have Hsz : Hid (S.arena.gens.length ≤ 61 ∧ S.root.ids.length ≤ 61) := Lib.hid (by have h1 := Hpl.out.2.small; have h2 := Hpl.out.2.few; have := Hfit.out.1; omega)
        clear hil' hS Hpl hj
        obtain ⟨svg, svl, svp, svf, svb, svk, SF, sb1, sb2, sb3⟩ := Hsb.out.box
        obtain ⟨⟨pg, cg, rfl⟩, ⟨pl, cl, rfl⟩⟩ := sb2.forms
        have Hbk := Lib.hid sb1
        have HArr : Hid (wr.rangeAt B 0 [.slice pg S.arena.gens.length cg, .slice pl S.arena.live.length cl]) := Lib.hid (Blk.range (pre := []) (post := (lyA S.root.id S.root.look svp svf svb svk).toList) sb1 (by rw [List.nil_append]; exact scA_list _ _ _ _ _ _ _ _) rfl)
        have HLyr : Hid (wr.rangeAt B 2 (lyA S.root.id S.root.look svp svf svb svk).toList) := Lib.hid (Blk.range (pre := [.slice pg S.arena.gens.length cg, .slice pl S.arena.live.length cl]) (post := []) sb1 (by rw [List.append_nil]; exact scA_list _ _ _ _ _ _ _ _) rfl)
        have HIdr : Hid (wr.rangeAt B 2 [.int .i64 S.root.id.1, .int .i64 S.root.id.2]) := Lib.hid (fun i v hv => HLyr.out i v (by match i, hv with | 0, hv => exact hv | 1, hv => exact hv))
        have HAr := Lib.hid sb2.reads
        have HLy := Lib.hid (sb3.reads.imp (G' := fun _ => True) (fun _ _ _ => trivial))
        have Hcnt := Lib.hid (beq_iff_eq.2 HI.out.cnt)
        have Hdeep := Lib.hid HI.out.deep
        have Hlen := Lib.hid HI.out.ok.len
        clear sb1 sb2 sb3
        have ecnt : ((S.root.ids.length : Nat) : Int) = (S.arena.count : Nat) := by rw [HI.out.cnt]
        have edeep : decide ((64 : Int) < ((S.root.height : Nat) : Int)) = false := decide_eq_false (by have := HI.out.deep; omega)
        go_upto_region 8 with fail
        refine wp_region_held_drew (S := fun w' => Gou.Mod (fun _ => False) wr w') (by kernel_rfl) (Gou.Mod.drew _ _) (fun hHeld => ?_)
        refine wpAnyH_take (i := 0) (oi := ({ dst := some 31, op := Op.fieldAddr 47 (Operand.tmp 3) 0, type := 0, pos := "law.go:64", after := #[], guard := none } : Oper)) (v := .pointer (some ⟨B, 0, none⟩)) rfl (by kernel_rfl) (by kernel_rfl) (by kernel_rfl) (fun _ _ _ h => h) (Or.inl ⟨by rfl, ?_⟩) hHeld ?_
        · (intro w' hSw; (try dsimp only at hSw); clear hSw hHeld; go_simp; (try with_reducible rfl))
        try simp only [Act.put, List.setIfInBounds_toArray, List.set_cons_zero, List.set_cons_succ]
        refine wpAnyH_take (i := 1) (oi := ({ dst := some 32, op := Op.load 28 (Operand.tmp 31), type := 28, pos := "law.go:64", after := #[{ on := 0, ground := Ground.data }], guard := none } : Oper)) (v := .agg #[.slice pg S.arena.gens.length cg, .slice pl S.arena.live.length cl]) rfl (by kernel_rfl) (by kernel_rfl) (by kernel_rfl) (fun _ _ _ h => h) (yieldsIf_load_mid (by rfl) 28 _ rfl B (0) rfl ([.slice pg S.arena.gens.length cg, .slice pl S.arena.live.length cl]) _ (fun w' hSw => range_up HArr.out hSw (fun h => h)) Try.underlying28 rfl size_arena) hHeld ?_
        try simp only [Act.put, List.setIfInBounds_toArray, List.set_cons_zero, List.set_cons_succ]
        refine wpAnyH_ready (rs := [2]) (by kernel_rfl) (by simp) (AllReadyH.cons (o := ({ dst := some 33, op := Op.call { callee := Callee.value (Operand.func 8), args := #[Operand.tmp 32], argTypes := #[28] }, type := 4, pos := "law.go:64", after := #[{ on := 1, ground := Ground.data }], guard := none } : Oper)) rfl (fun K hK => ?_) AllReadyH.nil)
        go_simp
        refine (arRight_any _ _ _ S.arena _ (HAr.out.up hHeld) HI.out.ok (by have := Hsz.out; omega)).mono ?_
        rintro e w6 ⟨rfl, hm6⟩
        have M := Lib.hid (hHeld.trans' hm6)
        clear hHeld
        refine hK _ _ M.out (fun hHeld => ?_)
        clear hK K M
        try simp only [Act.put, List.setIfInBounds_toArray, List.set_cons_zero, List.set_cons_succ]
        refine wpAnyH_take (i := 3) (oi := ({ dst := some 34, op := Op.unOp UnOp.not 4 (Operand.tmp 33), type := 4, pos := "law.go:64", after := #[{ on := 2, ground := Ground.data }], guard := none } : Oper)) (v := .bool false) rfl (by kernel_rfl) (by kernel_rfl) (by kernel_rfl) (fun _ _ _ h => h) (Or.inl ⟨by rfl, ?_⟩) hHeld ?_
        · (intro w' hSw; (try dsimp only at hSw); clear hSw hHeld; go_simp; (try with_reducible rfl))
        try simp only [Act.put, List.setIfInBounds_toArray, List.set_cons_zero, List.set_cons_succ]
        refine wpAnyH_take (i := 4) (oi := ({ dst := some 35, op := Op.move (Operand.tmp 34), type := 4, pos := "law.go:64", after := #[{ on := 3, ground := Ground.data }, { on := 2, ground := Ground.chain }], guard := none } : Oper)) (v := .bool false) rfl (by kernel_rfl) (by kernel_rfl) (by kernel_rfl) (fun _ _ _ h => h) (Or.inl ⟨by rfl, ?_⟩) hHeld ?_
        · (intro w' hSw; (try dsimp only at hSw); clear hSw hHeld; go_simp; (try with_reducible rfl))
        try simp only [Act.put, List.setIfInBounds_toArray, List.set_cons_zero, List.set_cons_succ]
        refine wpAnyH_take (i := 5) (oi := ({ dst := some 36, op := Op.fieldAddr 47 (Operand.tmp 3) 1, type := 0, pos := "law.go:64", after := #[{ on := 4, ground := Ground.guard }], guard := some (4, false) } : Oper)) (v := .pointer (some ⟨B, 2, none⟩)) rfl (by kernel_rfl) (by kernel_rfl) (by kernel_rfl) (fun _ _ _ h => h) (Or.inl ⟨by rfl, ?_⟩) hHeld ?_
        · (intro w' hSw; (try dsimp only at hSw); clear hSw hHeld; go_simp; (try with_reducible rfl))
        try simp only [Act.put, List.setIfInBounds_toArray, List.set_cons_zero, List.set_cons_succ]
        refine wpAnyH_take (i := 6) (oi := ({ dst := some 37, op := Op.load 45 (Operand.tmp 36), type := 45, pos := "law.go:64", after := #[{ on := 5, ground := Ground.data }, { on := 4, ground := Ground.guard }], guard := some (4, false) } : Oper)) (v := .agg (lyA S.root.id S.root.look svp svf svb svk)) rfl (by kernel_rfl) (by kernel_rfl) (by kernel_rfl) (fun _ _ _ h => h) (yieldsIf_load_mid (by rfl) 45 _ rfl B (2) rfl ((lyA S.root.id S.root.look svp svf svb svk).toList) _ (fun w' hSw => range_up HLyr.out hSw (fun h => h)) Try.underlying45 rfl size_layer) hHeld ?_
        try simp only [Act.put, List.setIfInBounds_toArray, List.set_cons_zero, List.set_cons_succ]
        refine wpAnyH_take (i := 8) (oi := ({ dst := some 39, op := Op.fieldAddr 47 (Operand.tmp 3) 0, type := 0, pos := "law.go:64", after := #[{ on := 4, ground := Ground.guard }], guard := some (4, false) } : Oper)) (v := .pointer (some ⟨B, 0, none⟩)) rfl (by kernel_rfl) (by kernel_rfl) (by kernel_rfl) (fun _ _ _ h => h) (Or.inl ⟨by rfl, ?_⟩) hHeld ?_
        · (intro w' hSw; (try dsimp only at hSw); clear hSw hHeld; go_simp; (try with_reducible rfl))
        try simp only [Act.put, List.setIfInBounds_toArray, List.set_cons_zero, List.set_cons_succ]
        refine wpAnyH_take (i := 9) (oi := ({ dst := some 40, op := Op.load 28 (Operand.tmp 39), type := 28, pos := "law.go:64", after := #[{ on := 8, ground := Ground.data }, { on := 4, ground := Ground.guard }], guard := some (4, false) } : Oper)) (v := .agg #[.slice pg S.arena.gens.length cg, .slice pl S.arena.live.length cl]) rfl (by kernel_rfl) (by kernel_rfl) (by kernel_rfl) (fun _ _ _ h => h) (yieldsIf_load_mid (by rfl) 28 _ rfl B (0) rfl ([.slice pg S.arena.gens.length cg, .slice pl S.arena.live.length cl]) _ (fun w' hSw => range_up HArr.out hSw (fun h => h)) Try.underlying28 rfl size_arena) hHeld ?_
        try simp only [Act.put, List.setIfInBounds_toArray, List.set_cons_zero, List.set_cons_succ]
        refine wpAnyH_ready (rs := [7]) (by kernel_rfl) (by simp) (AllReadyH.cons (o := ({ dst := some 38, op := Op.call { callee := Callee.value (Operand.func 9), args := #[Operand.tmp 37], argTypes := #[45] }, type := 3, pos := "law.go:64", after := #[{ on := 6, ground := Ground.data }, { on := 4, ground := Ground.chain }, { on := 4, ground := Ground.guard }], guard := some (4, false) } : Oper)) rfl (fun K hK => ?_) AllReadyH.nil)
        go_simp
        refine (refAll_any S.root _ _ _ _ _ (HLy.out.up hHeld) (by have := Hsz.out; omega) HF.out.root).mono ?_
        rintro e w7 ⟨rfl, hm7⟩
        have M := Lib.hid (hHeld.trans' hm7)
        clear hHeld
        refine hK _ _ M.out (fun hHeld => ?_)
        clear hK K M
        try simp only [Act.put, List.setIfInBounds_toArray, List.set_cons_zero, List.set_cons_succ]
        refine wpAnyH_ready (rs := [10]) (by kernel_rfl) (by simp) (AllReadyH.cons (o := ({ dst := some 41, op := Op.call { callee := Callee.value (Operand.func 10), args := #[Operand.tmp 40], argTypes := #[28] }, type := 3, pos := "law.go:64", after := #[{ on := 9, ground := Ground.data }, { on := 7, ground := Ground.chain }, { on := 4, ground := Ground.guard }], guard := some (4, false) } : Oper)) rfl (fun K hK => ?_) AllReadyH.nil)
        go_simp
        refine (arCount_any _ _ _ S.arena (HAr.out.up hHeld) HF.out.l).mono ?_
        rintro e w8 ⟨rfl, hm8⟩
        have M := Lib.hid (hHeld.trans' hm8)
        clear hHeld
        refine hK _ _ M.out (fun hHeld => ?_)
        clear hK K M
        try simp only [Act.put, List.setIfInBounds_toArray, List.set_cons_zero, List.set_cons_succ]
        refine wpAnyH_take (i := 11) (oi := ({ dst := some 42, op := Op.binOp BinOp.neq 3 (Operand.tmp 38) (Operand.tmp 41) 3, type := 4, pos := "law.go:64", after := #[{ on := 7, ground := Ground.data }, { on := 10, ground := Ground.data }, { on := 4, ground := Ground.guard }], guard := some (4, false) } : Oper)) (v := .bool false) rfl (by kernel_rfl) (by kernel_rfl) (by kernel_rfl) (fun _ _ _ h => h) (Or.inl ⟨by rfl, ?_⟩) hHeld ?_
        · (intro w' hSw; (try dsimp only at hSw); clear hSw hHeld; go_simp; (try with_reducible rfl))
        try simp only [Act.put, List.setIfInBounds_toArray, List.set_cons_zero, List.set_cons_succ]
        refine wpAnyH_take (i := 12) (oi := ({ dst := some 43, op := Op.pick (Operand.tmp 35) (Operand.const (Value.bool true)) (Operand.tmp 42), type := 4, pos := "law.go:64", after := #[{ on := 4, ground := Ground.data }, { on := 11, ground := Ground.data }], guard := none } : Oper)) (v := .bool false) rfl (by kernel_rfl) (by kernel_rfl) (by kernel_rfl) (fun _ _ _ h => h) (Or.inl ⟨by rfl, ?_⟩) hHeld ?_
        · (intro w' hSw; (try dsimp only at hSw); clear hSw hHeld; go_simp; (try with_reducible rfl))
        try simp only [Act.put, List.setIfInBounds_toArray, List.set_cons_zero, List.set_cons_succ]
        refine wpAnyH_take (i := 13) (oi := ({ dst := some 44, op := Op.move (Operand.tmp 43), type := 4, pos := "law.go:64", after := #[{ on := 12, ground := Ground.data }, { on := 10, ground := Ground.chain }], guard := none } : Oper)) (v := .bool false) rfl (by kernel_rfl) (by kernel_rfl) (by kernel_rfl) (fun _ _ _ h => h) (Or.inl ⟨by rfl, ?_⟩) hHeld ?_
        · (intro w' hSw; (try dsimp only at hSw); clear hSw hHeld; go_simp; (try with_reducible rfl))
        try simp only [Act.put, List.setIfInBounds_toArray, List.set_cons_zero, List.set_cons_succ]
        refine wpAnyH_take (i := 14) (oi := ({ dst := some 45, op := Op.fieldAddr 47 (Operand.tmp 3) 1, type := 0, pos := "law.go:64", after := #[{ on := 13, ground := Ground.guard }], guard := some (13, false) } : Oper)) (v := .pointer (some ⟨B, 2, none⟩)) rfl (by kernel_rfl) (by kernel_rfl) (by kernel_rfl) (fun _ _ _ h => h) (Or.inl ⟨by rfl, ?_⟩) hHeld ?_
        · (intro w' hSw; (try dsimp only at hSw); clear hSw hHeld; go_simp; (try with_reducible rfl))
        try simp only [Act.put, List.setIfInBounds_toArray, List.set_cons_zero, List.set_cons_succ]
        refine wpAnyH_take (i := 15) (oi := ({ dst := some 46, op := Op.load 45 (Operand.tmp 45), type := 45, pos := "law.go:64", after := #[{ on := 14, ground := Ground.data }, { on := 13, ground := Ground.guard }], guard := some (13, false) } : Oper)) (v := .agg (lyA S.root.id S.root.look svp svf svb svk)) rfl (by kernel_rfl) (by kernel_rfl) (by kernel_rfl) (fun _ _ _ h => h) (yieldsIf_load_mid (by rfl) 45 _ rfl B (2) rfl ((lyA S.root.id S.root.look svp svf svb svk).toList) _ (fun w' hSw => range_up HLyr.out hSw (fun h => h)) Try.underlying45 rfl size_layer) hHeld ?_
        try simp only [Act.put, List.setIfInBounds_toArray, List.set_cons_zero, List.set_cons_succ]
        refine wpAnyH_ready (rs := [16]) (by kernel_rfl) (by simp) (AllReadyH.cons (o := ({ dst := some 47, op := Op.call { callee := Callee.value (Operand.func 11), args := #[Operand.tmp 46], argTypes := #[45] }, type := 3, pos := "law.go:64", after := #[{ on := 15, ground := Ground.data }, { on := 13, ground := Ground.chain }, { on := 13, ground := Ground.guard }], guard := some (13, false) } : Oper)) rfl (fun K hK => ?_) AllReadyH.nil)
        go_simp
        refine (refHeight_any S.root _ _ _ _ _ (HLy.out.up hHeld) (by have := Hdeep.out; omega) HF.out.root).mono ?_
        rintro e w9 ⟨rfl, hm9⟩
        have M := Lib.hid (hHeld.trans' hm9)
        clear hHeld
        refine hK _ _ M.out (fun hHeld => ?_)
        clear hK K M
        try simp only [Act.put, List.setIfInBounds_toArray, List.set_cons_zero, List.set_cons_succ]
        refine wpAnyH_take (i := 17) (oi := ({ dst := some 48, op := Op.binOp BinOp.gtr 3 (Operand.tmp 47) (Operand.const (Value.int IntKind.i64 64)) 3, type := 4, pos := "law.go:64", after := #[{ on := 16, ground := Ground.data }, { on := 13, ground := Ground.guard }], guard := some (13, false) } : Oper)) (v := .bool false) rfl (by kernel_rfl) (by kernel_rfl) (by kernel_rfl) (fun _ _ _ h => h) (Or.inl ⟨by rfl, ?_⟩) hHeld ?_
        · (intro w' hSw; (try dsimp only at hSw); clear hSw hHeld; go_simp; (try with_reducible rfl))
        try simp only [Act.put, List.setIfInBounds_toArray, List.set_cons_zero, List.set_cons_succ]
        refine wpAnyH_take (i := 18) (oi := ({ dst := some 49, op := Op.pick (Operand.tmp 44) (Operand.const (Value.bool true)) (Operand.tmp 48), type := 4, pos := "law.go:64", after := #[{ on := 13, ground := Ground.data }, { on := 17, ground := Ground.data }], guard := none } : Oper)) (v := .bool false) rfl (by kernel_rfl) (by kernel_rfl) (by kernel_rfl) (fun _ _ _ h => h) (Or.inl ⟨by rfl, ?_⟩) hHeld ?_
        · (intro w' hSw; (try dsimp only at hSw); clear hSw hHeld; go_simp; (try with_reducible rfl))
        try simp only [Act.put, List.setIfInBounds_toArray, List.set_cons_zero, List.set_cons_succ]
        have MS := Lib.hid hHeld
        refine wpAnyH_done (by kernel_rfl) ?_ _
        clear hHeld
        try simp only [Act.put]
        have HM8 := Lib.hid MS.out
        clear MS ecnt edeep e0
        go_upto_region 10 with fail
        clear Hsb
        go_wp2_with fail
        obtain ⟨wo, hwo⟩ : ∃ wo, wo = wr := ⟨_, rfl⟩
        subst hwo
        go_loopw [5] (fun vi wr => ∃ i : Nat, vi = .int .i64 i ∧ i ≤ S.arena.gens.length ∧ Gou.Mod (fun _ => False) wo wr) (fun vi _ => S.arena.gens.length - (intOf vi).toNat)
        case atStart => exact ⟨0, rfl, Nat.zero_le _, HM8.out⟩
        case round =>
          obtain ⟨i, rfl, hi, hm2⟩ := hrel
          have Hm2 := Lib.hid hm2
          have c0 : wr.cell? ⟨B, 0, none⟩ = some (.slice pg S.arena.gens.length cg) := range_up HArr.out hm2 (fun h => h) 0 _ rfl
          have c1 : wr.cell? ⟨B, 1, none⟩ = some (.slice pl S.arena.live.length cl) := range_up HArr.out hm2 (fun h => h) 1 _ rfl
          clear hm2 HM8
          have HTot := Lib.hid (Hm.out.trans' Hm2.out)
          by_cases hig : i < S.arena.gens.length
          · have hig2 : i < S.arena.live.length := by rw [← Hlen.out]; exact hig
            obtain ⟨bv, hbv⟩ : ∃ bv, S.arena.live[i]? = some bv := ⟨_, List.getElem?_eq_getElem hig2⟩
            obtain ⟨gv, hgv⟩ : ∃ gv, S.arena.gens[i]? = some gv := ⟨_, List.getElem?_eq_getElem hig⟩
            obtain ⟨bl, ol, rfl, hcl⟩ := RowG.one_cell (RowG.mod HAr.out.l Hm2.out (fun _ _ _ h => h)) (by omega)
            obtain ⟨bg, og, rfl, hcg⟩ := RowG.one_cell (RowG.mod HAr.out.g Hm2.out (fun _ _ _ h => h)) (by omega)
            have li := hcl i _ (bvs_get hbv)
            have gi := hcg i _ (ivs_get hgv)
            have hwi : wrap64 ((i : Int) + 1) = ((i + 1 : Nat) : Int) := by have := Hsz.out; unfold wrap64; omega
            have Hig := Lib.hid hig
            cases bv
            · clear hcl hcg hbv hgv gi
              go_upto_region 13 with fail
              go_quiet (fail)
              have HT2 := Lib.hid (Hm2.out.trans' (Gou.Mod.drewN _ wr nq))
              go_wp2_with fail
              go_roundw
              case rel => exact ⟨i + 1, by rw [← hwi], by have := Hig.out; omega, HT2.out⟩
              case measure => rw [hwi]; have := Hig.out; simp only [intOf]; omega
            · have Hc1 : Hid (S.root.ids.count ((i : Int), gv) = 1) := Lib.hid (count_one HI.out.nd ((HI.out.iff _).2 (Ar.has_iff.2 ⟨i, rfl, hbv, hgv⟩)))
              have HLy2 := Lib.hid (HLy.out.up Hm2.out)
              have HLr2 := Lib.hid (range_up HLyr.out Hm2.out (fun h => h))
              clear hcl hcg hbv hgv
              go_upto_region 13 with fail
              refine wp_region_held_drew (S := fun w' => Gou.Mod (fun _ => False) wr w') (by kernel_rfl) (Gou.Mod.drew _ _) (fun hHeld => ?_)
              refine wpAnyH_take (i := 0) (oi := ({ dst := some 58, op := Op.fieldAddr 47 (Operand.tmp 3) 0, type := 0, pos := "law.go:68", after := #[], guard := none } : Oper)) (v := .pointer (some ⟨B, 0, none⟩)) rfl (by kernel_rfl) (by kernel_rfl) (by kernel_rfl) (fun _ _ _ h => h) (Or.inl ⟨by rfl, ?_⟩) hHeld ?_
              · (intro w' hSw; (try dsimp only at hSw); clear hSw hHeld; go_simp; (try with_reducible rfl))
              try simp only [Act.put, List.setIfInBounds_toArray, List.set_cons_zero, List.set_cons_succ]
              refine wpAnyH_take (i := 1) (oi := ({ dst := some 59, op := Op.fieldAddr 28 (Operand.tmp 58) 1, type := 0, pos := "law.go:68", after := #[{ on := 0, ground := Ground.data }], guard := none } : Oper)) (v := .pointer (some ⟨B, 1, none⟩)) rfl (by kernel_rfl) (by kernel_rfl) (by kernel_rfl) (fun _ _ _ h => h) (Or.inl ⟨by rfl, ?_⟩) hHeld ?_
              · (intro w' hSw; (try dsimp only at hSw); clear hSw hHeld; go_simp; (try with_reducible rfl))
              try simp only [Act.put, List.setIfInBounds_toArray, List.set_cons_zero, List.set_cons_succ]
              refine wpAnyH_take (i := 2) (oi := ({ dst := some 60, op := Op.load 26 (Operand.tmp 59), type := 26, pos := "law.go:68", after := #[{ on := 1, ground := Ground.data }], guard := none } : Oper)) (v := .slice (some ⟨bl, ol, none⟩) S.arena.live.length cl) rfl (by kernel_rfl) (by kernel_rfl) (by kernel_rfl) (fun _ _ _ h => h) (Or.inl ⟨by rfl, ?_⟩) hHeld ?_
              · (intro w' hSw; (try dsimp only at hSw); have g := (hSw.cell (p := ⟨B, 1, none⟩) (World.block_lt_of_cell? _ _ c1) (fun h => h)).trans c1; clear hSw hHeld; go_simp; (try with_reducible rfl))
              try simp only [Act.put, List.setIfInBounds_toArray, List.set_cons_zero, List.set_cons_succ]
              refine wpAnyH_take (i := 3) (oi := ({ dst := some 61, op := Op.move (Operand.tmp 5), type := 3, pos := "law.go:68", after := #[], guard := none } : Oper)) (v := .int .i64 (i : Int)) rfl (by kernel_rfl) (by kernel_rfl) (by kernel_rfl) (fun _ _ _ h => h) (Or.inl ⟨by rfl, ?_⟩) hHeld ?_
              · (intro w' hSw; (try dsimp only at hSw); clear hSw hHeld; go_simp; (try with_reducible rfl))
              try simp only [Act.put, List.setIfInBounds_toArray, List.set_cons_zero, List.set_cons_succ]
              refine wpAnyH_take (i := 4) (oi := ({ dst := some 62, op := Op.indexAddr 26 (Operand.tmp 60) (Operand.tmp 61), type := 0, pos := "law.go:68", after := #[{ on := 2, ground := Ground.data }, { on := 3, ground := Ground.data }], guard := none } : Oper)) (v := .pointer (some ⟨bl, ol + i, none⟩)) rfl (by kernel_rfl) (by kernel_rfl) (by kernel_rfl) (fun _ _ _ h => h) (Or.inl ⟨by rfl, ?_⟩) hHeld ?_
              · (intro w' hSw; (try dsimp only at hSw); clear hSw hHeld; go_simp; (try with_reducible rfl))
              try simp only [Act.put, List.setIfInBounds_toArray, List.set_cons_zero, List.set_cons_succ]
              refine wpAnyH_take (i := 5) (oi := ({ dst := some 63, op := Op.load 4 (Operand.tmp 62), type := 4, pos := "law.go:68", after := #[{ on := 4, ground := Ground.data }], guard := none } : Oper)) (v := .bool true) rfl (by kernel_rfl) (by kernel_rfl) (by kernel_rfl) (fun _ _ _ h => h) (Or.inl ⟨by rfl, ?_⟩) hHeld ?_
              · (intro w' hSw; (try dsimp only at hSw); have g := (hSw.cell (p := ⟨bl, ol + i, none⟩) (World.block_lt_of_cell? _ _ li) (fun h => h)).trans li; clear hSw hHeld; go_simp; (try with_reducible rfl))
              try simp only [Act.put, List.setIfInBounds_toArray, List.set_cons_zero, List.set_cons_succ]
              refine wpAnyH_take (i := 6) (oi := ({ dst := some 64, op := Op.move (Operand.tmp 63), type := 4, pos := "law.go:68", after := #[{ on := 5, ground := Ground.data }], guard := none } : Oper)) (v := .bool true) rfl (by kernel_rfl) (by kernel_rfl) (by kernel_rfl) (fun _ _ _ h => h) (Or.inl ⟨by rfl, ?_⟩) hHeld ?_
              · (intro w' hSw; (try dsimp only at hSw); clear hSw hHeld; go_simp; (try with_reducible rfl))
              try simp only [Act.put, List.setIfInBounds_toArray, List.set_cons_zero, List.set_cons_succ]
              refine wpAnyH_take (i := 7) (oi := ({ dst := some 65, op := Op.fieldAddr 47 (Operand.tmp 3) 1, type := 0, pos := "law.go:68", after := #[{ on := 6, ground := Ground.guard }], guard := some (6, true) } : Oper)) (v := .pointer (some ⟨B, 2, none⟩)) rfl (by kernel_rfl) (by kernel_rfl) (by kernel_rfl) (fun _ _ _ h => h) (Or.inl ⟨by rfl, ?_⟩) hHeld ?_
              · (intro w' hSw; (try dsimp only at hSw); clear hSw hHeld; go_simp; (try with_reducible rfl))
              try simp only [Act.put, List.setIfInBounds_toArray, List.set_cons_zero, List.set_cons_succ]
              refine wpAnyH_take (i := 8) (oi := ({ dst := some 66, op := Op.load 45 (Operand.tmp 65), type := 45, pos := "law.go:68", after := #[{ on := 7, ground := Ground.data }, { on := 6, ground := Ground.guard }], guard := some (6, true) } : Oper)) (v := .agg (lyA S.root.id S.root.look svp svf svb svk)) rfl (by kernel_rfl) (by kernel_rfl) (by kernel_rfl) (fun _ _ _ h => h) (yieldsIf_load_mid (by rfl) 45 _ rfl B (2) rfl ((lyA S.root.id S.root.look svp svf svb svk).toList) _ (fun w' hSw => range_up HLr2.out hSw (fun h => h)) Try.underlying45 rfl size_layer) hHeld ?_
              try simp only [Act.put, List.setIfInBounds_toArray, List.set_cons_zero, List.set_cons_succ]
              refine wpAnyH_take (i := 9) (oi := ({ dst := some 67, op := Op.move (Operand.tmp 5), type := 3, pos := "law.go:68", after := #[{ on := 6, ground := Ground.guard }], guard := some (6, true) } : Oper)) (v := .int .i64 (i : Int)) rfl (by kernel_rfl) (by kernel_rfl) (by kernel_rfl) (fun _ _ _ h => h) (Or.inl ⟨by rfl, ?_⟩) hHeld ?_
              · (intro w' hSw; (try dsimp only at hSw); clear hSw hHeld; go_simp; (try with_reducible rfl))
              try simp only [Act.put, List.setIfInBounds_toArray, List.set_cons_zero, List.set_cons_succ]
              refine wpAnyH_take (i := 10) (oi := ({ dst := some 68, op := Op.fieldAddr 47 (Operand.tmp 3) 0, type := 0, pos := "law.go:68", after := #[{ on := 6, ground := Ground.guard }], guard := some (6, true) } : Oper)) (v := .pointer (some ⟨B, 0, none⟩)) rfl (by kernel_rfl) (by kernel_rfl) (by kernel_rfl) (fun _ _ _ h => h) (Or.inl ⟨by rfl, ?_⟩) hHeld ?_
              · (intro w' hSw; (try dsimp only at hSw); clear hSw hHeld; go_simp; (try with_reducible rfl))
              try simp only [Act.put, List.setIfInBounds_toArray, List.set_cons_zero, List.set_cons_succ]
              refine wpAnyH_take (i := 11) (oi := ({ dst := some 69, op := Op.fieldAddr 28 (Operand.tmp 68) 0, type := 0, pos := "law.go:68", after := #[{ on := 10, ground := Ground.data }, { on := 6, ground := Ground.guard }], guard := some (6, true) } : Oper)) (v := .pointer (some ⟨B, 0, none⟩)) rfl (by kernel_rfl) (by kernel_rfl) (by kernel_rfl) (fun _ _ _ h => h) (Or.inl ⟨by rfl, ?_⟩) hHeld ?_
              · (intro w' hSw; (try dsimp only at hSw); clear hSw hHeld; go_simp; (try with_reducible rfl))
              try simp only [Act.put, List.setIfInBounds_toArray, List.set_cons_zero, List.set_cons_succ]
              refine wpAnyH_take (i := 12) (oi := ({ dst := some 70, op := Op.load 25 (Operand.tmp 69), type := 25, pos := "law.go:68", after := #[{ on := 11, ground := Ground.data }, { on := 6, ground := Ground.guard }], guard := some (6, true) } : Oper)) (v := .slice (some ⟨bg, og, none⟩) S.arena.gens.length cg) rfl (by kernel_rfl) (by kernel_rfl) (by kernel_rfl) (fun _ _ _ h => h) (Or.inl ⟨by rfl, ?_⟩) hHeld ?_
              · (intro w' hSw; (try dsimp only at hSw); have g := (hSw.cell (p := ⟨B, 0, none⟩) (World.block_lt_of_cell? _ _ c0) (fun h => h)).trans c0; clear hSw hHeld; go_simp; (try with_reducible rfl))
              try simp only [Act.put, List.setIfInBounds_toArray, List.set_cons_zero, List.set_cons_succ]
              refine wpAnyH_take (i := 13) (oi := ({ dst := some 71, op := Op.move (Operand.tmp 5), type := 3, pos := "law.go:68", after := #[{ on := 6, ground := Ground.guard }], guard := some (6, true) } : Oper)) (v := .int .i64 (i : Int)) rfl (by kernel_rfl) (by kernel_rfl) (by kernel_rfl) (fun _ _ _ h => h) (Or.inl ⟨by rfl, ?_⟩) hHeld ?_
              · (intro w' hSw; (try dsimp only at hSw); clear hSw hHeld; go_simp; (try with_reducible rfl))
              try simp only [Act.put, List.setIfInBounds_toArray, List.set_cons_zero, List.set_cons_succ]
              refine wpAnyH_take (i := 14) (oi := ({ dst := some 72, op := Op.indexAddr 25 (Operand.tmp 70) (Operand.tmp 71), type := 0, pos := "law.go:68", after := #[{ on := 12, ground := Ground.data }, { on := 13, ground := Ground.data }, { on := 6, ground := Ground.guard }], guard := some (6, true) } : Oper)) (v := .pointer (some ⟨bg, og + i, none⟩)) rfl (by kernel_rfl) (by kernel_rfl) (by kernel_rfl) (fun _ _ _ h => h) (Or.inl ⟨by rfl, ?_⟩) hHeld ?_
              · (intro w' hSw; (try dsimp only at hSw); clear hSw hHeld; go_simp; (try with_reducible rfl))
              try simp only [Act.put, List.setIfInBounds_toArray, List.set_cons_zero, List.set_cons_succ]
              refine wpAnyH_take (i := 15) (oi := ({ dst := some 73, op := Op.load 3 (Operand.tmp 72), type := 3, pos := "law.go:68", after := #[{ on := 14, ground := Ground.data }, { on := 6, ground := Ground.guard }], guard := some (6, true) } : Oper)) (v := .int .i64 gv) rfl (by kernel_rfl) (by kernel_rfl) (by kernel_rfl) (fun _ _ _ h => h) (Or.inl ⟨by rfl, ?_⟩) hHeld ?_
              · (intro w' hSw; (try dsimp only at hSw); have g := (hSw.cell (p := ⟨bg, og + i, none⟩) (World.block_lt_of_cell? _ _ gi) (fun h => h)).trans gi; clear hSw hHeld; go_simp; (try with_reducible rfl))
              try simp only [Act.put, List.setIfInBounds_toArray, List.set_cons_zero, List.set_cons_succ]
              refine wpAnyH_take (i := 16) (oi := ({ dst := some 74, op := Op.build 30 #[(0, Operand.tmp 67), (1, Operand.tmp 73)], type := 30, pos := "law.go:68", after := #[{ on := 9, ground := Ground.data }, { on := 15, ground := Ground.data }, { on := 6, ground := Ground.guard }], guard := some (6, true) } : Oper)) (v := .agg #[.int .i64 (i : Int), .int .i64 gv]) rfl (by kernel_rfl) (by kernel_rfl) (by kernel_rfl) (fun _ _ _ h => h) (Or.inl ⟨by rfl, ?_⟩) hHeld ?_
              · (intro w' hSw; (try dsimp only at hSw); clear hSw hHeld; go_simp; (try with_reducible rfl))
              try simp only [Act.put, List.setIfInBounds_toArray, List.set_cons_zero, List.set_cons_succ]
              refine wpAnyH_ready (rs := [17]) (by kernel_rfl) (by simp) (AllReadyH.cons (o := ({ dst := some 75, op := Op.call { callee := Callee.value (Operand.func 12), args := #[Operand.tmp 66, Operand.tmp 74], argTypes := #[45, 30] }, type := 3, pos := "law.go:68", after := #[{ on := 8, ground := Ground.data }, { on := 16, ground := Ground.data }, { on := 6, ground := Ground.chain }, { on := 6, ground := Ground.guard }], guard := some (6, true) } : Oper)) rfl (fun K hK => ?_) AllReadyH.nil)
              go_simp
              refine (refCount_any ((i : Int), gv) S.root _ _ _ _ _ (HLy2.out.up hHeld) (by have := Hsz.out; omega) HF.out.root).mono ?_
              rintro e w6 ⟨rfl, hm6⟩
              have M := Lib.hid (hHeld.trans' hm6)
              clear hHeld
              rw [Hc1.out]
              refine hK _ _ M.out (fun hHeld => ?_)
              clear hK K M
              try simp only [Act.put, List.setIfInBounds_toArray, List.set_cons_zero, List.set_cons_succ]
              refine wpAnyH_take (i := 18) (oi := ({ dst := some 76, op := Op.binOp BinOp.neq 3 (Operand.tmp 75) (Operand.const (Value.int IntKind.i64 1)) 3, type := 4, pos := "law.go:68", after := #[{ on := 17, ground := Ground.data }, { on := 6, ground := Ground.guard }], guard := some (6, true) } : Oper)) (v := .bool false) rfl (by kernel_rfl) (by kernel_rfl) (by kernel_rfl) (fun _ _ _ h => h) (Or.inl ⟨by rfl, ?_⟩) hHeld ?_
              · (intro w' hSw; (try dsimp only at hSw); clear hSw hHeld; go_simp; (try with_reducible rfl))
              try simp only [Act.put, List.setIfInBounds_toArray, List.set_cons_zero, List.set_cons_succ]
              refine wpAnyH_take (i := 19) (oi := ({ dst := some 77, op := Op.pick (Operand.tmp 64) (Operand.tmp 76) (Operand.const (Value.bool false)), type := 4, pos := "law.go:68", after := #[{ on := 6, ground := Ground.data }, { on := 18, ground := Ground.data }], guard := none } : Oper)) (v := .bool false) rfl (by kernel_rfl) (by kernel_rfl) (by kernel_rfl) (fun _ _ _ h => h) (Or.inl ⟨by rfl, ?_⟩) hHeld ?_
              · (intro w' hSw; (try dsimp only at hSw); clear hSw hHeld; go_simp; (try with_reducible rfl))
              try simp only [Act.put, List.setIfInBounds_toArray, List.set_cons_zero, List.set_cons_succ]
              have MS := Lib.hid hHeld
              refine wpAnyH_done (by kernel_rfl) ?_ _
              clear hHeld
              try simp only [Act.put]
              have HT2 := Lib.hid (Hm2.out.trans' MS.out)
              clear MS
              go_wp2_with fail
              go_roundw
              case rel => exact ⟨i + 1, by rw [← hwi], by have := Hig.out; omega, HT2.out⟩
              case measure => rw [hwi]; have := Hig.out; simp only [intOf]; omega
          · have HIr2 := Lib.hid (range_up HIdr.out Hm2.out (fun h => h))
            have e4 := fun (w' : World) => id_op S.root.id (0, 0) w'
            rw [HI.out.root] at e4 HIr2
            simp only [decide_true] at e4
            go_upto_region 15 with fail
            refine wp_region_held_drew (S := fun w' => Gou.Mod (fun _ => False) wr w') (by kernel_rfl) (Gou.Mod.drew _ _) (fun hHeld => ?_)
            refine wpAnyH_take (i := 0) (oi := ({ dst := some 78, op := Op.fieldAddr 47 (Operand.tmp 3) 1, type := 0, pos := "law.go:72", after := #[], guard := none } : Oper)) (v := .pointer (some ⟨B, 2, none⟩)) rfl (by kernel_rfl) (by kernel_rfl) (by kernel_rfl) (fun _ _ _ h => h) (Or.inl ⟨by rfl, ?_⟩) hHeld ?_
            · (intro w' hSw; (try dsimp only at hSw); clear hSw hHeld; go_simp; (try with_reducible rfl))
            try simp only [Act.put, List.setIfInBounds_toArray, List.set_cons_zero, List.set_cons_succ]
            refine wpAnyH_take (i := 1) (oi := ({ dst := some 79, op := Op.fieldAddr 45 (Operand.tmp 78) 0, type := 0, pos := "law.go:72", after := #[{ on := 0, ground := Ground.data }], guard := none } : Oper)) (v := .pointer (some ⟨B, 2, none⟩)) rfl (by kernel_rfl) (by kernel_rfl) (by kernel_rfl) (fun _ _ _ h => h) (Or.inl ⟨by rfl, ?_⟩) hHeld ?_
            · (intro w' hSw; (try dsimp only at hSw); clear hSw hHeld; go_simp; (try with_reducible rfl))
            try simp only [Act.put, List.setIfInBounds_toArray, List.set_cons_zero, List.set_cons_succ]
            refine wpAnyH_take (i := 2) (oi := ({ dst := some 80, op := Op.load 30 (Operand.tmp 79), type := 30, pos := "law.go:72", after := #[{ on := 1, ground := Ground.data }], guard := none } : Oper)) (v := .agg #[.int .i64 0, .int .i64 0]) rfl (by kernel_rfl) (by kernel_rfl) (by kernel_rfl) (fun _ _ _ h => h) (yieldsIf_load_mid (by rfl) 30 _ rfl B (2) rfl ([.int .i64 (((0 : Int), (0 : Int)) : Idt).1, .int .i64 (((0 : Int), (0 : Int)) : Idt).2]) _ (fun w' hSw => range_up HIr2.out hSw (fun h => h)) Try.underlying30 rfl size_id) hHeld ?_
            try simp only [Act.put, List.setIfInBounds_toArray, List.set_cons_zero, List.set_cons_succ]
            refine wpAnyH_ready (rs := [3]) (by kernel_rfl) (by simp) (AllReadyH.cons (o := ({ dst := some 81, op := Op.call { callee := Callee.value (Operand.func 13), args := #[Operand.const (Value.int IntKind.i64 0)], argTypes := #[3] }, type := 30, pos := "law.go:72", after := #[], guard := none } : Oper)) rfl (fun K hK => ?_) AllReadyH.nil)
            go_simp
            refine (lawId_any 0 _).mono ?_
            rintro e w6 ⟨rfl, hm6⟩
            have M := Lib.hid (hHeld.trans' hm6)
            clear hHeld
            refine hK _ _ M.out (fun hHeld => ?_)
            clear hK K M
            try simp only [Act.put, List.setIfInBounds_toArray, List.set_cons_zero, List.set_cons_succ]
            refine wpAnyH_take (i := 4) (oi := ({ dst := some 82, op := Op.binOp BinOp.eql 30 (Operand.tmp 80) (Operand.tmp 81) 30, type := 4, pos := "law.go:72", after := #[{ on := 2, ground := Ground.data }, { on := 3, ground := Ground.data }], guard := none } : Oper)) (v := .bool true) rfl (by kernel_rfl) (by kernel_rfl) (by kernel_rfl) (fun _ _ _ h => h) (Or.inl ⟨by rfl, ?_⟩) hHeld ?_
            · (intro w' hSw; (try dsimp only at hSw); clear hSw hHeld; go_simp; (try with_reducible rfl))
            try simp only [Act.put, List.setIfInBounds_toArray, List.set_cons_zero, List.set_cons_succ]
            refine wpAnyH_take (i := 5) (oi := ({ dst := some 2, op := Op.assign (Operand.tmp 82), type := 4, pos := "law.go:72", after := #[{ on := 4, ground := Ground.data }, { on := 3, ground := Ground.chain }, { on := 0, ground := Ground.phase }, { on := 1, ground := Ground.phase }, { on := 2, ground := Ground.phase }, { on := 3, ground := Ground.phase }, { on := 4, ground := Ground.phase }], guard := none } : Oper)) (v := .bool true) rfl (by kernel_rfl) (by kernel_rfl) (by kernel_rfl) (fun _ _ _ h => h) (Or.inl ⟨by rfl, ?_⟩) hHeld ?_
            · (intro w' hSw; (try dsimp only at hSw); clear hSw hHeld; go_simp; (try with_reducible rfl))
            try simp only [Act.put, List.setIfInBounds_toArray, List.set_cons_zero, List.set_cons_succ]
            have MS := Lib.hid hHeld
            refine wpAnyH_done (by kernel_rfl) ?_ _
            clear hHeld
            try simp only [Act.put]
            have HT2 := Lib.hid (HTot.out.trans' MS.out)
            clear MS
            go_wp2_with fail
            go_ret
            exact ⟨rfl, HT2.out⟩
end Go.Proofs.Ytpbmfalokongfaa

