/- Texts of the scenes' proofs, laid together: Mem. -/
import Derived.WalkKit
import Derived.Carry
import Derived.WalkSpells
import Derived.WalkLawsBesides
import Derived.BigQuiet
import Derived.Deep.QuietTactic
import Derived.Deep.DeepMust
import Derived.Lib.Hide
import Derived.Outline
set_option linter.unusedSimpArgs false
set_option linter.unusedVariables false
set_option linter.unusedSectionVars false
set_option linter.constructorNameAsVariable false

/- Plain words on memory: when a value reads, in a world, as a list of numbers, as a node, as a filter. Nothing of the program stands here. -/
namespace Go.Gou
open Go.RowKit

/-- A slice value that reads as integers, all in blocks below B. -/
def IntsAt (B : Nat) (w : World) (v : Value) (xs : List Int) : Prop :=
  ∃ (p : Option Addr) (cap : Nat), v = .slice p xs.length cap ∧ xs.length ≤ cap ∧ (xs = [] ∨ ∃ b o, p = some ⟨b, o, none⟩ ∧ b < B ∧
    ∀ i, (h : i < xs.length) → w.cell? ⟨b, o + i, none⟩ = some (.int .i64 xs[i]))

theorem IntsAt.below {B : Nat} {w w' : World} {v : Value} {xs : List Int} (h : IntsAt B w v xs) (hb : Below B w w') : IntsAt B w' v xs := by
  obtain ⟨p, cap, rfl, hcap, h⟩ := h
  refine ⟨p, cap, rfl, hcap, h.imp id ?_⟩
  rintro ⟨b, o, rfl, hB, hc⟩
  exact ⟨b, o, rfl, hB, fun i hi => by rw [hb.cell (p := ⟨b, o + i, none⟩) hB]; exact hc i hi⟩

theorem IntsAt.mono {B B' : Nat} {w : World} {v : Value} {xs : List Int} (h : IntsAt B w v xs) (hB : B ≤ B') : IntsAt B' w v xs := by
  obtain ⟨p, cap, rfl, hcap, h⟩ := h
  refine ⟨p, cap, rfl, hcap, h.imp id ?_⟩
  rintro ⟨b, o, rfl, hb, hc⟩
  exact ⟨b, o, rfl, by omega, hc⟩

structure GNode where
  op : Int
  ins : List Int
  ps : List Int

structure Gr where
  nodes : List GNode
  out : Int

/-- A slice value that reads as nodes. -/
def NodesAt (B : Nat) (w : World) (v : Value) (ns : List GNode) : Prop :=
  ∃ (p : Option Addr) (cap : Nat), v = .slice p ns.length cap ∧ ns.length ≤ cap ∧ (ns = [] ∨ ∃ b o, p = some ⟨b, o, none⟩ ∧ b < B ∧
    ∀ i, (h : i < ns.length) → ∃ vi vp, w.cell? ⟨b, o + i * 3, none⟩ = some (.int .i64 ns[i].op) ∧ w.cell? ⟨b, o + i * 3 + 1, none⟩ = some vi ∧
      w.cell? ⟨b, o + i * 3 + 2, none⟩ = some vp ∧ IntsAt B w vi ns[i].ins ∧ IntsAt B w vp ns[i].ps)

theorem NodesAt.below {B : Nat} {w w' : World} {v : Value} {ns : List GNode} (h : NodesAt B w v ns) (hb : Below B w w') : NodesAt B w' v ns := by
  obtain ⟨p, cap, rfl, hcap, h⟩ := h
  refine ⟨p, cap, rfl, hcap, h.imp id ?_⟩
  rintro ⟨b, o, rfl, hB, hc⟩
  refine ⟨b, o, rfl, hB, fun i hi => ?_⟩
  obtain ⟨vi, vp, h0, h1, h2, h3, h4⟩ := hc i hi
  exact ⟨vi, vp, by rw [hb.cell (p := ⟨b, o + i * 3, none⟩) hB]; exact h0, by rw [hb.cell (p := ⟨b, o + i * 3 + 1, none⟩) hB]; exact h1,
    by rw [hb.cell (p := ⟨b, o + i * 3 + 2, none⟩) hB]; exact h2, h3.below hb, h4.below hb⟩

/-- What 'Below' says of cells, in the walk's own form. -/
theorem bcell {W w1 : World} (hb : Below W.heap.size W w1) : (∀ b o, b < W.heap.size → w1.cell? ⟨b, o, none⟩ = W.cell? ⟨b, o, none⟩) ∧ (∀ b o, b < W.heap.size → w1.frozen? ⟨b, o, none⟩ = W.frozen? ⟨b, o, none⟩) :=
  ⟨fun b o h => hb.cell (p := ⟨b, o, none⟩) h, fun b o h => hb.frozen (p := ⟨b, o, none⟩) h⟩

/-- A cell of an old block, two steps on. -/
theorem later_cell {W w1 w2 : World} {b o : Nat} {x : Option Value} (h1 : Below W.heap.size W w1) (h2 : Below w1.heap.size w1 w2) (hb : b < W.heap.size) (hc : w1.cell? ⟨b, o, none⟩ = x) : w2.cell? ⟨b, o, none⟩ = x := by
  rw [h2.cell (p := ⟨b, o, none⟩) (Nat.lt_of_lt_of_le hb h1.size)]; exact hc
theorem later_below {W w1 w2 : World} (h1 : Below W.heap.size W w1) (h2 : Below w1.heap.size w1 w2) : Below W.heap.size W w2 := h1.trans (h2.mono h1.size)

theorem IntsAt.up {w w1 : World} {v : Value} {xs : List Int} (h : IntsAt w.heap.size w v xs) (hb : Below w.heap.size w w1) : IntsAt w1.heap.size w1 v xs := (h.below hb).mono hb.size

theorem NodesAt.mono {B B' : Nat} {w : World} {v : Value} {ns : List GNode} (h : NodesAt B w v ns) (hB : B ≤ B') : NodesAt B' w v ns := by
  obtain ⟨p, cap, rfl, hcap, h⟩ := h
  refine ⟨p, cap, rfl, hcap, h.imp id ?_⟩
  rintro ⟨b, o, rfl, hb, hc⟩
  refine ⟨b, o, rfl, by omega, fun i hi => ?_⟩
  obtain ⟨vi, vp, h0, h1, h2, h3, h4⟩ := hc i hi
  exact ⟨vi, vp, h0, h1, h2, h3.mono hB, h4.mono hB⟩

theorem NodesAt.up {w w1 : World} {v : Value} {ns : List GNode} (h : NodesAt w.heap.size w v ns) (hb : Below w.heap.size w w1) : NodesAt w1.heap.size w1 v ns := (h.below hb).mono hb.size

theorem IntsAt.len {B : Nat} {w : World} {v : Value} {xs : List Int} (h : IntsAt B w v xs) : ∃ p cap, v = .slice p xs.length cap := by
  obtain ⟨p, cap, rfl, _⟩ := h
  exact ⟨p, cap, rfl⟩

theorem ints_cells {B : Nat} {w : World} {v : Value} {xs : List Int} (h : IntsAt B w v xs) (h0 : 0 < xs.length) :
    ∃ b o cap, v = .slice (some ⟨b, o, none⟩) xs.length cap ∧ xs.length ≤ cap ∧ b < B ∧ ∀ i, i < xs.length → w.cell? ⟨b, o + i, none⟩ = some (.int .i64 (xs.getD i 0)) := by
  obtain ⟨p, cap, rfl, hcap, h⟩ := h
  rcases h with rfl | ⟨b, o, rfl, hb, hc⟩
  · simp at h0
  · exact ⟨b, o, cap, rfl, hcap, hb, fun i hi => by rw [hc i hi]; simp [List.getD, hi]⟩

theorem IntsAt.of_cells {B : Nat} {w : World} {b o cap : Nat} {xs : List Int} (hcap : xs.length ≤ cap) (hb : b < B) (hc : ∀ i, i < xs.length → w.cell? ⟨b, o + i, none⟩ = some (.int .i64 (xs.getD i 0))) :
    IntsAt B w (.slice (some ⟨b, o, none⟩) xs.length cap) xs :=
  ⟨_, _, rfl, hcap, .inr ⟨b, o, rfl, hb, fun i hi => by rw [hc i hi]; simp [List.getD, hi]⟩⟩

/-- A part of a slice, from place i on, m long. -/
theorem IntsAt.part {B : Nat} {w : World} {b o cap n : Nat} {xs : List Int} (h : IntsAt B w (.slice (some ⟨b, o, none⟩) n cap) xs) (i m c : Nat) (hm : 0 < m) (him : i + m ≤ xs.length) (hc : m ≤ c) :
    IntsAt B w (.slice (some ⟨b, o + i, none⟩) m c) ((xs.drop i).take m) := by
  obtain ⟨p, cap', he, hcap, h⟩ := h
  have hl : ((xs.drop i).take m).length = m := by simp; omega
  rcases h with rfl | ⟨b', o', hp, hb, hcell⟩
  · simp at him; omega
  · have he' := he
    simp only [Value.slice.injEq] at he'
    obtain ⟨e1, _, _⟩ := he'
    rw [hp] at e1
    simp only [Option.some.injEq, Addr.mk.injEq, and_true] at e1
    obtain ⟨rfl, rfl⟩ := e1
    refine ⟨_, _, by rw [hl], by omega, .inr ⟨b, o + i, rfl, hb, fun j hj => ?_⟩⟩
    have := hcell (i + j) (by omega)
    rw [Nat.add_assoc, this]
    simp

end Go.Gou

