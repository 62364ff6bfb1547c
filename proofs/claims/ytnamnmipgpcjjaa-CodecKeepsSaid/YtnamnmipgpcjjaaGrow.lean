/- Plain words on memory: rows of nodes that a call makes, cell by cell. Nothing of the program stands here. -/
import Derived.Test.YtnamnmipgpcjjaaMod
import Derived.Deep.AppendLies
namespace Go.Gou
open Go.RowKit

theorem heap_at {w : World} {o : Obj} {g : Nat} (h : g = w.heap.size) : (w.alloc o).heap[g]? = some o := by
  subst h
  exact heap_alloc_new w o

theorem own_at {w : World} {base g n size : Nat} {e : TypeId} {cs : Array Value} (h : w.heap[g]? = some (.cells cs e (0, 0))) (hb : base ≤ g) (hm : n ≤ maxLen) (hs : cs.size = n * size) :
    w.ownsRow base e size (.slice (some ⟨g, 0, none⟩) n n) n cs.toList :=
  ⟨by simpa using hs, .inr ⟨g, n, cs, rfl, hb, h, Nat.le_refl _, hm, hs, List.take_of_length_le (by rw [Array.length_toList, hs]; exact Nat.le_refl _)⟩⟩

theorem news_at {w : World} {B : Nat} {cs : Array Value} {t : TypeId} {fr : Nat × Nat} {l : List Value} (hb : w.heap[B]? = some (.cells cs t fr)) (hl : cs.toList = l) : ∀ j u, l[j]? = some u → w.cell? ((⟨B, 0, none⟩ : Addr).add j) = some u := by
  subst hl
  exact World.news_of_block hb

theorem news_below {B : Nat} {w w' : World} {b o : Nat} {l : List Value} (hb : Below B w w') (hB : b < B) (h : ∀ j u, l[j]? = some u → w.cell? ((⟨b, o, none⟩ : Addr).add j) = some u) : ∀ j u, l[j]? = some u → w'.cell? ((⟨b, o, none⟩ : Addr).add j) = some u := fun j u hj => by
  have := h j u hj
  rw [hb.cell (p := (⟨b, o, none⟩ : Addr).add j) (by unfold Addr.add; split <;> simpa using hB)]
  exact this

/-- What a list of cells says as nodes. -/
def NodeCells (B : Nat) (w : World) (xs : List Value) (ns : List GNode) : Prop :=
  xs.length = ns.length * 3 ∧ ∀ i, (h : i < ns.length) → ∃ vi vp, xs[i * 3]? = some (.int .i64 ns[i].op) ∧ xs[i * 3 + 1]? = some vi ∧ xs[i * 3 + 2]? = some vp ∧ IntsAt B w vi ns[i].ins ∧ IntsAt B w vp ns[i].ps

theorem NodeCells.nil (B : Nat) (w : World) : NodeCells B w [] [] := ⟨rfl, fun i h => by simp at h⟩

theorem NodeCells.snoc {B : Nat} {w : World} {xs : List Value} {ns : List GNode} (h : NodeCells B w xs ns) (n : GNode) (vi vp : Value) (h1 : IntsAt B w vi n.ins) (h2 : IntsAt B w vp n.ps) :
    NodeCells B w (xs ++ [.int .i64 n.op, vi, vp]) (ns ++ [n]) := by
  obtain ⟨hl, h⟩ := h
  refine ⟨by simp [hl]; omega, fun i hi => ?_⟩
  by_cases hin : i < ns.length
  · obtain ⟨a, b, c0, c1, c2, c3, c4⟩ := h i hin
    refine ⟨a, b, ?_, ?_, ?_, ?_, ?_⟩
    · rw [List.getElem?_append_left (by omega), c0, List.getElem_append_left hin]
    · rw [List.getElem?_append_left (by omega), c1]
    · rw [List.getElem?_append_left (by omega), c2]
    · rw [List.getElem_append_left hin]; exact c3
    · rw [List.getElem_append_left hin]; exact c4
  · have hi' : i = ns.length := by simp at hi; omega
    subst hi'
    refine ⟨vi, vp, ?_, ?_, ?_, ?_, ?_⟩
    · rw [List.getElem?_append_right (by omega), hl]; simp
    · rw [List.getElem?_append_right (by omega), hl]
      have : ns.length * 3 + 1 - ns.length * 3 = 1 := by omega
      rw [this]; rfl
    · rw [List.getElem?_append_right (by omega), hl]
      have : ns.length * 3 + 2 - ns.length * 3 = 2 := by omega
      rw [this]; rfl
    · simpa using h1
    · simpa using h2

theorem NodeCells.below {B : Nat} {w w' : World} {xs : List Value} {ns : List GNode} (h : NodeCells B w xs ns) (hb : Below B w w') : NodeCells B w' xs ns :=
  ⟨h.1, fun i hi => by
    obtain ⟨a, b, c0, c1, c2, c3, c4⟩ := h.2 i hi
    exact ⟨a, b, c0, c1, c2, c3.below hb, c4.below hb⟩⟩

theorem NodeCells.mono {B B' : Nat} {w : World} {xs : List Value} {ns : List GNode} (h : NodeCells B w xs ns) (hB : B ≤ B') : NodeCells B' w xs ns :=
  ⟨h.1, fun i hi => by
    obtain ⟨a, b, c0, c1, c2, c3, c4⟩ := h.2 i hi
    exact ⟨a, b, c0, c1, c2, c3.mono hB, c4.mono hB⟩⟩

theorem NodesAt.of_cells {B : Nat} {w : World} {g o cap : Nat} {xs : List Value} {ns : List GNode} (h : NodeCells B w xs ns) (hg : g < B) (hcap : ns.length ≤ cap)
    (hc : ∀ j, j < ns.length * 3 → w.cell? ⟨g, o + j, none⟩ = xs[j]?) : NodesAt B w (.slice (some ⟨g, o, none⟩) ns.length cap) ns := by
  refine ⟨_, _, rfl, hcap, .inr ⟨g, o, rfl, hg, fun i hi => ?_⟩⟩
  obtain ⟨a, b, c0, c1, c2, c3, c4⟩ := h.2 i hi
  refine ⟨a, b, ?_, ?_, ?_, c3, c4⟩
  · rw [hc _ (by omega)]; exact c0
  · rw [Nat.add_assoc, hc _ (by omega)]; exact c1
  · rw [Nat.add_assoc, hc _ (by omega)]; exact c2

/-- The cells of a slice of nodes. -/
theorem nodes_cells {B : Nat} {w : World} {p : Option Addr} {n cap : Nat} {ns : List GNode} (h : NodesAt B w (.slice p n cap) ns) (h0 : 0 < ns.length) :
    ∃ b o, p = some ⟨b, o, none⟩ ∧ b < B ∧ ∃ cs : List Value, NodeCells B w cs ns ∧ (∀ j u, cs[j]? = some u → w.cell? ((⟨b, o, none⟩ : Addr).add j) = some u) ∧ (∀ u ∈ cs, u.oneCell' = true) := by
  obtain ⟨p', cap', he, hcap, h⟩ := h
  simp only [Value.slice.injEq] at he
  obtain ⟨rfl, rfl, rfl⟩ := he
  rcases h with rfl | ⟨b, o, rfl, hb, hc⟩
  · simp at h0
  refine ⟨b, o, rfl, hb, (List.range (ns.length * 3)).map (fun j => (w.cell? ⟨b, o + j, none⟩).getD (.int .i64 0)), ⟨by simp, fun i hi => ?_⟩, fun j u hj => ?_, fun u hu => ?_⟩
  · obtain ⟨vi, vp, c0, c1, c2, c3, c4⟩ := hc i hi
    refine ⟨vi, vp, ?_, ?_, ?_, c3, c4⟩
    · simp only [List.getElem?_map, List.getElem?_range (show i * 3 < ns.length * 3 by omega), Option.map_some, c0, Option.getD_some]
    · simp only [List.getElem?_map, List.getElem?_range (show i * 3 + 1 < ns.length * 3 by omega), Option.map_some, ← Nat.add_assoc, c1, Option.getD_some]
    · simp only [List.getElem?_map, List.getElem?_range (show i * 3 + 2 < ns.length * 3 by omega), Option.map_some, ← Nat.add_assoc, c2, Option.getD_some]
  · simp only [List.getElem?_map, Option.map_eq_some_iff] at hj
    obtain ⟨k, hk, rfl⟩ := hj
    obtain ⟨hk1, hk2⟩ := List.getElem?_eq_some_iff.1 hk
    simp at hk1 hk2
    subst hk2
    have hadd : (⟨b, o, none⟩ : Addr).add j = ⟨b, o + j, none⟩ := by unfold Addr.add; split <;> simp_all
    rw [hadd]
    obtain ⟨vi, vp, c0, c1, c2, _⟩ := hc (j / 3) (by omega)
    rcases (show j % 3 = 0 ∨ j % 3 = 1 ∨ j % 3 = 2 by omega) with e | e | e
    · have : j = j / 3 * 3 := by omega
      rw [this, c0]; rfl
    · have : o + j = o + j / 3 * 3 + 1 := by omega
      rw [this, c1]; rfl
    · have : o + j = o + j / 3 * 3 + 2 := by omega
      rw [this, c2]; rfl
  · simp only [List.mem_map, List.mem_range] at hu
    obtain ⟨j, hj, rfl⟩ := hu
    obtain ⟨vi, vp, c0, c1, c2, c3, c4⟩ := hc (j / 3) (by omega)
    obtain ⟨_, _, rfl⟩ := c3.len
    obtain ⟨_, _, rfl⟩ := c4.len
    rcases (show j % 3 = 0 ∨ j % 3 = 1 ∨ j % 3 = 2 by omega) with e | e | e
    · have : j = j / 3 * 3 := by omega
      rw [this, c0]; rfl
    · have : o + j = o + j / 3 * 3 + 1 := by omega
      rw [this, c1]; rfl
    · have : o + j = o + j / 3 * 3 + 2 := by omega
      rw [this, c2]; rfl

end Go.Gou
