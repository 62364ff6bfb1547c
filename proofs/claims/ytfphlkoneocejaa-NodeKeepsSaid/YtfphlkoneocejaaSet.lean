/- Plain words on memory: a map from ints to bools, made by the call, that says which ints are in a set. -/
import Derived.Test.YtfphlkoneocejaaMod
import Derived.Maps.OwnOps
import Derived.Maps.OwnSet
import Derived.Deep.AppendLies
namespace Go.Gou
open Go.RowKit Go.Maps Go.MapKept Go.WideShapes
open Go.WideElems (Fit rd rg pl)

def IntSet (P : Program) (k e : TypeId) (w : World) (b n : Nat) (S : List Int) : Prop :=
  ∃ D : DataW Unit, w.ownsMap P k (plainElem P e) b n D ∧ ∀ x, D.atKey (.int .i64 x) (.lit (.bool false)) = .lit (.bool (decide (x ∈ S)))

theorem IntSet.made (P : Program) (k e : TypeId) (w : World) : IntSet P k e (w.alloc (.map #[] 0)) w.heap.size 0 [] :=
  ⟨.map [], World.ownsMap_made w P k _, fun x => by simp [DataW.atKey]⟩

theorem keyOf_int {P : Program} {k : TypeId} (hk : P.underlying k = some (.int .i64)) {x : Int} (hx : (Lit.int .i64 x).wf = true) : keyOf P k (.int .i64 x) = some (.int .i64 x) := by
  exact keyOf_int_mk hk hx

theorem IntSet.look {P : Program} {k e t : TypeId} {w : World} {b n : Nat} {S : List Int} (h : IntSet P k e w b n S) (hk : P.underlying k = some (.int .i64)) (he : P.underlying e = some .bool)
    (ht : P.underlying t = some (.map k e)) (hz : (zeroValue e).run P w = .ok (.bool false) w) {x : Int} (hx : (Lit.int .i64 x).wf = true) :
    (Instr.lookup t (.map (some b)) (.int .i64 x) false).run P w = .ok (.bool (decide (x ∈ S))) w := by
  obtain ⟨D, hown, hat⟩ := h
  have hat := hat x
  obtain ⟨es, clock, hb, F, _, rfl⟩ := hown
  rcases Maps.fit_look false (int_keyed hk) ht hz hb F (keyOf_int hk hx) with ⟨hrun, _, ha⟩ | ⟨e0, y, _, _, hrun, hRv, ha, _⟩
  · rw [ha] at hat
    simp only [DataW.lit.injEq, Lit.bool.injEq] at hat
    rw [hrun, ← hat]
    rfl
  · rw [ha] at hat
    rw [hrun]
    unfold plainElem at hRv
    rw [he] at hRv
    cases hv : e0.val <;> rw [hv] at hRv <;> simp at hRv
    subst hRv
    simp only [DataW.lit.injEq, Lit.bool.injEq] at hat
    subst hat
    simp

theorem IntSet.put {P : Program} {k e : TypeId} {w : World} {b n : Nat} {S : List Int} {D : DataW Unit} {x : Int} (hm : IsMap D)
    (hat : ∀ x, D.atKey (.int .i64 x) (.lit (.bool false)) = .lit (.bool (decide (x ∈ S)))) (h : w.ownsMap P k (plainElem P e) b n (D.put (.int .i64 x) (.lit (.bool true)))) : IntSet P k e w b n (S ++ [x]) := by
  refine ⟨_, h, fun y => ?_⟩
  by_cases e : y = x
  · subst e
    rw [atKey_put_same hm (by simp [WideAt.IsKeyLit])]
    simp
  · rw [atKey_put_other (by simp [e]), hat]
    simp [e]

theorem IntSet.mod {P : Program} {k e : TypeId} {w w' : World} {b n : Nat} {S : List Int} {M : Nat → Prop} (h : IntSet P k e w b n S) (hm : Mod M w w') (hs : ¬ M b) : IntSet P k e w' b n S := by
  obtain ⟨D, ⟨es, clock, hb, r⟩, hat⟩ := h
  have hlt : b < w.heap.size := (Array.getElem?_eq_some_iff.1 hb).1
  exact ⟨D, ⟨es, clock, by rw [hm.block b hlt hs]; exact hb, r⟩, hat⟩

theorem IntSet.mono {P : Program} {k e : TypeId} {w : World} {b n n' : Nat} {S : List Int} (h : IntSet P k e w b n S) (hn : n ≤ n') : IntSet P k e w b n' S := by
  obtain ⟨D, ho, hat⟩ := h
  exact ⟨D, ho.mono hn, hat⟩

theorem IntSet.lt {P : Program} {k e : TypeId} {w : World} {b n : Nat} {S : List Int} (h : IntSet P k e w b n S) : b < w.heap.size := by
  obtain ⟨D, ⟨es, clock, hb, r⟩, hat⟩ := h
  exact (Array.getElem?_eq_some_iff.1 hb).1

end Go.Gou
