/- Texts of the scenes' proofs, laid together: RwA, RgH. -/
import Derived.Test.YtlpieeeeolfclaaGreatDoorZab
import Derived.Deep.MidRow
import Derived.Deep.AppendLies
set_option linter.unusedSimpArgs false
set_option linter.unusedVariables false
set_option linter.unusedSectionVars false
set_option linter.constructorNameAsVariable false

/- Plain words on memory: rows of rectangles, of spans, of numbers. -/
namespace Go.Gou
open Go.RowKit Go.Reg

/-- A slice value of n elements of k cells each, that read as cs, in blocks that are good. -/
def RowG (G : Nat → Prop) (w : World) (k : Nat) (v : Value) (n : Nat) (cs : List Value) : Prop :=
  cs.length = n * k ∧ ∃ (p : Option Addr) (cap : Nat), v = .slice p n cap ∧ n ≤ cap ∧ (n = 0 ∨ ∃ b o, p = some ⟨b, o, none⟩ ∧ b < w.heap.size ∧ G b ∧
    ∀ j u, cs[j]? = some u → w.cell? ⟨b, o + j, none⟩ = some u)

theorem RowG.mod {G S : Nat → Prop} {w w' : World} {k : Nat} {v : Value} {n : Nat} {cs : List Value} (h : RowG G w k v n cs) (hm : Mod S w w') (hS : ∀ k, k < w.heap.size → G k → ¬ S k) : RowG G w' k v n cs := by
  obtain ⟨hl, p, cap, rfl, hcap, h⟩ := h
  refine ⟨hl, p, cap, rfl, hcap, h.imp id ?_⟩
  rintro ⟨b, o, rfl, hB, hG, hc⟩
  exact ⟨b, o, rfl, Nat.lt_of_lt_of_le hB hm.size, hG, fun j u hu => by rw [hm.cell (p := ⟨b, o + j, none⟩) hB (hS b hB hG)]; exact hc j u hu⟩

theorem RowG.imp {G G' : Nat → Prop} {w : World} {k : Nat} {v : Value} {n : Nat} {cs : List Value} (h : RowG G w k v n cs) (hG : ∀ k, k < w.heap.size → G k → G' k) : RowG G' w k v n cs := by
  obtain ⟨hl, p, cap, rfl, hcap, h⟩ := h
  refine ⟨hl, p, cap, rfl, hcap, h.imp id ?_⟩
  rintro ⟨b, o, rfl, hB, hG', hc⟩
  exact ⟨b, o, rfl, hB, hG b hB hG', hc⟩

theorem RowG.form {G : Nat → Prop} {w : World} {k : Nat} {v : Value} {n : Nat} {cs : List Value} (h : RowG G w k v n cs) : ∃ p cap, v = .slice p n cap ∧ n ≤ cap := by
  obtain ⟨_, p, cap, rfl, hcap, _⟩ := h
  exact ⟨p, cap, rfl, hcap⟩

theorem RowG.nil (G : Nat → Prop) (w : World) (k : Nat) : RowG G w k (.slice none 0 0) 0 [] := ⟨by simp, none, 0, rfl, Nat.le_refl _, .inl rfl⟩

theorem RowG.of_own {w : World} {base : Nat} {e : TypeId} {k : Nat} {v : Value} {n : Nat} {cs : List Value} (h : w.ownsRow base e k v n cs) : RowG (fun b => base ≤ b) w k v n cs := by
  have hlt := h.lt
  obtain ⟨hl, h⟩ := h
  rcases h with ⟨rfl, rfl⟩ | ⟨g, cap, cur, rfl, hg, hh, hn, _, _, ht⟩
  · exact ⟨hl, _, _, rfl, Nat.le_refl _, .inl rfl⟩
  · refine ⟨hl, _, _, rfl, hn, .inr ⟨g, 0, rfl, (hlt g rfl).2, hg, fun j u hu => ?_⟩⟩
    rw [Nat.zero_add, cell_of_row w g j cur e (0, 0) hh, ← hu, ← ht, List.getElem?_take]
    have hj : j < cs.length := (List.getElem?_eq_some_iff.1 hu).1
    rw [if_pos (by omega)]
    simp

theorem RowG.own_of {w : World} {base : Nat} {e : TypeId} {k : Nat} {v : Value} {n : Nat} {cs : List Value} (h : w.ownsRow base e k v n cs) {G : Nat → Prop} (hG : ∀ b, v.ownBlock = some b → base ≤ b → G b) : RowG G w k v n cs := by
  have h1 := RowG.of_own h
  obtain ⟨hl, p, cap, rfl, hcap, h1⟩ := h1
  refine ⟨hl, p, cap, rfl, hcap, h1.imp id ?_⟩
  rintro ⟨b, o, rfl, hB, hb, hc⟩
  exact ⟨b, o, rfl, hB, hG b rfl hb, hc⟩

/-- A box of a variable's cells, whole. -/
abbrev Blk (w : World) (b : Nat) (T : TypeId) (cs : Array Value) : Prop := w.heap[b]? = some (.cells cs T (0, 0))

theorem Blk.lt {w : World} {b : Nat} {T : TypeId} {cs : Array Value} (h : Blk w b T cs) : b < w.heap.size := (Array.getElem?_eq_some_iff.1 h).1
theorem Blk.mod {S : Nat → Prop} {w w' : World} {b : Nat} {T : TypeId} {cs : Array Value} (h : Blk w b T cs) (hm : Mod S w w') (hS : ¬ S b) : Blk w' b T cs := by
  have h' := hm.block b (Blk.lt h) hS
  unfold Blk at h ⊢
  rw [h', h]
theorem Blk.cell {w : World} {b : Nat} {T : TypeId} {cs : Array Value} (h : Blk w b T cs) (i : Nat) {u : Value} (hu : cs[i]? = some u) : w.cell? ⟨b, i, none⟩ = some u := by
  rw [cell_of_row w b i cs T _ h, hu]
theorem Blk.frozen {w : World} {b : Nat} {T : TypeId} {cs : Array Value} (h : Blk w b T cs) (i : Nat) : w.frozen? ⟨b, i, none⟩ = false := frozen_of_row w b i cs T h
theorem Blk.set {w : World} {b : Nat} {T : TypeId} {cs : Array Value} (h : Blk w b T cs) (i : Nat) (u : Value) : Blk (w.setCell ⟨b, i, none⟩ u) b T (cs.setIfInBounds i u) := heap_setCell_same w b i cs T u h

def setMany (cs : Array Value) : Nat → List Value → Array Value
  | _, [] => cs
  | o, v :: r => setMany (cs.setIfInBounds o v) (o + 1) r

theorem Blk.sets {w : World} {b : Nat} {T : TypeId} {cs : Array Value} (h : Blk w b T cs) (o : Nat) (vs : List Value) : Blk (w.setCells b o vs) b T (setMany cs o vs) := by
  induction vs generalizing w cs o with
  | nil => exact h
  | cons v r ih => exact ih (h.set o v) (o + 1)

theorem Blk.there {w : World} {b : Nat} {T : TypeId} {cs : Array Value} (h : Blk w b T cs) (o n : Nat) (hn : o + n ≤ cs.size) : w.there b o n := fun j hj =>
  ⟨by rw [cell_of_row w b (o + j) cs T _ h]; simp; omega, frozen_of_row w b (o + j) cs T h⟩

theorem Blk.setMod (w : World) (b o : Nat) (vs : List Value) : Mod (fun k => k = b) w (w.setCells b o vs) := by
  induction vs generalizing w o with
  | nil => exact Mod.refl _ _
  | cons v r ih => exact (Mod.setCell w ⟨b, o, none⟩ v).trans' (ih _ _)

theorem setMany_all (cs : Array Value) (vs : List Value) (h : cs.size = vs.length) : setMany cs 0 vs = vs.toArray := by
  have key : ∀ (vs pre rest : List Value), rest.length = vs.length → setMany (pre ++ rest).toArray pre.length vs = (pre ++ vs).toArray := by
    intro vs
    induction vs with
    | nil => intro pre rest hr; obtain rfl := List.length_eq_zero_iff.1 hr; rfl
    | cons v r ih =>
      intro pre rest hr
      match rest, hr with
      | x :: rest', hr =>
        have e : ((pre ++ x :: rest').toArray).setIfInBounds pre.length v = ((pre ++ [v]) ++ rest').toArray := by simp
        have := ih (pre ++ [v]) rest' (by simpa using hr)
        rw [setMany, e]
        simpa using this
  have := key vs [] cs.toList (by simpa using h)
  simpa using this

abbrev ivs (xs : List Int) : List Value := xs.map (.int .i64)
def rtC (r : Rt) : List Value := [.int .i64 r.x0, .int .i64 r.y0, .int .i64 r.x1, .int .i64 r.y1]
def spC (s : Sp) : List Value := [.int .i64 s.a, .int .i64 s.b]
abbrev rts (l : List Rt) : List Value := l.flatMap rtC
abbrev sps (l : List Sp) : List Value := l.flatMap spC

def IntsR (G : Nat → Prop) (w : World) (v : Value) (xs : List Int) : Prop := RowG G w 1 v xs.length (ivs xs)
def RtR (G : Nat → Prop) (w : World) (v : Value) (l : List Rt) : Prop := RowG G w 4 v l.length (rts l)
def SpR (G : Nat → Prop) (w : World) (v : Value) (l : List Sp) : Prop := RowG G w 2 v l.length (sps l)

theorem rts_len (l : List Rt) : (rts l).length = l.length * 4 := by
  induction l with
  | nil => rfl
  | cons r l ih => simp only [rts, List.flatMap_cons, List.length_append, List.length_cons] at ih ⊢; rw [ih]; simp [rtC]; omega
theorem sps_len (l : List Sp) : (sps l).length = l.length * 2 := by
  induction l with
  | nil => rfl
  | cons r l ih => simp only [sps, List.flatMap_cons, List.length_append, List.length_cons] at ih ⊢; rw [ih]; simp [spC]; omega
theorem rts_app (a b : List Rt) : rts (a ++ b) = rts a ++ rts b := by simp [rts]
theorem sps_app (a b : List Sp) : sps (a ++ b) = sps a ++ sps b := by simp [sps]
theorem rts_get : ∀ (l : List Rt) (i : Nat) (h : i < l.length), (rts l)[i * 4]? = some (.int .i64 l[i].x0) ∧ (rts l)[i * 4 + 1]? = some (.int .i64 l[i].y0) ∧ (rts l)[i * 4 + 2]? = some (.int .i64 l[i].x1) ∧ (rts l)[i * 4 + 3]? = some (.int .i64 l[i].y1)
  | [], i, h => by simp at h
  | r :: l, 0, _ => ⟨rfl, rfl, rfl, rfl⟩
  | r :: l, i + 1, h => by
    have := rts_get l i (by simpa using h)
    rw [show (i + 1) * 4 = i * 4 + 1 + 1 + 1 + 1 from by omega, show i * 4 + 1 + 1 + 1 + 1 + 1 = i * 4 + 1 + 1 + 1 + 1 + 1 from rfl]
    exact this
theorem sps_get : ∀ (l : List Sp) (i : Nat) (h : i < l.length), (sps l)[i * 2]? = some (.int .i64 l[i].a) ∧ (sps l)[i * 2 + 1]? = some (.int .i64 l[i].b)
  | [], i, h => by simp at h
  | r :: l, 0, _ => ⟨rfl, rfl⟩
  | r :: l, i + 1, h => by
    have := sps_get l i (by simpa using h)
    rw [show (i + 1) * 2 = i * 2 + 1 + 1 from by omega]
    exact this
theorem RtR.form {G : Nat → Prop} {w : World} {v : Value} {l : List Rt} (h : RtR G w v l) : ∃ p c, v = .slice p l.length c := by
  obtain ⟨p, c, e, _⟩ := RowG.form h
  exact ⟨p, c, e⟩
theorem SpR.form {G : Nat → Prop} {w : World} {v : Value} {l : List Sp} (h : SpR G w v l) : ∃ p c, v = .slice p l.length c := by
  obtain ⟨p, c, e, _⟩ := RowG.form h
  exact ⟨p, c, e⟩
theorem RtR.cells {G : Nat → Prop} {w : World} {p : Option Addr} {c n : Nat} {l : List Rt} (h : RtR G w (.slice p n c) l) (h0 : 0 < l.length) :
    n = l.length ∧ ∃ b o, p = some ⟨b, o, none⟩ ∧ b < w.heap.size ∧ G b ∧ ∀ i, (hi : i < l.length) → w.cell? ⟨b, o + i * 4, none⟩ = some (.int .i64 l[i].x0) ∧ w.cell? ⟨b, o + i * 4 + 1, none⟩ = some (.int .i64 l[i].y0) ∧
      w.cell? ⟨b, o + i * 4 + 2, none⟩ = some (.int .i64 l[i].x1) ∧ w.cell? ⟨b, o + i * 4 + 3, none⟩ = some (.int .i64 l[i].y1) := by
  obtain ⟨hl, p', c', e, hcap, h⟩ := h
  simp only [Value.slice.injEq] at e
  obtain ⟨rfl, rfl, rfl⟩ := e
  rcases h with h | ⟨b, o, rfl, hb, hG, hc⟩
  · omega
  · refine ⟨rfl, b, o, rfl, hb, hG, fun i hi => ?_⟩
    obtain ⟨h0, h1, h2, h3⟩ := rts_get l i hi
    refine ⟨hc _ _ h0, ?_, ?_, ?_⟩
    · have := hc _ _ h1; rwa [← Nat.add_assoc] at this
    · have := hc _ _ h2; rwa [← Nat.add_assoc] at this
    · have := hc _ _ h3; rwa [← Nat.add_assoc] at this
theorem SpR.cells {G : Nat → Prop} {w : World} {p : Option Addr} {c n : Nat} {l : List Sp} (h : SpR G w (.slice p n c) l) (h0 : 0 < l.length) :
    n = l.length ∧ ∃ b o, p = some ⟨b, o, none⟩ ∧ b < w.heap.size ∧ G b ∧ ∀ i, (hi : i < l.length) → w.cell? ⟨b, o + i * 2, none⟩ = some (.int .i64 l[i].a) ∧ w.cell? ⟨b, o + i * 2 + 1, none⟩ = some (.int .i64 l[i].b) := by
  obtain ⟨hl, p', c', e, hcap, h⟩ := h
  simp only [Value.slice.injEq] at e
  obtain ⟨rfl, rfl, rfl⟩ := e
  rcases h with h | ⟨b, o, rfl, hb, hG, hc⟩
  · omega
  · refine ⟨rfl, b, o, rfl, hb, hG, fun i hi => ?_⟩
    obtain ⟨h0, h1⟩ := sps_get l i hi
    refine ⟨hc _ _ h0, ?_⟩
    have := hc _ _ h1; rwa [← Nat.add_assoc] at this
theorem IntsR.cells {G : Nat → Prop} {w : World} {p : Option Addr} {c n : Nat} {xs : List Int} (h : IntsR G w (.slice p n c) xs) (h0 : 0 < xs.length) :
    n = xs.length ∧ ∃ b o, p = some ⟨b, o, none⟩ ∧ b < w.heap.size ∧ G b ∧ ∀ i, (hi : i < xs.length) → w.cell? ⟨b, o + i, none⟩ = some (.int .i64 xs[i]) := by
  obtain ⟨hl, p', c', e, hcap, h⟩ := h
  simp only [Value.slice.injEq] at e
  obtain ⟨rfl, rfl, rfl⟩ := e
  rcases h with h | ⟨b, o, rfl, hb, hG, hc⟩
  · omega
  · refine ⟨rfl, b, o, rfl, hb, hG, fun i hi => hc i _ ?_⟩
    simp [ivs, hi]
theorem RtR.mod {G S : Nat → Prop} {w w' : World} {v : Value} {l : List Rt} (h : RtR G w v l) (hm : Mod S w w') (hS : ∀ k, k < w.heap.size → G k → ¬ S k) : RtR G w' v l := RowG.mod h hm hS
theorem SpR.mod {G S : Nat → Prop} {w w' : World} {v : Value} {l : List Sp} (h : SpR G w v l) (hm : Mod S w w') (hS : ∀ k, k < w.heap.size → G k → ¬ S k) : SpR G w' v l := RowG.mod h hm hS
theorem IntsR.mod {G S : Nat → Prop} {w w' : World} {v : Value} {l : List Int} (h : IntsR G w v l) (hm : Mod S w w') (hS : ∀ k, k < w.heap.size → G k → ¬ S k) : IntsR G w' v l := RowG.mod h hm hS

end Go.Gou

/- Regions: rectangles moved, grown and joined, in plain numbers. -/
namespace Go.Reg

def far : Int := 4398046511104
def Near (n : Int) : Prop := -far ≤ n ∧ n ≤ far
instance (n : Int) : Decidable (Near n) := by unfold Near; infer_instance
def Rt.Right (r : Rt) : Prop := Near r.x0 ∧ Near r.y0 ∧ Near r.x1 ∧ Near r.y1
instance (r : Rt) : Decidable r.Right := by unfold Rt.Right; infer_instance
def Rt.zero : Rt := ⟨0, 0, 0, 0⟩
def someP (r : Rt) : Rt := if r.Some then r else Rt.zero
def cutN (n : Int) : Int := max (-far) (min n far)
def edgeP (n by_ : Int) : Int := if n = far ∨ n = -far then n else cutN (n + by_)
def moveP (dx dy : Int) (r : Rt) : Rt := if r.Some then someP ⟨edgeP r.x0 dx, edgeP r.y0 dy, edgeP r.x1 dx, edgeP r.y1 dy⟩ else Rt.zero
def growP (l u r d : Int) (t : Rt) : Rt := if t.Some then someP ⟨cutN (t.x0 - l), cutN (t.y0 - u), cutN (t.x1 + r), cutN (t.y1 + d)⟩ else Rt.zero
def hullP (a b : Rt) : Rt := if a.Some then (if b.Some then ⟨min a.x0 b.x0, min a.y0 b.y0, max a.x1 b.x1, max a.y1 b.y1⟩ else a) else someP b
def boundsP (l : List Rt) : Rt := l.foldl hullP Rt.zero

/-- The code's own way to move an edge. -/
def movedP (n by_ : Int) : Int := if n = far ∨ n = -far then n else n + by_
theorem cut_moved (n by_ : Int) : cutN (movedP n by_) = edgeP n by_ := by
  unfold movedP edgeP
  split
  · rename_i h
    unfold cutN far at *
    omega
  · rfl
theorem someP_right {r : Rt} (h : r.Some → r.Right) : (someP r).Right := by
  unfold someP
  split
  · rename_i hs
    exact h hs
  · decide
theorem cutN_near (n : Int) : Near (cutN n) := by unfold Near cutN far; omega
theorem edgeP_near (n by_ : Int) : Near (edgeP n by_) := by
  unfold edgeP
  split
  · rename_i h
    unfold Near far at *
    omega
  · exact cutN_near _
theorem moveP_right (dx dy : Int) (r : Rt) : (moveP dx dy r).Right := by
  unfold moveP
  split
  · exact someP_right fun _ => ⟨edgeP_near _ _, edgeP_near _ _, edgeP_near _ _, edgeP_near _ _⟩
  · decide
theorem growP_right (l u r d : Int) (t : Rt) : (growP l u r d t).Right := by
  unfold growP
  split
  · exact someP_right fun _ => ⟨cutN_near _, cutN_near _, cutN_near _, cutN_near _⟩
  · decide

/-- The plane's own test of a rectangle that has points. -/
def inAll (r : Rt) : Prop := -far ≤ r.x0 ∧ -far ≤ r.y0 ∧ r.x1 ≤ far ∧ r.y1 ≤ far
instance (r : Rt) : Decidable (inAll r) := by unfold inAll; infer_instance
theorem inAll_right {r : Rt} (h : r.Some) : inAll r ↔ r.Right := by
  unfold inAll Rt.Right Near Rt.Some at *
  omega

end Go.Reg

