/- Texts of the scenes' proofs, laid together: RwO, FqD, FpA. -/
import Derived.Test.YtlpieeeeolfclaaGreatDoorZac
import Derived.Deep.Slices
import Derived.Deep.Fields
import Derived.Deep.OwnShut
import Derived.Lib.SmallJoins
import Derived.ChangeSame
import Derived.ProofKit
import Derived.OpenShut
import Derived.Test.YtlpieeeeolfclaaGreatDoorZak
set_option linter.unusedSimpArgs false
set_option linter.unusedVariables false
set_option linter.unusedSectionVars false
set_option linter.constructorNameAsVariable false

/- What comes in, opened: rows of rectangles. -/
namespace Go.Gou
open Go.RowKit Go.ChangeShapes Go.WideShapes Go.Deep Go.Joins Go.Reg

section
variable {H : Type} {enc : TypeId × Value → H} {P : Program} {w : World} {base : Nat} {spare : Nat → Bool} {held : Bool}

theorem open_slice_fields {t e : TypeId} {fs : Array Field} {fuel : Nat} {cs : List Value} {x : DataW H × List MemPlace} (ht : P.underlying t = some (.slice e)) (he : P.underlying e = some (.struct fs))
    (hone : oneCellFields P fs = true) (hC : P.cellsOf e = fs.size) (h : DataW.trod enc P w base spare held fuel t cs = some x) :
    (cs = [.slice none 0 0] ∧ x = (.nil, [])) ∨
    ∃ (a : Addr) (len cap m : Nat) (D : Nat → DataW H) (Pl : Nat → List MemPlace), cs = [.slice (some a) len cap] ∧ base ≤ a.block ∧ len ≤ cap ∧ cap ≤ maxLen ∧ m = (if spare a.block then cap else len) ∧
      x = (.slice ((List.range len).map D) ((List.range (m - len)).map fun j => D (len + j)), MemPlace.row a (m * fs.size) ++ (List.range m).flatMap Pl) ∧
      ∀ i, i < m → ∃ (ys : List (DataW H × List MemPlace)) (n : Nat), D i = .agg (ys.map (·.1)) ∧ Pl i = ys.flatMap (·.2) ∧ ys.length = fs.size ∧
        ∀ (j : Nat) (f : Field), fs[j]? = some f → ∃ (v : Value) (y : DataW H × List MemPlace), w.cell? (a.add (i * fs.size + j)) = some v ∧ ys[j]? = some y ∧ DataW.trod enc P w base spare held n f.type [v] = some y := by
  rcases open_slice ht h with h0 | ⟨a, len, cap, m, n, D, Pl, hcs, hb, hl, hm, hmm, hx, hi⟩
  · exact .inl h0
  · refine .inr ⟨a, len, cap, m, D, Pl, hcs, hb, hl, hm, hmm, by rw [hC] at hx; exact hx, fun i him => ?_⟩
    obtain ⟨cs', hc, ht'⟩ := hi i him
    rw [hC] at hc
    obtain ⟨ys, n', hn', hy, hlen, hyl, hf⟩ := DataW.trod_struct he ht'
    obtain ⟨_, hcl, hat⟩ := World.cells?_some hc
    simp only [Prod.mk.injEq] at hy
    refine ⟨ys, n', hy.1, hy.2, hyl, fun j f hj => ?_⟩
    obtain ⟨ho, hk⟩ := hone_of hone j f hj
    have hjl : j < fs.size := (Array.getElem?_eq_some_iff.1 hj).1
    have hcell := hat j hjl
    have hv : cs'[j]? = some (cs'[j]'(by omega)) := List.getElem?_eq_getElem (by omega)
    have h1 := hf j f hj
    rw [ho, hk] at h1
    have hone' : (cs'.drop j).take 1 = [cs'[j]'(by omega)] := by
      rw [List.drop_eq_getElem_cons (by omega)]
      rfl
    rw [hone'] at h1
    have hys : ys[j]? = some (ys[j]'(by omega)) := List.getElem?_eq_getElem (by omega)
    refine ⟨_, _, ?_, hys, h1.trans hys⟩
    rw [← Go.Deep.add_add, hcell, hv]

/-- What a rectangle's fields are. -/
structure RectT (P : Program) (e : TypeId) (fs : Array Field) : Prop where
  ty : P.underlying e = some (.struct fs)
  one : oneCellFields P fs = true
  cells : P.cellsOf e = fs.size
  size : fs.size = 4
  ints : ∀ i, i < 4 → ∃ f, fs[i]? = some f ∧ P.underlying f.type = some (.int .i64)

/-- A rectangle's numbers are numbers of the machine. -/
structure RtWf (r : Rt) : Prop where
  x0 : (Lit.int .i64 r.x0).wf = true
  y0 : (Lit.int .i64 r.y0).wf = true
  x1 : (Lit.int .i64 r.x1).wf = true
  y1 : (Lit.int .i64 r.y1).wf = true

instance : Inhabited Rt := ⟨⟨0, 0, 0, 0⟩⟩

theorem RtR.of_cells {w : World} {b o cap : Nat} {l : List Rt} (hcap : l.length ≤ cap) (hb : b < w.heap.size) (hc : ∀ i, (h : i < l.length) → w.cell? ⟨b, o + i * 4, none⟩ = some (.int .i64 l[i].x0) ∧ w.cell? ⟨b, o + i * 4 + 1, none⟩ = some (.int .i64 l[i].y0) ∧ w.cell? ⟨b, o + i * 4 + 2, none⟩ = some (.int .i64 l[i].x1) ∧ w.cell? ⟨b, o + i * 4 + 3, none⟩ = some (.int .i64 l[i].y1)) :
    RtR (fun _ => True) w (.slice (some ⟨b, o, none⟩) l.length cap) l := by
  refine ⟨rts_len l, _, cap, rfl, hcap, .inr ⟨b, o, rfl, hb, trivial, fun j u hu => ?_⟩⟩
  have hj : j < l.length * 4 := by
    have := (List.getElem?_eq_some_iff.1 hu).1
    rwa [rts_len] at this
  have hi : j / 4 < l.length := by omega
  obtain ⟨g0, g1, g2, g3⟩ := rts_get l (j / 4) hi
  obtain ⟨c0, c1, c2, c3⟩ := hc (j / 4) hi
  rcases (by omega : j = j / 4 * 4 ∨ j = j / 4 * 4 + 1 ∨ j = j / 4 * 4 + 2 ∨ j = j / 4 * 4 + 3) with h | h | h | h
  · rw [h] at hu
    rw [g0] at hu
    rw [h, c0, hu]
  · rw [h] at hu
    rw [g1] at hu
    rw [h, ← Nat.add_assoc, c1, hu]
  · rw [h] at hu
    rw [g2] at hu
    rw [h, ← Nat.add_assoc, c2, hu]
  · rw [h] at hu
    rw [g3] at hu
    rw [h, ← Nat.add_assoc, c3, hu]

/-- A slice of rectangles. -/
theorem open_rects_at {t e : TypeId} {fs : Array Field} {fuel : Nat} {v : Value} {x : DataW H × List MemPlace} (N : RectT P e fs) (ht : P.underlying t = some (.slice e))
    (h : DataW.trod enc P w base spare held fuel t [v] = some x) : ∃ l, RtR (fun _ => True) w v l ∧ (∀ r ∈ l, RtWf r) ∧ l.length ≤ maxLen := by
  rcases open_slice_fields ht N.ty N.one N.cells h with ⟨hcs, _⟩ | ⟨a, len, cap, m, D, Pl, hcs, _, hl, hm, hmm, _, hi⟩
  · obtain rfl : v = .slice none 0 0 := by simpa using hcs
    exact ⟨[], RowG.nil _ _ _, by simp, by simp⟩
  · obtain rfl : v = .slice (some a) len cap := by simpa using hcs
    have hlm : len ≤ m := by rw [hmm]; split <;> omega
    have hnode : ∀ i, i < len → ∃ r : Rt, RtWf r ∧ w.cell? (a.add (i * 4)) = some (.int .i64 r.x0) ∧ w.cell? (a.add (i * 4 + 1)) = some (.int .i64 r.y0) ∧ w.cell? (a.add (i * 4 + 2)) = some (.int .i64 r.x1) ∧ w.cell? (a.add (i * 4 + 3)) = some (.int .i64 r.y1) := by
      intro i hil
      obtain ⟨ys, k, _, _, _, hf⟩ := hi i (by omega)
      rw [N.size] at hf
      have one : ∀ j, j < 4 → ∃ q : Int, w.cell? (a.add (i * 4 + j)) = some (.int .i64 q) ∧ (Lit.int .i64 q).wf = true := fun j hj => by
        obtain ⟨f, h0, t0⟩ := N.ints j hj
        obtain ⟨v0, y0, c0, _, r0⟩ := hf j f h0
        obtain ⟨q, hq, _, hw⟩ := DataW.trod_int t0 r0
        obtain rfl : v0 = .int .i64 q := by simpa using hq
        exact ⟨q, c0, hw⟩
      obtain ⟨q0, c0, w0⟩ := one 0 (by omega)
      obtain ⟨q1, c1, w1⟩ := one 1 (by omega)
      obtain ⟨q2, c2, w2⟩ := one 2 (by omega)
      obtain ⟨q3, c3, w3⟩ := one 3 (by omega)
      exact ⟨⟨q0, q1, q2, q3⟩, ⟨w0, w1, w2, w3⟩, by simpa using c0, c1, c2, c3⟩
    obtain ⟨f, hf⟩ := choose_lt (p := fun i (r : Rt) => RtWf r ∧ w.cell? (a.add (i * 4)) = some (.int .i64 r.x0) ∧ w.cell? (a.add (i * 4 + 1)) = some (.int .i64 r.y0) ∧ w.cell? (a.add (i * 4 + 2)) = some (.int .i64 r.x1) ∧ w.cell? (a.add (i * 4 + 3)) = some (.int .i64 r.y1)) hnode
    refine ⟨(List.range len).map f, ?_, ?_, by simp; omega⟩
    · by_cases h0 : len = 0
      · subst h0
        exact ⟨by simp, some a, cap, rfl, by simp, .inl rfl⟩
      · obtain ⟨b, o, sp⟩ := a
        obtain ⟨_, hc0, _⟩ := hf 0 (by omega)
        have hsp : sp = none := by
          have := World.cell?_spot hc0
          simpa [Addr.add] using this
        subst hsp
        have hb := World.block_lt_of_cell? w _ hc0
        have := RtR.of_cells (w := w) (b := b) (o := o) (cap := cap) (l := (List.range len).map f) (by simpa using hl) (by simpa [Addr.add] using hb) (fun i hil => by
          have hil' : i < len := by simpa using hil
          obtain ⟨_, k0, k1, k2, k3⟩ := hf i hil'
          rw [add_plain] at k0 k1 k2 k3
          refine ⟨?_, ?_, ?_, ?_⟩
          · simpa using k0
          · rw [Nat.add_assoc]; simpa using k1
          · rw [Nat.add_assoc]; simpa using k2
          · rw [Nat.add_assoc]; simpa using k3)
        simpa using this
    · intro n hn
      simp at hn
      obtain ⟨i, hil, rfl⟩ := hn
      exact (hf i hil).1

end

end Go.Gou

/- Regions moved and grown, the code's and the document's. -/
namespace Go.Gou
open Go.RowKit Go.Reg
theorem own_snoc {w : World} {B : Nat} {T : TypeId} {v : Value} {o : List Rt} {s : Rt} (h : w.ownsRow B T 4 v (o.length + 1) (rts o ++ [.int .i64 s.x0, .int .i64 s.y0, .int .i64 s.x1, .int .i64 s.y1])) : w.ownsRow B T 4 v (o ++ [s]).length (rts (o ++ [s])) := by
  rw [rts_app, List.length_append]
  exact h
end Go.Gou
namespace Go.Proofs.YtlpieeeeolfclaaGreatDoor
open Go.RowKit Go.Gou Go.Reg Go.Shelf
set_option maxRecDepth 100000

theorem CombP.got {w : World} {a b : List Rt} {f : Bool → Bool → Bool} {e : Ending} {w' : World} (h : CombP w a b f e w') :
    ∃ p c out, e = .returned (.slice p out.length c) ∧ RtR (fun _ => True) w' (.slice p out.length c) out ∧ RegOf out (Pts a b f) ∧ out.length ≤ 1000000000 ∧ Gou.Mod (fun _ => False) w w' := by
  obtain ⟨hm, v, o, rfl, hown, h2, h3⟩ := h
  obtain ⟨p, c, rfl⟩ := Gou.ownsRow_form hown
  exact ⟨p, c, o, rfl, RowG.own_of hown (fun _ _ _ => trivial), h2, h3, hm⟩

theorem CombP.under {w w1 : World} {a b : List Rt} {f : Bool → Bool → Bool} {e : Ending} {w' : World} (h : CombP w1 a b f e w') (hm : Gou.Mod (fun _ => False) w w1) : CombP w a b f e w' := by
  obtain ⟨h1, v, o, rfl, hown, h2, h3⟩ := h
  exact ⟨hm.trans' h1, v, o, rfl, ownsRow_base hown hm.size, h2, h3⟩

set_option maxHeartbeats 400000 in
theorem moveC_any (r : Rt) (dx dy : Int) (X Y : Nat) (w : World) (hr : r.Right) (hdx : Near dx) (hdy : Near dy) (g0 : w.cell? ⟨X, 0, none⟩ = some (.int .i64 dx)) (g1 : w.cell? ⟨Y, 0, none⟩ = some (.int .i64 dy)) :
    Calls Tryz.prog 54 #[rtV r, .pointer (some ⟨X, 0, none⟩), .pointer (some ⟨Y, 0, none⟩)] w fun e w' => e = .returned (rtV (moveP dx dy r)) ∧ Gou.Mod (fun _ => False) w w' := by
  have hX0 := World.block_lt_of_cell? w _ g0
  have hX1 := World.block_lt_of_cell? w _ g1
  go_enter Tryz.func54, Tryz.ntmps54
  go_wp2_with fail
  obtain ⟨H1, H2⟩ := two_new w 32 32 #[.int .i64 r.x0, .int .i64 r.y0, .int .i64 r.x1, .int .i64 r.y1] #[.int .i64 0, .int .i64 0, .int .i64 0, .int .i64 0]
  have hb2 := below2 w (.cells #[.int .i64 r.x0, .int .i64 r.y0, .int .i64 r.x1, .int .i64 r.y1] 32) (.cells #[.int .i64 0, .int .i64 0, .int .i64 0, .int .i64 0] 32)
  have hz : w.heap.size + 1 < ((w.alloc (.cells #[.int .i64 r.x0, .int .i64 r.y0, .int .i64 r.x1, .int .i64 r.y1] 32)).alloc (.cells #[.int .i64 0, .int .i64 0, .int .i64 0, .int .i64 0] 32)).heap.size := by simp
  have HH2 := Lib.hid H2
  have Hb2 := Lib.hid hb2
  have Hz := Lib.hid hz
  clear H1 H2 hb2 hz
  generalize (w.alloc (.cells #[.int .i64 r.x0, .int .i64 r.y0, .int .i64 r.x1, .int .i64 r.y1] 32)).alloc (.cells #[.int .i64 0, .int .i64 0, .int .i64 0, .int .i64 0] 32) = W2 at *
  refine (rectMove_any r dx dy _ hr hdx hdy).mono ?_
  rintro e w3 ⟨rfl, hb3⟩
  have Hm3 := Lib.hid (Gou.Mod.of_below hb3 (fun _ => False))
  clear hb3
  have HB3 := Lib.hid (HH2.out.mod0 Hm3.out)
  obtain ⟨t, ht⟩ : ∃ t, t = moveP dx dy r := ⟨_, rfl⟩
  rw [← ht]
  have Ht := Lib.hid ht
  clear ht
  have Hth := Lib.hid (HB3.out.there 0 4 (by simp))
  go_wp2_with (first | ((with_reducible refine wpList_store_mid ?g1 32 ?x1 ?y1 ?o1 (w.heap.size + 1) 0 #[.int .i64 t.x0, .int .i64 t.y0, .int .i64 t.x1, .int .i64 t.y1] ?h1 ?j1 ?t1 ?i1 ?s1 ?r1); (case g1 => exact rfl); (case o1 => exact rfl); (case h1 => exact rfl); (case j1 => exact rfl); (case t1 => exact Hth.out); (case i1 => exact size_rect); (case s1 => exact one4 _ _ _ _)) | fail)
  have h := store_end (N := w.heap.size + 1) Hb2.out (by omega) (by have := Hz.out; omega) HH2.out Hm3.out (.int .i64 t.x0) (.int .i64 t.y0) (.int .i64 t.x1) (.int .i64 t.y1)
  refine ret_rect t rfl rfl rfl h.1 Tryz.underlying32 rfl size_rect ?_
  exact ⟨by rw [Ht.out], Gou.Mod.of_below h.2 (fun _ => False)⟩

set_option maxHeartbeats 400000 in
theorem growC_any (r : Rt) (l u x y : Int) (X Y Z U : Nat) (w : World) (hr : r.Right) (hl : Near l) (hu : Near u) (hx : Near x) (hy : Near y) (g0 : w.cell? ⟨X, 0, none⟩ = some (.int .i64 l)) (g1 : w.cell? ⟨Y, 0, none⟩ = some (.int .i64 u)) (g2 : w.cell? ⟨Z, 0, none⟩ = some (.int .i64 x)) (g3 : w.cell? ⟨U, 0, none⟩ = some (.int .i64 y)) :
    Calls Tryz.prog 55 #[rtV r, .pointer (some ⟨X, 0, none⟩), .pointer (some ⟨Y, 0, none⟩), .pointer (some ⟨Z, 0, none⟩), .pointer (some ⟨U, 0, none⟩)] w fun e w' => e = .returned (rtV (growP l u x y r)) ∧ Gou.Mod (fun _ => False) w w' := by
  have hX0 := World.block_lt_of_cell? w _ g0
  have hX1 := World.block_lt_of_cell? w _ g1
  have hX2 := World.block_lt_of_cell? w _ g2
  have hX3 := World.block_lt_of_cell? w _ g3
  go_enter Tryz.func55, Tryz.ntmps55
  go_wp2_with fail
  obtain ⟨H1, H2⟩ := two_new w 32 32 #[.int .i64 r.x0, .int .i64 r.y0, .int .i64 r.x1, .int .i64 r.y1] #[.int .i64 0, .int .i64 0, .int .i64 0, .int .i64 0]
  have hb2 := below2 w (.cells #[.int .i64 r.x0, .int .i64 r.y0, .int .i64 r.x1, .int .i64 r.y1] 32) (.cells #[.int .i64 0, .int .i64 0, .int .i64 0, .int .i64 0] 32)
  have hz : w.heap.size + 1 < ((w.alloc (.cells #[.int .i64 r.x0, .int .i64 r.y0, .int .i64 r.x1, .int .i64 r.y1] 32)).alloc (.cells #[.int .i64 0, .int .i64 0, .int .i64 0, .int .i64 0] 32)).heap.size := by simp
  have HH2 := Lib.hid H2
  have Hb2 := Lib.hid hb2
  have Hz := Lib.hid hz
  clear H1 H2 hb2 hz
  generalize (w.alloc (.cells #[.int .i64 r.x0, .int .i64 r.y0, .int .i64 r.x1, .int .i64 r.y1] 32)).alloc (.cells #[.int .i64 0, .int .i64 0, .int .i64 0, .int .i64 0] 32) = W2 at *
  refine (rectGrow_any r l u x y _ hr hl hu hx hy).mono ?_
  rintro e w3 ⟨rfl, hb3⟩
  have Hm3 := Lib.hid (Gou.Mod.of_below hb3 (fun _ => False))
  clear hb3
  have HB3 := Lib.hid (HH2.out.mod0 Hm3.out)
  obtain ⟨t, ht⟩ : ∃ t, t = growP l u x y r := ⟨_, rfl⟩
  rw [← ht]
  have Ht := Lib.hid ht
  clear ht
  have Hth := Lib.hid (HB3.out.there 0 4 (by simp))
  go_wp2_with (first | ((with_reducible refine wpList_store_mid ?g1 32 ?x1 ?y1 ?o1 (w.heap.size + 1) 0 #[.int .i64 t.x0, .int .i64 t.y0, .int .i64 t.x1, .int .i64 t.y1] ?h1 ?j1 ?t1 ?i1 ?s1 ?r1); (case g1 => exact rfl); (case o1 => exact rfl); (case h1 => exact rfl); (case j1 => exact rfl); (case t1 => exact Hth.out); (case i1 => exact size_rect); (case s1 => exact one4 _ _ _ _)) | fail)
  have h := store_end (N := w.heap.size + 1) Hb2.out (by omega) (by have := Hz.out; omega) HH2.out Hm3.out (.int .i64 t.x0) (.int .i64 t.y0) (.int .i64 t.x1) (.int .i64 t.y1)
  refine ret_rect t rfl rfl rfl h.1 Tryz.underlying32 rfl size_rect ?_
  exact ⟨by rw [Ht.out], Gou.Mod.of_below h.2 (fun _ => False)⟩

set_option maxHeartbeats 8000000 in
theorem eachMove_any (w : World) (p : Option Addr) (c : Nat) (l : List Rt) (X Y : Nat) (F : Rt → Rt) (hl : RtR (fun _ => True) w (.slice p l.length c) l)
    (hF : ∀ (w' : World) (r : Rt), Gou.Mod (fun _ => False) w w' → r ∈ l → Calls Tryz.prog 54 #[rtV r, .pointer (some ⟨X, 0, none⟩), .pointer (some ⟨Y, 0, none⟩)] w' fun e w'' => e = .returned (rtV (F r)) ∧ Gou.Mod (fun _ => False) w' w'') (hx : ∀ r ∈ l, Near (F r).x0) (xs0 ys0 : List Int) (hE : Edg xs0 ys0 (l.map F)) (hxs : xs0.length ≤ 30000) (hys : ys0.length ≤ 30000) (hn : l.length ≤ 1000000000) :
    Calls Tryz.prog 53 #[.slice p l.length c, .func (.func 54) #[] #[.pointer (some ⟨X, 0, none⟩), .pointer (some ⟨Y, 0, none⟩)]] w (CombP w (l.map F) [] orF) := by
  have HL := Lib.hid hl
  have HF := Lib.hid hF
  have Hx := Lib.hid hx
  have Hn := Lib.hid hn
  have HE := Lib.hid hE
  have Hxy := Lib.hid (And.intro hxs hys)
  clear hl hF hx hn hE hxs hys
  go_enter Tryz.func53, Tryz.ntmps53
  go_wp2_with fail
  go_loopw [5, 10] (fun vo vi wr => ∃ (i : Nat) (o : List Rt), vi = .int .i64 i ∧ i ≤ l.length ∧ o = (l.take i).map F ∧ o.length = i ∧ wr.ownsRow w.heap.size 32 4 vo o.length (rts o) ∧ Gou.Mod (fun _ => False) w wr) (fun _ vi _ => l.length - (intOf vi).toNat)
  case atStart => exact ⟨0, [], rfl, by omega, by simp, rfl, World.ownsRow_nil _ _ _ _, Gou.Mod.refl _ _⟩
  case round =>
    obtain ⟨i, o, rfl, hi, ho, hol, hown, hm⟩ := hrel
    obtain ⟨po, co, rfl⟩ := Gou.ownsRow_form hown
    have Ho := Lib.hid ho
    have Hol := Lib.hid hol
    have Hown := Lib.hid hown
    have Hm := Lib.hid hm
    clear ho hol hown hm
    by_cases hil : i < l.length
    · have e1 : decide ((i : Int) < (l.length : Int)) = true := decide_eq_true (by omega)
      obtain ⟨-, bl, off, rfl, hb, -, hc⟩ := HL.out.cells (by omega)
      obtain ⟨k0, k1, k2, k3⟩ := hc i hil
      rw [← Hm.out.cell (p := ⟨bl, off + i * 4, none⟩) hb (fun h => h)] at k0
      rw [← Hm.out.cell (p := ⟨bl, off + i * 4 + 1, none⟩) hb (fun h => h)] at k1
      rw [← Hm.out.cell (p := ⟨bl, off + i * 4 + 2, none⟩) hb (fun h => h)] at k2
      rw [← Hm.out.cell (p := ⟨bl, off + i * 4 + 3, none⟩) hb (fun h => h)] at k3
      have hi1 : (i : Int) < (l.length : Int) := by omega
      have hi0 : (0 : Int) ≤ (i : Int) := by omega
      have wi : IntKind.i64.wrap ((i : Int) + 1) = (i : Int) + 1 := wrap_id (by omega) (by have := Hn.out; omega)
      clear hc
      have Hin := Lib.hid (And.intro hi hil)
      have HFi := Lib.hid (fun (w' : World) (hm : Gou.Mod (fun _ => False) w w') => HF.out w' _ hm (List.getElem_mem hil))
      have Hst : Hid (o ++ [F l[i]] = (l.take (i + 1)).map F) := Lib.hid (by rw [Ho.out, List.take_succ_eq_append_getElem hil, List.map_append]; rfl)
      generalize l[i] = s at *
      generalize F s = fs at *
      obtain ⟨a, b, c', d⟩ := s
      simp only at k0 k1 k2 k3
      go_wp2_with fail
      have HN := Lib.hid (Blk.new wr 32 #[.int .i64 a, .int .i64 b, .int .i64 c', .int .i64 d])
      have Hm3 : Hid (Gou.Mod (fun _ => False) w (wr.alloc (.cells #[.int .i64 a, .int .i64 b, .int .i64 c', .int .i64 d] 32))) := Lib.hid (Hm.out.trans' (Gou.Mod.alloc0 _ _))
      have Hown3 := Lib.hid (own_up Hown.out (Gou.Mod.alloc0 wr (.cells #[.int .i64 a, .int .i64 b, .int .i64 c', .int .i64 d] 32)))
      clear k0 k1 k2 k3 Hm Hown
      generalize wr.alloc (.cells #[.int .i64 a, .int .i64 b, .int .i64 c', .int .i64 d] 32) = W3 at *
      generalize wr.heap.size = N at *
      obtain ⟨⟨cb0, cb1, cb2, cb3⟩, -⟩ := four HN.out
      go_wp2_with fail
      refine (HFi.out _ Hm3.out).mono ?_
      rintro e w4 ⟨rfl, hm4⟩
      have Hm4 := Lib.hid (Hm3.out.trans' hm4)
      have Hown4 := Lib.hid (own_up Hown3.out hm4)
      clear hm4 HFi Hm3 Hown3
      obtain ⟨fa, fb, fc, fd⟩ := fs
      go_wp2_with (first | ((with_reducible show wpList _ _ _ (⟨_, Op.call ⟨.builtin .append, _, _⟩, _, _, _, _⟩ :: _) _ _); refine halt ?_) | fail)
      refine wpList_append_row T_rt rfl _ _ rfl (w.heap.size) (.slice po o.length co) (o.length) (rts o) (fun _ => True) (.slice (some ⟨w4.heap.size, 0, none⟩) 1 1) (1) ([.int .i64 fa, .int .i64 fb, .int .i64 fc, .int .i64 fd]) rfl rfl (by have := Hm4.out.size; simp; omega) (own_up Hown4.out (Gou.Mod.alloc0 _ _)) (RowG.of_blk (Blk.new _ _ #[.int .i64 fa, .int .i64 fb, .int .i64 fc, .int .i64 fd]) 4 1 rfl _ trivial) (rtC_one ⟨fa, fb, fc, fd⟩) (by have := Hol.out; have := Hn.out; first | (unfold maxLen; omega) | omega) (by have := Hol.out; have := Hn.out; first | (unfold maxLen; omega) | omega) ?_
      intro v5 w5 G5
      have Hm5 := Lib.hid (G5.mod0 (Hm4.out.trans' (Gou.Mod.alloc0 _ _)) (own_ge Hown4.out))
      have Hown5 := Lib.hid (own_snoc (s := ⟨fa, fb, fc, fd⟩) G5.own)
      clear G5 Hm4 Hown4
      obtain ⟨p5, c5, rfl⟩ := Gou.ownsRow_form Hown5.out
      go_wp2_with fail
      go_roundw
      case rel => exact ⟨i + 1, o ++ [⟨fa, fb, fc, fd⟩], by go_num, by have := Hin.out; omega, Hst.out, by have := Hol.out; simp; omega, by rw [show o.length + 1 = (o ++ [(⟨fa, fb, fc, fd⟩ : Rt)]).length from by simp]; exact Hown5.out, Hm5.out⟩
      case measure => have := Hin.out; simp [intOf, wi]; omega
    · have hil' : i = l.length := by omega
      have e1 : decide ((i : Int) < (l.length : Int)) = false := decide_eq_false (by omega)
      rw [hil', List.take_length] at Ho
      have Ho2 : Hid (o.length = l.length) := Lib.hid (by rw [Hol.out, hil'])
      go_wp2_with fail
      refine (regOf_any _ po co o (RowG.own_of Hown.out (fun _ _ _ => trivial)) (by
        rw [Ho.out]
        intro r hr
        obtain ⟨q, hq, rfl⟩ := List.mem_map.1 hr
        exact Hx.out q hq) xs0 ys0 (by rw [Ho.out]; exact HE.out) Hxy.out.1 Hxy.out.2 (by have := Ho2.out; have := Hn.out; omega)).mono ?_
      rintro e w2 hc
      have Hend := Lib.hid ((hc.under Hm.out))
      obtain ⟨p2, c2, out, rfl, -⟩ := hc.got
      rw [Ho.out] at Hend
      go_wp2_with fail
      go_ret
      exact Hend.out

set_option maxHeartbeats 8000000 in
theorem eachGrow_any (w : World) (p : Option Addr) (c : Nat) (l : List Rt) (X Y Z U : Nat) (F : Rt → Rt) (hl : RtR (fun _ => True) w (.slice p l.length c) l)
    (hF : ∀ (w' : World) (r : Rt), Gou.Mod (fun _ => False) w w' → r ∈ l → Calls Tryz.prog 55 #[rtV r, .pointer (some ⟨X, 0, none⟩), .pointer (some ⟨Y, 0, none⟩), .pointer (some ⟨Z, 0, none⟩), .pointer (some ⟨U, 0, none⟩)] w' fun e w'' => e = .returned (rtV (F r)) ∧ Gou.Mod (fun _ => False) w' w'') (hx : ∀ r ∈ l, Near (F r).x0) (xs0 ys0 : List Int) (hE : Edg xs0 ys0 (l.map F)) (hxs : xs0.length ≤ 30000) (hys : ys0.length ≤ 30000) (hn : l.length ≤ 1000000000) :
    Calls Tryz.prog 53 #[.slice p l.length c, .func (.func 55) #[] #[.pointer (some ⟨X, 0, none⟩), .pointer (some ⟨Y, 0, none⟩), .pointer (some ⟨Z, 0, none⟩), .pointer (some ⟨U, 0, none⟩)]] w (CombP w (l.map F) [] orF) := by
  have HL := Lib.hid hl
  have HF := Lib.hid hF
  have Hx := Lib.hid hx
  have Hn := Lib.hid hn
  have HE := Lib.hid hE
  have Hxy := Lib.hid (And.intro hxs hys)
  clear hl hF hx hn hE hxs hys
  go_enter Tryz.func53, Tryz.ntmps53
  go_wp2_with fail
  go_loopw [5, 10] (fun vo vi wr => ∃ (i : Nat) (o : List Rt), vi = .int .i64 i ∧ i ≤ l.length ∧ o = (l.take i).map F ∧ o.length = i ∧ wr.ownsRow w.heap.size 32 4 vo o.length (rts o) ∧ Gou.Mod (fun _ => False) w wr) (fun _ vi _ => l.length - (intOf vi).toNat)
  case atStart => exact ⟨0, [], rfl, by omega, by simp, rfl, World.ownsRow_nil _ _ _ _, Gou.Mod.refl _ _⟩
  case round =>
    obtain ⟨i, o, rfl, hi, ho, hol, hown, hm⟩ := hrel
    obtain ⟨po, co, rfl⟩ := Gou.ownsRow_form hown
    have Ho := Lib.hid ho
    have Hol := Lib.hid hol
    have Hown := Lib.hid hown
    have Hm := Lib.hid hm
    clear ho hol hown hm
    by_cases hil : i < l.length
    · have e1 : decide ((i : Int) < (l.length : Int)) = true := decide_eq_true (by omega)
      obtain ⟨-, bl, off, rfl, hb, -, hc⟩ := HL.out.cells (by omega)
      obtain ⟨k0, k1, k2, k3⟩ := hc i hil
      rw [← Hm.out.cell (p := ⟨bl, off + i * 4, none⟩) hb (fun h => h)] at k0
      rw [← Hm.out.cell (p := ⟨bl, off + i * 4 + 1, none⟩) hb (fun h => h)] at k1
      rw [← Hm.out.cell (p := ⟨bl, off + i * 4 + 2, none⟩) hb (fun h => h)] at k2
      rw [← Hm.out.cell (p := ⟨bl, off + i * 4 + 3, none⟩) hb (fun h => h)] at k3
      have hi1 : (i : Int) < (l.length : Int) := by omega
      have hi0 : (0 : Int) ≤ (i : Int) := by omega
      have wi : IntKind.i64.wrap ((i : Int) + 1) = (i : Int) + 1 := wrap_id (by omega) (by have := Hn.out; omega)
      clear hc
      have Hin := Lib.hid (And.intro hi hil)
      have HFi := Lib.hid (fun (w' : World) (hm : Gou.Mod (fun _ => False) w w') => HF.out w' _ hm (List.getElem_mem hil))
      have Hst : Hid (o ++ [F l[i]] = (l.take (i + 1)).map F) := Lib.hid (by rw [Ho.out, List.take_succ_eq_append_getElem hil, List.map_append]; rfl)
      generalize l[i] = s at *
      generalize F s = fs at *
      obtain ⟨a, b, c', d⟩ := s
      simp only at k0 k1 k2 k3
      go_wp2_with fail
      have HN := Lib.hid (Blk.new wr 32 #[.int .i64 a, .int .i64 b, .int .i64 c', .int .i64 d])
      have Hm3 : Hid (Gou.Mod (fun _ => False) w (wr.alloc (.cells #[.int .i64 a, .int .i64 b, .int .i64 c', .int .i64 d] 32))) := Lib.hid (Hm.out.trans' (Gou.Mod.alloc0 _ _))
      have Hown3 := Lib.hid (own_up Hown.out (Gou.Mod.alloc0 wr (.cells #[.int .i64 a, .int .i64 b, .int .i64 c', .int .i64 d] 32)))
      clear k0 k1 k2 k3 Hm Hown
      generalize wr.alloc (.cells #[.int .i64 a, .int .i64 b, .int .i64 c', .int .i64 d] 32) = W3 at *
      generalize wr.heap.size = N at *
      obtain ⟨⟨cb0, cb1, cb2, cb3⟩, -⟩ := four HN.out
      go_wp2_with fail
      refine (HFi.out _ Hm3.out).mono ?_
      rintro e w4 ⟨rfl, hm4⟩
      have Hm4 := Lib.hid (Hm3.out.trans' hm4)
      have Hown4 := Lib.hid (own_up Hown3.out hm4)
      clear hm4 HFi Hm3 Hown3
      obtain ⟨fa, fb, fc, fd⟩ := fs
      go_wp2_with (first | ((with_reducible show wpList _ _ _ (⟨_, Op.call ⟨.builtin .append, _, _⟩, _, _, _, _⟩ :: _) _ _); refine halt ?_) | fail)
      refine wpList_append_row T_rt rfl _ _ rfl (w.heap.size) (.slice po o.length co) (o.length) (rts o) (fun _ => True) (.slice (some ⟨w4.heap.size, 0, none⟩) 1 1) (1) ([.int .i64 fa, .int .i64 fb, .int .i64 fc, .int .i64 fd]) rfl rfl (by have := Hm4.out.size; simp; omega) (own_up Hown4.out (Gou.Mod.alloc0 _ _)) (RowG.of_blk (Blk.new _ _ #[.int .i64 fa, .int .i64 fb, .int .i64 fc, .int .i64 fd]) 4 1 rfl _ trivial) (rtC_one ⟨fa, fb, fc, fd⟩) (by have := Hol.out; have := Hn.out; first | (unfold maxLen; omega) | omega) (by have := Hol.out; have := Hn.out; first | (unfold maxLen; omega) | omega) ?_
      intro v5 w5 G5
      have Hm5 := Lib.hid (G5.mod0 (Hm4.out.trans' (Gou.Mod.alloc0 _ _)) (own_ge Hown4.out))
      have Hown5 := Lib.hid (own_snoc (s := ⟨fa, fb, fc, fd⟩) G5.own)
      clear G5 Hm4 Hown4
      obtain ⟨p5, c5, rfl⟩ := Gou.ownsRow_form Hown5.out
      go_wp2_with fail
      go_roundw
      case rel => exact ⟨i + 1, o ++ [⟨fa, fb, fc, fd⟩], by go_num, by have := Hin.out; omega, Hst.out, by have := Hol.out; simp; omega, by rw [show o.length + 1 = (o ++ [(⟨fa, fb, fc, fd⟩ : Rt)]).length from by simp]; exact Hown5.out, Hm5.out⟩
      case measure => have := Hin.out; simp [intOf, wi]; omega
    · have hil' : i = l.length := by omega
      have e1 : decide ((i : Int) < (l.length : Int)) = false := decide_eq_false (by omega)
      rw [hil', List.take_length] at Ho
      have Ho2 : Hid (o.length = l.length) := Lib.hid (by rw [Hol.out, hil'])
      go_wp2_with fail
      refine (regOf_any _ po co o (RowG.own_of Hown.out (fun _ _ _ => trivial)) (by
        rw [Ho.out]
        intro r hr
        obtain ⟨q, hq, rfl⟩ := List.mem_map.1 hr
        exact Hx.out q hq) xs0 ys0 (by rw [Ho.out]; exact HE.out) Hxy.out.1 Hxy.out.2 (by have := Ho2.out; have := Hn.out; omega)).mono ?_
      rintro e w2 hc
      have Hend := Lib.hid ((hc.under Hm.out))
      obtain ⟨p2, c2, out, rfl, -⟩ := hc.got
      rw [Ho.out] at Hend
      go_wp2_with fail
      go_ret
      exact Hend.out

theorem move_x {l : List Rt} {dx dy : Int} : ∀ r ∈ l, Near (moveP dx dy r).x0 := fun r _ => (moveP_right dx dy r).1
theorem grow_x {l : List Rt} {a b c d : Int} : ∀ r ∈ l, Near (growP a b c d r).x0 := fun r _ => (growP_right a b c d r).1

set_option maxHeartbeats 8000000 in
theorem regMove_any (w : World) (p : Option Addr) (c : Nat) (l : List Rt) (dx dy : Int) (hl : RtR (fun _ => True) w (.slice p l.length c) l) (hr : ∀ r ∈ l, r.Right) (hdx : Near dx) (hdy : Near dy) (xs0 ys0 : List Int) (hE : Edg xs0 ys0 (l.map (moveP dx dy))) (hxs : xs0.length ≤ 30000) (hys : ys0.length ≤ 30000) (hn : l.length ≤ 1000000000) :
    Calls Tryz.prog 25 #[.slice p l.length c, .int .i64 dx, .int .i64 dy] w (CombP w (l.map (moveP dx dy)) [] orF) := by
  have k0 : ((w.alloc (.cells #[.int .i64 dx] 3)).alloc (.cells #[.int .i64 dy] 3)).cell? ⟨w.heap.size, 0, none⟩ = some (.int .i64 dx) := by
    have h : Blk ((w.alloc (.cells #[.int .i64 dx] 3)).alloc (.cells #[.int .i64 dy] 3)) w.heap.size 3 #[.int .i64 dx] := ((show Blk (w.alloc (.cells #[.int .i64 dx] 3)) w.heap.size 3 #[.int .i64 dx] from (Blk.new w 3 #[.int .i64 dx])).al _)
    exact h.cell 0 rfl
  have z0 := World.block_lt_of_cell? _ _ k0
  have k1 : ((w.alloc (.cells #[.int .i64 dx] 3)).alloc (.cells #[.int .i64 dy] 3)).cell? ⟨(w.heap.size + 1), 0, none⟩ = some (.int .i64 dy) := by
    have h : Blk ((w.alloc (.cells #[.int .i64 dx] 3)).alloc (.cells #[.int .i64 dy] 3)) (w.heap.size + 1) 3 #[.int .i64 dy] := (show Blk ((w.alloc (.cells #[.int .i64 dx] 3)).alloc (.cells #[.int .i64 dy] 3)) (w.heap.size + 1) 3 #[.int .i64 dy] from (by have h := Blk.new (w.alloc (.cells #[.int .i64 dx] 3)) 3 #[.int .i64 dy]; simpa only [World.size_alloc] using h))
    exact h.cell 0 rfl
  have z1 := World.block_lt_of_cell? _ _ k1
  have hm : Gou.Mod (fun _ => False) w ((w.alloc (.cells #[.int .i64 dx] 3)).alloc (.cells #[.int .i64 dy] 3)) := (Gou.Mod.alloc0 _ _).trans' (Gou.Mod.alloc0 _ _)
  have HE := Lib.hid (fun (X0 X1 : Nat) (W : World) (hm : Gou.Mod (fun _ => False) w W) (kk0 : W.cell? ⟨X0, 0, none⟩ = some (.int .i64 dx)) (zz0 : X0 < W.heap.size) (kk1 : W.cell? ⟨X1, 0, none⟩ = some (.int .i64 dy)) (zz1 : X1 < W.heap.size) => eachMove_any W p c l X0 X1 (moveP dx dy) (hl.under hm) (fun w' r hm2 hr2 => moveC_any r dx dy X0 X1 w' (hr r hr2) hdx hdy ((hm2.cell (p := ⟨X0, 0, none⟩) zz0 (fun h => h)).trans kk0) ((hm2.cell (p := ⟨X1, 0, none⟩) zz1 (fun h => h)).trans kk1)) move_x xs0 ys0 hE hxs hys hn)
  clear hl hr hn hE hxs hys
  go_enter Tryz.func25, Tryz.ntmps25
  go_wp2_with fail
  refine (HE.out _ _ _ hm k0 z0 k1 z1).mono ?_
  rintro e w2 hc
  have Hend := Lib.hid (hc.under hm)
  obtain ⟨p2, c2, out, rfl, -⟩ := hc.got
  clear hm HE k0 z0 k1 z1
  go_wp2_with fail
  go_ret
  exact Hend.out

set_option maxHeartbeats 8000000 in
theorem regGrow_any (w : World) (p : Option Addr) (c : Nat) (l : List Rt) (a b c' d : Int) (hl : RtR (fun _ => True) w (.slice p l.length c) l) (hr : ∀ r ∈ l, r.Right) (ha : Near a) (hb : Near b) (hc : Near c') (hd : Near d) (xs0 ys0 : List Int) (hE : Edg xs0 ys0 (l.map (growP a b c' d))) (hxs : xs0.length ≤ 30000) (hys : ys0.length ≤ 30000) (hn : l.length ≤ 1000000000) :
    Calls Tryz.prog 26 #[.slice p l.length c, .int .i64 a, .int .i64 b, .int .i64 c', .int .i64 d] w (CombP w (l.map (growP a b c' d)) [] orF) := by
  have k0 : ((((w.alloc (.cells #[.int .i64 a] 3)).alloc (.cells #[.int .i64 b] 3)).alloc (.cells #[.int .i64 c'] 3)).alloc (.cells #[.int .i64 d] 3)).cell? ⟨w.heap.size, 0, none⟩ = some (.int .i64 a) := by
    have h : Blk ((((w.alloc (.cells #[.int .i64 a] 3)).alloc (.cells #[.int .i64 b] 3)).alloc (.cells #[.int .i64 c'] 3)).alloc (.cells #[.int .i64 d] 3)) w.heap.size 3 #[.int .i64 a] := ((((show Blk (w.alloc (.cells #[.int .i64 a] 3)) w.heap.size 3 #[.int .i64 a] from (Blk.new w 3 #[.int .i64 a])).al _).al _).al _)
    exact h.cell 0 rfl
  have z0 := World.block_lt_of_cell? _ _ k0
  have k1 : ((((w.alloc (.cells #[.int .i64 a] 3)).alloc (.cells #[.int .i64 b] 3)).alloc (.cells #[.int .i64 c'] 3)).alloc (.cells #[.int .i64 d] 3)).cell? ⟨(w.heap.size + 1), 0, none⟩ = some (.int .i64 b) := by
    have h : Blk ((((w.alloc (.cells #[.int .i64 a] 3)).alloc (.cells #[.int .i64 b] 3)).alloc (.cells #[.int .i64 c'] 3)).alloc (.cells #[.int .i64 d] 3)) (w.heap.size + 1) 3 #[.int .i64 b] := (((show Blk ((w.alloc (.cells #[.int .i64 a] 3)).alloc (.cells #[.int .i64 b] 3)) (w.heap.size + 1) 3 #[.int .i64 b] from (by have h := Blk.new (w.alloc (.cells #[.int .i64 a] 3)) 3 #[.int .i64 b]; simpa only [World.size_alloc] using h)).al _).al _)
    exact h.cell 0 rfl
  have z1 := World.block_lt_of_cell? _ _ k1
  have k2 : ((((w.alloc (.cells #[.int .i64 a] 3)).alloc (.cells #[.int .i64 b] 3)).alloc (.cells #[.int .i64 c'] 3)).alloc (.cells #[.int .i64 d] 3)).cell? ⟨(w.heap.size + 1 + 1), 0, none⟩ = some (.int .i64 c') := by
    have h : Blk ((((w.alloc (.cells #[.int .i64 a] 3)).alloc (.cells #[.int .i64 b] 3)).alloc (.cells #[.int .i64 c'] 3)).alloc (.cells #[.int .i64 d] 3)) (w.heap.size + 1 + 1) 3 #[.int .i64 c'] := ((show Blk (((w.alloc (.cells #[.int .i64 a] 3)).alloc (.cells #[.int .i64 b] 3)).alloc (.cells #[.int .i64 c'] 3)) (w.heap.size + 1 + 1) 3 #[.int .i64 c'] from (by have h := Blk.new ((w.alloc (.cells #[.int .i64 a] 3)).alloc (.cells #[.int .i64 b] 3)) 3 #[.int .i64 c']; simpa only [World.size_alloc] using h)).al _)
    exact h.cell 0 rfl
  have z2 := World.block_lt_of_cell? _ _ k2
  have k3 : ((((w.alloc (.cells #[.int .i64 a] 3)).alloc (.cells #[.int .i64 b] 3)).alloc (.cells #[.int .i64 c'] 3)).alloc (.cells #[.int .i64 d] 3)).cell? ⟨(w.heap.size + 1 + 1 + 1), 0, none⟩ = some (.int .i64 d) := by
    have h : Blk ((((w.alloc (.cells #[.int .i64 a] 3)).alloc (.cells #[.int .i64 b] 3)).alloc (.cells #[.int .i64 c'] 3)).alloc (.cells #[.int .i64 d] 3)) (w.heap.size + 1 + 1 + 1) 3 #[.int .i64 d] := (show Blk ((((w.alloc (.cells #[.int .i64 a] 3)).alloc (.cells #[.int .i64 b] 3)).alloc (.cells #[.int .i64 c'] 3)).alloc (.cells #[.int .i64 d] 3)) (w.heap.size + 1 + 1 + 1) 3 #[.int .i64 d] from (by have h := Blk.new (((w.alloc (.cells #[.int .i64 a] 3)).alloc (.cells #[.int .i64 b] 3)).alloc (.cells #[.int .i64 c'] 3)) 3 #[.int .i64 d]; simpa only [World.size_alloc] using h))
    exact h.cell 0 rfl
  have z3 := World.block_lt_of_cell? _ _ k3
  have hm : Gou.Mod (fun _ => False) w ((((w.alloc (.cells #[.int .i64 a] 3)).alloc (.cells #[.int .i64 b] 3)).alloc (.cells #[.int .i64 c'] 3)).alloc (.cells #[.int .i64 d] 3)) := (((Gou.Mod.alloc0 _ _).trans' (Gou.Mod.alloc0 _ _)).trans' (Gou.Mod.alloc0 _ _)).trans' (Gou.Mod.alloc0 _ _)
  have HE := Lib.hid (fun (X0 X1 X2 X3 : Nat) (W : World) (hm : Gou.Mod (fun _ => False) w W) (kk0 : W.cell? ⟨X0, 0, none⟩ = some (.int .i64 a)) (zz0 : X0 < W.heap.size) (kk1 : W.cell? ⟨X1, 0, none⟩ = some (.int .i64 b)) (zz1 : X1 < W.heap.size) (kk2 : W.cell? ⟨X2, 0, none⟩ = some (.int .i64 c')) (zz2 : X2 < W.heap.size) (kk3 : W.cell? ⟨X3, 0, none⟩ = some (.int .i64 d)) (zz3 : X3 < W.heap.size) => eachGrow_any W p c l X0 X1 X2 X3 (growP a b c' d) (hl.under hm) (fun w' r hm2 hr2 => growC_any r a b c' d X0 X1 X2 X3 w' (hr r hr2) ha hb hc hd ((hm2.cell (p := ⟨X0, 0, none⟩) zz0 (fun h => h)).trans kk0) ((hm2.cell (p := ⟨X1, 0, none⟩) zz1 (fun h => h)).trans kk1) ((hm2.cell (p := ⟨X2, 0, none⟩) zz2 (fun h => h)).trans kk2) ((hm2.cell (p := ⟨X3, 0, none⟩) zz3 (fun h => h)).trans kk3)) grow_x xs0 ys0 hE hxs hys hn)
  clear hl hr hn hE hxs hys
  go_enter Tryz.func26, Tryz.ntmps26
  go_wp2_with fail
  refine (HE.out _ _ _ _ _ hm k0 z0 k1 z1 k2 z2 k3 z3).mono ?_
  rintro e w2 hc
  have Hend := Lib.hid (hc.under hm)
  obtain ⟨p2, c2, out, rfl, -⟩ := hc.got
  clear hm HE k0 z0 k1 z1 k2 z2 k3 z3
  go_wp2_with fail
  go_ret
  exact Hend.out


end Go.Proofs.YtlpieeeeolfclaaGreatDoor

/- ForeKeeps: how a region's edges grow from node to node, in plain numbers. -/
namespace Go.Reg
open Go.Gou

/-- Edges within the plane, and few. -/
structure Grd (xs ys : List Int) (K : Nat) : Prop where
  x : xs.length ≤ K
  y : ys.length ≤ K
  nx : ∀ x ∈ xs, Near x
  ny : ∀ y ∈ ys, Near y
theorem Grd.mono {xs ys : List Int} {K L : Nat} (h : Grd xs ys K) (hl : K ≤ L) : Grd xs ys L := ⟨Nat.le_trans h.x hl, Nat.le_trans h.y hl, h.nx, h.ny⟩
/-- A region with edges among these. -/
structure Rgn (xs ys : List Int) (l : List Rt) : Prop where
  some : ∀ r ∈ l, r.Some
  e : Edg xs ys l
  len : l.length ≤ ys.length * xs.length

theorem Edg.app {xs ys : List Int} {a b : List Rt} (ha : Edg xs ys a) (hb : Edg xs ys b) : Edg xs ys (a ++ b) :=
  ⟨fun r hr => (List.mem_append.1 hr).elim (ha.x r) (hb.x r), fun r hr => (List.mem_append.1 hr).elim (ha.y r) (hb.y r)⟩
theorem Edg.nil (xs ys : List Int) : Edg xs ys [] := ⟨fun r hr => (by cases hr), fun r hr => (by cases hr)⟩
theorem Edg.imp {xs ys xs' ys' : List Int} {a : List Rt} (ha : Edg xs ys a) (hx : ∀ x ∈ xs, x ∈ xs') (hy : ∀ y ∈ ys, y ∈ ys') : Edg xs' ys' a :=
  ⟨fun r hr hs => ⟨hx _ (ha.x r hr hs).1, hx _ (ha.x r hr hs).2⟩, fun r hr hs => ⟨hy _ (ha.y r hr hs).1, hy _ (ha.y r hr hs).2⟩⟩
theorem Edg.left {xs ys : List Int} {a : List Rt} (ha : Edg xs ys a) (ex ey : List Int) : Edg (xs ++ ex) (ys ++ ey) a := ha.imp (fun _ h => List.mem_append_left _ h) (fun _ h => List.mem_append_left _ h)
theorem Edg.right {xs ys : List Int} {a : List Rt} (ha : Edg xs ys a) (ex ey : List Int) : Edg (ex ++ xs) (ey ++ ys) a := ha.imp (fun _ h => List.mem_append_right _ h) (fun _ h => List.mem_append_right _ h)
theorem Edg.one {r : Rt} : Edg [r.x0, r.x1] [r.y0, r.y1] [r] :=
  ⟨fun q hq _ => by rw [List.mem_singleton.1 hq]; simp, fun q hq _ => by rw [List.mem_singleton.1 hq]; simp⟩

theorem Rgn.near {xs ys : List Int} {K : Nat} {l : List Rt} (h : Rgn xs ys l) (hg : Grd xs ys K) : ∀ r ∈ l, r.Right := fun r hr =>
  ⟨hg.nx _ (h.e.x r hr (h.some r hr)).1, hg.ny _ (h.e.y r hr (h.some r hr)).1, hg.nx _ (h.e.x r hr (h.some r hr)).2, hg.ny _ (h.e.y r hr (h.some r hr)).2⟩
theorem Rgn.x0 {xs ys : List Int} {K : Nat} {l : List Rt} (h : Rgn xs ys l) (hg : Grd xs ys K) : ∀ r ∈ l, Near r.x0 := fun r hr => (h.near hg r hr).1
theorem Rgn.few {xs ys : List Int} {K : Nat} {l : List Rt} (h : Rgn xs ys l) (hg : Grd xs ys K) : l.length ≤ K * K := Nat.le_trans h.len (Nat.mul_le_mul hg.y hg.x)
theorem Rgn.nil (xs ys : List Int) : Rgn xs ys [] := ⟨fun r hr => (by cases hr), Edg.nil _ _, Nat.zero_le _⟩
theorem Rgn.of {xs ys : List Int} {a b out : List Rt} {f : Bool → Bool → Bool} (h : RegOf out (Pts a b f)) (hE : Edg xs ys (a ++ b)) : Rgn xs ys out := by
  have hx : XStill xs (Pts a b f) := XStill.pts f (XEdges.still fun r hr => hE.x r (List.mem_append_left _ hr)) (XEdges.still fun r hr => hE.x r (List.mem_append_right _ hr))
  have hy : YStill ys (Pts a b f) := YStill.pts f (YEdges.still fun r hr => hE.y r (List.mem_append_left _ hr)) (YEdges.still fun r hr => hE.y r (List.mem_append_right _ hr))
  exact ⟨h.some, ⟨h.xedges hx, h.yedges hy⟩, h.few hx hy⟩
theorem Rgn.left {xs ys : List Int} {l : List Rt} (h : Rgn xs ys l) (ex ey : List Int) : Rgn (xs ++ ex) (ys ++ ey) l :=
  ⟨h.some, h.e.left ex ey, Nat.le_trans h.len (Nat.mul_le_mul (by simp) (by simp))⟩

/-! Moved and grown. -/
theorem someP_some {r : Rt} (h : (someP r).Some) : someP r = r ∧ r.Some := by
  unfold someP at h ⊢
  split
  · rename_i hs
    exact ⟨rfl, hs⟩
  · rename_i hs
    rw [if_neg hs] at h
    exact absurd h (by decide)
theorem moveP_edge {dx dy : Int} {r : Rt} (h : (moveP dx dy r).Some) : r.Some ∧ (moveP dx dy r).x0 = edgeP r.x0 dx ∧ (moveP dx dy r).x1 = edgeP r.x1 dx ∧ (moveP dx dy r).y0 = edgeP r.y0 dy ∧ (moveP dx dy r).y1 = edgeP r.y1 dy := by
  unfold moveP at h ⊢
  split
  · rename_i hs
    rw [if_pos hs] at h
    obtain ⟨e, _⟩ := someP_some h
    rw [e]
    exact ⟨hs, rfl, rfl, rfl, rfl⟩
  · rename_i hs
    rw [if_neg hs] at h
    exact absurd h (by decide)
theorem growP_edge {a b c d : Int} {r : Rt} (h : (growP a b c d r).Some) : r.Some ∧ (growP a b c d r).x0 = cutN (r.x0 - a) ∧ (growP a b c d r).x1 = cutN (r.x1 + c) ∧ (growP a b c d r).y0 = cutN (r.y0 - b) ∧ (growP a b c d r).y1 = cutN (r.y1 + d) := by
  unfold growP at h ⊢
  split
  · rename_i hs
    rw [if_pos hs] at h
    obtain ⟨e, _⟩ := someP_some h
    rw [e]
    exact ⟨hs, rfl, rfl, rfl, rfl⟩
  · rename_i hs
    rw [if_neg hs] at h
    exact absurd h (by decide)
def movE (d : Int) (xs : List Int) : List Int := xs.map fun x => edgeP x d
def groE (a c : Int) (xs : List Int) : List Int := (xs.map fun x => cutN (x - a)) ++ xs.map fun x => cutN (x + c)
theorem movE_len (d : Int) (xs : List Int) : (movE d xs).length = xs.length := by simp [movE]
theorem groE_len (a c : Int) (xs : List Int) : (groE a c xs).length = xs.length + xs.length := by simp [groE]
theorem movE_near (d : Int) (xs : List Int) : ∀ x ∈ movE d xs, Near x := fun x hx => by
  obtain ⟨y, _, rfl⟩ := List.mem_map.1 hx
  exact edgeP_near _ _
theorem groE_near (a c : Int) (xs : List Int) : ∀ x ∈ groE a c xs, Near x := fun x hx => by
  rcases List.mem_append.1 hx with hx | hx
  · obtain ⟨y, _, rfl⟩ := List.mem_map.1 hx
    exact cutN_near _
  · obtain ⟨y, _, rfl⟩ := List.mem_map.1 hx
    exact cutN_near _
theorem Edg.move {xs ys : List Int} {l : List Rt} (h : Edg xs ys l) (dx dy : Int) : Edg (movE dx xs) (movE dy ys) (l.map (moveP dx dy)) := by
  constructor
  · intro r hr hs
    obtain ⟨q, hq, rfl⟩ := List.mem_map.1 hr
    obtain ⟨k, e0, e1, _, _⟩ := moveP_edge hs
    rw [e0, e1]
    exact ⟨List.mem_map.2 ⟨_, (h.x q hq k).1, rfl⟩, List.mem_map.2 ⟨_, (h.x q hq k).2, rfl⟩⟩
  · intro r hr hs
    obtain ⟨q, hq, rfl⟩ := List.mem_map.1 hr
    obtain ⟨k, _, _, e0, e1⟩ := moveP_edge hs
    rw [e0, e1]
    exact ⟨List.mem_map.2 ⟨_, (h.y q hq k).1, rfl⟩, List.mem_map.2 ⟨_, (h.y q hq k).2, rfl⟩⟩
theorem Edg.grow {xs ys : List Int} {l : List Rt} (h : Edg xs ys l) (a b c d : Int) : Edg (groE a c xs) (groE b d ys) (l.map (growP a b c d)) := by
  constructor
  · intro r hr hs
    obtain ⟨q, hq, rfl⟩ := List.mem_map.1 hr
    obtain ⟨k, e0, e1, _, _⟩ := growP_edge hs
    rw [e0, e1]
    exact ⟨List.mem_append_left _ (List.mem_map.2 ⟨_, (h.x q hq k).1, rfl⟩), List.mem_append_right _ (List.mem_map.2 ⟨_, (h.x q hq k).2, rfl⟩)⟩
  · intro r hr hs
    obtain ⟨q, hq, rfl⟩ := List.mem_map.1 hr
    obtain ⟨k, _, _, e0, e1⟩ := growP_edge hs
    rw [e0, e1]
    exact ⟨List.mem_append_left _ (List.mem_map.2 ⟨_, (h.y q hq k).1, rfl⟩), List.mem_append_right _ (List.mem_map.2 ⟨_, (h.y q hq k).2, rfl⟩)⟩

/-- From a region to the next: a few edges more. -/
def Step (xs ys : List Int) (out : List Rt) : Prop := ∃ ex ey : List Int, (∀ x ∈ ex, Near x) ∧ (∀ y ∈ ey, Near y) ∧ ex.length ≤ 2 * xs.length + 2 ∧ ey.length ≤ 2 * ys.length + 2 ∧ Rgn (xs ++ ex) (ys ++ ey) out

theorem Step.join {xs ys : List Int} {out : List Rt} (h : Rgn xs ys out) : Step xs ys out := ⟨[], [], fun _ h => (by cases h), fun _ h => (by cases h), by simp, by simp, h.left [] []⟩
theorem Step.nil (xs ys : List Int) : Step xs ys [] := Step.join (Rgn.nil _ _)
theorem map_nil_app (l : List Rt) : l ++ [] = l := List.append_nil l
theorem Step.move {xs ys : List Int} {l out : List Rt} {dx dy : Int} (h : Rgn xs ys l) (ho : RegOf out (Pts (l.map (moveP dx dy)) [] orF)) : Step xs ys out :=
  ⟨movE dx xs, movE dy ys, movE_near _ _, movE_near _ _, by rw [movE_len]; omega, by rw [movE_len]; omega, Rgn.of ho (((h.e.move dx dy).app (Edg.nil _ _)).right xs ys)⟩
theorem Step.grow {xs ys : List Int} {l out : List Rt} {a b c d : Int} (h : Rgn xs ys l) (ho : RegOf out (Pts (l.map (growP a b c d)) [] orF)) : Step xs ys out :=
  ⟨groE a c xs, groE b d ys, groE_near _ _ _, groE_near _ _ _, by rw [groE_len]; omega, by rw [groE_len]; omega, Rgn.of ho (((h.e.grow a b c d).app (Edg.nil _ _)).right xs ys)⟩
theorem Rgn.one {r : Rt} {m : List Rt} (hm : RegOf m (Pts [r] [] orF)) : Rgn [r.x0, r.x1] [r.y0, r.y1] m := Rgn.of hm (Edg.one.app (Edg.nil _ _))
theorem near_two {a b : Int} (ha : Near a) (hb : Near b) : ∀ x ∈ [a, b], Near x := fun x hx => by
  simp only [List.mem_cons, List.not_mem_nil, or_false] at hx
  rcases hx with rfl | rfl
  · exact ha
  · exact hb
theorem Step.clip {xs ys : List Int} {l m out : List Rt} {r : Rt} {f : Bool → Bool → Bool} (h : Rgn xs ys l) (hr : r.Right) (hm : RegOf m (Pts [r] [] orF)) (ho : RegOf out (Pts l m f)) : Step xs ys out :=
  ⟨[r.x0, r.x1], [r.y0, r.y1], near_two hr.1 hr.2.2.1, near_two hr.2.1 hr.2.2.2, by simp, by simp, Rgn.of ho ((h.e.left _ _).app ((Rgn.one hm).e.right _ _))⟩
theorem Step.all {xs ys : List Int} {r : Rt} {out : List Rt} (hr : r.Right) (ho : RegOf out (Pts [r] [] orF)) : Step xs ys out :=
  ⟨[r.x0, r.x1], [r.y0, r.y1], near_two hr.1 hr.2.2.1, near_two hr.2.1 hr.2.2.2, by simp, by simp, Rgn.of ho (((Edg.one).app (Edg.nil _ _)).right xs ys)⟩
theorem Step.shadow {xs ys : List Int} {l m n out : List Rt} {dx dy a b c d : Int} (h : Rgn xs ys l) (hm : RegOf m (Pts (l.map (moveP dx dy)) [] orF)) (hn : RegOf n (Pts (m.map (growP a b c d)) [] orF)) (ho : RegOf out (Pts l n orF)) : Step xs ys out :=
  have h1 : Rgn (movE dx xs) (movE dy ys) m := Rgn.of hm ((h.e.move dx dy).app (Edg.nil _ _))
  have h2 : Rgn (groE a c (movE dx xs)) (groE b d (movE dy ys)) n := Rgn.of hn ((h1.e.grow a b c d).app (Edg.nil _ _))
  ⟨groE a c (movE dx xs), groE b d (movE dy ys), groE_near _ _ _, groE_near _ _ _, by rw [groE_len, movE_len]; omega, by rw [groE_len, movE_len]; omega, Rgn.of ho ((h.e.left _ _).app (h2.e.right _ _))⟩
theorem Rgn.move {xs ys : List Int} {l m : List Rt} {dx dy : Int} (h : Rgn xs ys l) (hm : RegOf m (Pts (l.map (moveP dx dy)) [] orF)) : Rgn (movE dx xs) (movE dy ys) m := Rgn.of hm ((h.e.move dx dy).app (Edg.nil _ _))
theorem Rgn.grow {xs ys : List Int} {l m : List Rt} {a b c d : Int} (h : Rgn xs ys l) (hm : RegOf m (Pts (l.map (growP a b c d)) [] orF)) : Rgn (groE a c xs) (groE b d ys) m := Rgn.of hm ((h.e.grow a b c d).app (Edg.nil _ _))
theorem Grd.move {xs ys : List Int} {K : Nat} (h : Grd xs ys K) (dx dy : Int) : Grd (movE dx xs) (movE dy ys) K := ⟨by rw [movE_len]; exact h.x, by rw [movE_len]; exact h.y, movE_near _ _, movE_near _ _⟩
theorem Grd.grow {xs ys : List Int} {K : Nat} (h : Grd xs ys K) (a b c d : Int) : Grd (groE a c xs) (groE b d ys) (2 * K) := ⟨by rw [groE_len]; have := h.x; omega, by rw [groE_len]; have := h.y; omega, groE_near _ _ _, groE_near _ _ _⟩
/-- A step's edges, with those that were. -/
theorem Step.grd {xs ys : List Int} {K : Nat} {out : List Rt} (h : Step xs ys out) (hg : Grd xs ys K) : ∃ ex ey, Grd (xs ++ ex) (ys ++ ey) (3 * K + 2) ∧ Rgn (xs ++ ex) (ys ++ ey) out := by
  obtain ⟨ex, ey, h1, h2, h3, h4, h5⟩ := h
  have hx := hg.x
  have hy := hg.y
  refine ⟨ex, ey, ⟨by simp; omega, by simp; omega, fun x hx => ?_, fun y hy => ?_⟩, h5⟩
  · exact (List.mem_append.1 hx).elim (hg.nx x) (h1 x)
  · exact (List.mem_append.1 hy).elim (hg.ny y) (h2 y)
/-- A right region's own edges. -/
theorem right_start {a : List Rt} (h : RegOf a (Pts a [] orF)) (hr : ∀ r ∈ a, r.Right) : ∃ xs ys, Grd xs ys (2 * a.length) ∧ Rgn xs ys a := by
  refine ⟨a.map Rt.x0 ++ a.map Rt.x1, a.map Rt.y0 ++ a.map Rt.y1, ⟨by simp; omega, by simp; omega, fun x hx => ?_, fun y hy => ?_⟩, Rgn.of h ?_⟩
  · rcases List.mem_append.1 hx with hx | hx <;> obtain ⟨r, hm, rfl⟩ := List.mem_map.1 hx
    · exact (hr r hm).1
    · exact (hr r hm).2.2.1
  · rcases List.mem_append.1 hy with hy | hy <;> obtain ⟨r, hm, rfl⟩ := List.mem_map.1 hy
    · exact (hr r hm).2.1
    · exact (hr r hm).2.2.2
  · refine Edg.app ⟨fun r hm _ => ⟨List.mem_append_left _ (List.mem_map.2 ⟨r, hm, rfl⟩), List.mem_append_right _ (List.mem_map.2 ⟨r, hm, rfl⟩)⟩, fun r hm _ => ⟨List.mem_append_left _ (List.mem_map.2 ⟨r, hm, rfl⟩), List.mem_append_right _ (List.mem_map.2 ⟨r, hm, rfl⟩)⟩⟩ (Edg.nil _ _)
end Go.Reg

