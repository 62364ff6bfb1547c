/- Regions: bands: 'combine'. -/
import Derived.Test.YtapeafokcailkaaRlA
import Derived.Test.YtapeafokcailkaaRgJ
set_option linter.unusedSimpArgs false
set_option linter.unusedVariables false
set_option linter.unusedSectionVars false
set_option linter.constructorNameAsVariable false
namespace Go.Gou
open Go.RowKit Go.Reg

theorem RowG.grown {w w5 : World} {B : Nat} {e : TypeId} {k k' n n' : Nat} {cs cs' : List Value} {v v5 u : Value} (h : RowG (fun b => v.ownBlock ≠ some b) w k' u n' cs') (G5 : Grown w B e k v n cs v5 w5) : RowG (fun b => v5.ownBlock ≠ some b) w5 k' u n' cs' := by
  have h2 : RowG (fun b => v.ownBlock ≠ some b ∧ v5.ownBlock ≠ some b) w k' u n' cs' := h.imp fun b hb hne => ⟨hne, fun h5 => by
    rcases G5.blk b h5 with h | h
    · exact hne h
    · omega⟩
  exact (h2.mod G5.mod (fun b _ hb hs => hb.1 hs)).imp fun _ _ h => h.2
theorem RowG.under {w w' : World} {k n : Nat} {u : Value} {cs : List Value} {G : Nat → Prop} (h : RowG G w k u n cs) (hm : Mod (fun _ => False) w w') : RowG G w' k u n cs := h.mod hm (fun _ _ _ h => h)
theorem rts_set (l : List Rt) (k : Nat) (h : k < l.length) (y : Int) : (rts l).set (k * 4 + 3) (.int .i64 y) = rts (l.set k (setY1 y l[k])) := by
  induction l generalizing k with
  | nil => simp at h
  | cons r l ih =>
    cases k with
    | zero => rfl
    | succ k =>
      have hk : k < l.length := by simpa using h
      have := ih k hk
      show (rtC r ++ rts l).set ((k + 1) * 4 + 3) _ = rtC r ++ rts (l.set k _)
      have hr : (rtC r).length = 4 := rfl
      rw [List.set_append_right _ _ (by rw [hr]; omega), hr, show (k + 1) * 4 + 3 - 4 = k * 4 + 3 from by omega, this]
      rfl
theorem own_some {w : World} {B : Nat} {e : TypeId} {k n : Nat} {p : Option Addr} {c : Nat} {cs : List Value} (h : w.ownsRow B e k (.slice p n c) n cs) (h0 : 0 < n) : ∃ g, p = some ⟨g, 0, none⟩ := by
  rcases h.2 with ⟨h, h1⟩ | ⟨g, cap, cur, h, _⟩
  · simp only [Value.slice.injEq] at h
    omega
  · simp only [Value.slice.injEq] at h
    exact ⟨g, h.1⟩

end Go.Gou
namespace Go.Proofs.Ytapeafokcailkaa
open Go.RowKit Go.Gou Go.Reg Go.Shelf
set_option maxRecDepth 100000

/-- What two lists of rectangles come to. -/
def CombP (w : World) (a b : List Rt) (f : Bool → Bool → Bool) (e : Ending) (w' : World) : Prop :=
  Gou.Mod (fun _ => False) w w' ∧ ∃ v out, e = .returned v ∧ w'.ownsRow w.heap.size 36 4 v out.length (rts out) ∧ RegOf out (Pts a b f) ∧ out.length ≤ 2 * (a.length + b.length) * (2 * (a.length + b.length))

/-- The way through the bands, in memory: the world behind the edges is w1. -/
structure CombIn (w1 : World) (a b : List Rt) (f : Bool → Bool → Bool) (ys : List Int) (i fr : Nat) (out : List Rt) (last : List Sp) (vo vl : Value) (wr : World) : Prop where
  run : 0 < ys.length → RunB a b f ys i out fr last
  none : ys = [] → out = []
  zero : i = 0 → last = []
  own : wr.ownsRow w1.heap.size 36 4 vo out.length (rts out)
  lst : SpR (fun k => vo.ownBlock ≠ some k) wr vl last
  mod : Gou.Mod (fun _ => False) w1 wr
  len : out.length ≤ i * (2 * (a.length + b.length))
  llen : last.length ≤ 2 * (a.length + b.length)
  at_ : i < ys.length ∨ ys = [] ∧ i = 0

set_option maxHeartbeats 16000000 in
theorem combine_any (w : World) (g : Nat) (f : Bool → Bool → Bool) (hW : WantF g f) (pa pb : Option Addr) (ca cb : Nat) (a b : List Rt) (hA : RtR (fun _ => True) w (.slice pa a.length ca) a) (hB : RtR (fun _ => True) w (.slice pb b.length cb) b)
    (hax : ∀ r ∈ a, Near r.x0) (hbx : ∀ r ∈ b, Near r.x0) (hn : a.length + b.length ≤ 100000) :
    Calls Try.prog 35 #[.slice pa a.length ca, .slice pb b.length cb, .func (.func g) #[] #[]] w (CombP w a b f) := by
  have HW := Lib.hid hW
  have Hax := Lib.hid hax
  have Hbx := Lib.hid hbx
  have Hn := Lib.hid hn
  clear hW hax hbx hn
  go_enter Try.func35, Try.ntmps35
  have HA := Lib.hid hA
  have HB := Lib.hid hB
  clear hA hB
  go_wp2_with fail
  refine (edges_any _ w.heap.size _ pa pb ca cb a b (HA.out.under (Gou.Mod.alloc0 _ _)) (HB.out.under (Gou.Mod.alloc0 _ _)) (Blk.new _ _ _) (by have := Hn.out; omega) (by have := Hn.out; omega)).mono ?_
  rintro e w1 ⟨hm1, vy, ys, rfl, hy, hup, hmem, hyl⟩
  have Hm1 := Lib.hid ((Gou.Mod.alloc0 w _).trans' hm1)
  have HA1 := Lib.hid (HA.out.under Hm1.out)
  have HB1 := Lib.hid (HB.out.under Hm1.out)
  have HY : Hid (IntsR (fun _ => True) w1 vy ys) := Lib.hid (hy.imp (fun _ _ _ => trivial))
  have Hup := Lib.hid hup
  have Hea : Hid (YEdges ys a) := Lib.hid (edgeNums_y hmem (fun r h => by simp [h]))
  have Heb : Hid (YEdges ys b) := Lib.hid (edgeNums_y hmem (fun r h => by simp [h]))
  have Hyl : Hid (ys.length ≤ 2 * (a.length + b.length)) := Lib.hid (by simpa using hyl)
  have Hbig : Hid (∀ i, i < ys.length → i * (2 * (a.length + b.length)) ≤ 40000000000) := Lib.hid (fun i hi => by
    have h1 := Hn.out
    have h2 := Hyl.out
    have h3 : i * (2 * (a.length + b.length)) ≤ 200000 * 200000 := Nat.mul_le_mul (by omega) (by omega)
    omega)
  obtain ⟨py, cy, rfl, -⟩ := RowG.form hy
  clear hm1 hy hup hmem hyl
  go_wp2_with fail
  go_loopw [7, 8, 9, 11] (fun vo vl vf vi wr => ∃ (i fr : Nat) (out : List Rt) (last : List Sp), vf = .int .i64 fr ∧ vi = .int .i64 i ∧ CombIn w1 a b f ys i fr out last vo vl wr) (fun _ _ _ vi _ => ys.length - (intOf vi).toNat)
  case atStart =>
    refine ⟨0, 0, [], [], rfl, rfl, ⟨fun h => RunB.start HW.out.none Hup.out Hea.out Heb.out h, fun _ => rfl, fun _ => rfl, World.ownsRow_nil _ _ _ _, RowG.nil _ _ _, Gou.Mod.refl _ _, by simp, by simp, ?_⟩⟩
    cases ys with
    | nil => exact .inr ⟨rfl, rfl⟩
    | cons _ _ => exact .inl (by simp)
  case round =>
    obtain ⟨i, fr, out, last, rfl, rfl, hI⟩ := hrel
    obtain ⟨po, co, rfl⟩ := Gou.ownsRow_form hI.own
    obtain ⟨pl, cl, rfl⟩ := hI.lst.form
    have HI := Lib.hid hI
    clear hI
    have wi : IntKind.i64.wrap ((i : Int) + 1) = (i : Int) + 1 := wrap_id (by omega) (by have := Hyl.out; have := HI.out.at_; have := Hn.out; rcases this with _; rcases HI.out.at_ with h | h <;> omega)
    by_cases hi1 : i + 1 < ys.length
    · have e1 : decide ((i : Int) + 1 < (ys.length : Int)) = true := decide_eq_true (by omega)
      obtain ⟨-, gy, oy, rfl, hgy, -, hcy⟩ := IntsR.cells HY.out (by omega)
      have cy0 := hcy i (by omega)
      have cy1 := hcy (i + 1) hi1
      have Hcy := Lib.hid (And.intro cy0 cy1)
      rw [← HI.out.mod.cell (p := ⟨gy, oy + i, none⟩) hgy (fun h => h)] at cy0
      rw [← HI.out.mod.cell (p := ⟨gy, oy + (i + 1), none⟩) hgy (fun h => h)] at cy1
      have Hy0 : Hid (ys[i]? = some ys[i] ∧ ys[i + 1]? = some ys[i + 1]) := Lib.hid ⟨List.getElem?_eq_getElem (by omega), List.getElem?_eq_getElem hi1⟩
      have i0 : (0 : Int) ≤ (i : Int) := by omega
      have i1 : (i : Int) < (ys.length : Int) := by omega
      have i2 : (0 : Int) ≤ (i : Int) + 1 := by omega
      have i3 : (i : Int) + 1 < (ys.length : Int) := by omega
      have i4 : ((i : Int) + 1).toNat = i + 1 := by omega
      have HR := Lib.hid (HI.out.run (by omega))
      have Hi1 := Lib.hid hi1
      clear hcy
      generalize ys[i] = y0 at *
      generalize ys[i + 1] = y1 at *
      clear hi1
      have Hgy1 := Lib.hid hgy
      have Hgy : Hid (gy < wr.heap.size) := Lib.hid (Nat.lt_of_lt_of_le hgy HI.out.mod.size)
      have HAw := Lib.hid (RowG.under HA1.out HI.out.mod)
      have HBw := Lib.hid (RowG.under HB1.out HI.out.mod)
      clear hgy
      go_wp2_with fail
      refine wp_region_held_drew (S := fun w' => Gou.Mod (fun _ => False) wr w') (by kernel_rfl) (Gou.Mod.drew _ _) (fun hHeld => ?_)
      refine wpAnyH_take (i := 0) (oi := ({ dst := some 27, op := Op.move (Operand.tmp 0), type := 22, pos := "region.go:112", after := #[], guard := none } : Oper)) (v := .slice pa a.length ca) rfl (by kernel_rfl) (by kernel_rfl) (by kernel_rfl) (fun _ _ _ h => h) (Or.inl ⟨by rfl, ?_⟩) hHeld ?_
      · (intro w' hSw; (try dsimp only at hSw); clear hSw; go_simp; (try with_reducible rfl))
      try simp only [Act.put, List.setIfInBounds_toArray, List.set_cons_zero, List.set_cons_succ]
      refine wpAnyH_take (i := 1) (oi := ({ dst := some 28, op := Op.move (Operand.tmp 10), type := 47, pos := "region.go:112", after := #[], guard := none } : Oper)) (v := .slice (some ⟨gy, oy, none⟩) ys.length cy) rfl (by kernel_rfl) (by kernel_rfl) (by kernel_rfl) (fun _ _ _ h => h) (Or.inl ⟨by rfl, ?_⟩) hHeld ?_
      · (intro w' hSw; (try dsimp only at hSw); clear hSw; go_simp; (try with_reducible rfl))
      try simp only [Act.put, List.setIfInBounds_toArray, List.set_cons_zero, List.set_cons_succ]
      refine wpAnyH_take (i := 2) (oi := ({ dst := some 29, op := Op.move (Operand.tmp 11), type := 3, pos := "region.go:112", after := #[], guard := none } : Oper)) (v := .int .i64 (i : Nat)) rfl (by kernel_rfl) (by kernel_rfl) (by kernel_rfl) (fun _ _ _ h => h) (Or.inl ⟨by rfl, ?_⟩) hHeld ?_
      · (intro w' hSw; (try dsimp only at hSw); clear hSw; go_simp; (try with_reducible rfl))
      try simp only [Act.put, List.setIfInBounds_toArray, List.set_cons_zero, List.set_cons_succ]
      refine wpAnyH_take (i := 3) (oi := ({ dst := some 30, op := Op.indexAddr 47 (Operand.tmp 28) (Operand.tmp 29), type := 0, pos := "region.go:112", after := #[{ on := 1, ground := Ground.data }, { on := 2, ground := Ground.data }], guard := none } : Oper)) (v := .pointer (some ⟨gy, oy + i, none⟩)) rfl (by kernel_rfl) (by kernel_rfl) (by kernel_rfl) (fun _ _ _ h => h) (Or.inl ⟨by rfl, ?_⟩) hHeld ?_
      · (intro w' hSw; (try dsimp only at hSw); clear hSw; go_simp; (try with_reducible rfl))
      try simp only [Act.put, List.setIfInBounds_toArray, List.set_cons_zero, List.set_cons_succ]
      refine wpAnyH_take (i := 4) (oi := ({ dst := some 31, op := Op.load 3 (Operand.tmp 30), type := 3, pos := "region.go:112", after := #[{ on := 3, ground := Ground.data }], guard := none } : Oper)) (v := .int .i64 y0) rfl (by kernel_rfl) (by kernel_rfl) (by kernel_rfl) (fun _ _ _ h => h) (Or.inl ⟨by rfl, ?_⟩) hHeld ?_
      · (intro w' hSw; (try dsimp only at hSw); have g := (hSw.cell (p := ⟨gy, oy + i, none⟩) (by show gy < _; have := Hgy.out; omega) (fun h => h)).trans cy0; clear hSw; go_simp; (try with_reducible rfl))
      try simp only [Act.put, List.setIfInBounds_toArray, List.set_cons_zero, List.set_cons_succ]
      refine wpAnyH_take (i := 6) (oi := ({ dst := some 33, op := Op.move (Operand.tmp 1), type := 22, pos := "region.go:112", after := #[], guard := none } : Oper)) (v := .slice pb b.length cb) rfl (by kernel_rfl) (by kernel_rfl) (by kernel_rfl) (fun _ _ _ h => h) (Or.inl ⟨by rfl, ?_⟩) hHeld ?_
      · (intro w' hSw; (try dsimp only at hSw); clear hSw; go_simp; (try with_reducible rfl))
      try simp only [Act.put, List.setIfInBounds_toArray, List.set_cons_zero, List.set_cons_succ]
      refine wpAnyH_take (i := 7) (oi := ({ dst := some 34, op := Op.move (Operand.tmp 10), type := 47, pos := "region.go:112", after := #[], guard := none } : Oper)) (v := .slice (some ⟨gy, oy, none⟩) ys.length cy) rfl (by kernel_rfl) (by kernel_rfl) (by kernel_rfl) (fun _ _ _ h => h) (Or.inl ⟨by rfl, ?_⟩) hHeld ?_
      · (intro w' hSw; (try dsimp only at hSw); clear hSw; go_simp; (try with_reducible rfl))
      try simp only [Act.put, List.setIfInBounds_toArray, List.set_cons_zero, List.set_cons_succ]
      refine wpAnyH_take (i := 8) (oi := ({ dst := some 35, op := Op.move (Operand.tmp 11), type := 3, pos := "region.go:112", after := #[], guard := none } : Oper)) (v := .int .i64 (i : Nat)) rfl (by kernel_rfl) (by kernel_rfl) (by kernel_rfl) (fun _ _ _ h => h) (Or.inl ⟨by rfl, ?_⟩) hHeld ?_
      · (intro w' hSw; (try dsimp only at hSw); clear hSw; go_simp; (try with_reducible rfl))
      try simp only [Act.put, List.setIfInBounds_toArray, List.set_cons_zero, List.set_cons_succ]
      refine wpAnyH_take (i := 9) (oi := ({ dst := some 36, op := Op.indexAddr 47 (Operand.tmp 34) (Operand.tmp 35), type := 0, pos := "region.go:112", after := #[{ on := 7, ground := Ground.data }, { on := 8, ground := Ground.data }], guard := none } : Oper)) (v := .pointer (some ⟨gy, oy + i, none⟩)) rfl (by kernel_rfl) (by kernel_rfl) (by kernel_rfl) (fun _ _ _ h => h) (Or.inl ⟨by rfl, ?_⟩) hHeld ?_
      · (intro w' hSw; (try dsimp only at hSw); clear hSw; go_simp; (try with_reducible rfl))
      try simp only [Act.put, List.setIfInBounds_toArray, List.set_cons_zero, List.set_cons_succ]
      refine wpAnyH_take (i := 10) (oi := ({ dst := some 37, op := Op.load 3 (Operand.tmp 36), type := 3, pos := "region.go:112", after := #[{ on := 9, ground := Ground.data }], guard := none } : Oper)) (v := .int .i64 y0) rfl (by kernel_rfl) (by kernel_rfl) (by kernel_rfl) (fun _ _ _ h => h) (Or.inl ⟨by rfl, ?_⟩) hHeld ?_
      · (intro w' hSw; (try dsimp only at hSw); have g := (hSw.cell (p := ⟨gy, oy + i, none⟩) (by show gy < _; have := Hgy.out; omega) (fun h => h)).trans cy0; clear hSw; go_simp; (try with_reducible rfl))
      try simp only [Act.put, List.setIfInBounds_toArray, List.set_cons_zero, List.set_cons_succ]
      refine wpAnyH_take (i := 12) (oi := ({ dst := some 39, op := Op.move (Operand.tmp 2), type := 56, pos := "region.go:112", after := #[], guard := none } : Oper)) (v := .func (.func g) #[] #[]) rfl (by kernel_rfl) (by kernel_rfl) (by kernel_rfl) (fun _ _ _ h => h) (Or.inl ⟨by rfl, ?_⟩) hHeld ?_
      · (intro w' hSw; (try dsimp only at hSw); clear hSw; go_simp; (try with_reducible rfl))
      try simp only [Act.put, List.setIfInBounds_toArray, List.set_cons_zero, List.set_cons_succ]
      refine wpAnyH_ready (rs := [5]) (by kernel_rfl) (by simp) (AllReadyH.cons (o := ({ dst := some 32, op := Op.call { callee := Callee.value (Operand.func 55), args := #[Operand.tmp 27, Operand.tmp 31], argTypes := #[22, 3] }, type := 57, pos := "region.go:112", after := #[{ on := 0, ground := Ground.data }, { on := 4, ground := Ground.data }], guard := none } : Oper)) rfl (fun K hK => ?_) AllReadyH.nil)
      go_simp
      refine (spans_any _ _ pa ca a y0 (HAw.out.under hHeld) (by have := Hn.out; omega) Hax.out).mono ?_
      rintro e w3 ⟨hm1, v1, sa, rfl, hown1, hc1, hi1, hl1⟩
      have O1 := Lib.hid (RowG.own_of hown1 (G := fun k => wr.drew.heap.size ≤ k) (fun b _ h => h))
      have C1 := Lib.hid (And.intro hc1 (And.intro hi1 hl1))
      have M1 := Lib.hid (hHeld.trans' hm1)
      obtain ⟨p1, c1, rfl⟩ := Gou.ownsRow_form hown1
      clear hm1 hown1 hc1 hi1 hl1 hHeld
      refine hK _ _ M1.out (fun hHeld => ?_)
      clear hK K
      try simp only [Act.put, List.setIfInBounds_toArray, List.set_cons_zero, List.set_cons_succ]
      refine wpAnyH_ready (rs := [11]) (by kernel_rfl) (by simp) (AllReadyH.cons (o := ({ dst := some 38, op := Op.call { callee := Callee.value (Operand.func 55), args := #[Operand.tmp 33, Operand.tmp 37], argTypes := #[22, 3] }, type := 57, pos := "region.go:112", after := #[{ on := 6, ground := Ground.data }, { on := 10, ground := Ground.data }, { on := 5, ground := Ground.chain }], guard := none } : Oper)) rfl (fun K hK => ?_) AllReadyH.nil)
      go_simp
      refine (spans_any _ _ pb cb b y0 (HBw.out.under hHeld) (by have := Hn.out; omega) Hbx.out).mono ?_
      rintro e w4 ⟨hm2, v2, sb, rfl, hown2, hc2, hi2, hl2⟩
      have O2 := Lib.hid (RowG.own_of hown2 (G := fun k => w3.heap.size ≤ k) (fun b _ h => h))
      have C2 := Lib.hid (And.intro hc2 (And.intro hi2 hl2))
      have M12 := Lib.hid hm2
      have M2 := Lib.hid (hHeld.trans' hm2)
      obtain ⟨p2, c2, rfl⟩ := Gou.ownsRow_form hown2
      clear hm2 hown2 hc2 hi2 hl2 hHeld
      refine hK _ _ M2.out (fun hHeld => ?_)
      clear hK K
      try simp only [Act.put, List.setIfInBounds_toArray, List.set_cons_zero, List.set_cons_succ]
      refine wpAnyH_ready (rs := [13]) (by kernel_rfl) (by simp) (AllReadyH.cons (o := ({ dst := some 40, op := Op.call { callee := Callee.value (Operand.func 54), args := #[Operand.tmp 32, Operand.tmp 38, Operand.tmp 39], argTypes := #[57, 57, 56] }, type := 57, pos := "region.go:112", after := #[{ on := 5, ground := Ground.data }, { on := 11, ground := Ground.data }, { on := 12, ground := Ground.data }, { on := 11, ground := Ground.chain }], guard := none } : Oper)) rfl (fun K hK => ?_) AllReadyH.nil)
      go_simp
      have O1' : Hid (SpR (fun _ => True) w4 (.slice p1 sa.length c1) sa) := Lib.hid ((RowG.under O1.out M12.out).imp (fun _ _ _ => trivial))
      refine (merge_any _ g f HW.out p1 p2 c1 c2 sa sb O1'.out (O2.out.imp (fun _ _ _ => trivial)) C1.out.1 C2.out.1 (by have h1 := C1.out.2.2; have := Hn.out; omega) (by have h1 := C2.out.2.2; have := Hn.out; omega)).mono ?_
      rintro e w5 ⟨hm3, v3, row, rfl, hown3, hc3, hi3, hl3⟩
      have O3 := Lib.hid (RowG.own_of hown3 (G := fun k => w4.heap.size ≤ k) (fun b _ h => h))
      have C3 : Hid (Canon row ∧ (∀ x, In row x ↔ Pts a b f x y0) ∧ row.length ≤ 2 * (a.length + b.length)) := Lib.hid ⟨hc3, rows_want C1.out.2.1 C2.out.2.1 hi3, by have h1 := C1.out.2.2; have h2 := C2.out.2.2; omega⟩
      have M3 := Lib.hid (hHeld.trans' hm3)
      obtain ⟨p3, c3, rfl⟩ := Gou.ownsRow_form hown3
      clear hm3 hown3 hc3 hi3 hl3 hHeld
      refine hK _ _ M3.out (fun hHeld => ?_)
      clear hK K
      try simp only [Act.put, List.setIfInBounds_toArray, List.set_cons_zero, List.set_cons_succ]
      refine wpAnyH_take (i := 14) (oi := ({ dst := some 12, op := Op.assign (Operand.tmp 40), type := 57, pos := "region.go:112", after := #[{ on := 13, ground := Ground.data }, { on := 13, ground := Ground.chain }, { on := 0, ground := Ground.phase }, { on := 1, ground := Ground.phase }, { on := 2, ground := Ground.phase }, { on := 3, ground := Ground.phase }, { on := 4, ground := Ground.phase }, { on := 5, ground := Ground.phase }, { on := 6, ground := Ground.phase }, { on := 7, ground := Ground.phase }, { on := 8, ground := Ground.phase }, { on := 9, ground := Ground.phase }, { on := 10, ground := Ground.phase }, { on := 11, ground := Ground.phase }, { on := 12, ground := Ground.phase }, { on := 13, ground := Ground.phase }], guard := none } : Oper)) (v := .slice p3 row.length c3) rfl (by kernel_rfl) (by kernel_rfl) (by kernel_rfl) (fun _ _ _ h => h) (Or.inl ⟨by rfl, ?_⟩) hHeld ?_
      · (intro w' hSw; (try dsimp only at hSw); clear hSw; go_simp; (try with_reducible rfl))
      try simp only [Act.put, List.setIfInBounds_toArray, List.set_cons_zero, List.set_cons_succ]
      refine wpAnyH_done (by kernel_rfl) ?_ _
      clear hHeld
      have HI5 : Hid (w5.ownsRow w1.heap.size 36 4 (.slice po out.length co) out.length (rts out) ∧ SpR (fun k => (Value.slice po out.length co).ownBlock ≠ some k) w5 (.slice pl last.length cl) last ∧ Gou.Mod (fun _ => False) w1 w5) :=
        Lib.hid ⟨own_up HI.out.own M3.out, RowG.under HI.out.lst M3.out, HI.out.mod.trans' M3.out⟩
      have HRow : Hid (SpR (fun k => (Value.slice po out.length co).ownBlock ≠ some k) w5 (.slice p3 row.length c3) row) := Lib.hid (O3.out.imp fun k _ hk h => by
        have h1 := (HI.out.own.lt k h).2
        have h2 := M2.out.size
        omega)
      have cy5 : w5.cell? ⟨gy, oy + (i + 1), none⟩ = some (.int .i64 y1) := (M3.out.cell (p := ⟨gy, oy + (i + 1), none⟩) Hgy.out (fun h => h)).trans cy1
      have cy6 : w5.cell? ⟨gy, oy + i, none⟩ = some (.int .i64 y0) := (M3.out.cell (p := ⟨gy, oy + i, none⟩) Hgy.out (fun h => h)).trans cy0
      clear cy0 cy1 O1 O2 O3 M1 M2 M12 O1' C1 C2
      have Hgy5 : Hid (gy < w5.heap.size) := Lib.hid (Nat.lt_of_lt_of_le Hgy.out M3.out.size)
      go_upto_region 9 with fail
      go_cut [52] from 41 to 51 (fun vq wx => vq = .bool (decide (0 < i ∧ row ≠ [] ∧ row = last)) ∧ Gou.Mod (fun _ => False) w5 wx)
      case first =>
        by_cases hi0 : 0 < i
        · have t1 : decide ((0 : Int) < (i : Int)) = true := decide_eq_true (by omega)
          have t1' : decide (0 < i) = true := decide_eq_true hi0
          by_cases hrow : row = []
          · have t2 : decide ((0 : Int) < (row.length : Int)) = false := decide_eq_false (by simp [hrow])
            have t2' : decide (0 < row.length) = false := decide_eq_false (by simp [hrow])
            have Hq : Hid (decide (0 < i ∧ row ≠ [] ∧ row = last) = false) := Lib.hid (by simp [hrow])
            subst hrow
            simp only [List.length_nil] at t2 t2' ⊢
            go_wp2_with fail
            go_meet
            case rel => exact ⟨by rw [Hq.out], Gou.Mod.refl _ _⟩
          · have hl0 : 0 < row.length := by cases row with | nil => exact absurd rfl hrow | cons _ _ => simp
            have t2 : decide ((0 : Int) < (row.length : Int)) = true := decide_eq_true (by omega)
            have t2' : decide (0 < row.length) = true := decide_eq_true hl0
            have Hq : Hid (decide (0 < i ∧ row ≠ [] ∧ row = last) = decide (row = last)) := Lib.hid (by simp [hi0, hrow])
            go_wp2_with fail
            have hcon := eqSp_any w5 _ _ p3 pl c3 cl row last HRow.out HI5.out.2.1 (by have h1 := C3.out.2.2; have := Hn.out; omega) (by have h1 := HI.out.llen; have := Hn.out; omega)
            obtain ⟨q, hq⟩ : ∃ q, q = decide (row = last) := ⟨_, rfl⟩
            rw [← hq] at hcon Hq
            refine hcon.mono ?_
            clear hcon hq
            rintro e w6 ⟨rfl, hm6⟩
            have Hm6 := Lib.hid hm6
            clear hm6
            go_wp2_with fail
            all_goals go_meet
            all_goals (case rel => exact ⟨by rw [Hq.out], Hm6.out⟩)
        · have t1 : decide ((0 : Int) < (i : Int)) = false := decide_eq_false (by omega)
          have t1' : decide (0 < i) = false := decide_eq_false hi0
          have Hq : Hid (decide (0 < i ∧ row ≠ [] ∧ row = last) = false) := Lib.hid (by simp [hi0])
          clear hi0
          go_wp2_with fail
          go_meet
          case rel => exact ⟨by rw [Hq.out], Gou.Mod.refl _ _⟩
      case rest =>
        obtain ⟨rfl, hm6⟩ := hcut
        have HI6 : Hid (wc.ownsRow w1.heap.size 36 4 (.slice po out.length co) out.length (rts out) ∧ SpR (fun k => (Value.slice po out.length co).ownBlock ≠ some k) wc (.slice pl last.length cl) last ∧ Gou.Mod (fun _ => False) w1 wc) :=
          Lib.hid ⟨own_up HI5.out.1 hm6, RowG.under HI5.out.2.1 hm6, HI5.out.2.2.trans' hm6⟩
        have HRow6 := Lib.hid (RowG.under HRow.out hm6)
        have cy7 := (hm6.cell (p := ⟨gy, oy + (i + 1), none⟩) Hgy5.out (fun h => h)).trans cy5
        have cy8 := (hm6.cell (p := ⟨gy, oy + i, none⟩) Hgy5.out (fun h => h)).trans cy6
        have Hgyne : Hid ((Value.slice po out.length co).ownBlock ≠ some gy) := Lib.hid (fun h => by have := own_ge HI.out.own gy h; have := Hgy1.out; omega)
        clear hm6 cy5 cy6 HI5 HRow
        by_cases hsame : 0 < i ∧ row ≠ [] ∧ row = last
        · have Hq : Hid (decide (0 < i ∧ row ≠ [] ∧ row = last) = true) := Lib.hid (decide_eq_true hsame)
          rw [Hq.out]
          have Hsame := Lib.hid hsame
          have Hrun := Lib.hid (HR.out.same Hup.out Hea.out Heb.out Hy0.out.1 Hy0.out.2 C3.out.1 C3.out.2.1 hsame.2.1 hsame.2.2)
          have Hfr := Lib.hid HR.out.fr_le
          clear hsame
          go_wp2_with fail
          go_loopw [13] (fun vk wx => ∃ k : Nat, vk = .int .i64 k ∧ fr ≤ k ∧ k ≤ out.length ∧ wx.ownsRow w1.heap.size 36 4 (.slice po out.length co) out.length (rts (partY out fr y1 k)) ∧ SpR (fun k => (Value.slice po out.length co).ownBlock ≠ some k) wx (.slice pl last.length cl) last ∧ Gou.Mod (fun _ => False) w1 wx ∧ wx.cell? ⟨gy, oy + (i + 1), none⟩ = some (.int .i64 y1) ∧ gy < wx.heap.size) (fun vk _ => out.length - (intOf vk).toNat)
          case atStart => exact ⟨fr, rfl, Nat.le_refl _, Hfr.out, by rw [partY_start]; exact HI6.out.1, HI6.out.2.1, HI6.out.2.2, cy7, Nat.lt_of_lt_of_le Hgy1.out HI6.out.2.2.size⟩
          case round =>
            obtain ⟨k, rfl, hk0, hk1, hown, hlst, hm, hcy, hgy⟩ := hrel
            have Hown := Lib.hid hown
            have Hlst := Lib.hid hlst
            have Hm := Lib.hid hm
            have Hk := Lib.hid (And.intro hk0 hk1)
            clear hlst hm hown
            have wk : IntKind.i64.wrap ((k : Int) + 1) = (k : Int) + 1 := wrap_id (by omega) (by have h1 := HI.out.len; have := Hbig.out i (by have := Hi1.out; omega); omega)
            by_cases hkl : k < out.length
            · have t1 : decide ((k : Int) < (out.length : Int)) = true := decide_eq_true (by omega)
              obtain ⟨gb, rfl⟩ := own_some Hown.out (by omega)
              have hpl : k < (partY out fr y1 k).length := by rw [partY_len]; exact hkl
              have hc := Hown.out.cellAt (k * 4 + 3) (by omega)
              rw [(rts_get _ k hpl).2.2.2] at hc
              have hf := Hown.out.frozenAt (k * 4 + 3)
              have k0 : (0 : Int) ≤ (k : Int) := by omega
              have k1 : (k : Int) < (out.length : Int) := by omega
              have Hset : Hid ((rts (partY out fr y1 k)).set (k * 4 + 3) (.int .i64 y1) = rts (partY out fr y1 (k + 1))) := Lib.hid (by rw [rts_set _ _ hpl, partY_get _ _ _ _ hkl, partY_set _ _ _ _ hk0 hkl])
              have Hne : Hid (gy ≠ gb) := Lib.hid (fun h => Hgyne.out (by rw [h]; rfl))
              have Hkl := Lib.hid hkl
              generalize ((partY out fr y1 k)[k]).y1 = oldy at *
              clear hpl hkl
              go_wp2_with fail
              go_roundw
              case rel =>
                refine ⟨k + 1, by go_num, by have := Hk.out; omega, by have := Hkl.out; omega, ?_, ?_, ?_, ?_, ?_⟩
                · have h := own_set Hown.out (k * 4 + 3) (.int .i64 y1)
                  rw [Hset.out] at h
                  exact h
                · exact Hlst.out.mod (Gou.Mod.setCell _ ⟨gb, k * 4 + 3, none⟩ _) (fun b _ hb hs => hb (by rw [hs]; rfl))
                · exact Hm.out.trans (Gou.Mod.setCell _ ⟨gb, k * 4 + 3, none⟩ _) (fun b hb hs => absurd (own_ge Hown.out gb rfl) (by simp only at hs; omega))
                · exact ((Gou.Mod.setCell _ ⟨gb, k * 4 + 3, none⟩ (.int .i64 y1)).cell (p := ⟨gy, oy + (i + 1), none⟩) hgy Hne.out).trans hcy
                · exact Nat.lt_of_lt_of_le hgy (Gou.Mod.setCell _ ⟨gb, k * 4 + 3, none⟩ (.int .i64 y1)).size
              case measure => have := Hkl.out; simp [intOf, wk]; omega
            · obtain rfl : k = out.length := by have := Hk.out; omega
              have t1 : decide ((out.length : Int) < (out.length : Int)) = false := decide_eq_false (by omega)
              have Hend : Hid (partY out fr y1 out.length = out.take fr ++ (out.drop fr).map (setY1 y1)) := Lib.hid (partY_end _ _ _ Hfr.out)
              have Hlen : Hid ((out.take fr ++ (out.drop fr).map (setY1 y1)).length = out.length) := Lib.hid (by rw [← partY_end _ _ _ Hfr.out, partY_len])
              go_wp2_with fail
              go_roundw
              case rel =>
                refine ⟨i + 1, fr, out.take fr ++ (out.drop fr).map (setY1 y1), last, by go_num, rfl, ⟨fun _ => Hrun.out, fun h => by have := Hi1.out; rw [h] at this; simp at this, fun h => by omega, ?_, Hlst.out, Hm.out, ?_, HI.out.llen, .inl (by have := Hi1.out; omega)⟩⟩
                · rw [Hlen.out, ← Hend.out]; exact Hown.out
                · rw [Hlen.out]; have := HI.out.len; rw [Nat.add_mul]; omega
              case measure => have := Hi1.out; simp [intOf, wi]; omega
        · have Hq : Hid (decide (0 < i ∧ row ≠ [] ∧ row = last) = false) := Lib.hid (decide_eq_false hsame)
          rw [Hq.out]
          have Hrun := Lib.hid (HR.out.other Hup.out Hea.out Heb.out Hy0.out.1 Hy0.out.2 C3.out.1 C3.out.2.1 (by
            by_cases h1 : row = []
            · exact .inl h1
            · refine .inr fun h2 => ?_
              by_cases h3 : 0 < i
              · exact hsame ⟨h3, h1, h2⟩
              · exact h1 (by rw [h2, HI.out.zero (by omega)])))
          clear hsame
          go_wp2_with fail
          go_loopw [7, 74] (fun vo vk wx => ∃ (k : Nat) (o : List Rt), vk = .int .i64 k ∧ k ≤ row.length ∧ o = out ++ bandOf (row.take k) y0 y1 ∧ wx.ownsRow w1.heap.size 36 4 vo o.length (rts o) ∧ SpR (fun k => vo.ownBlock ≠ some k) wx (.slice p3 row.length c3) row ∧ Gou.Mod (fun _ => False) w1 wx) (fun _ vk _ => row.length - (intOf vk).toNat)
          case atStart => exact ⟨0, out, rfl, by omega, by simp [bandOf], HI6.out.1, HRow6.out, HI6.out.2.2⟩
          case round =>
            obtain ⟨k, o, rfl, hk, ho, hown, hrow, hm⟩ := hrel
            obtain ⟨po, co, rfl⟩ := Gou.ownsRow_form hown
            have Ho := Lib.hid ho
            have Hown := Lib.hid hown
            have Hrow := Lib.hid hrow
            have Hm := Lib.hid hm
            clear ho hown hrow hm
            have wk : IntKind.i64.wrap ((k : Int) + 1) = (k : Int) + 1 := wrap_id (by omega) (by have h1 := C3.out.2.2; have := Hn.out; omega)
            by_cases hkl : k < row.length
            · have t1 : decide ((k : Int) < (row.length : Int)) = true := decide_eq_true (by omega)
              obtain ⟨-, br, or_, rfl, hbr, hbne, hcr⟩ := Hrow.out.cells (by omega)
              obtain ⟨r0, r1⟩ := hcr k hkl
              have k0 : (0 : Int) ≤ (k : Int) := by omega
              have k1 : (k : Int) < (row.length : Int) := by omega
              have HF : Hid (o.length + 1 ≤ maxLen ∧ (o.length + 1) * 32 ≤ 140737488355328) := Lib.hid (by
                have h1 := HI.out.len
                have h2 := Hbig.out i (by have := Hi1.out; omega)
                have h3 := C3.out.2.2
                have h4 : o.length = out.length + k := by rw [Ho.out, List.length_append, bandOf_len, List.length_take]; omega
                have h5 := Hn.out
                unfold maxLen
                omega)
              have Hstep : Hid (out ++ bandOf (row.take (k + 1)) y0 y1 = o ++ [⟨row[k].a, y0, row[k].b, y1⟩]) := Lib.hid (by rw [List.take_succ_eq_append_getElem hkl, bandOf_snoc, ← List.append_assoc, ← Ho.out])
              have Hk := Lib.hid (And.intro hk hkl)
              clear hcr hbne
              generalize row[k] = s at *
              obtain ⟨sa, sb⟩ := s
              simp only at r0 r1
              go_wp2_with fail
              have HN := Lib.hid (Blk.new wr 63 #[.int .i64 sa, .int .i64 sb])
              have Hown3 := Lib.hid (own_up Hown.out (Gou.Mod.alloc0 wr (.cells #[.int .i64 sa, .int .i64 sb] 63)))
              have Hrow3 := Lib.hid (RowG.under Hrow.out (Gou.Mod.alloc0 wr (.cells #[.int .i64 sa, .int .i64 sb] 63)))
              have Hm3 : Hid (Gou.Mod (fun _ => False) w1 (wr.alloc (.cells #[.int .i64 sa, .int .i64 sb] 63))) := Lib.hid (Hm.out.trans' (Gou.Mod.alloc0 _ _))
              have Nne : Hid ((Value.slice po o.length co).ownBlock ≠ some wr.heap.size) := Lib.hid (fun h => by have := (Hown.out.lt _ h).2; omega)
              have Gne : Hid ((Value.slice po o.length co).ownBlock ≠ some gy) := Lib.hid (fun h => by have := own_ge Hown.out gy h; have := Hgy1.out; omega)
              have Nlt : Hid (wr.heap.size < (wr.alloc (.cells #[.int .i64 sa, .int .i64 sb] 63)).heap.size) := Lib.hid (by simp)
              clear r0 r1 Hown Hrow Hm
              generalize wr.alloc (.cells #[.int .i64 sa, .int .i64 sb] 63) = W3 at *
              generalize wr.heap.size = N at *
              have cb0 := HN.out.cell 0 rfl
              have cb1 := HN.out.cell 1 rfl
              have cy1 : W3.cell? ⟨gy, oy + (i + 1), none⟩ = some (.int .i64 y1) := (Hm3.out.cell (p := ⟨gy, oy + (i + 1), none⟩) Hgy1.out (fun h => h)).trans Hcy.out.2
              have cy0 : W3.cell? ⟨gy, oy + i, none⟩ = some (.int .i64 y0) := (Hm3.out.cell (p := ⟨gy, oy + i, none⟩) Hgy1.out (fun h => h)).trans Hcy.out.1
              have Hgy : Hid (gy < W3.heap.size) := Lib.hid (Nat.lt_of_lt_of_le Hgy1.out Hm3.out.size)
              go_wp2_with fail
              refine wp_region_held_drew (S := fun w' => Gou.Mod (fun b => (Value.slice po o.length co).ownBlock = some b) W3 w') (by kernel_rfl) (Gou.Mod.drew _ _) (fun hHeld => ?_)
              refine wpAnyH_take (i := 0) (oi := ({ dst := some 78, op := Op.move (Operand.tmp 7), type := 27, pos := "region.go:121", after := #[], guard := none } : Oper)) (v := .slice po o.length co) rfl (by kernel_rfl) (by kernel_rfl) (by kernel_rfl) (fun _ _ _ h => h) (Or.inl ⟨by rfl, ?_⟩) hHeld ?_
              · (intro w' hSw; (try dsimp only at hSw); clear hSw; go_simp; (try with_reducible rfl))
              try simp only [Act.put, List.setIfInBounds_toArray, List.set_cons_zero, List.set_cons_succ]
              refine wpAnyH_take (i := 1) (oi := ({ dst := some 79, op := Op.fieldAddr 63 (Operand.tmp 15) 0, type := 0, pos := "region.go:121", after := #[], guard := none } : Oper)) (v := .pointer (some ⟨N, 0, none⟩)) rfl (by kernel_rfl) (by kernel_rfl) (by kernel_rfl) (fun _ _ _ h => h) (Or.inl ⟨by rfl, ?_⟩) hHeld ?_
              · (intro w' hSw; (try dsimp only at hSw); clear hSw; go_simp; (try with_reducible rfl))
              try simp only [Act.put, List.setIfInBounds_toArray, List.set_cons_zero, List.set_cons_succ]
              refine wpAnyH_take (i := 2) (oi := ({ dst := some 80, op := Op.load 3 (Operand.tmp 79), type := 3, pos := "region.go:121", after := #[{ on := 1, ground := Ground.data }], guard := none } : Oper)) (v := .int .i64 sa) rfl (by kernel_rfl) (by kernel_rfl) (by kernel_rfl) (fun _ _ _ h => h) (Or.inl ⟨by rfl, ?_⟩) hHeld ?_
              · (intro w' hSw; (try dsimp only at hSw); have g := (hSw.cell (p := ⟨N, 0, none⟩) (by show N < _; have := Nlt.out; omega) (by show ¬ (_ = some N); exact Nne.out)).trans cb0; clear hSw; go_simp; (try with_reducible rfl))
              try simp only [Act.put, List.setIfInBounds_toArray, List.set_cons_zero, List.set_cons_succ]
              refine wpAnyH_take (i := 3) (oi := ({ dst := some 81, op := Op.move (Operand.tmp 10), type := 47, pos := "region.go:121", after := #[], guard := none } : Oper)) (v := .slice (some ⟨gy, oy, none⟩) ys.length cy) rfl (by kernel_rfl) (by kernel_rfl) (by kernel_rfl) (fun _ _ _ h => h) (Or.inl ⟨by rfl, ?_⟩) hHeld ?_
              · (intro w' hSw; (try dsimp only at hSw); clear hSw; go_simp; (try with_reducible rfl))
              try simp only [Act.put, List.setIfInBounds_toArray, List.set_cons_zero, List.set_cons_succ]
              refine wpAnyH_take (i := 4) (oi := ({ dst := some 82, op := Op.move (Operand.tmp 11), type := 3, pos := "region.go:121", after := #[], guard := none } : Oper)) (v := .int .i64 (i : Nat)) rfl (by kernel_rfl) (by kernel_rfl) (by kernel_rfl) (fun _ _ _ h => h) (Or.inl ⟨by rfl, ?_⟩) hHeld ?_
              · (intro w' hSw; (try dsimp only at hSw); clear hSw; go_simp; (try with_reducible rfl))
              try simp only [Act.put, List.setIfInBounds_toArray, List.set_cons_zero, List.set_cons_succ]
              refine wpAnyH_take (i := 5) (oi := ({ dst := some 83, op := Op.indexAddr 47 (Operand.tmp 81) (Operand.tmp 82), type := 0, pos := "region.go:121", after := #[{ on := 3, ground := Ground.data }, { on := 4, ground := Ground.data }], guard := none } : Oper)) (v := .pointer (some ⟨gy, oy + i, none⟩)) rfl (by kernel_rfl) (by kernel_rfl) (by kernel_rfl) (fun _ _ _ h => h) (Or.inl ⟨by rfl, ?_⟩) hHeld ?_
              · (intro w' hSw; (try dsimp only at hSw); clear hSw; go_simp; (try with_reducible rfl))
              try simp only [Act.put, List.setIfInBounds_toArray, List.set_cons_zero, List.set_cons_succ]
              refine wpAnyH_take (i := 6) (oi := ({ dst := some 84, op := Op.load 3 (Operand.tmp 83), type := 3, pos := "region.go:121", after := #[{ on := 5, ground := Ground.data }], guard := none } : Oper)) (v := .int .i64 y0) rfl (by kernel_rfl) (by kernel_rfl) (by kernel_rfl) (fun _ _ _ h => h) (Or.inl ⟨by rfl, ?_⟩) hHeld ?_
              · (intro w' hSw; (try dsimp only at hSw); have g := (hSw.cell (p := ⟨gy, oy + i, none⟩) (by show gy < _; have := Hgy.out; omega) (by show ¬ (_ = some gy); exact Gne.out)).trans cy0; clear hSw; go_simp; (try with_reducible rfl))
              try simp only [Act.put, List.setIfInBounds_toArray, List.set_cons_zero, List.set_cons_succ]
              refine wpAnyH_take (i := 7) (oi := ({ dst := some 85, op := Op.fieldAddr 63 (Operand.tmp 15) 1, type := 0, pos := "region.go:121", after := #[], guard := none } : Oper)) (v := .pointer (some ⟨N, 1, none⟩)) rfl (by kernel_rfl) (by kernel_rfl) (by kernel_rfl) (fun _ _ _ h => h) (Or.inl ⟨by rfl, ?_⟩) hHeld ?_
              · (intro w' hSw; (try dsimp only at hSw); clear hSw; go_simp; (try with_reducible rfl))
              try simp only [Act.put, List.setIfInBounds_toArray, List.set_cons_zero, List.set_cons_succ]
              refine wpAnyH_take (i := 8) (oi := ({ dst := some 86, op := Op.load 3 (Operand.tmp 85), type := 3, pos := "region.go:121", after := #[{ on := 7, ground := Ground.data }], guard := none } : Oper)) (v := .int .i64 sb) rfl (by kernel_rfl) (by kernel_rfl) (by kernel_rfl) (fun _ _ _ h => h) (Or.inl ⟨by rfl, ?_⟩) hHeld ?_
              · (intro w' hSw; (try dsimp only at hSw); have g := (hSw.cell (p := ⟨N, 1, none⟩) (by show N < _; have := Nlt.out; omega) (by show ¬ (_ = some N); exact Nne.out)).trans cb1; clear hSw; go_simp; (try with_reducible rfl))
              try simp only [Act.put, List.setIfInBounds_toArray, List.set_cons_zero, List.set_cons_succ]
              refine wpAnyH_take (i := 9) (oi := ({ dst := some 87, op := Op.move (Operand.tmp 10), type := 47, pos := "region.go:121", after := #[], guard := none } : Oper)) (v := .slice (some ⟨gy, oy, none⟩) ys.length cy) rfl (by kernel_rfl) (by kernel_rfl) (by kernel_rfl) (fun _ _ _ h => h) (Or.inl ⟨by rfl, ?_⟩) hHeld ?_
              · (intro w' hSw; (try dsimp only at hSw); clear hSw; go_simp; (try with_reducible rfl))
              try simp only [Act.put, List.setIfInBounds_toArray, List.set_cons_zero, List.set_cons_succ]
              refine wpAnyH_take (i := 10) (oi := ({ dst := some 88, op := Op.move (Operand.tmp 11), type := 3, pos := "region.go:121", after := #[], guard := none } : Oper)) (v := .int .i64 (i : Nat)) rfl (by kernel_rfl) (by kernel_rfl) (by kernel_rfl) (fun _ _ _ h => h) (Or.inl ⟨by rfl, ?_⟩) hHeld ?_
              · (intro w' hSw; (try dsimp only at hSw); clear hSw; go_simp; (try with_reducible rfl))
              try simp only [Act.put, List.setIfInBounds_toArray, List.set_cons_zero, List.set_cons_succ]
              refine wpAnyH_take (i := 11) (oi := ({ dst := some 89, op := Op.binOp BinOp.add 3 (Operand.tmp 88) (Operand.const (Value.int IntKind.i64 1)) 3, type := 3, pos := "region.go:121", after := #[{ on := 10, ground := Ground.data }], guard := none } : Oper)) (v := .int .i64 ((i : Int) + 1)) rfl (by kernel_rfl) (by kernel_rfl) (by kernel_rfl) (fun _ _ _ h => h) (Or.inl ⟨by rfl, ?_⟩) hHeld ?_
              · (intro w' hSw; (try dsimp only at hSw); clear hSw; go_simp; (try with_reducible rfl))
              try simp only [Act.put, List.setIfInBounds_toArray, List.set_cons_zero, List.set_cons_succ]
              refine wpAnyH_take (i := 12) (oi := ({ dst := some 90, op := Op.indexAddr 47 (Operand.tmp 87) (Operand.tmp 89), type := 0, pos := "region.go:121", after := #[{ on := 9, ground := Ground.data }, { on := 11, ground := Ground.data }], guard := none } : Oper)) (v := .pointer (some ⟨gy, oy + (i + 1), none⟩)) rfl (by kernel_rfl) (by kernel_rfl) (by kernel_rfl) (fun _ _ _ h => h) (Or.inl ⟨by rfl, ?_⟩) hHeld ?_
              · (intro w' hSw; (try dsimp only at hSw); clear hSw; go_simp; (try with_reducible rfl))
              try simp only [Act.put, List.setIfInBounds_toArray, List.set_cons_zero, List.set_cons_succ]
              refine wpAnyH_take (i := 13) (oi := ({ dst := some 91, op := Op.load 3 (Operand.tmp 90), type := 3, pos := "region.go:121", after := #[{ on := 12, ground := Ground.data }], guard := none } : Oper)) (v := .int .i64 y1) rfl (by kernel_rfl) (by kernel_rfl) (by kernel_rfl) (fun _ _ _ h => h) (Or.inl ⟨by rfl, ?_⟩) hHeld ?_
              · (intro w' hSw; (try dsimp only at hSw); have g := (hSw.cell (p := ⟨gy, oy + (i + 1), none⟩) (by show gy < _; have := Hgy.out; omega) (by show ¬ (_ = some gy); exact Gne.out)).trans cy1; clear hSw; go_simp; (try with_reducible rfl))
              try simp only [Act.put, List.setIfInBounds_toArray, List.set_cons_zero, List.set_cons_succ]
              refine wpAnyH_take (i := 14) (oi := ({ dst := some 92, op := Op.build 36 #[(0, Operand.tmp 80), (1, Operand.tmp 84), (2, Operand.tmp 86), (3, Operand.tmp 91)], type := 36, pos := "region.go:121", after := #[{ on := 2, ground := Ground.data }, { on := 6, ground := Ground.data }, { on := 8, ground := Ground.data }, { on := 13, ground := Ground.data }], guard := none } : Oper)) (v := .agg #[.int .i64 sa, .int .i64 y0, .int .i64 sb, .int .i64 y1]) rfl (by kernel_rfl) (by kernel_rfl) (by kernel_rfl) (fun _ _ _ h => h) (Or.inl ⟨by rfl, ?_⟩) hHeld ?_
              · (intro w' hSw; (try dsimp only at hSw); clear hSw; go_simp; (try with_reducible rfl))
              try simp only [Act.put, List.setIfInBounds_toArray, List.set_cons_zero, List.set_cons_succ]
              refine wpAnyH_ready (rs := [15]) (by kernel_rfl) (by simp) (AllReadyH.cons (o := ({ dst := some 93, op := Op.buildSlice 27 1 #[(0, Operand.tmp 92)], type := 27, pos := "region.go:121", after := #[{ on := 14, ground := Ground.data }], guard := none } : Oper)) rfl (fun K hK => ?_) AllReadyH.nil)
              go_simp
              refine hK _ _ (hHeld.trans' (Gou.Mod.alloc _ _ _)) (fun hHeld => ?_)
              clear hK K
              try simp only [Act.put, List.setIfInBounds_toArray, List.set_cons_zero, List.set_cons_succ]
              refine wpAnyH_ready (rs := [16]) (by kernel_rfl) (by simp) (AllReadyH.cons (o := ({ dst := some 94, op := Op.call { callee := Callee.builtin Builtin.append, args := #[Operand.tmp 78, Operand.tmp 93], argTypes := #[27, 27] }, type := 27, pos := "region.go:121", after := #[{ on := 0, ground := Ground.data }, { on := 15, ground := Ground.data }], guard := none } : Oper)) rfl (fun K hK => ?_) AllReadyH.nil)
              refine wp_append_row T_reg _ _ rfl w1.heap.size (.slice po o.length co) o.length (rts o) (fun _ => True) (.slice (some ⟨W3.heap.size, 0, none⟩) 1 1) 1 [.int .i64 sa, .int .i64 y0, .int .i64 sb, .int .i64 y1] rfl rfl (by have := Hm3.out.size; simp; omega)
                (own_up (own_up Hown3.out (Gou.Mod.drew _ _)) (Gou.Mod.alloc0 _ _)) (RowG.of_blk (Blk.new W3.drew 36 #[.int .i64 sa, .int .i64 y0, .int .i64 sb, .int .i64 y1]) 4 1 rfl _ trivial) (rtC_one ⟨sa, y0, sb, y1⟩) HF.out.1 HF.out.2 ?_
              intro v5 w5 G5
              have Hm5 := Lib.hid (G5.mod0 ((Hm3.out.trans' (Gou.Mod.drew _ _)).trans' (Gou.Mod.alloc0 _ _)) (own_ge Hown3.out))
              have Hl5 := Lib.hid (RowG.grown (((Hrow3.out.under (Gou.Mod.drew _ _))).under (Gou.Mod.alloc0 _ _)) G5)
              have Hown5 := Lib.hid G5.own
              have hS5 := hHeld.trans' G5.mod
              obtain ⟨p5, c5, rfl⟩ := Gou.ownsRow_form Hown5.out
              clear G5
              refine hK _ _ hS5 (fun hHeld => ?_)
              clear hK K
              try simp only [Act.put, List.setIfInBounds_toArray, List.set_cons_zero, List.set_cons_succ]
              refine wpAnyH_take (i := 17) (oi := ({ dst := some 7, op := Op.assign (Operand.tmp 94), type := 27, pos := "region.go:121", after := #[{ on := 16, ground := Ground.data }, { on := 16, ground := Ground.chain }, { on := 0, ground := Ground.phase }, { on := 1, ground := Ground.phase }, { on := 2, ground := Ground.phase }, { on := 3, ground := Ground.phase }, { on := 4, ground := Ground.phase }, { on := 5, ground := Ground.phase }, { on := 6, ground := Ground.phase }, { on := 7, ground := Ground.phase }, { on := 8, ground := Ground.phase }, { on := 9, ground := Ground.phase }, { on := 10, ground := Ground.phase }, { on := 11, ground := Ground.phase }, { on := 12, ground := Ground.phase }, { on := 13, ground := Ground.phase }, { on := 14, ground := Ground.phase }, { on := 15, ground := Ground.phase }, { on := 16, ground := Ground.phase }], guard := none } : Oper)) (v := .slice p5 (o.length + 1) c5) rfl (by kernel_rfl) (by kernel_rfl) (by kernel_rfl) (fun _ _ _ h => h) (Or.inl ⟨by rfl, ?_⟩) hHeld ?_
              · (intro w' hSw; (try dsimp only at hSw); clear hSw; go_simp; (try with_reducible rfl))
              try simp only [Act.put, List.setIfInBounds_toArray, List.set_cons_zero, List.set_cons_succ]
              refine wpAnyH_done (by kernel_rfl) ?_ _
              clear hHeld
              go_wp2_with fail
              go_roundw
              case rel =>
                refine ⟨k + 1, o ++ [⟨sa, y0, sb, y1⟩], by go_num, by have := Hk.out; omega, Hstep.out.symm, ?_, Hl5.out, Hm5.out⟩
                have h := Hown5.out
                simpa [rts, rtC] using h
              case measure => have := Hk.out; simp [intOf, wk]; omega
            · obtain rfl : k = row.length := by omega
              have t1 : decide ((row.length : Int) < (row.length : Int)) = false := decide_eq_false (by omega)
              rw [List.take_length] at Ho
              go_wp2_with fail
              go_roundw
              case rel =>
                refine ⟨i + 1, out.length, o, row, by go_num, rfl, ⟨fun _ => by rw [Ho.out]; exact Hrun.out, fun h => by have := Hi1.out; rw [h] at this; simp at this, fun h => by omega, Hown.out, Hrow.out, Hm.out, ?_, C3.out.2.2, .inl (by have := Hi1.out; omega)⟩⟩
                rw [Ho.out, List.length_append, bandOf_len, Nat.add_mul]
                have := HI.out.len
                have := C3.out.2.2
                omega
              case measure => have := Hi1.out; simp [intOf, wi]; omega
    · have e1 : decide ((i : Int) + 1 < (ys.length : Int)) = false := decide_eq_false (by omega)
      have Hend : Hid (CombP w a b f (.returned (.slice po out.length co)) wr) := Lib.hid (by
        refine ⟨Hm1.out.trans' HI.out.mod, _, out, rfl, ownsRow_base HI.out.own Hm1.out.size, ?_, ?_⟩
        · rcases HI.out.at_ with h | ⟨h, _⟩
          · exact (HI.out.run (by omega)).done HW.out.none Hup.out Hea.out Heb.out (by omega)
          · rw [HI.out.none h]
            exact reg_empty HW.out.none (by have := Hea.out; rwa [h] at this) (by have := Heb.out; rwa [h] at this)
        · refine Nat.le_trans HI.out.len (Nat.mul_le_mul_right _ ?_)
          have h1 := Hyl.out
          rcases HI.out.at_ with h | h <;> omega)
      go_wp2_with fail
      go_ret
      exact Hend.out
end Go.Proofs.Ytapeafokcailkaa
