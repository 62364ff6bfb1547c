/- Texts of the scenes' proofs, laid together: RfF, RfG, RfH, GetD, BackA, TzD, TzE, TzF, TzG, TzH, TzI. -/
import Derived.Test.YtgolafbneiffpaaGreatDoorZaq
import Derived.Deep.RegionHeld
import Derived.Great.BuildSlice
import Derived.Test.YtgolafbneiffpaaGreatDoorZap
import Derived.Lib.SplitLaws
import Derived.Test.YtgolafbneiffpaaGreatDoorRows
import Derived.Lib.LaidU8
import Derived.LaidHandle
import Derived.LaidSub
import Derived.Shelf.Vars
set_option maxHeartbeats 64000000
set_option linter.unusedSimpArgs false
set_option linter.unusedVariables false
set_option linter.unusedSectionVars false
set_option linter.constructorNameAsVariable false
namespace Go.Gou
open Go.RowKit
theorem ActsR.act {w : World} {p : Option Addr} {n c : Nat} {xs : List Ac} (h : ActsR w (.slice p n c) xs) (h0 : 0 < xs.length) :
  n = xs.length ∧ ∃ b o, p = some ⟨b, o, none⟩ ∧ b < w.heap.size ∧ ∀ i, (hi : i < xs.length) → ∃ p1 k1 p2 k2 p3 k3, w.rangeAt b (o + i * 42) (actC xs[i] (.slice p1 xs[i].op.look.content.pix.length k1) (.slice p2 xs[i].op.look.filt.nodes.length k2) (.slice p3 xs[i].op.look.back.nodes.length k3)).toList ∧ LookR (fun _ => True) w xs[i].op.look (.slice p1 xs[i].op.look.content.pix.length k1) (.slice p2 xs[i].op.look.filt.nodes.length k2) (.slice p3 xs[i].op.look.back.nodes.length k3) := by
 obtain ⟨p', c', e, hcap, h⟩ := h
 simp only [Value.slice.injEq] at e
 obtain ⟨rfl, rfl, rfl⟩ := e
 rcases h with h | ⟨b, o, rfl, hb, hc⟩
 ·omega
 ·refine ⟨rfl, b, o, rfl, hb, fun i hi => ?_⟩
  obtain ⟨vp, vf, vb, h1, h2⟩ := hc i hi
  obtain ⟨p1, k1, rfl, _⟩ := RowG.form h2.pix
  obtain ⟨p2, k2, rfl⟩ := h2.filt.form
  obtain ⟨p3, k3, rfl⟩ := h2.back.form
  exact ⟨p1, k1, p2, k2, p3, k3, fun j v hv => h1 j v (by rw [← agT]; exact hv), h2⟩
theorem ActsR.form {w : World} {v : Value} {xs : List Ac} (h : ActsR w v xs) : ∃ p c, v = .slice p xs.length c ∧ xs.length ≤ c := by
 obtain ⟨p, c, rfl, hc, _⟩ := h
 exact ⟨p, c, rfl, hc⟩
theorem ActsR.mod {S : Nat → Prop} {w w' : World} {v : Value} {xs : List Ac} (h : ActsR w v xs) (hm : Mod S w w') (hS : ∀ k, k < w.heap.size → ¬ S k) : ActsR w' v xs := by
 obtain ⟨p, c, rfl, hcap, h⟩ := h
 refine ⟨p, c, rfl, hcap, h.imp id ?_⟩
 rintro ⟨b, o, rfl, hb, hc⟩
 refine ⟨b, o, rfl, Nat.lt_of_lt_of_le hb hm.size, fun i hi => ?_⟩
 obtain ⟨vp, vf, vb, h1, h2⟩ := hc i hi
 exact ⟨vp, vf, vb, fun j u hu => by rw [hm.cell (p := ⟨b, o + i * 42 + j, none⟩) hb (hS b hb)]; exact h1 j u hu, h2.mod hm fun k hk _ => hS k hk⟩
theorem ActsR.take {w : World} {p : Option Addr} {n c : Nat} {xs : List Ac} (h : ActsR w (.slice p n c) xs) (k : Nat) (hk : k ≤ xs.length) (c' : Nat) (hc' : k ≤ c') : ActsR w (.slice p k c') (xs.take k) := by
 obtain ⟨p', c0, e, hcap, h⟩ := h
 simp only [Value.slice.injEq] at e
 obtain ⟨rfl, rfl, rfl⟩ := e
 refine ⟨p, c', by simp; omega, by simp; omega, ?_⟩
 rcases h with h | ⟨b, o, rfl, hb, hc⟩
 ·left; simp; omega
 ·refine .inr ⟨b, o, rfl, hb, fun i hi => ?_⟩
  have hi' : i < xs.length := by simp at hi; omega
  obtain ⟨vp, vf, vb, h1, h2⟩ := hc i hi'
  rw [List.getElem_take]
  exact ⟨vp, vf, vb, h1, h2⟩
theorem ActsV.toR {TA : TypeId} {base : Nat} {w : World} {v : Value} {xs : List Ac} (h : ActsV TA base w v xs) : ActsR w v xs := by
 obtain ⟨cs, lo, hi, hown, hin, _⟩ := h
 have hlt := hown.lt
 obtain ⟨hl, h⟩ := hown
 rcases h with ⟨rfl, h0⟩ | ⟨g, cap, cur, rfl, hg, hh, hn, _, _, ht⟩
 ·obtain rfl := List.length_eq_zero_iff.1 h0
  exact ⟨none, 0, rfl, Nat.le_refl _, .inl rfl⟩
 ·refine ⟨_, cap, rfl, hn, .inr ⟨g, 0, rfl, (hlt g rfl).2, fun i hi' => ?_⟩⟩
  obtain ⟨vp, vf, vb, h1, h2, _⟩ := hin.at_ i hi'
  refine ⟨vp, vf, vb, fun j u hu => ?_, h2.imp fun _ _ _ => trivial⟩
  have hj : j < 42 := by
   have := (Array.getElem?_eq_some_iff.1 hu).1
   simpa [actC] using this
  have hc := h1 j hj
  rw [hu] at hc
  rw [Nat.zero_add, cell_of_row w g _ cur _ (0, 0) hh, ← agT, ← hc, ← ht, List.getElem?_take, if_pos (by
   have : (i + 1) * 42 ≤ xs.length * 42 := Nat.mul_le_mul_right _ (by omega)
   omega)]
end Go.Gou
namespace Go.Proofs.YtgolafbneiffpaaGreatDoor
open Go.RowKit Go.Gou
set_option maxRecDepth 100000
theorem upy (w : World) (r1 r2 : Option Addr) (c1 c2 : Nat) (xs ys : List Ac) (hx : ActsR w (.slice r1 xs.length c1) xs) (hy : ActsR w (.slice r2 ys.length c2) ys) (bx : ∀ x ∈ xs, LookBorne x.op.look) (by_ : ∀ x ∈ ys, LookBorne x.op.look) (hl : xs.length ≤ 1000000000) (hl2 : ys.length ≤ 1000000000) :
  Calls Tryz.prog 12 #[.slice r1 xs.length c1, .slice r2 ys.length c2] w fun e w' => e = .returned (.bool (decide (xs = ys))) ∧ Gou.Mod (fun _ => False) w w' := by
 have Hx := hd' hx
 have Hy := hd' hy
 have BX := hd' bx
 have BY := hd' by_
 have HL := hd' hl
 clear hx hy bx by_
 go_enter Tryz.func12, Tryz.ntmps12
 by_cases hlen : xs.length = ys.length
 ·have e1 : ((xs.length : Int) != (ys.length : Int)) = false := by simp [hlen]
  have Hlen := hd' hlen
  clear hlen
  go_wp2_with fail
  go_loopw [5] (fun c wr => ∃ i : Nat, c = iV i ∧ i ≤ xs.length ∧ xs.take i = ys.take i ∧ Gou.Mod (fun _ => False) w wr) (fun c _ => xs.length - (intOf c).toNat)
  case atStart => exact ⟨0, rfl, by omega, by simp, Gou.Mod.refl _ _⟩
  case round =>
   obtain ⟨i, rfl, hi, ht, hm⟩ := hrel
   have Ht := hd' ht
   have Hm := hd' hm
   clear ht hm
   by_cases hil : i < xs.length
   ·have e2 : decide ((i : Int) < (xs.length : Int)) = true := by simp; omega
    have hil2 : i < ys.length := by have := Hlen.o; omega
    obtain ⟨-, b1, o1, rfl, hb1, hc1⟩ := Hx.o.act (by omega)
    obtain ⟨-, b2, o2, rfl, hb2, hc2⟩ := Hy.o.act (by omega)
    obtain ⟨p1, k1, p2, k2, p3, k3, h1, l1⟩ := hc1 i hil
    obtain ⟨q1, j1, q2, j2, q3, j3, h2, l2⟩ := hc2 i hil2
    have hiI : (i : Int) < (xs.length : Int) := by omega
    have hiJ : (i : Int) < (ys.length : Int) := by omega
    have hi0I : (0 : Int) ≤ (i : Int) := by omega
    have Bx := hd' (BX.o _ (lgM hil))
    have By := hd' (BY.o _ (lgM hil2))
    have Hne := hd' (fun he => uet (i := i) hil hil2 he : xs[i] ≠ ys[i] → xs ≠ ys)
    have Heq := hd' (fun he => uci hil hil2 Ht.o he : xs[i] = ys[i] → xs.take (i + 1) = ys.take (i + 1))
    clear hc1 hc2
    generalize xs[i] = x at *
    generalize ys[i] = y at *
    have HS : Hid (∀ w' : World, Gou.Mod (fun _ => False) w w' → w'.rangeAt b1 (o1 + i * 42) (actC x (.slice p1 x.op.look.content.pix.length k1) (.slice p2 x.op.look.filt.nodes.length k2) (.slice p3 x.op.look.back.nodes.length k3)).toList ∧ w'.rangeAt b2 (o2 + i * 42) (actC y (.slice q1 y.op.look.content.pix.length j1) (.slice q2 y.op.look.filt.nodes.length j2) (.slice q3 y.op.look.back.nodes.length j3)).toList) := hd' (fun w' hm => ⟨fun j v hv => (hm.cell (p := ⟨b1, o1 + i * 42 + j, none⟩) hb1 (fun h => h)).trans (h1 j v hv), fun j v hv => (hm.cell (p := ⟨b2, o2 + i * 42 + j, none⟩) hb2 (fun h => h)).trans (h2 j v hv)⟩)
    have Hl1 := hd' ((l1.mod Hm.o (fun _ _ _ h => h)).mod (Gou.Mod.drew (fun _ => False) wr) (fun _ _ _ h => h))
    have Hl2 := hd' ((l2.mod Hm.o (fun _ _ _ h => h)).mod (Gou.Mod.drew (fun _ => False) wr) (fun _ _ _ h => h))
    clear h1 h2 l1 l2
    go_wp2_with fail
    refine wp_region_held_drew (S := (fun w' => w'.rangeAt b1 (o1 + i * 42) (actC x (.slice p1 x.op.look.content.pix.length k1) (.slice p2 x.op.look.filt.nodes.length k2) (.slice p3 x.op.look.back.nodes.length k3)).toList ∧ w'.rangeAt b2 (o2 + i * 42) (actC y (.slice q1 y.op.look.content.pix.length j1) (.slice q2 y.op.look.filt.nodes.length j2) (.slice q3 y.op.look.back.nodes.length j3)).toList)) (by kernel_rfl) (HS.o _ (Hm.o.trans' (Gou.Mod.drew _ _))) (fun hH => ?_)
    refine wpAnyH_take (i := 0) (oi := ({ dst := some 17, op := Op.move (Operand.tmp 0), type := 49, pos := "ref.go:395", after := #[], guard := none } : Oper)) (v := .slice (some ⟨b1, o1, none⟩) xs.length c1) rfl (by kernel_rfl) (by kernel_rfl) (by kernel_rfl) (fun _ _ _ h => h) (Or.inl ⟨by rfl, ?_⟩) hH ?_
    ·(intro w' hSw; (try dsimp only at hSw); clear hSw; go_simp; (try with_reducible rfl))
    try simp only [Act.put, List.setIfInBounds_toArray, List.set_cons_zero, List.set_cons_succ]
    refine wpAnyH_take (i := 1) (oi := ({ dst := some 18, op := Op.move (Operand.tmp 5), type := 3, pos := "ref.go:395", after := #[], guard := none } : Oper)) (v := iV (i : Nat)) rfl (by kernel_rfl) (by kernel_rfl) (by kernel_rfl) (fun _ _ _ h => h) (Or.inl ⟨by rfl, ?_⟩) hH ?_
    ·(intro w' hSw; (try dsimp only at hSw); clear hSw; go_simp; (try with_reducible rfl))
    try simp only [Act.put, List.setIfInBounds_toArray, List.set_cons_zero, List.set_cons_succ]
    refine wpAnyH_take (i := 2) (oi := ({ dst := some 19, op := Op.indexAddr 49 (Operand.tmp 17) (Operand.tmp 18), type := 0, pos := "ref.go:395", after := #[{ on := 0, ground := Ground.data }, { on := 1, ground := Ground.data }], guard := none } : Oper)) (v := .pointer (some ⟨b1, o1 + i * 42, none⟩)) rfl (by kernel_rfl) (by kernel_rfl) (by kernel_rfl) (fun _ _ _ h => h) (Or.inl ⟨by rfl, ?_⟩) hH ?_
    ·(intro w' hSw; (try dsimp only at hSw); clear hSw; go_simp; (try with_reducible rfl))
    try simp only [Act.put, List.setIfInBounds_toArray, List.set_cons_zero, List.set_cons_succ]
    refine wpAnyH_take (i := 3) (oi := ({ dst := some 20, op := Op.load 41 (Operand.tmp 19), type := 41, pos := "ref.go:395", after := #[{ on := 2, ground := Ground.data }], guard := none } : Oper)) (v := .agg (actC x (.slice p1 x.op.look.content.pix.length k1) (.slice p2 x.op.look.filt.nodes.length k2) (.slice p3 x.op.look.back.nodes.length k3))) rfl (by kernel_rfl) (by kernel_rfl) (by kernel_rfl) (fun _ _ _ h => h) (yieldsIf_load_mid (by rfl) 41 _ rfl b1 (o1 + i * 42) rfl (actC x (.slice p1 x.op.look.content.pix.length k1) (.slice p2 x.op.look.filt.nodes.length k2) (.slice p3 x.op.look.back.nodes.length k3)).toList _ (fun w' hSw => hSw.1) Tryz.underlying41 rfl (size_act.trans (by simp [actC]))) hH ?_
    try simp only [Act.put, List.setIfInBounds_toArray, List.set_cons_zero, List.set_cons_succ]
    refine wpAnyH_take (i := 4) (oi := ({ dst := some 21, op := Op.move (Operand.tmp 1), type := 49, pos := "ref.go:395", after := #[], guard := none } : Oper)) (v := .slice (some ⟨b2, o2, none⟩) ys.length c2) rfl (by kernel_rfl) (by kernel_rfl) (by kernel_rfl) (fun _ _ _ h => h) (Or.inl ⟨by rfl, ?_⟩) hH ?_
    ·(intro w' hSw; (try dsimp only at hSw); clear hSw; go_simp; (try with_reducible rfl))
    try simp only [Act.put, List.setIfInBounds_toArray, List.set_cons_zero, List.set_cons_succ]
    refine wpAnyH_take (i := 5) (oi := ({ dst := some 22, op := Op.move (Operand.tmp 5), type := 3, pos := "ref.go:395", after := #[], guard := none } : Oper)) (v := iV (i : Nat)) rfl (by kernel_rfl) (by kernel_rfl) (by kernel_rfl) (fun _ _ _ h => h) (Or.inl ⟨by rfl, ?_⟩) hH ?_
    ·(intro w' hSw; (try dsimp only at hSw); clear hSw; go_simp; (try with_reducible rfl))
    try simp only [Act.put, List.setIfInBounds_toArray, List.set_cons_zero, List.set_cons_succ]
    refine wpAnyH_take (i := 6) (oi := ({ dst := some 23, op := Op.indexAddr 49 (Operand.tmp 21) (Operand.tmp 22), type := 0, pos := "ref.go:395", after := #[{ on := 4, ground := Ground.data }, { on := 5, ground := Ground.data }], guard := none } : Oper)) (v := .pointer (some ⟨b2, o2 + i * 42, none⟩)) rfl (by kernel_rfl) (by kernel_rfl) (by kernel_rfl) (fun _ _ _ h => h) (Or.inl ⟨by rfl, ?_⟩) hH ?_
    ·(intro w' hSw; (try dsimp only at hSw); clear hSw; go_simp; (try with_reducible rfl))
    try simp only [Act.put, List.setIfInBounds_toArray, List.set_cons_zero, List.set_cons_succ]
    refine wpAnyH_take (i := 7) (oi := ({ dst := some 24, op := Op.load 41 (Operand.tmp 23), type := 41, pos := "ref.go:395", after := #[{ on := 6, ground := Ground.data }], guard := none } : Oper)) (v := .agg (actC y (.slice q1 y.op.look.content.pix.length j1) (.slice q2 y.op.look.filt.nodes.length j2) (.slice q3 y.op.look.back.nodes.length j3))) rfl (by kernel_rfl) (by kernel_rfl) (by kernel_rfl) (fun _ _ _ h => h) (yieldsIf_load_mid (by rfl) 41 _ rfl b2 (o2 + i * 42) rfl (actC y (.slice q1 y.op.look.content.pix.length j1) (.slice q2 y.op.look.filt.nodes.length j2) (.slice q3 y.op.look.back.nodes.length j3)).toList _ (fun w' hSw => hSw.2) Tryz.underlying41 rfl (size_act.trans (by simp [actC]))) hH ?_
    try simp only [Act.put, List.setIfInBounds_toArray, List.set_cons_zero, List.set_cons_succ]
    refine wpAnyH_ready (rs := [8]) (by kernel_rfl) (by simp) (AllReadyH.cons (o := ({ dst := some 25, op := Op.call { callee := Callee.value (Operand.func 27), args := #[Operand.tmp 20, Operand.tmp 24], argTypes := #[41, 41] }, type := 4, pos := "ref.go:395", after := #[{ on := 3, ground := Ground.data }, { on := 7, ground := Ground.data }], guard := none } : Oper)) rfl (fun K hK => ?_) AllReadyH.nil)
    go_simp
    refine (actR_any _ _ _ p1 p2 p3 q1 q2 q3 k1 k2 k3 j1 j2 j3 x y Hl1.o Hl2.o Bx.o By.o).mono ?_
    rintro e w5 ⟨rfl, hm5⟩
    have Hm5 : Hid (Gou.Mod (fun _ => False) w w5) := hd' (Hm.o.trans' ((Gou.Mod.drew _ _).trans' hm5))
    clear hm5 hH
    refine hK _ _ (HS.o _ Hm5.o) (fun hH => ?_)
    clear hK K
    try simp only [Act.put, List.setIfInBounds_toArray, List.set_cons_zero, List.set_cons_succ]
    by_cases hxy : x = y
    ·have Hs := hd' (Heq.o hxy)
     have hd : decide (x = y) = true := by simp [hxy]
     clear hxy
     generalize decide (x = y) = q at *
     subst hd
     refine wpAnyH_take (i := 9) (oi := ({ dst := some 26, op := Op.unOp UnOp.not 4 (Operand.tmp 25), type := 4, pos := "ref.go:395", after := #[{ on := 8, ground := Ground.data }], guard := none } : Oper)) (v := .bool false) rfl (by kernel_rfl) (by kernel_rfl) (by kernel_rfl) (fun _ _ _ h => h) (Or.inl ⟨by rfl, ?_⟩) hH ?_
     ·(intro w' hSw; (try dsimp only at hSw); clear hSw; go_simp; (try with_reducible rfl))
     try simp only [Act.put, List.setIfInBounds_toArray, List.set_cons_zero, List.set_cons_succ]
     refine wpAnyH_done (by kernel_rfl) ?_ _
     clear hH
     go_wp2_with fail
     have hl' := HL.o
     go_roundw
     case rel => exact ⟨i + 1, by go_num, by omega, Hs.o, Hm5.o⟩
     case measure => simp [intOf]; omega
    ·have Hs := hd' (Hne.o hxy)
     have hd : decide (x = y) = false := by simp [hxy]
     clear hxy
     generalize decide (x = y) = q at *
     subst hd
     refine wpAnyH_take (i := 9) (oi := ({ dst := some 26, op := Op.unOp UnOp.not 4 (Operand.tmp 25), type := 4, pos := "ref.go:395", after := #[{ on := 8, ground := Ground.data }], guard := none } : Oper)) (v := .bool true) rfl (by kernel_rfl) (by kernel_rfl) (by kernel_rfl) (fun _ _ _ h => h) (Or.inl ⟨by rfl, ?_⟩) hH ?_
     ·(intro w' hSw; (try dsimp only at hSw); clear hSw; go_simp; (try with_reducible rfl))
     try simp only [Act.put, List.setIfInBounds_toArray, List.set_cons_zero, List.set_cons_succ]
     refine wpAnyH_done (by kernel_rfl) ?_ _
     clear hH
     go_wp2_with fail
     go_ret
     exact ⟨by simp [Hs.o], Hm5.o⟩
   ·obtain rfl : i = xs.length := by omega
    have e2 : decide ((xs.length : Int) < (xs.length : Int)) = false := by simp
    have Hs : Hid (xs = ys) := hd' (by
     have h1 := Ht.o
     rw [List.take_length, Hlen.o, List.take_length] at h1
     exact h1)
    go_wp2_with fail
    go_ret
    exact ⟨by simp [Hs.o], Hm.o⟩
 ·have e1 : ((xs.length : Int) != (ys.length : Int)) = true := by simp; omega
  have Hs : Hid (xs ≠ ys) := hd' (fun h => hlen (by rw [h]))
  clear hlen
  go_wp2_with fail
  go_ret
  exact ⟨by simp [Hs.o], Gou.Mod.refl _ _⟩
end Go.Proofs.YtgolafbneiffpaaGreatDoor
namespace Go.Gou
open Go.RowKit
theorem BytesAt.take {G : Nat → Prop} {w : World} {p : Option Addr} {c n : Nat} {bs : List Nat} (h : BytesAt G w (.slice p n c) bs) (k : Nat) (hk : k ≤ bs.length) : BytesAt G w (.slice p k c) (bs.take k) := by
 obtain ⟨p', c', e, hcap, h⟩ := h
 simp only [Value.slice.injEq] at e
 obtain ⟨rfl, rfl, rfl⟩ := e
 have hl : (bs.take k).length = k := by simp; omega
 refine ⟨p, c, by rw [hl], by omega, ?_⟩
 rcases h with rfl | ⟨b, o, rfl, hb, hG, hc⟩
 ·left; simp
 ·refine .inr ⟨b, o, rfl, hb, hG, fun i hi => ?_⟩
  rw [hc i (by omega)]
  simp
end Go.Gou
namespace Go.Proofs.YtgolafbneiffpaaGreatDoor
open Go.RowKit Go.Gou
end Go.Proofs.YtgolafbneiffpaaGreatDoor
namespace Go.Gou
open Go.RowKit
def Written : List Ac → List Nat → Prop
 | [], bs => bs = []
 | a :: r, bs => ∃ es rest, uk6 a = some es ∧ PxSmall a.op.look.content ∧ LookBorne a.op.look ∧ bs = es ++ rest ∧ Written r rest
theorem Written.snoc {xs : List Ac} {bs : List Nat} (h : Written xs bs) {a : Ac} {es : List Nat} (hp : uk6 a = some es) (hs : PxSmall a.op.look.content) (hb : LookBorne a.op.look) : Written (xs ++ [a]) (bs ++ es) := by
 induction xs generalizing bs with
 | nil => obtain rfl : bs = [] := h; exact ⟨es, [], hp, hs, hb, by simp, rfl⟩
 | cons x r ih =>
  obtain ⟨e1, rest, h1, h2, h3, rfl, h4⟩ := h
  exact ⟨e1, rest ++ es, h1, h2, h3, by rw [List.append_assoc], ih h4⟩
theorem Written.small {xs : List Ac} {bs : List Nat} (h : Written xs bs) : ∀ b ∈ bs, b < 256 := by
 induction xs generalizing bs with
 | nil => obtain rfl : bs = [] := h; intro b hb; cases hb
 | cons x r ih =>
  obtain ⟨e1, rest, h1, h2, h3, rfl, h4⟩ := h
  obtain ⟨e2, he2, hp⟩ := Option.bind_eq_some_iff.1 (show (ukf x).bind _ = some e1 from h1)
  obtain ⟨_, _, hp⟩ := Option.bind_eq_some_iff.1 hp
  split at hp
  ·simp only [Option.some.injEq] at hp
   subst hp
   intro b hb
   exact (List.mem_append.1 hb).elim ((umx he2 h2).2 b) (ih h4 b)
  ·cases hp
theorem Written.borne {xs : List Ac} {bs : List Nat} (h : Written xs bs) : ∀ x ∈ xs, LookBorne x.op.look := by
 induction xs generalizing bs with
 | nil => intro b hb; cases hb
 | cons x r ih =>
  obtain ⟨e1, rest, h1, h2, h3, rfl, h4⟩ := h
  intro y hy
  rcases List.mem_cons.1 hy with rfl | hy
  ·exact h3
  ·exact ih h4 y hy
theorem Written.reads {xs : List Ac} {bs : List Nat} (h : Written xs bs) : ∀ pre : List Nat, (∀ b ∈ pre, b < 256) → Reads (pre ++ bs) xs pre.length (pre ++ bs).length := by
 induction xs generalizing bs with
 | nil => obtain rfl : bs = [] := h; intro pre _; show pre.length = (pre ++ []).length; simp
 | cons x r ih =>
  intro pre hpre
  have hsm := h.small
  obtain ⟨e1, rest, h1, h2, h3, rfl, h4⟩ := h
  have hb : ∀ b ∈ pre ++ (e1 ++ rest), b < 256 := fun b hb => (List.mem_append.1 hb).elim (hpre b) (hsm b)
  have := ih h4 (pre ++ e1) (fun b hb => (List.mem_append.1 hb).elim (hpre b) fun h => hsm b (List.mem_append_left _ h))
  rw [List.append_assoc, List.length_append] at this
  refine ⟨pre.length + e1.length, uph hb h2 h1 ⟨rest, by rw [List.drop_left]⟩, this⟩
structure WantIn (G : Nat → Prop) (w : World) (cs : List Value) (xs : List Ac) : Prop where
 len : cs.length = xs.length * 42
 at_ : ∀ i, (h : i < xs.length) → ∃ vp vf vb, (∀ j, j < 42 → cs[i * 42 + j]? = (actC xs[i] vp vf vb)[j]?) ∧ LookR G w xs[i].op.look vp vf vb
theorem WantIn.nil (G : Nat → Prop) (w : World) : WantIn G w [] [] := ⟨rfl, fun i h => by simp at h⟩
theorem WantIn.mod {G S : Nat → Prop} {w w' : World} {cs : List Value} {xs : List Ac} (h : WantIn G w cs xs) (hm : Mod S w w') (hS : ∀ k, k < w.heap.size → G k → ¬ S k) : WantIn G w' cs xs :=
 ⟨h.len, fun i hi => by
  obtain ⟨vp, vf, vb, h1, h2⟩ := h.at_ i hi
  exact ⟨vp, vf, vb, h1, h2.mod hm hS⟩⟩
theorem WantIn.snoc {G : Nat → Prop} {w : World} {cs : List Value} {xs : List Ac} (h : WantIn G w cs xs) {a : Ac} {vp vf vb : Value} (hl : LookR G w a.op.look vp vf vb) : WantIn G w (cs ++ (actC a vp vf vb).toList) (xs ++ [a]) := by
 have hc : (actC a vp vf vb).toList.length = 42 := by simp [actC]
 refine ⟨by rw [List.length_append, h.len, hc, List.length_append]; simp; omega, fun i hi => ?_⟩
 by_cases hin : i < xs.length
 ·obtain ⟨up, uf, ub, h1, h2⟩ := h.at_ i hin
  rw [List.getElem_append_left hin]
  refine ⟨up, uf, ub, fun j hj => ?_, h2⟩
  rw [lgL (by rw [h.len]; have : (i + 1) * 42 ≤ xs.length * 42 := Nat.mul_le_mul_right _ (by omega); omega)]
  exact h1 j hj
 ·have hi' : i = xs.length := by simp at hi; omega
  subst hi'
  have hg : (xs ++ [a])[xs.length] = a := by simp
  rw [hg]
  refine ⟨vp, vf, vb, fun j hj => ?_, hl⟩
  rw [lgR (by rw [h.len]; omega), h.len, Nat.add_sub_cancel_left, agT]
theorem WantIn.toR {G : Nat → Prop} {TA : TypeId} {base : Nat} {w : World} {v : Value} {cs : List Value} {xs : List Ac} (h : WantIn G w cs xs) (hown : w.ownsRow base TA 42 v xs.length cs) : ActsR w v xs := by
 have hlt := hown.lt
 obtain ⟨hl, ho⟩ := hown
 rcases ho with ⟨rfl, h0⟩ | ⟨g, cap, cur, rfl, hg, hh, hn, _, _, ht⟩
 ·obtain rfl := List.length_eq_zero_iff.1 h0
  exact ⟨none, 0, rfl, Nat.le_refl _, .inl rfl⟩
 ·refine ⟨_, cap, rfl, hn, .inr ⟨g, 0, rfl, (hlt g rfl).2, fun i hi' => ?_⟩⟩
  obtain ⟨vp, vf, vb, h1, h2⟩ := h.at_ i hi'
  refine ⟨vp, vf, vb, fun j u hu => ?_, h2.imp fun _ _ _ => trivial⟩
  have hj : j < 42 := by
   have := (Array.getElem?_eq_some_iff.1 hu).1
   simpa [actC] using this
  have hc := h1 j hj
  rw [hu] at hc
  rw [Nat.zero_add, cell_of_row w g _ cur _ (0, 0) hh, ← agT, ← hc, ← ht, List.getElem?_take, if_pos (by
   have : (i + 1) * 42 ≤ xs.length * 42 := Nat.mul_le_mul_right _ (by omega)
   omega)]
end Go.Gou
namespace Go.Proofs.YtgolafbneiffpaaGreatDoor
open Go.RowKit Go.Gou
set_option maxRecDepth 100000
theorem upi {ops : Array Oper} {rest : List Oper} {o : Oper} {a : Act} {w : World} {Q : Exit → Act → World → Prop} (hg : o.guard = none) (x : Operand) (ho : o.op = .buildSlice 49 1 #[(0, x)])
  (d : Ac) (p1 p2 p3 : Option Addr) (n1 n2 n3 k1 k2 k3 : Nat) (hx : a.eval x = .agg (actC d (.slice p1 n1 k1) (.slice p2 n2 k2) (.slice p3 n3 k3)))
  (h : wpList Tryz.prog ops Q rest (a.put o.dst (.slice (some ⟨w.heap.size, 0, none⟩) 1 1)) (w.alloc (.cells (actC d (.slice p1 n1 k1) (.slice p2 n2 k2) (.slice p3 n3 k3)) 41))) : wpList Tryz.prog ops Q (o :: rest) a w := by
 obtain ⟨iA, hiA, hz0, hz1, hz2⟩ := info_parts uvc
 exact upr hg 49 41 x ho _ hx iA _ Tryz.underlying49 hiA hz0 (by rw [hz1]; simp [actC]) (by simp [Value.cells, actC]) (by simp [actC]) (by simp [actC]) h
theorem uo3 {ops : Array Oper} {rest : List Oper} {o : Oper} {a : Act} {w : World} {Q : Exit → Act → World → Prop} (hg : o.guard = none) (s x : Operand) (ho : o.op = .call { callee := .builtin .append, args := #[s, x], argTypes := #[49, 49] })
  (base : Nat) (v : Value) (n : Nat) (cs : List Value) (B : Nat) (d : Ac) (p1 p2 p3 : Option Addr) (n1 n2 n3 k1 k2 k3 : Nat) (hs : a.eval s = v) (hx : a.eval x = .slice (some ⟨B, 0, none⟩) 1 1) (hown : w.ownsRow base 41 42 v n cs)
  (hB : w.heap[B]? = some (.cells (actC d (.slice p1 n1 k1) (.slice p2 n2 k2) (.slice p3 n3 k3)) 41 (0, 0))) (hn : n ≤ 100000000) (hbase : base ≤ w.heap.size)
  (h : ∀ g cap w', w'.ownsRow base 41 42 (.slice (some ⟨g, 0, none⟩) (n + 1) cap) (n + 1) (cs ++ (actC d (.slice p1 n1 k1) (.slice p2 n2 k2) (.slice p3 n3 k3)).toList) → Gou.Mod (fun k => v.ownBlock = some k) w w' → (v.ownBlock = some g ∨ w.heap.size ≤ g) → wpList Tryz.prog ops Q rest (a.put o.dst (.slice (some ⟨g, 0, none⟩) (n + 1) cap)) w') : wpList Tryz.prog ops Q (o :: rest) a w := by
 obtain ⟨iA, hiA, hz0, hz1, hz2⟩ := info_parts uvc
 refine wpList_append_lies w hg s x 49 ho base 41 iA _ 42 336 Tryz.underlying49 hiA hz0 hz1 hz2 (by simp [Value.cells]) (by omega) v n cs hs hown ⟨B, 0, none⟩ 1 1 (actC d (.slice p1 n1 k1) (.slice p2 n2 k2) (.slice p3 n3 k3)).toList hx (by simp [actC]) (un2 hB rfl) (fun u hu => by
  have h1 := ukj d p1 n1 k1 p2 n2 k2 p3 n3 k3
  rw [Array.all_eq_true_iff_forall_mem] at h1
  exact h1 u (by simpa using hu)) (by omega) (by unfold maxLen; omega) (by omega) hbase _ rfl (fun g cap w' h1 h2 h3 h4 => h g cap w' h1 (Gou.Mod.of_grown h2) (h3.imp id fun e => by omega))
end Go.Proofs.YtgolafbneiffpaaGreatDoor
namespace Go.Txt
open Go Go.Gou
theorem uop : ∀ (s : List UInt8), (uko s).length ≤ s.length + 1 ∧ ∀ l ∈ uko s, l.length ≤ s.length
 | [] => ⟨by simp [uko], fun l hl => by simp [uko] at hl; simp [hl]⟩
 | c :: r => by
  have ih := uop r
  rw [uko]
  split
  ·refine ⟨by simp; omega, fun l hl => ?_⟩
   rcases List.mem_cons.1 hl with rfl | hl
   ·simp
   ·have := ih.2 l hl
    simp
    omega
  ·split
   ·rename_i h t he
    rw [he] at ih
    refine ⟨by have := ih.1; simp at this ⊢; omega, fun l hl => ?_⟩
    rcases List.mem_cons.1 hl with rfl | hl
    ·have := ih.2 h List.mem_cons_self
     simp
     omega
    ·have := ih.2 l (List.mem_cons_of_mem _ hl)
     simp
     omega
   ·exact ⟨by simp, fun l hl => by simp at hl; simp [hl]⟩
theorem un9 : ∀ (l : List UInt8) (acc : Wd), (ukl acc l).length ≤ l.length + 1 ∧ ∀ u ∈ ukl acc l, u.length ≤ acc.length + l.length
 | [], acc => by
  rw [ukl]
  split
  ·exact ⟨by simp, fun u hu => by cases hu⟩
  ·exact ⟨by simp, fun u hu => by simp at hu; simp [hu]⟩
 | c :: r, acc => by
  rw [ukl]
  split
  ·have ih := un9 r []
   split
   ·refine ⟨by have := ih.1; simp; omega, fun u hu => ?_⟩
    have := ih.2 u hu
    simp at this ⊢
    omega
   ·refine ⟨by have := ih.1; simp; omega, fun u hu => ?_⟩
    rcases List.mem_cons.1 hu with rfl | hu
    ·simp
    ·have := ih.2 u hu
     simp at this ⊢
     omega
  ·have ih := un9 r (acc ++ [c])
   refine ⟨by have := ih.1; simp; omega, fun u hu => ?_⟩
   have := ih.2 u hu
   simp at this ⊢
   omega
theorem utu {l : List UInt8} {ws : List Wd} (h : uli l = some ws) : ws.length ≤ l.length + 1 ∧ ∀ u ∈ ws, u.length ≤ l.length := by
 unfold uli at h
 split at h
 ·cases h
  have h1 := un9 (unr l) []
  have h2 : (unr l).length ≤ l.length := (List.takeWhile_sublist _).length_le
  refine ⟨by have := h1.1; omega, fun u hu => ?_⟩
  have := h1.2 u hu
  simp at this
  omega
 ·cases h
end Go.Txt
namespace Go.Proofs.YtgolafbneiffpaaGreatDoor
open Go.RowKit Go.Gou Go.Txt
set_option maxRecDepth 100000
def TGetP (w : World) (r : List Ac × Option Nat) (e : Ending) (w' : World) : Prop :=
 Gou.Mod (fun _ => False) w w' ∧ ∃ p c, e = .returned (.tuple #[.slice p r.1.length c, iV ((r.2.getD 0 : Nat) : Int), iV (if r.2.isSome then 2 else 0)]) ∧ ActsR w' (.slice p r.1.length c) r.1
structure GT (w1 : World) (ls : List (List UInt8)) (wr : World) (i : Nat) (xs : List Ac) (va : Value) (cs : List Value) : Prop where
 mod : Gou.Mod (fun _ => False) w1 wr
 own : wr.ownsRow w1.heap.size 41 42 va xs.length cs
 want : WantIn (fun b => w1.heap.size ≤ b ∧ va.ownBlock ≠ some b) wr cs xs
 le : xs.length ≤ i
theorem _root_.Go.Gou.WantIn.imp {G G' : Nat → Prop} {w : World} {cs : List Value} {xs : List Ac} (h : WantIn G w cs xs) (hG : ∀ k, k < w.heap.size → G k → G' k) : WantIn G' w cs xs :=
 ⟨h.len, fun i hi => by
  obtain ⟨vp, vf, vb, h1, h2⟩ := h.at_ i hi
  exact ⟨vp, vf, vb, h1, h2.imp hG⟩⟩
theorem GT.other {w1 : World} {ls : List (List UInt8)} {wr w2 : World} {i : Nat} {xs : List Ac} {va : Value} {cs : List Value} (h : GT w1 ls wr i xs va cs) (hm : Gou.Mod (fun _ => False) wr w2) : GT w1 ls w2 i xs va cs :=
 ⟨h.mod.trans' hm, uac h.own hm (fun _ _ h => h), h.want.mod hm (fun _ _ _ h => h), h.le⟩
theorem GT.push {w1 : World} {ls : List (List UInt8)} {wr w2 : World} {i : Nat} {xs : List Ac} {va : Value} {cs : List Value} (h : GT w1 ls wr i xs va cs) {a : Ac} {vp vf vb : Value} (hl : LookR (fun b => w1.heap.size ≤ b ∧ va.ownBlock ≠ some b) wr a.op.look vp vf vb)
  {g cap : Nat} (hown : w2.ownsRow w1.heap.size 41 42 (.slice (some ⟨g, 0, none⟩) (xs.length + 1) cap) (xs.length + 1) (cs ++ (actC a vp vf vb).toList)) (hm : Gou.Mod (fun k => va.ownBlock = some k) wr w2) (hg : va.ownBlock = some g ∨ wr.heap.size ≤ g) :
  GT w1 ls w2 (i + 1) (xs ++ [a]) (.slice (some ⟨g, 0, none⟩) (xs.length + 1) cap) (cs ++ (actC a vp vf vb).toList) := by
 have hw := (h.want.snoc hl).imp (G' := fun b => b < wr.heap.size ∧ w1.heap.size ≤ b ∧ va.ownBlock ≠ some b) (fun k hk hG => ⟨hk, hG⟩)
 refine ⟨h.mod.trans hm (fun k hk e => by have := (h.own.lt k e).1; omega), by rw [List.length_append]; exact hown, (hw.mod hm (fun k _ hG e => hG.2.2 e)).imp (fun k hk hG => ⟨hG.2.1, fun e => ?_⟩), by rw [List.length_append]; have := h.le; simp; omega⟩
 simp only [Value.ownBlock, Option.some.injEq] at e
 rcases hg with hg | hg
 ·exact hG.2.2 (by rw [hg, e])
 ·omega
theorem get_step {i : Nat} {l : List UInt8} {r : List (List UInt8)} {R : List Ac × Option Nat} {xs : List Ac} (h : (xs ++ (uk7 i (l :: r)).1, (uk7 i (l :: r)).2) = R) :
  (uli l = none → R = (xs, some (i + 1))) ∧ (uli l = some [] → (xs ++ (uk7 (i + 1) r).1, (uk7 (i + 1) r).2) = R) ∧ (∀ u ws, uli l = some (u :: ws) → (oneT (u :: ws) = none → R = (xs, some (i + 1))) ∧ ∀ a, oneT (u :: ws) = some a → ((xs ++ [a]) ++ (uk7 (i + 1) r).1, (uk7 (i + 1) r).2) = R) := by
 subst h
 refine ⟨fun h => by simp [uk7, h], fun h => by simp [uk7, h], fun u ws h => ⟨fun h2 => by simp [uk7, h, h2], fun a h2 => by simp [uk7, h, h2]⟩⟩
theorem upm (w : World) (s : List UInt8) (hs : s.length ≤ 90000000) (ht : LT w) : Calls Tryz.prog 11 #[.string ⟨s.toArray⟩] w (TGetP w (getT s)) := by
 generalize hR : getT s = RR
 have HRR := hd' hR
 obtain ⟨m, hm⟩ := ht.mx
 have hsz : (⟨s.toArray⟩ : ByteArray).size = s.length := by simp [ByteArray.size]
 have hall := Lib.splitB_all ⟨#[10]⟩ (by decide) 0 _ ⟨s.toArray⟩ rfl
 have hdat : (Lib.splitB ⟨#[10]⟩ 0 (Lib.countB ⟨s.toArray⟩ ⟨#[10]⟩) ⟨s.toArray⟩).map (fun x => x.data.toList) = uko s := (Lib.splitB_data _ _ _ _).trans (upw s)
 have hcall := Tryz.strings_Split ⟨s.toArray⟩ ⟨#[10]⟩ m w (by omega) hm (by decide)
 have hls := uop s
 have hlen : Lib.countB ⟨s.toArray⟩ ⟨#[10]⟩ + 1 = (uko s).length := by rw [← hall, ← hdat, List.length_map]
 have hstr : (Lib.splitB ⟨#[10]⟩ 0 (Lib.countB ⟨s.toArray⟩ ⟨#[10]⟩) ⟨s.toArray⟩).map Value.string = strs (uko s) := by rw [← hdat, strs_of]
 rw [hlen, hstr] at hcall
 have HGo : Hid (uk7 0 (uko s) = RR) := hd' hR
 have Hcall := hd' hcall
 have Hls : Hid ((uko s).length ≤ 90000001 ∧ ∀ l ∈ uko s, l.length ≤ 90000000) := hd' ⟨by have := hls.1; omega, fun l hl => Nat.le_trans (hls.2 l hl) hs⟩
 have Ht := hd' ht
 clear hR hm hall hdat hcall hls hlen hstr hsz ht HRR hs
 generalize uko s = ls at *
 generalize (⟨s.toArray⟩ : ByteArray) = S at *
 go_enter Tryz.func11, Tryz.ntmps11
 go_wp2_with fail
 refine Hcall.o.mono ?_
 rintro e w1 ⟨rfl, hww⟩
 have HM0 : Hid (Gou.Mod (fun _ => False) w w1) := hd' (by rw [hww]; exact Gou.Mod.alloc0 _ _)
 have HB1 : Hid (Blk w1 w.heap.size 9 (strs ls).toArray) := hd' (by rw [hww]; exact Blk.new w 9 _)
 clear hww Hcall
 go_wp2_with fail
 go_loopw [5, 14] (fun va vi wr => ∃ (i : Nat) (xs : List Ac) (cs : List Value), vi = iV i ∧ i ≤ ls.length ∧ GT w1 ls wr i xs va cs ∧ (xs ++ (uk7 i (ls.drop i)).1, (uk7 i (ls.drop i)).2) = RR) (fun _ vi _ => ls.length - (intOf vi).toNat)
 case atStart => exact ⟨0, [], [], rfl, by omega, ⟨Gou.Mod.refl _ _, World.ownsRow_nil _ _ _ _, WantIn.nil _ _, by simp⟩, by rw [← HGo.o]; rfl⟩
 case round =>
  obtain ⟨i, xs, cs, rfl, hi, hg, hres⟩ := hrel
  obtain ⟨pa, ca, rfl⟩ := Gou.ownsRow_form hg.own
  have HG := hd' hg
  have hi1 : wrap64 ((i : Int) + 1) = (i : Int) + 1 := IntWalk.wrap64_in _ (by have := Hls.o.1; omega)
  clear hg
  by_cases hil : i < ls.length
  ·have t1 : decide ((i : Int) < (ls.length : Int)) = true := dqt (by omega)
   have jI : (i : Int) < (ls.length : Int) := by omega
   have j0 : (0 : Int) ≤ (i : Int) := by omega
   have Hil := hd' hil
   rw [List.drop_eq_getElem_cons hil] at hres
   have HX := hd' (get_step hres)
   have Hll := hd' (Hls.o.2 _ (lgM hil))
   have cB : wr.cell? ⟨w.heap.size, i, none⟩ = some (.string ⟨(ls[i]).toArray⟩) := (HB1.o.mod HG.o.mod (fun h => h)).cell i (by simp [strs, hil] <;> rfl)
   generalize ls[i] = l at *
   clear hil hres
   go_wp2_with fail
   clear cB
   refine (split_any wr l (by have := Hll.o; omega) (Ht.o.up0 (HM0.o.trans' HG.o.mod))).mono ?_
   rintro e w2 ⟨hm2, h2⟩
   have HG2 := hd' (HG.o.other hm2)
   clear hm2 HG
   rcases hwd : uli l with _ | ws
   ·rw [hwd] at h2
    subst h2
    have Hres := hd' (HX.o.1 hwd)
    clear hwd HX
    go_wp2_with fail
    go_ret3
    refine ⟨HM0.o.trans' HG2.o.mod, ?_⟩
    rw [Hres.o]
    exact ⟨pa, ca, by rw [show (((some (i + 1) : Option Nat).getD 0 : Nat) : Int) = wrap64 ((i : Int) + 1) by rw [hi1]; simp]; rfl, HG2.o.want.toR HG2.o.own⟩
   ·rw [hwd] at h2
    obtain ⟨pw, cw, rfl, hrow⟩ := h2
    have Hws := hd' (utu hwd)
    cases ws with
    | nil =>
     have Hres := hd' (HX.o.2.1 hwd)
     clear hwd HX hrow
     go_wp2_with fail
     go_roundw
     case rel => exact ⟨i + 1, xs, cs, by go_num, by have := Hil.o; omega, ⟨HG2.o.mod, HG2.o.own, HG2.o.want, by have := HG2.o.le; omega⟩, Hres.o⟩
     case measure => first | exact ury Hil.o | exact up5 Hil.o hi1
    | cons u r =>
     have HXo := hd' (HX.o.2.2 u r hwd)
     have Hrow := hd' hrow
     have e0 : (((u :: r : List Wd).length : Int) == 0) = false := by rw [bqf]; simp only [List.length_cons]; omega
     clear hwd HX hrow
     generalize hW : (u :: r : List Wd) = W at *
     have Hne : Hid (W ≠ []) := hd' (by rw [← hW]; simp)
     clear hW
     go_wp2_with fail
     clear e0
     refine (tone_any w2 pw cw W (Ht.o.up0 (HM0.o.trans' HG2.o.mod)) Hne.o Hrow.o (by have h1 := Hws.o.1; have h2 := Hll.o; omega) (fun x hx => by have h1 := Hws.o.2 x hx; have h2 := Hll.o; omega)).mono ?_
     rintro e w3 ⟨hm3, a, v, rfl, ⟨p1, n1, k1, p2, n2, k2, p3, n3, k3, rfl, hl⟩, hab⟩
     have HG3 := hd' (HG2.o.other hm3)
     have Hab := hd' hab
     have HL3 : Hid (LookR (fun b => w1.heap.size ≤ b ∧ (Value.slice pa xs.length ca).ownBlock ≠ some b) w3 a.op.look (.slice p1 n1 k1) (.slice p2 n2 k2) (.slice p3 n3 k3)) := hd' (hl.imp fun k _ hk => ⟨Nat.le_trans HG2.o.mod.size hk, fun e => by have := (HG2.o.own.lt k e).2; omega⟩)
     have hth : (w3.alloc (.cells lz42 41)).there w3.heap.size 0 (actC a (.slice p1 n1 k1) (.slice p2 n2 k2) (.slice p3 n3 k3)).size := CS.there
     have Hth := hd' hth
     have hA := (Blk.new w3 41 lz42).sets 0 (actC a (.slice p1 n1 k1) (.slice p2 n2 k2) (.slice p3 n3 k3)).toList
     rw [uef _ _ (by simp [actC])] at hA
     have hm4 : Gou.Mod (fun _ => False) w3 ((w3.alloc (.cells lz42 41)).setCells w3.heap.size 0 (actC a (.slice p1 n1 k1) (.slice p2 n2 k2) (.slice p3 n3 k3)).toList) := (Gou.Mod.alloc0 _ _).trans (Blk.setMod _ _ _ _) (fun i hi e => by omega)
     have HA4 := hd' hA
     have HG4 := hd' (HG3.o.other hm4)
     have HL4 := hd' (HL3.o.mod hm4 (fun _ _ _ h => h))
     clear hm3 hl hab hth hA hm4
     rcases hone : oneT W with _ | a2
     ·have Hres := hd' (HXo.o.1 hone)
      clear hone
      go_wp2_with (first | ((with_reducible refine wpList_store_mid ?g1_2 41 ?x1_2 ?y1_2 ?o1_2 w3.heap.size 0 (actC a (.slice p1 n1 k1) (.slice p2 n2 k2) (.slice p3 n3 k3)) ?h1_2 ?j1_2 ?t1_2 ?i1_2 ?s1_2 ?r1_2); (case g1_2 => exact rfl); (case o1_2 => exact rfl); (case h1_2 => exact rfl); (case j1_2 => exact rfl); (case t1_2 => exact Hth.o); (case i1_2 => exact szA); (case s1_2 => exact ukj _ _ _ _ _ _ _ _ _ _)) | fail)
      go_ret3
      refine ⟨HM0.o.trans' HG4.o.mod, ?_⟩
      rw [Hres.o]
      exact ⟨pa, ca, by rw [show (((some (i + 1) : Option Nat).getD 0 : Nat) : Int) = wrap64 ((i : Int) + 1) by rw [hi1]; simp]; rfl, HG4.o.want.toR HG4.o.own⟩
     ·have Hres : Hid (((xs ++ [a]) ++ (uk7 (i + 1) (ls.drop (i + 1))).1, (uk7 (i + 1) (ls.drop (i + 1))).2) = RR) := hd' (by
       have h1 := HXo.o.2 a2 hone
       rw [← Hab.o a2 hone] at h1
       exact h1)
      clear hone Hab
      go_wp2_with (first | ((with_reducible show wpList _ _ _ (⟨_, Op.store _ _ _, _, _, _, _⟩ :: _) _ _); refine halt ?_) | fail)
      show wpList _ _ _ _ _ _
      refine wpList_store_mid rfl 41 _ _ rfl w3.heap.size 0 (actC a (.slice p1 n1 k1) (.slice p2 n2 k2) (.slice p3 n3 k3)) rfl rfl Hth.o szA (ukj _ _ _ _ _ _ _ _ _ _) ?_
      clear Hth
      generalize ((w3.alloc (.cells lz42 41)).setCells w3.heap.size 0 (actC a (.slice p1 n1 k1) (.slice p2 n2 k2) (.slice p3 n3 k3)).toList) = w4 at *
      have Hrg : Hid (w4.rangeAt w3.heap.size 0 (actC a (.slice p1 n1 k1) (.slice p2 n2 k2) (.slice p3 n3 k3)).toList) := hd' (Blk.range (pre := []) (post := []) HA4.o (by rw [List.append_nil]; rfl) rfl)
      have HG5 := hd' (HG4.o.other (Gou.Mod.alloc0 _ (.cells (actC a (.slice p1 n1 k1) (.slice p2 n2 k2) (.slice p3 n3 k3)) 41)))
      have HL5 := hd' (HL4.o.mod (Gou.Mod.alloc0 _ (.cells (actC a (.slice p1 n1 k1) (.slice p2 n2 k2) (.slice p3 n3 k3)) 41)) (fun _ _ _ h => h))
      have Hnx : Hid (xs.length ≤ 100000000) := hd' (Nat.le_trans HG5.o.le (Nat.le_trans (Nat.le_of_lt Hil.o) (Nat.le_trans Hls.o.1 (by decide))))
      have HbB := hd' HG5.o.mod.size
      go_wp2_with (first | ((with_reducible refine wpList_load_mid ?g1_1 41 ?x1_1 ?o1_1 w3.heap.size 0 ?h1_1 (actC a (.slice p1 n1 k1) (.slice p2 n2 k2) (.slice p3 n3 k3)).toList ?d1_1 ?c1_1 ?u1_1 ?s1_1 ?i1_1 ?r1_1); (case g1_1 => exact rfl); (case o1_1 => exact rfl); (case h1_1 => exact rfl); (case c1_1 => exact Hrg.o); (case u1_1 => exact Tryz.underlying41); (case s1_1 => exact rfl); (case i1_1 => exact szAl)) | ((with_reducible show wpList _ _ _ (⟨_, Op.buildSlice _ _ _, _, _, _, _⟩ :: _) _ _); refine halt ?_) | fail)
      show wpList _ _ _ _ _ _
      refine upi rfl _ rfl a p1 p2 p3 n1 n2 n3 k1 k2 k3 rfl ?_
      simp only [Act.put, List.setIfInBounds_toArray, List.set_cons_zero, List.set_cons_succ]
      refine uo3 rfl _ _ rfl w1.heap.size (Value.slice pa xs.length ca) xs.length cs w4.heap.size a p1 p2 p3 n1 n2 n3 k1 k2 k3 rfl rfl HG5.o.own (heap_alloc_new _ _) Hnx.o HbB.o ?_
      intro gg cap w6 hown6 m6 f6
      have HG6 := hd' (HG5.o.push HL5.o hown6 m6 f6)
      clear hown6 m6 f6
      simp only [Act.put, List.setIfInBounds_toArray, List.set_cons_zero, List.set_cons_succ]
      clear Hrg
      go_wp2_with fail
      go_roundw
      case rel => exact ⟨i + 1, xs ++ [a], _, by go_num, by have := Hil.o; omega, HG6.o, Hres.o⟩
      case measure => first | exact ury Hil.o | exact up5 Hil.o hi1
  ·obtain rfl : i = ls.length := by omega
   have t1 : decide ((ls.length : Int) < (ls.length : Int)) = false := dqf (by omega)
   have Hres : Hid (RR = (xs, none)) := hd' (by rw [← hres, List.drop_length]; simp [uk7])
   clear hres
   go_wp2_with fail
   go_ret3
   refine ⟨HM0.o.trans' HG.o.mod, ?_⟩
   rw [Hres.o]
   exact ⟨pa, ca, rfl, HG.o.want.toR HG.o.own⟩
end Go.Proofs.YtgolafbneiffpaaGreatDoor
namespace Go.Txt
open Go Go.Gou
theorem unj {u : Nat} (h : u < 10) : Lib.decDigits u = [UInt8.ofNat (48 + u)] := by rw [Lib.decDigits, dif_pos h]
theorem dec_big {u : Nat} (h : ¬ u < 10) : Lib.decDigits u = Lib.decDigits (u / 10) ++ [UInt8.ofNat (48 + u % 10)] := by rw [Lib.decDigits, dif_neg h]
theorem up1 {n : Int} {w : Wd} (h : Lib.itoa n = w) (h0 : -2147483648 ≤ n) (h1 : n ≤ 2147483647) : numT w = some n := by rw [← h, up2 h0 h1]
theorem n0 : numT [48] = some 0 := up1 (by unfold Lib.itoa; rw [if_neg (by decide), unj (by decide)]; rfl) (by decide) (by decide)
theorem n1 : numT [49] = some 1 := up1 (by unfold Lib.itoa; rw [if_neg (by decide), unj (by decide)]; rfl) (by decide) (by decide)
theorem n2 : numT [50] = some 2 := up1 (by unfold Lib.itoa; rw [if_neg (by decide), unj (by decide)]; rfl) (by decide) (by decide)
theorem nm : numT [45, 49] = some (-1) := up1 (by unfold Lib.itoa; rw [if_pos (by decide), unj (by decide)]; rfl) (by decide) (by decide)
theorem n64 : numT [54, 52] = some 64 := up1 (by unfold Lib.itoa; rw [if_neg (by decide), dec_big (by decide), unj (by decide)]; rfl) (by decide) (by decide)
def awA : Ac := ⟨5, ⟨5, (1, 0), (0, 0), 0, { Lk.zero with dx := -1, dy := 64 }⟩, 0, 0, Cf.zero⟩
def awB : Ac := ⟨10, ⟨10, (1, 0), (0, 0), 0, { Lk.zero with hasFilt := true, filt := ⟨[⟨2, [-1], [2, 2]⟩], 0⟩ }⟩, 0, 0, Cf.zero⟩
def awC : Ac := ⟨13, Opr.zero, 0, 0, ⟨false, true, false, false, 9⟩⟩
def awF : Ac := ⟨14, Opr.zero, 0, 0, Cf.zero⟩
theorem encM_128' : encM 128 = [128, 1] := by
 rw [umi (by decide), uk8 (by decide)]
theorem put_awA : uk6 awA = some [5, 2, 0, 1, 128, 1] := by
 have h : ukf awA = some [5, 2, 0, 1, 128, 1] := by simp [ukf, awA, ukb, ug4, ul1, zig, uk8, encM_128']
 unfold uk6
 rw [h]
 rfl
theorem put_awB : uk6 awB = some [10, 2, 0, 2, 0, 2, 4, 2, 1, 4, 4, 4] := by
 have h : ukf awB = some [10, 2, 0, 2, 0, 2, 4, 2, 1, 4, 4, 4] := by simp [ukf, awB, ukb, uk5, ukr, ulm, ug4, ul1, zig, uk8]
 unfold uk6
 rw [h]
 rfl
theorem put_awC : uk6 awC = some [13, 4, 18] := by
 have h : ukf awC = some [13, 4, 18] := by simp [ukf, awC, ug4, ul1, zig, uk8, ukn]
 unfold uk6
 rw [h]
 rfl
theorem put_awF : uk6 awF = some [14] := by
 have h : ukf awF = some [14] := by simp [ukf, awF]
 unfold uk6
 rw [h]
 rfl
theorem one_awA : oneT [uny, [49], [48], [45, 49], [54, 52]] = some awA := by
 have h : ulx uny [[49], [48], [45, 49], [54, 52]] = some (awA, []) := by
  show um2 _ = _
  simp only [um2, idP, numP, n0, n1, nm, n64, Option.bind_some, Option.map_some]
  rfl
 simp only [oneT, h, Option.bind_some]
 rw [if_pos ⟨trivial, by rw [put_awA]; rfl⟩]
theorem one_awB : oneT [ul3, [49], [48], [48], [98, 108, 117, 114], [45, 49], [58], [50], [50], [59]] = some awB := by
 have h : ulx ul3 [[49], [48], [48], [98, 108, 117, 114], [45, 49], [58], [50], [50], [59]] = some (awB, []) := by
  show ulz _ = _
  have hk : us4 [98, 108, 117, 114] = some 2 := by decide
  have hl : ulu uoh 0 [[45, 49], [58], [50], [50], [59]] = some ([-1], [[50], [50], [59]]) := by
   simp only [ulu]
   rw [if_neg (by decide), if_pos (by decide), nm]
   rfl
  have hs : ulu uqk 0 [[50], [50], [59]] = some ([2, 2], []) := by
   simp only [ulu]
   rw [if_neg (by decide), if_pos (by decide), n2, if_neg (by decide), if_pos (by decide)]
   rfl
  have hg : umd [[48], [98, 108, 117, 114], [45, 49], [58], [50], [50], [59]] = some ((true, ⟨[⟨2, [-1], [2, 2]⟩], 0⟩), []) := by
   rw [umd, if_neg (by decide)]
   simp only [numP, n0, Option.map_some, Option.bind_some]
   show ((ung 6 0 _).map _) = _
   simp only [ung, hk, Option.bind_some]
   rw [if_pos (by decide), hl]
   simp only [Option.bind_some]
   rw [hs]
   rfl
  simp only [ulz, idP, numP, n0, n1, Option.bind_some, Option.map_some]
  rw [hg]
  rfl
 simp only [oneT, h, Option.bind_some]
 rw [if_pos ⟨trivial, by rw [put_awB]; rfl⟩]
theorem one_awF : oneT [umj] = some awF := by
 have h : ulx umj [] = some (awF, []) := rfl
 simp only [oneT, h, Option.bind_some]
 rw [if_pos ⟨trivial, by rw [put_awF]; rfl⟩]
theorem one_bad : oneT [umj, [49]] = none := by
 have h : ulx umj [[49]] = some (awF, [[49]]) := rfl
 simp only [oneT, h, Option.bind_some]
 rw [if_neg (fun h => by cases h.1)]
def S1 : List UInt8 := [115, 104, 105, 102, 116, 32, 49, 32, 48, 32, 45, 49, 32, 54, 52, 32, 35, 32, 116, 111, 32, 116, 104, 101, 32, 108, 101, 102, 116, 10, 10, 32, 102, 105, 108, 116, 101, 114, 9, 49, 32, 48, 32, 48, 32, 98, 108, 117, 114, 32, 45, 49, 32, 58, 32, 50, 32, 50, 32, 59]
def S2 : List UInt8 := [102, 114, 97, 109, 101, 10, 102, 114, 97, 109, 101, 32, 49, 10]
def S3 : List UInt8 := [99, 111, 110, 102, 32, 57, 32, 97, 108, 105, 97, 115, 10]
theorem get_S1 : getT S1 = ([awA, awB], none) := by
 have hl : uko S1 = [[115, 104, 105, 102, 116, 32, 49, 32, 48, 32, 45, 49, 32, 54, 52, 32, 35, 32, 116, 111, 32, 116, 104, 101, 32, 108, 101, 102, 116], [], [32, 102, 105, 108, 116, 101, 114, 9, 49, 32, 48, 32, 48, 32, 98, 108, 117, 114, 32, 45, 49, 32, 58, 32, 50, 32, 50, 32, 59]] := by decide
 have h1 : uli [115, 104, 105, 102, 116, 32, 49, 32, 48, 32, 45, 49, 32, 54, 52, 32, 35, 32, 116, 111, 32, 116, 104, 101, 32, 108, 101, 102, 116] = some [uny, [49], [48], [45, 49], [54, 52]] := by decide
 have h2 : uli [] = some [] := by decide
 have h3 : uli [32, 102, 105, 108, 116, 101, 114, 9, 49, 32, 48, 32, 48, 32, 98, 108, 117, 114, 32, 45, 49, 32, 58, 32, 50, 32, 50, 32, 59] = some [ul3, [49], [48], [48], [98, 108, 117, 114], [45, 49], [58], [50], [50], [59]] := by decide
 unfold getT
 rw [hl]
 simp only [uk7, h1, h2, h3, one_awA, one_awB]
theorem get_S2 : getT S2 = ([awF], some 2) := by
 have hl : uko S2 = [umj, [102, 114, 97, 109, 101, 32, 49], []] := by decide
 have h1 : uli umj = some [umj] := by decide
 have h3 : uli [102, 114, 97, 109, 101, 32, 49] = some [umj, [49]] := by decide
 unfold getT
 rw [hl]
 simp only [uk7, h1, h3, one_awF, one_bad]
theorem put_S3 : putT awC = some S3 := by
 have hi : Lib.itoa 9 = [57] := by unfold Lib.itoa; rw [if_neg (by decide), unj (by decide)]; rfl
 have hw : ukp awC = [uql, [57], wAlias] := by
  show uql :: (Lib.itoa 9 :: um7 _) = _
  rw [hi]
  rfl
 unfold putT
 rw [if_pos ⟨by rw [put_awC]; rfl, ⟨fun h => absurd h (by decide), fun h => absurd h (by decide), fun h => absurd h (by decide)⟩⟩, hw]
 rfl
end Go.Txt
namespace Go.Proofs.YtgolafbneiffpaaGreatDoor
open Go.RowKit Go.Gou Go.Txt
set_option maxRecDepth 100000
theorem get1_any (w : World) (ht : LT w) : Calls Tryz.prog 11 #[.string ⟨S1.toArray⟩] w fun e w' => Gou.Mod (fun _ => False) w w' ∧ ∃ p c, e = .returned (.tuple #[.slice p 2 c, iV 0, iV 0]) ∧ ActsR w' (.slice p 2 c) [awA, awB] := by
 refine (upm w S1 (by decide) ht).mono ?_
 rintro e w' ⟨hm, h⟩
 rw [get_S1] at h
 obtain ⟨p, c, rfl, h⟩ := h
 exact ⟨hm, p, c, rfl, h⟩
theorem get2_any (w : World) (ht : LT w) : Calls Tryz.prog 11 #[.string ⟨S2.toArray⟩] w fun e w' => Gou.Mod (fun _ => False) w w' ∧ ∃ p c, e = .returned (.tuple #[.slice p 1 c, iV 2, iV 2]) := by
 refine (upm w S2 (by decide) ht).mono ?_
 rintro e w' ⟨hm, h⟩
 rw [get_S2] at h
 obtain ⟨p, c, rfl, h⟩ := h
 exact ⟨hm, p, c, rfl⟩
theorem put3_any (w : World) (ht : LT w) : Calls Tryz.prog 9 #[.agg (actC awC nlS nlS nlS)] w fun e w' => Gou.Mod (fun _ => False) w w' ∧ e = .returned (.tuple #[.string ⟨S3.toArray⟩, iV 0]) := by
 refine (tput_any w none none none 0 0 0 awC ht (umm _ _) born_zero PxSmall.zero).mono ?_
 rintro e w' ⟨hm, h⟩
 rw [put_S3] at h
 exact ⟨hm, h⟩
theorem uur {w : World} {p : Option Addr} {n c : Nat} {a : Ac} {xs : List Ac} (h : ActsR w (.slice p n c) (a :: xs)) : n = (a :: xs).length ∧ ∃ b o, p = some ⟨b, o, none⟩ ∧ b < w.heap.size ∧ ∀ i, (h : i < (a :: xs).length) → ∃ vp vf vb, (∀ j u, (actC (a :: xs)[i] vp vf vb)[j]? = some u → w.cell? ⟨b, o + i * 42 + j, none⟩ = some u) ∧ LookR (fun _ => True) w (a :: xs)[i].op.look vp vf vb := by
 obtain ⟨p', cap, e, hc, h⟩ := h
 simp only [Value.slice.injEq] at e
 obtain ⟨rfl, rfl, rfl⟩ := e
 rcases h with h | ⟨b, o, rfl, hb, h⟩
 ·simp at h
 ·exact ⟨rfl, b, o, rfl, hb, h⟩
theorem uqw (w : World) (ht : LT w) : Calls Tryz.prog 7 #[] w fun e w' => e = .returned (.bool true) ∧ Gou.Mod (fun _ => False) w w' := by
 have Ht := hd' ht
 clear ht
 go_enter Tryz.func7, Tryz.ntmps7
 go_wp2_with fail
 refine (get1_any _ Ht.o).mono ?_
 rintro e w1 ⟨hm1, p, c, rfl, hA⟩
 obtain ⟨-, b, o, rfl, hb, hc⟩ := uur hA
 obtain ⟨vp, vf, vb, h0, -⟩ := hc 0 (by decide)
 obtain ⟨up, uf, ub, h1, hl⟩ := hc 1 (by decide)
 obtain ⟨pf, kf, rfl⟩ := hl.filt.form
 obtain ⟨-, bn, on, rfl, hbn, -, hn⟩ := hl.filt.cells (by decide)
 obtain ⟨pi, ci, pp, cp, k0, -, -, -, -⟩ := hn 0 ⟨2, [-1], [2, 2]⟩ rfl
 have d7 : w1.cell? ⟨b, o + 0 * 42 + 7, none⟩ = some (iV (-1)) := h0 7 _ rfl
 have d8 : w1.cell? ⟨b, o + 0 * 42 + 8, none⟩ = some (iV 64) := h0 8 _ rfl
 have d30 : w1.cell? ⟨b, o + 1 * 42 + 30, none⟩ = some (.slice (some ⟨bn, on, none⟩) 1 kf) := h1 30 _ rfl
 have hb' : b < w1.heap.size := hb
 have HD := hd' (And.intro hb (And.intro hbn (And.intro d7 (And.intro d8 (And.intro d30 k0)))))
 have HM1 := hd' hm1
 clear hA hc h0 h1 hl hn k0 d7 d8 d30 hb hbn hb' hm1
 go_wp2_with (first | ((with_reducible show wpList _ _ _ (⟨_, Op.build _ _, _, _, _, _⟩ :: _) _ _); refine halt ?_) | fail)
 show wpList _ _ _ _ _ _
 refine uav rfl (.agg #[.bool false, .bool true, .bool false, .bool false, iV 9]) (by kernel_rfl) ?_
 simp only [Act.put, List.setIfInBounds_toArray, List.set_cons_zero, List.set_cons_succ]
 refine uav rfl (.agg (actC awC nlS nlS nlS)) (by kernel_rfl) ?_
 simp only [Act.put, List.setIfInBounds_toArray, List.set_cons_zero, List.set_cons_succ]
 go_wp2_with fail
 refine (put3_any _ (Ht.o.up0 HM1.o)).mono ?_
 rintro e w2 ⟨hm2, rfl⟩
 have HM2 := hd' (HM1.o.trans' hm2)
 have Hm2 := hd' hm2
 clear hm2
 go_wp2_with fail
 refine (get2_any _ (Ht.o.up0 HM2.o)).mono ?_
 rintro e w3 ⟨hm3, p3, c3, rfl⟩
 have HM3 := hd' (HM2.o.trans' hm3)
 have hm13 := Hm2.o.trans' hm3
 obtain ⟨hb, hbn, d7, d8, d30, k0⟩ := HD.o
 have d7' : w3.cell? ⟨b, o + 7, none⟩ = some (iV (-1)) := by rw [hm13.cell (p := ⟨b, o + 7, none⟩) hb (fun h => h)]; simpa using d7
 have d8' : w3.cell? ⟨b, o + 8, none⟩ = some (iV 64) := by rw [hm13.cell (p := ⟨b, o + 8, none⟩) hb (fun h => h)]; simpa using d8
 have d30' : w3.cell? ⟨b, o + 42 + 30, none⟩ = some (.slice (some ⟨bn, on, none⟩) 1 kf) := by rw [hm13.cell (p := ⟨b, o + 42 + 30, none⟩) hb (fun h => h)]; simpa using d30
 have k0' : w3.cell? ⟨bn, on, none⟩ = some (iV 2) := by rw [hm13.cell (p := ⟨bn, on, none⟩) hbn (fun h => h)]; simpa using k0
 clear hb hbn d7 d8 d30 k0 hm13 hm3 HD Hm2
 go_wp2_with fail
 go_ret
 exact ⟨rfl, HM3.o⟩
end Go.Proofs.YtgolafbneiffpaaGreatDoor
namespace Go.Txt
open Go Go.Gou
theorem go_len : ∀ (n : Nat) (l : List (List UInt8)), (uk7 n l).1.length ≤ l.length ∧ ∀ k, (uk7 n l).2 = some k → n < k ∧ k ≤ n + l.length
 | n, [] => ⟨by simp [uk7], fun k h => by simp [uk7] at h⟩
 | n, l :: r => by
  have ih := go_len (n + 1) r
  unfold uk7
  split
  ·exact ⟨by simp, fun k h => by simp at h; simp; omega⟩
  ·refine ⟨by have := ih.1; simp; omega, fun k h => ?_⟩
   have := ih.2 k h
   simp
   omega
  ·split
   ·exact ⟨by simp, fun k h => by simp at h; simp; omega⟩
   ·refine ⟨by have := ih.1; simp; omega, fun k h => ?_⟩
    have := ih.2 k h
    simp
    omega
theorem Fit.born {a : Ac} (h : Fit a) : LookBorne a.op.look := by
 obtain ⟨es, g⟩ := h.act
 exact (uo2 g).2.1
theorem get_born (s : List UInt8) : ∀ a ∈ (getT s).1, LookBorne a.op.look := fun a ha => (uuj 0 (uko s) a ha).born
theorem get_few {s : List UInt8} (h : s.length ≤ 90000000) : (getT s).1.length ≤ 1000000000 ∧ ∀ k, (getT s).2 = some k → 0 < k ∧ k ≤ 1000000000 := by
 have h1 := go_len 0 (uko s)
 have h2 := (uop s).1
 refine ⟨by have := h1.1; unfold getT; omega, fun k hk => ?_⟩
 have := h1.2 k hk
 omega
end Go.Txt
namespace Go.Proofs.YtgolafbneiffpaaGreatDoor
open Go.RowKit Go.Gou Go.Txt
set_option maxRecDepth 100000
theorem utq {w w' : World} {v : Value} {xs : List Ac} (h : ActsR w v xs) (hm : Gou.Mod (fun _ => False) w w') : ActsR w' v xs := by
 obtain ⟨p, cap, e, hc, h⟩ := h
 refine ⟨p, cap, e, hc, h.imp id ?_⟩
 rintro ⟨b, o, e2, hb, h⟩
 refine ⟨b, o, e2, Nat.lt_of_lt_of_le hb hm.size, fun i hi => ?_⟩
 obtain ⟨vp, vf, vb, h1, h2⟩ := h i hi
 exact ⟨vp, vf, vb, fun j u hu => by rw [hm.cell (p := ⟨b, o + i * 42 + j, none⟩) hb (fun h => h)]; exact h1 j u hu, h2.mod hm (fun _ _ _ h => h)⟩
theorem textBlank_law (w : World) (s : List UInt8) (ht : LT w) : Calls Tryz.prog 5 #[.string ⟨s.toArray⟩] w fun e w' => e = .returned (.bool true) ∧ Gou.Mod (fun _ => False) w w' := by
 have Ht := hd' ht
 have hsz : (⟨s.toArray⟩ : ByteArray).size = s.length := by simp [ByteArray.size]
 have Hsz := hd' hsz
 clear ht hsz
 go_enter Tryz.func5, Tryz.ntmps5
 go_wp2_with fail
 refine (uqw w Ht.o).mono ?_
 rintro e w1 ⟨rfl, hm1⟩
 have HM1 := hd' hm1
 clear hm1
 by_cases hl : 3000 < s.length
 ·have d0 : decide ((3000 : Int) < (s.length : Int)) = true := dqt (by omega)
  clear hl
  go_wp2_with fail
  refine (uqw w1 (Ht.o.up0 HM1.o)).mono ?_
  rintro e w2 ⟨rfl, hm2⟩
  have HM2 := hd' (HM1.o.trans' hm2)
  clear hm2
  go_wp2_with fail
  go_ret
  exact ⟨rfl, HM2.o⟩
 ·have d0 : decide ((3000 : Int) < (s.length : Int)) = false := dqf (by omega)
  have Hl : Hid (s.length ≤ 3000) := hd' (by omega)
  clear hl
  go_wp2_with fail
  refine (upm w1 s (by have := Hl.o; omega) (Ht.o.up0 HM1.o)).mono ?_
  rintro e w2 ⟨hm2, p1, c1, rfl, hA⟩
  have HM2 := hd' (HM1.o.trans' hm2)
  have HA := hd' hA
  have Hbl := hd' (blank_law s)
  have Hfe := hd' (get_few (s := s) (by have := Hl.o; omega))
  have Hbo := hd' (get_born s)
  have Hg2 := hd' (fun w' (ht' : LT w') => upm w' ([35, 32, 114, 101, 109, 97, 114, 107, 10, 32, 9, 10] ++ s ++ [32, 35, 32, 101, 110, 100]) (by have := Hl.o; simp; omega) ht')
  rw [Hbl.o] at Hg2
  have hX1 : (⟨#[35, 32, 114, 101, 109, 97, 114, 107, 10, 32, 9, 10]⟩ : ByteArray) ++ ⟨s.toArray⟩ = ⟨([35, 32, 114, 101, 109, 97, 114, 107, 10, 32, 9, 10] ++ s).toArray⟩ := urr _ _
  have hX2 : (⟨([35, 32, 114, 101, 109, 97, 114, 107, 10, 32, 9, 10] ++ s).toArray⟩ : ByteArray) ++ ⟨#[32, 35, 32, 101, 110, 100]⟩ = ⟨([35, 32, 114, 101, 109, 97, 114, 107, 10, 32, 9, 10] ++ s ++ [32, 35, 32, 101, 110, 100]).toArray⟩ := urr _ _
  have hz1 : (⟨([35, 32, 114, 101, 109, 97, 114, 107, 10, 32, 9, 10] ++ s).toArray⟩ : ByteArray).size = 12 + s.length := by simp [ByteArray.size]; omega
  have hz0 := Hsz.o
  generalize (⟨([35, 32, 114, 101, 109, 97, 114, 107, 10, 32, 9, 10] ++ s ++ [32, 35, 32, 101, 110, 100]).toArray⟩ : ByteArray) = X2 at *
  generalize (⟨([35, 32, 114, 101, 109, 97, 114, 107, 10, 32, 9, 10] ++ s).toArray⟩ : ByteArray) = X1 at *
  have hn1 : ¬ 9223372036854775807 < 12 + s.length := by have := Hl.o; omega
  have hn2 : ¬ 9223372036854775807 < 12 + s.length + 6 := by have := Hl.o; omega
  generalize (⟨s.toArray⟩ : ByteArray) = S at *
  generalize getT s = R at *
  obtain ⟨xs, o⟩ := R
  have Hxs : Hid (∀ k, o = some k → 0 < k ∧ k ≤ 1000000000) := hd' Hfe.o.2
  have Hxl : Hid (xs.length ≤ 1000000000) := hd' Hfe.o.1
  have HA : Hid (ActsR w2 (.slice p1 xs.length c1) xs) := HA
  have Hbo : Hid (∀ a ∈ xs, LookBorne a.op.look) := Hbo
  clear hm2 hA Hbl Hfe
  cases o with
  | none =>
   have Hg2 : Hid (∀ w', LT w' → Calls Tryz.prog 11 #[.string X2] w' (TGetP w' (xs, none))) := Hg2
   go_wp2_with fail
   refine (Hg2.o w2 (Ht.o.up0 HM2.o)).mono ?_
   rintro e w3 ⟨hm3, p3, c3, rfl, hA3⟩
   have HM3 := hd' (HM2.o.trans' hm3)
   have HA3 : Hid (ActsR w3 (.slice p3 xs.length c3) xs) := hd' hA3
   have HA2 := hd' (utq HA.o hm3)
   clear hm3 hA3 hX1 hX2 hz0 hz1 hn1 hn2
   go_wp2_with fail
   refine (upy w3 p1 p3 c1 c3 xs xs HA2.o HA3.o Hbo.o Hbo.o Hxl.o Hxl.o).mono ?_
   rintro e w4 ⟨rfl, hm4⟩
   have HM4 := hd' (HM3.o.trans' hm4)
   rw [dqt rfl]
   clear hm4
   go_wp2_with fail
   go_ret
   exact ⟨rfl, HM4.o⟩
  | some k =>
   have Hg2 : Hid (∀ w', LT w' → Calls Tryz.prog 11 #[.string X2] w' (TGetP w' (xs, some (k + 2)))) := Hg2
   have hk := Hxs.o k rfl
   have e0 : decide ((0 : Int) < (k : Int)) = true := dqt (by omega)
   have e1 : decide (0 < k) = true := dqt (by omega)
   have ek : wrap64 ((k : Int) + 2) = (k : Int) + 2 := IntWalk.wrap64_in _ (by omega)
   clear hk
   go_wp2_with fail
   refine (Hg2.o w2 (Ht.o.up0 HM2.o)).mono ?_
   rintro e w3 ⟨hm3, p3, c3, rfl, hA3⟩
   have HM3 := hd' (HM2.o.trans' hm3)
   have HA3 : Hid (ActsR w3 (.slice p3 xs.length c3) xs) := hd' hA3
   have HA2 := hd' (utq HA.o hm3)
   clear hm3 hA3 hX1 hX2 hz0 hz1 hn1 hn2
   rw [show (((xs, some (k + 2)) : List Ac × Option Nat).2.getD 0 : Nat) = k + 2 from rfl, show (((k + 2 : Nat) : Int)) = (k : Int) + 2 by omega]
   go_wp2_with fail
   refine (upy w3 p1 p3 c1 c3 xs xs HA2.o HA3.o Hbo.o Hbo.o Hxl.o Hxl.o).mono ?_
   rintro e w4 ⟨rfl, hm4⟩
   have HM4 := hd' (HM3.o.trans' hm4)
   rw [dqt rfl]
   clear hm4
   go_wp2_with fail
   go_ret
   exact ⟨rfl, HM4.o⟩
end Go.Proofs.YtgolafbneiffpaaGreatDoor
namespace Go.Gou
open Go.RowKit Go.ChangeShapes
theorem usx {α β : Type} {f : α → Option β} : ∀ {l : List α} {r : List β}, l.mapM f = some r → r.length = l.length
 | [], r, h => by simp at h; subst h; rfl
 | a :: l, r, h => by
  simp only [List.mapM_cons, Option.bind_eq_bind, Option.pure_def, Option.bind_eq_some_iff, Option.some.injEq] at h
  obtain ⟨b, _, rs, hr, rfl⟩ := h
  simp [usx hr]
theorem uu8 {α β : Type} {f : α → Option β} : ∀ {l : List α} {r : List β}, l.mapM f = some r → ∀ (i : Nat) a, l[i]? = some a → ∃ b, r[i]? = some b ∧ f a = some b
 | [], r, h, i, a, ha => by simp at ha
 | x :: l, r, h, i, a, ha => by
  simp only [List.mapM_cons, Option.bind_eq_bind, Option.pure_def, Option.bind_eq_some_iff, Option.some.injEq] at h
  obtain ⟨b, hb, rs, hr, rfl⟩ := h
  cases i with
  | zero => simp at ha; subst ha; exact ⟨b, rfl, hb⟩
  | succ i => exact uu8 hr i a (by simpa using ha)
theorem ut1 {H : Type} {enc : TypeId × Value → H} {P : Program} {w : World} {base : Nat} {sp : Nat → Bool} {held : Bool} {fuel : Nat} {t e : TypeId} {n : Nat} {cs : List Value} {zs : List (List UInt8)} {p : List MemPlace}
  (ht : P.underlying t = some (.array n e)) (he : P.underlying e = some .string) (hce : P.cellsOf e = 1) (hct : P.cellsOf t = n)
  (h : DataW.trod enc P w base sp held fuel t cs = some (.agg (zs.map fun z => .lit (.string z)), p)) : cs = zs.map fun z => Value.string ⟨z.toArray⟩ := by
 cases fuel with
 | zero => simp [DataW.trod] at h
 | succ fuel =>
  simp only [DataW.trod, ht, hce, hct, Nat.mul_one] at h
  split at h
  ·rename_i hl
   obtain ⟨xs, hm, hx⟩ := Option.map_eq_some_iff.1 h
   have hxs : xs.map (·.1) = zs.map fun z => (DataW.lit (.string z) : DataW H) := by
    have := congrArg Prod.fst hx
    simpa using this
   have hxl : xs.length = n := by simpa using usx hm
   have hzl : zs.length = n := by
    have := congrArg List.length hxs
    simp at this
    omega
   apply List.ext_getElem?
   intro i
   by_cases hi : i < n
   ·obtain ⟨b, hb, hf⟩ := uu8 hm i i (by simp [hi])
    obtain ⟨z, hc, rfl, _⟩ := DataW.trod_string he hf
    have h1 : cs[i]? = some (.string z) := by
     have := congrArg (·[0]?) hc
     simpa [List.getElem?_take, List.getElem?_drop] using this
    have h2 : (xs.map (·.1))[i]? = some (DataW.lit (.string z.data.toList) : DataW H) := by simp [hb]
    rw [hxs] at h2
    simp only [List.getElem?_map, Option.map_eq_some_iff, DataW.lit.injEq, Lit.string.injEq] at h2
    obtain ⟨z', hz', hzz⟩ := h2
    rw [h1, List.getElem?_map, hz', Option.map_some, hzz]
   ·rw [List.getElem?_eq_none (by omega), List.getElem?_eq_none (by simp; omega)]
  ·cases h
theorem uvd {H : Type} {enc : TypeId × Value → H} {P : Program} {w : World} {base : Nat} {sp : Nat → Bool} {held : Bool} {fuel : Nat} {t : TypeId} {d : TypeDesc} {cs : List Value} {nm : String} {x : DataW H} {p : List MemPlace}
  (ht : P.underlying t = some d) (hd : (match d with | .interface _ => true | _ => false) = true) (h : DataW.trod enc P w base sp held fuel t cs = some (.iface nm x, p)) : ∃ tp v, cs = [.iface tp v] := by
 cases fuel with
 | zero => simp [DataW.trod] at h
 | succ fuel =>
  cases d <;> simp at hd
  simp only [DataW.trod, ht] at h
  split at h <;> first | exact ⟨_, _, rfl⟩ | (simp at h; done) | simp_all
  all_goals (repeat' split at h) <;> simp_all
end Go.Gou
namespace Go.Proofs.YtgolafbneiffpaaGreatDoor
open Go.RowKit Go.Gou Go.Txt
set_option maxRecDepth 100000
theorem gK : Tryz.prog.globalNamed "gouache/text.kinds" = some 1 := by kernel_rfl
theorem tK : (Tryz.prog.globals[1]?).map (·.type) = some 159 := by kernel_rfl
theorem tS : (Tryz.prog.globals[6]?).map (·.type) = some 102 := by kernel_rfl
theorem tR : (Tryz.prog.globals[7]?).map (·.type) = some 102 := by kernel_rfl
theorem tP : (Tryz.prog.globals[5]?).map (·.type) = some 208 := by kernel_rfl
theorem lt_of {W : World} (h : laidMetH Tryz.prog Rows.textBlankRow.laid W) (hs : W.ShapedOpen Tryz.prog) : LT W := by
 have hk : laidMet Tryz.prog [("gouache/text.kinds", Rows.laid_gouache_text_kinds)] W := laidMetH.filter (fun x => x.1 == "gouache/text.kinds") h
 have hS : laidMet Tryz.prog [("strconv.ErrSyntax", Rows.laid_strconv_ErrSyntax)] W := laidMetH.filter (fun x => x.1 == "strconv.ErrSyntax") h
 have hR : laidMet Tryz.prog [("strconv.ErrRange", Rows.laid_strconv_ErrRange)] W := laidMetH.filter (fun x => x.1 == "strconv.ErrRange") h
 have hP : laidMet Tryz.prog [("internal/strconv.uint64pow10", Rows.laid_internal_strconv_uint64pow10)] W := laidMetH.filter (fun x => x.1 == "internal/strconv.uint64pow10") h
 have hpow : Lib.TabIs Tryz.prog W "internal/strconv.uint64pow10" .u64 Lib.pow10Tab := Lib.tabIs_of_head g5 tP Tryz.underlying208 Tryz.underlying194 (by kernel_rfl) (by kernel_rfl) hP
 obtain ⟨gk, tk', ck, fk, pk, e1, e2, e3, e4⟩ := Lib.laidMet.reads hk (List.mem_singleton.2 rfl)
 obtain rfl := Option.some.inj (gK.symm.trans e1)
 obtain rfl := Option.some.inj (tK.symm.trans e2)
 have hcs := ut1 (zs := kindsL) Tryz.underlying159 Tryz.underlying9 (by kernel_rfl) (by kernel_rfl) e4
 obtain ⟨gs, ts, cS, fs, pS, s1, s2, s3, s4⟩ := Lib.laidMet.reads hS (List.mem_singleton.2 rfl)
 obtain rfl := Option.some.inj (g6.symm.trans s1)
 obtain rfl := Option.some.inj (tS.symm.trans s2)
 obtain ⟨tpS, vS, hcS⟩ := uvd Tryz.underlying102 rfl s4
 obtain ⟨gr, tr, cR, fr, pR, r1, r2, r3, r4⟩ := Lib.laidMet.reads hR (List.mem_singleton.2 rfl)
 obtain rfl := Option.some.inj (g7.symm.trans r1)
 obtain rfl := Option.some.inj (tR.symm.trans r2)
 obtain ⟨tpR, vR, hcR⟩ := uvd Tryz.underlying102 rfl r4
 have hmx : ∃ m, W.cell? ⟨2, 0, none⟩ = some (iV m) := Go.Proofs.cell_of_shapedOpen_int hs (t := 3) (zero := #[iV 0]) (of_decide_eq_true (by kernel_rfl)) (by kernel_rfl) (by kernel_rfl) (by kernel_rfl) (by kernel_rfl) Tryz.underlying3
 refine ⟨?_, hpow, ⟨tpS, vS, ?_⟩, ⟨tpR, vR, ?_⟩, fun i hi => ?_, hmx⟩
 ·obtain ⟨cs, hh, hsz, _⟩ := hs.1 9 (((Go.begin Tryz.prog (fun _ _ => 0) default).world.heap[9]?).bind Obj.row? |>.getD (#[], 0)).1 (((Go.begin Tryz.prog (fun _ _ => 0) default).world.heap[9]?).bind Obj.row? |>.getD (#[], 0)).2 (of_decide_eq_true (by kernel_rfl)) (by kernel_rfl)
  rcases Nat.lt_or_ge 9 W.heap.size with h9 | h9
  ·exact h9
  ·rw [Array.getElem?_eq_none h9] at hh
   cases hh
 ·rw [s3]
  exact congrArg some (by cases cS; simpa using hcS)
 ·rw [r3]
  exact congrArg some (by cases cR; simpa using hcR)
 ·have := World.var?_cell gK e3 i
  have hl : i < kindsL.length := hi
  rw [this, ← agT, hcs, List.getElem?_map, lgE hl]
  simp [List.getD, hl]
end Go.Proofs.YtgolafbneiffpaaGreatDoor
namespace Go.Txt
open Go Go.Gou
theorem cut_some {s t : List UInt8} {xs : List Ac} {k : Nat} (h : getT s = (xs, some k)) : getT (s ++ 10 :: t) = (xs, some k) := by
 rw [cut_law, h]
theorem cut_none {s t : List UInt8} {xs ys : List Ac} {o : Option Nat} (h : getT s = (xs, none)) (h2 : getT t = (ys, o)) : getT (s ++ 10 :: t) = (xs ++ ys, o.map (· + (uko s).length)) := by
 rw [cut_law, h, h2]
end Go.Txt
namespace Go.Proofs.YtgolafbneiffpaaGreatDoor
open Go.RowKit Go.Gou Go.Txt
set_option maxRecDepth 100000
theorem actsR_head {w : World} {p : Option Addr} {c : Nat} {xs ys : List Ac} (h : ActsR w (.slice p (xs ++ ys).length c) (xs ++ ys)) : ActsR w (.slice p xs.length c) xs := by
 obtain ⟨p', cap, e, hc, h⟩ := h
 cases e
 have hl : (xs ++ ys).length = xs.length + ys.length := List.length_append
 refine ⟨p, c, rfl, by omega, ?_⟩
 rcases h with h | ⟨b, o, rfl, hb, h⟩
 ·exact .inl (by omega)
 ·refine .inr ⟨b, o, rfl, hb, fun i hi => ?_⟩
  have := h i (by omega)
  rw [List.getElem_append_left hi] at this
  exact this
theorem actsR_tail {w : World} {p : Option Addr} {c : Nat} {xs ys : List Ac} (h : ActsR w (.slice p (xs ++ ys).length c) (xs ++ ys)) : ActsR w (.slice (p.map fun x => x.add (xs.length * 42)) ys.length (c - xs.length)) ys := by
 obtain ⟨p', cap, e, hc, h⟩ := h
 cases e
 have hl : (xs ++ ys).length = xs.length + ys.length := List.length_append
 refine ⟨_, _, rfl, by omega, ?_⟩
 rcases h with h | ⟨b, o, rfl, hb, h⟩
 ·exact .inl (by omega)
 ·refine .inr ⟨b, o + xs.length * 42, by by_cases h0 : xs.length * 42 = 0 <;> simp [Addr.add, h0], hb, fun i hi => ?_⟩
  have := h (xs.length + i) (by omega)
  rw [List.getElem_append_right (by omega)] at this
  simp only [Nat.add_sub_cancel_left, Nat.add_mul] at this
  simpa only [Nat.add_assoc] using this
theorem actsR_none {w : World} {p q : Option Addr} {c n k : Nat} {xs ys : List Ac} (h : ActsR w (.slice p n c) (xs ++ ys)) (hc : c = xs.length) (hk : k = ys.length) : ActsR w (.slice q k 0) ys := by
 obtain ⟨p', cap, e, hc', h⟩ := h
 cases e
 have hl : (xs ++ ys).length = xs.length + ys.length := List.length_append
 subst hk
 exact ⟨q, 0, rfl, by omega, .inl (by omega)⟩
theorem textCut_law (w : World) (s : List UInt8) (hs : s.length ≤ reachBytes) (t : List UInt8) (ht0 : t.length ≤ reachBytes) (ht : LT w) : Calls Tryz.prog 6 #[.string ⟨s.toArray⟩, .string ⟨t.toArray⟩] w fun e w' => e = .returned (.bool true) ∧ Gou.Mod (fun _ => False) w w' := by
 have Ht := hd' ht
 have hsz : (⟨s.toArray⟩ : ByteArray).size = s.length := by simp [ByteArray.size]
 have htz : (⟨t.toArray⟩ : ByteArray).size = t.length := by simp [ByteArray.size]
 have Hsz := hd' hsz
 have Htz := hd' htz
 have ew : wrap64 ((s.length : Int) + (t.length : Int)) = (s.length : Int) + (t.length : Int) := IntWalk.wrap64_in _ (by unfold reachBytes at hs ht0; omega)
 clear ht hs ht0
 go_enter Tryz.func6, Tryz.ntmps6
 go_wp2_with fail
 refine (uqw w Ht.o).mono ?_
 rintro e w1 ⟨rfl, hm1⟩
 have HM1 := hd' hm1
 clear hm1
 by_cases hl : 3000 < s.length + t.length
 ·have d0 : decide ((3000 : Int) < (s.length : Int) + (t.length : Int)) = true := dqt (by omega)
  clear hl
  go_wp2_with fail
  refine (uqw w1 (Ht.o.up0 HM1.o)).mono ?_
  rintro e w2 ⟨rfl, hm2⟩
  have HM2 := hd' (HM1.o.trans' hm2)
  clear hm2
  go_wp2_with fail
  go_ret
  exact ⟨rfl, HM2.o⟩
 have d0 : decide ((3000 : Int) < (s.length : Int) + (t.length : Int)) = false := dqf (by omega)
 have Hl : Hid (s.length + t.length ≤ 3000) := hd' (by omega)
 clear hl
 go_wp2_with fail
 refine (upm w1 s (by have := Hl.o; omega) (Ht.o.up0 HM1.o)).mono ?_
 rintro e w2 ⟨hm2, p1, c1, rfl, hA⟩
 have HM2 := hd' (HM1.o.trans' hm2)
 have HA := hd' hA
 have Hfe := hd' (get_few (s := s) (by have := Hl.o; omega))
 have Hbo := hd' (get_born s)
 have Hft := hd' (get_few (s := t) (by have := Hl.o; omega))
 have Hbt := hd' (get_born t)
 have Hgt := hd' (fun w' (ht' : LT w') => upm w' t (by have := Hl.o; omega) ht')
 have Hg2 := hd' (fun w' (ht' : LT w') => upm w' (s ++ 10 :: t) (by have := Hl.o; simp; omega) ht')
 have Hcs := hd' (fun xs k => cut_some (s := s) (t := t) (xs := xs) (k := k))
 have Hcn := hd' (fun xs ys o => cut_none (s := s) (t := t) (xs := xs) (ys := ys) (o := o))
 have hX1 : (⟨s.toArray⟩ : ByteArray) ++ ⟨#[10]⟩ = ⟨(s ++ [10]).toArray⟩ := urr _ _
 have hX2 : (⟨(s ++ [10]).toArray⟩ : ByteArray) ++ ⟨t.toArray⟩ = ⟨(s ++ 10 :: t).toArray⟩ := by rw [show s ++ 10 :: t = (s ++ [10]) ++ t by simp]; exact urr _ _
 have hz1 : (⟨(s ++ [10]).toArray⟩ : ByteArray).size = s.length + 1 := by simp [ByteArray.size]
 have hz0 := Hsz.o
 have hzt := Htz.o
 have hn1 : ¬ 9223372036854775807 < s.length + 1 := by have := Hl.o; omega
 have hn2 : ¬ 9223372036854775807 < s.length + 1 + t.length := by have := Hl.o; omega
 generalize (⟨(s ++ 10 :: t).toArray⟩ : ByteArray) = X2 at *
 generalize (⟨(s ++ [10]).toArray⟩ : ByteArray) = X1 at *
 generalize (⟨s.toArray⟩ : ByteArray) = S at *
 generalize (⟨t.toArray⟩ : ByteArray) = T at *
 generalize getT (s ++ 10 :: t) = R2 at *
 generalize getT s = R at *
 generalize getT t = Rt at *
 obtain ⟨xs, o⟩ := R
 obtain ⟨ys, ot⟩ := Rt
 have Hxl : Hid (xs.length ≤ 1000000000) := hd' Hfe.o.1
 have Hyl : Hid (ys.length ≤ 1000000000) := hd' Hft.o.1
 have HA : Hid (ActsR w2 (.slice p1 xs.length c1) xs) := HA
 have Hbo : Hid (∀ a ∈ xs, LookBorne a.op.look) := Hbo
 have Hbt : Hid (∀ a ∈ ys, LookBorne a.op.look) := Hbt
 clear hm2 hA Hfe Hft
 cases o with
 | some k =>
  have e2 := Hcs.o xs k rfl
  subst e2
  have Hg2 : Hid (∀ w', LT w' → Calls Tryz.prog 11 #[.string X2] w' (TGetP w' (xs, some k))) := Hg2
  go_wp2_with fail
  refine (Hg2.o w2 (Ht.o.up0 HM2.o)).mono ?_
  rintro e w3 ⟨hm3, p3, c3, rfl, hA3⟩
  have HM3 := hd' (HM2.o.trans' hm3)
  have HA3 : Hid (ActsR w3 (.slice p3 xs.length c3) xs) := hd' hA3
  have HA2 := hd' (utq HA.o hm3)
  clear hm3 hA3 hX1 hX2 hz0 hz1 hn1 hn2
  go_wp2_with fail
  refine (upy w3 p1 p3 c1 c3 xs xs HA2.o HA3.o Hbo.o Hbo.o Hxl.o Hxl.o).mono ?_
  rintro e w4 ⟨rfl, hm4⟩
  have HM4 := hd' (HM3.o.trans' hm4)
  rw [dqt rfl]
  clear hm4
  go_wp2_with fail
  go_ret
  exact ⟨rfl, HM4.o⟩
 | none =>
  have e2 := Hcn.o xs ys ot rfl rfl
  subst e2
  obtain ⟨o2, h2, h3⟩ : ∃ o2 : Option Nat, (ot.map (· + (uko s).length)) = o2 ∧ o2.isSome = ot.isSome := ⟨_, rfl, by simp⟩
  rw [h2] at Hg2
  clear h2 Hcs Hcn
  obtain ⟨ev, Hev⟩ : ∃ ev : Int, ev = (if ot.isSome then 2 else 0) := ⟨_, rfl⟩
  obtain ⟨n2, Hn2⟩ : ∃ n2 : Int, n2 = ((o2.getD 0 : Nat) : Int) := ⟨_, rfl⟩
  obtain ⟨nt, Hnt⟩ : ∃ nt : Int, nt = ((ot.getD 0 : Nat) : Int) := ⟨_, rfl⟩
  have Hg2 : Hid (∀ w', LT w' → Calls Tryz.prog 11 #[.string X2] w' (fun e w'' => Gou.Mod (fun _ => False) w' w'' ∧ ∃ p c, e = .returned (.tuple #[.slice p (xs ++ ys).length c, iV n2, iV ev]) ∧ ActsR w'' (.slice p (xs ++ ys).length c) (xs ++ ys))) := hd' (by
   subst Hev Hn2
   rw [← h3]
   exact Hg2.o)
  have Hgt : Hid (∀ w', LT w' → Calls Tryz.prog 11 #[.string T] w' (fun e w'' => Gou.Mod (fun _ => False) w' w'' ∧ ∃ p c, e = .returned (.tuple #[.slice p ys.length c, iV nt, iV ev]) ∧ ActsR w'' (.slice p ys.length c) ys)) := hd' (by
   subst Hev Hnt
   exact Hgt.o)
  clear Hev Hn2 Hnt h3
  go_wp2_with fail
  refine (Hg2.o w2 (Ht.o.up0 HM2.o)).mono ?_
  rintro e w3 ⟨hm3, p3, c3, rfl, hA3⟩
  have HM3 := hd' (HM2.o.trans' hm3)
  have HA3 : Hid (ActsR w3 (.slice p3 (xs ++ ys).length c3) (xs ++ ys)) := hd' hA3
  have HA2 := hd' (utq HA.o hm3)
  clear hm3 hX1 hX2 hz0 hz1 hn1 hn2
  have hll : (xs ++ ys).length = xs.length + ys.length := List.length_append
  obtain ⟨n, hn⟩ : ∃ n, n = (xs ++ ys).length := ⟨_, rfl⟩
  obtain ⟨m, hm⟩ : ∃ m, m = xs.length := ⟨_, rfl⟩
  obtain ⟨hx3, hy3⟩ : (ActsR w3 (.slice p3 m c3) xs) ∧ m ≤ n := ⟨hm ▸ actsR_head hA3, by omega⟩
  have hc3 : n ≤ c3 := by
   obtain ⟨p', c', e, hc, _⟩ := hA3
   cases e
   omega
  rw [← hn]
  have d1 : decide ((n : Int) < (m : Int)) = false := dqf (by omega)
  go_wp2_with fail
  refine (upy w3 p1 p3 c1 c3 xs xs HA2.o (by rw [hm] at hx3; exact hx3) Hbo.o Hbo.o Hxl.o Hxl.o).mono ?_
  rintro e w4 ⟨rfl, hm4⟩
  have HM4 := hd' (HM3.o.trans' hm4)
  have HA4 : Hid (ActsR w4 (.slice p3 (xs ++ ys).length c3) (xs ++ ys)) := hd' (utq hA3 hm4)
  rw [dqt rfl]
  clear hm4
  go_wp2_with fail
  refine (Hgt.o w4 (Ht.o.up0 HM4.o)).mono ?_
  rintro e w5 ⟨hm5, p5, c5, rfl, hA5⟩
  have HM5 := hd' (HM4.o.trans' hm5)
  have HA5 : Hid (ActsR w5 (.slice p3 (xs ++ ys).length c3) (xs ++ ys)) := hd' (utq HA4.o hm5)
  clear hm5
  have HA5b : Hid (ActsR w5 (.slice p5 ys.length c5) ys) := hd' hA5
  clear hA5
  go_wp2_with fail
  ·rename_i hcc
   refine (upy w5 _ p5 _ c5 ys ys (actsR_none HA5.o (by omega) rfl) HA5b.o Hbt.o Hbt.o Hyl.o Hyl.o).mono ?_
   rintro e w6 ⟨rfl, hm6⟩
   have HM6 := hd' (HM5.o.trans' hm6)
   rw [dqt rfl]
   clear hm6
   go_wp2_with fail
   go_ret
   exact ⟨rfl, HM6.o⟩
  ·refine (upy w5 _ p5 _ c5 ys ys (actsR_tail HA5.o) HA5b.o Hbt.o Hbt.o Hyl.o Hyl.o).mono ?_
   rintro e w6 ⟨rfl, hm6⟩
   have HM6 := hd' (HM5.o.trans' hm6)
   rw [dqt rfl]
   clear hm6
   go_wp2_with fail
   go_ret
   exact ⟨rfl, HM6.o⟩
end Go.Proofs.YtgolafbneiffpaaGreatDoor
