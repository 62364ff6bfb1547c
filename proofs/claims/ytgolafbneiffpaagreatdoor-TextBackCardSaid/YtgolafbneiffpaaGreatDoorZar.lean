/- Texts of the scenes' proofs, laid together: RfF, RfG, RfH, GetD, BackA, TzD, TzE, TzF, TzG, TzI, TzJ. -/
import Derived.Test.YtgolafbneiffpaaGreatDoorZaq
import Derived.Deep.RegionHeld
import Derived.Great.BuildSlice
import Derived.Test.YtgolafbneiffpaaGreatDoorZap
import Derived.Lib.SplitLaws
set_option maxHeartbeats 64000000
set_option linter.unusedSimpArgs false
set_option linter.unusedVariables false
set_option linter.unusedSectionVars false
set_option linter.constructorNameAsVariable false
namespace Go.Gou
open Go.RowKit
theorem ActsR.act {w : World} {p : Option Addr} {n c : Nat} {xs : List Ac} (h : ActsR w (.slice p n c) xs) (h0 : 0 < xs.length) :
  n = xs.length ∧ ∃ b o, p = some ⟨b, o, none⟩ ∧ b < w.heap.size ∧ ∀ i, (hi : i < xs.length) → ∃ p1 k1 p2 k2 p3 k3, w.rangeAt b (o + i * 42) (actC xs[i] (.slice p1 xs[i].op.look.content.pix.length k1) (.slice p2 xs[i].op.look.filt.nodes.length k2) (.slice p3 xs[i].op.look.back.nodes.length k3)).toList ∧ LookR (fun _ => True) w xs[i].op.look (.slice p1 xs[i].op.look.content.pix.length k1) (.slice p2 xs[i].op.look.filt.nodes.length k2) (.slice p3 xs[i].op.look.back.nodes.length k3) := by
 obtain ⟨p', c', e, hcap, h⟩ := h
 simp only [Value.slice.injEq] at e
 obtain ⟨rfl, rfl, rfl⟩ := e
 rcases h with h | ⟨b, o, rfl, hb, hc⟩
 ·omega
 ·refine ⟨rfl, b, o, rfl, hb, fun i hi => ?_⟩
  obtain ⟨vp, vf, vb, h1, h2⟩ := hc i hi
  obtain ⟨p1, k1, rfl, _⟩ := RowG.form h2.pix
  obtain ⟨p2, k2, rfl⟩ := h2.filt.form
  obtain ⟨p3, k3, rfl⟩ := h2.back.form
  exact ⟨p1, k1, p2, k2, p3, k3, fun j v hv => h1 j v (by rw [← agT]; exact hv), h2⟩
theorem ActsR.form {w : World} {v : Value} {xs : List Ac} (h : ActsR w v xs) : ∃ p c, v = .slice p xs.length c ∧ xs.length ≤ c := by
 obtain ⟨p, c, rfl, hc, _⟩ := h
 exact ⟨p, c, rfl, hc⟩
theorem ActsR.mod {S : Nat → Prop} {w w' : World} {v : Value} {xs : List Ac} (h : ActsR w v xs) (hm : Mod S w w') (hS : ∀ k, k < w.heap.size → ¬ S k) : ActsR w' v xs := by
 obtain ⟨p, c, rfl, hcap, h⟩ := h
 refine ⟨p, c, rfl, hcap, h.imp id ?_⟩
 rintro ⟨b, o, rfl, hb, hc⟩
 refine ⟨b, o, rfl, Nat.lt_of_lt_of_le hb hm.size, fun i hi => ?_⟩
 obtain ⟨vp, vf, vb, h1, h2⟩ := hc i hi
 exact ⟨vp, vf, vb, fun j u hu => by rw [hm.cell (p := ⟨b, o + i * 42 + j, none⟩) hb (hS b hb)]; exact h1 j u hu, h2.mod hm fun k hk _ => hS k hk⟩
theorem ActsR.take {w : World} {p : Option Addr} {n c : Nat} {xs : List Ac} (h : ActsR w (.slice p n c) xs) (k : Nat) (hk : k ≤ xs.length) (c' : Nat) (hc' : k ≤ c') : ActsR w (.slice p k c') (xs.take k) := by
 obtain ⟨p', c0, e, hcap, h⟩ := h
 simp only [Value.slice.injEq] at e
 obtain ⟨rfl, rfl, rfl⟩ := e
 refine ⟨p, c', by simp; omega, by simp; omega, ?_⟩
 rcases h with h | ⟨b, o, rfl, hb, hc⟩
 ·left; simp; omega
 ·refine .inr ⟨b, o, rfl, hb, fun i hi => ?_⟩
  have hi' : i < xs.length := by simp at hi; omega
  obtain ⟨vp, vf, vb, h1, h2⟩ := hc i hi'
  rw [List.getElem_take]
  exact ⟨vp, vf, vb, h1, h2⟩
theorem ActsV.toR {TA : TypeId} {base : Nat} {w : World} {v : Value} {xs : List Ac} (h : ActsV TA base w v xs) : ActsR w v xs := by
 obtain ⟨cs, lo, hi, hown, hin, _⟩ := h
 have hlt := hown.lt
 obtain ⟨hl, h⟩ := hown
 rcases h with ⟨rfl, h0⟩ | ⟨g, cap, cur, rfl, hg, hh, hn, _, _, ht⟩
 ·obtain rfl := List.length_eq_zero_iff.1 h0
  exact ⟨none, 0, rfl, Nat.le_refl _, .inl rfl⟩
 ·refine ⟨_, cap, rfl, hn, .inr ⟨g, 0, rfl, (hlt g rfl).2, fun i hi' => ?_⟩⟩
  obtain ⟨vp, vf, vb, h1, h2, _⟩ := hin.at_ i hi'
  refine ⟨vp, vf, vb, fun j u hu => ?_, h2.imp fun _ _ _ => trivial⟩
  have hj : j < 42 := by
   have := (Array.getElem?_eq_some_iff.1 hu).1
   simpa [actC] using this
  have hc := h1 j hj
  rw [hu] at hc
  rw [Nat.zero_add, cell_of_row w g _ cur _ (0, 0) hh, ← agT, ← hc, ← ht, List.getElem?_take, if_pos (by
   have : (i + 1) * 42 ≤ xs.length * 42 := Nat.mul_le_mul_right _ (by omega)
   omega)]
end Go.Gou
namespace Go.Proofs.YtgolafbneiffpaaGreatDoor
open Go.RowKit Go.Gou
set_option maxRecDepth 100000
theorem upy (w : World) (r1 r2 : Option Addr) (c1 c2 : Nat) (xs ys : List Ac) (hx : ActsR w (.slice r1 xs.length c1) xs) (hy : ActsR w (.slice r2 ys.length c2) ys) (bx : ∀ x ∈ xs, LookBorne x.op.look) (by_ : ∀ x ∈ ys, LookBorne x.op.look) (hl : xs.length ≤ 1000000000) (hl2 : ys.length ≤ 1000000000) :
  Calls Tryz.prog 12 #[.slice r1 xs.length c1, .slice r2 ys.length c2] w fun e w' => e = .returned (.bool (decide (xs = ys))) ∧ Gou.Mod (fun _ => False) w w' := by
 have Hx := hd' hx
 have Hy := hd' hy
 have BX := hd' bx
 have BY := hd' by_
 have HL := hd' hl
 clear hx hy bx by_
 go_enter Tryz.func12, Tryz.ntmps12
 by_cases hlen : xs.length = ys.length
 ·have e1 : ((xs.length : Int) != (ys.length : Int)) = false := by simp [hlen]
  have Hlen := hd' hlen
  clear hlen
  go_wp2_with fail
  go_loopw [5] (fun c wr => ∃ i : Nat, c = iV i ∧ i ≤ xs.length ∧ xs.take i = ys.take i ∧ Gou.Mod (fun _ => False) w wr) (fun c _ => xs.length - (intOf c).toNat)
  case atStart => exact ⟨0, rfl, by omega, by simp, Gou.Mod.refl _ _⟩
  case round =>
   obtain ⟨i, rfl, hi, ht, hm⟩ := hrel
   have Ht := hd' ht
   have Hm := hd' hm
   clear ht hm
   by_cases hil : i < xs.length
   ·have e2 : decide ((i : Int) < (xs.length : Int)) = true := by simp; omega
    have hil2 : i < ys.length := by have := Hlen.o; omega
    obtain ⟨-, b1, o1, rfl, hb1, hc1⟩ := Hx.o.act (by omega)
    obtain ⟨-, b2, o2, rfl, hb2, hc2⟩ := Hy.o.act (by omega)
    obtain ⟨p1, k1, p2, k2, p3, k3, h1, l1⟩ := hc1 i hil
    obtain ⟨q1, j1, q2, j2, q3, j3, h2, l2⟩ := hc2 i hil2
    have hiI : (i : Int) < (xs.length : Int) := by omega
    have hiJ : (i : Int) < (ys.length : Int) := by omega
    have hi0I : (0 : Int) ≤ (i : Int) := by omega
    have Bx := hd' (BX.o _ (lgM hil))
    have By := hd' (BY.o _ (lgM hil2))
    have Hne := hd' (fun he => uet (i := i) hil hil2 he : xs[i] ≠ ys[i] → xs ≠ ys)
    have Heq := hd' (fun he => uci hil hil2 Ht.o he : xs[i] = ys[i] → xs.take (i + 1) = ys.take (i + 1))
    clear hc1 hc2
    generalize xs[i] = x at *
    generalize ys[i] = y at *
    have HS : Hid (∀ w' : World, Gou.Mod (fun _ => False) w w' → w'.rangeAt b1 (o1 + i * 42) (actC x (.slice p1 x.op.look.content.pix.length k1) (.slice p2 x.op.look.filt.nodes.length k2) (.slice p3 x.op.look.back.nodes.length k3)).toList ∧ w'.rangeAt b2 (o2 + i * 42) (actC y (.slice q1 y.op.look.content.pix.length j1) (.slice q2 y.op.look.filt.nodes.length j2) (.slice q3 y.op.look.back.nodes.length j3)).toList) := hd' (fun w' hm => ⟨fun j v hv => (hm.cell (p := ⟨b1, o1 + i * 42 + j, none⟩) hb1 (fun h => h)).trans (h1 j v hv), fun j v hv => (hm.cell (p := ⟨b2, o2 + i * 42 + j, none⟩) hb2 (fun h => h)).trans (h2 j v hv)⟩)
    have Hl1 := hd' ((l1.mod Hm.o (fun _ _ _ h => h)).mod (Gou.Mod.drew (fun _ => False) wr) (fun _ _ _ h => h))
    have Hl2 := hd' ((l2.mod Hm.o (fun _ _ _ h => h)).mod (Gou.Mod.drew (fun _ => False) wr) (fun _ _ _ h => h))
    clear h1 h2 l1 l2
    go_wp2_with fail
    refine wp_region_held_drew (S := (fun w' => w'.rangeAt b1 (o1 + i * 42) (actC x (.slice p1 x.op.look.content.pix.length k1) (.slice p2 x.op.look.filt.nodes.length k2) (.slice p3 x.op.look.back.nodes.length k3)).toList ∧ w'.rangeAt b2 (o2 + i * 42) (actC y (.slice q1 y.op.look.content.pix.length j1) (.slice q2 y.op.look.filt.nodes.length j2) (.slice q3 y.op.look.back.nodes.length j3)).toList)) (by kernel_rfl) (HS.o _ (Hm.o.trans' (Gou.Mod.drew _ _))) (fun hH => ?_)
    refine wpAnyH_take (i := 0) (oi := ({ dst := some 17, op := Op.move (Operand.tmp 0), type := 49, pos := "ref.go:395", after := #[], guard := none } : Oper)) (v := .slice (some ⟨b1, o1, none⟩) xs.length c1) rfl (by kernel_rfl) (by kernel_rfl) (by kernel_rfl) (fun _ _ _ h => h) (Or.inl ⟨by rfl, ?_⟩) hH ?_
    ·(intro w' hSw; (try dsimp only at hSw); clear hSw; go_simp; (try with_reducible rfl))
    try simp only [Act.put, List.setIfInBounds_toArray, List.set_cons_zero, List.set_cons_succ]
    refine wpAnyH_take (i := 1) (oi := ({ dst := some 18, op := Op.move (Operand.tmp 5), type := 3, pos := "ref.go:395", after := #[], guard := none } : Oper)) (v := iV (i : Nat)) rfl (by kernel_rfl) (by kernel_rfl) (by kernel_rfl) (fun _ _ _ h => h) (Or.inl ⟨by rfl, ?_⟩) hH ?_
    ·(intro w' hSw; (try dsimp only at hSw); clear hSw; go_simp; (try with_reducible rfl))
    try simp only [Act.put, List.setIfInBounds_toArray, List.set_cons_zero, List.set_cons_succ]
    refine wpAnyH_take (i := 2) (oi := ({ dst := some 19, op := Op.indexAddr 49 (Operand.tmp 17) (Operand.tmp 18), type := 0, pos := "ref.go:395", after := #[{ on := 0, ground := Ground.data }, { on := 1, ground := Ground.data }], guard := none } : Oper)) (v := .pointer (some ⟨b1, o1 + i * 42, none⟩)) rfl (by kernel_rfl) (by kernel_rfl) (by kernel_rfl) (fun _ _ _ h => h) (Or.inl ⟨by rfl, ?_⟩) hH ?_
    ·(intro w' hSw; (try dsimp only at hSw); clear hSw; go_simp; (try with_reducible rfl))
    try simp only [Act.put, List.setIfInBounds_toArray, List.set_cons_zero, List.set_cons_succ]
    refine wpAnyH_take (i := 3) (oi := ({ dst := some 20, op := Op.load 41 (Operand.tmp 19), type := 41, pos := "ref.go:395", after := #[{ on := 2, ground := Ground.data }], guard := none } : Oper)) (v := .agg (actC x (.slice p1 x.op.look.content.pix.length k1) (.slice p2 x.op.look.filt.nodes.length k2) (.slice p3 x.op.look.back.nodes.length k3))) rfl (by kernel_rfl) (by kernel_rfl) (by kernel_rfl) (fun _ _ _ h => h) (yieldsIf_load_mid (by rfl) 41 _ rfl b1 (o1 + i * 42) rfl (actC x (.slice p1 x.op.look.content.pix.length k1) (.slice p2 x.op.look.filt.nodes.length k2) (.slice p3 x.op.look.back.nodes.length k3)).toList _ (fun w' hSw => hSw.1) Tryz.underlying41 rfl (size_act.trans (by simp [actC]))) hH ?_
    try simp only [Act.put, List.setIfInBounds_toArray, List.set_cons_zero, List.set_cons_succ]
    refine wpAnyH_take (i := 4) (oi := ({ dst := some 21, op := Op.move (Operand.tmp 1), type := 49, pos := "ref.go:395", after := #[], guard := none } : Oper)) (v := .slice (some ⟨b2, o2, none⟩) ys.length c2) rfl (by kernel_rfl) (by kernel_rfl) (by kernel_rfl) (fun _ _ _ h => h) (Or.inl ⟨by rfl, ?_⟩) hH ?_
    ·(intro w' hSw; (try dsimp only at hSw); clear hSw; go_simp; (try with_reducible rfl))
    try simp only [Act.put, List.setIfInBounds_toArray, List.set_cons_zero, List.set_cons_succ]
    refine wpAnyH_take (i := 5) (oi := ({ dst := some 22, op := Op.move (Operand.tmp 5), type := 3, pos := "ref.go:395", after := #[], guard := none } : Oper)) (v := iV (i : Nat)) rfl (by kernel_rfl) (by kernel_rfl) (by kernel_rfl) (fun _ _ _ h => h) (Or.inl ⟨by rfl, ?_⟩) hH ?_
    ·(intro w' hSw; (try dsimp only at hSw); clear hSw; go_simp; (try with_reducible rfl))
    try simp only [Act.put, List.setIfInBounds_toArray, List.set_cons_zero, List.set_cons_succ]
    refine wpAnyH_take (i := 6) (oi := ({ dst := some 23, op := Op.indexAddr 49 (Operand.tmp 21) (Operand.tmp 22), type := 0, pos := "ref.go:395", after := #[{ on := 4, ground := Ground.data }, { on := 5, ground := Ground.data }], guard := none } : Oper)) (v := .pointer (some ⟨b2, o2 + i * 42, none⟩)) rfl (by kernel_rfl) (by kernel_rfl) (by kernel_rfl) (fun _ _ _ h => h) (Or.inl ⟨by rfl, ?_⟩) hH ?_
    ·(intro w' hSw; (try dsimp only at hSw); clear hSw; go_simp; (try with_reducible rfl))
    try simp only [Act.put, List.setIfInBounds_toArray, List.set_cons_zero, List.set_cons_succ]
    refine wpAnyH_take (i := 7) (oi := ({ dst := some 24, op := Op.load 41 (Operand.tmp 23), type := 41, pos := "ref.go:395", after := #[{ on := 6, ground := Ground.data }], guard := none } : Oper)) (v := .agg (actC y (.slice q1 y.op.look.content.pix.length j1) (.slice q2 y.op.look.filt.nodes.length j2) (.slice q3 y.op.look.back.nodes.length j3))) rfl (by kernel_rfl) (by kernel_rfl) (by kernel_rfl) (fun _ _ _ h => h) (yieldsIf_load_mid (by rfl) 41 _ rfl b2 (o2 + i * 42) rfl (actC y (.slice q1 y.op.look.content.pix.length j1) (.slice q2 y.op.look.filt.nodes.length j2) (.slice q3 y.op.look.back.nodes.length j3)).toList _ (fun w' hSw => hSw.2) Tryz.underlying41 rfl (size_act.trans (by simp [actC]))) hH ?_
    try simp only [Act.put, List.setIfInBounds_toArray, List.set_cons_zero, List.set_cons_succ]
    refine wpAnyH_ready (rs := [8]) (by kernel_rfl) (by simp) (AllReadyH.cons (o := ({ dst := some 25, op := Op.call { callee := Callee.value (Operand.func 27), args := #[Operand.tmp 20, Operand.tmp 24], argTypes := #[41, 41] }, type := 4, pos := "ref.go:395", after := #[{ on := 3, ground := Ground.data }, { on := 7, ground := Ground.data }], guard := none } : Oper)) rfl (fun K hK => ?_) AllReadyH.nil)
    go_simp
    refine (actR_any _ _ _ p1 p2 p3 q1 q2 q3 k1 k2 k3 j1 j2 j3 x y Hl1.o Hl2.o Bx.o By.o).mono ?_
    rintro e w5 ⟨rfl, hm5⟩
    have Hm5 : Hid (Gou.Mod (fun _ => False) w w5) := hd' (Hm.o.trans' ((Gou.Mod.drew _ _).trans' hm5))
    clear hm5 hH
    refine hK _ _ (HS.o _ Hm5.o) (fun hH => ?_)
    clear hK K
    try simp only [Act.put, List.setIfInBounds_toArray, List.set_cons_zero, List.set_cons_succ]
    by_cases hxy : x = y
    ·have Hs := hd' (Heq.o hxy)
     have hd : decide (x = y) = true := by simp [hxy]
     clear hxy
     generalize decide (x = y) = q at *
     subst hd
     refine wpAnyH_take (i := 9) (oi := ({ dst := some 26, op := Op.unOp UnOp.not 4 (Operand.tmp 25), type := 4, pos := "ref.go:395", after := #[{ on := 8, ground := Ground.data }], guard := none } : Oper)) (v := .bool false) rfl (by kernel_rfl) (by kernel_rfl) (by kernel_rfl) (fun _ _ _ h => h) (Or.inl ⟨by rfl, ?_⟩) hH ?_
     ·(intro w' hSw; (try dsimp only at hSw); clear hSw; go_simp; (try with_reducible rfl))
     try simp only [Act.put, List.setIfInBounds_toArray, List.set_cons_zero, List.set_cons_succ]
     refine wpAnyH_done (by kernel_rfl) ?_ _
     clear hH
     go_wp2_with fail
     have hl' := HL.o
     go_roundw
     case rel => exact ⟨i + 1, by go_num, by omega, Hs.o, Hm5.o⟩
     case measure => simp [intOf]; omega
    ·have Hs := hd' (Hne.o hxy)
     have hd : decide (x = y) = false := by simp [hxy]
     clear hxy
     generalize decide (x = y) = q at *
     subst hd
     refine wpAnyH_take (i := 9) (oi := ({ dst := some 26, op := Op.unOp UnOp.not 4 (Operand.tmp 25), type := 4, pos := "ref.go:395", after := #[{ on := 8, ground := Ground.data }], guard := none } : Oper)) (v := .bool true) rfl (by kernel_rfl) (by kernel_rfl) (by kernel_rfl) (fun _ _ _ h => h) (Or.inl ⟨by rfl, ?_⟩) hH ?_
     ·(intro w' hSw; (try dsimp only at hSw); clear hSw; go_simp; (try with_reducible rfl))
     try simp only [Act.put, List.setIfInBounds_toArray, List.set_cons_zero, List.set_cons_succ]
     refine wpAnyH_done (by kernel_rfl) ?_ _
     clear hH
     go_wp2_with fail
     go_ret
     exact ⟨by simp [Hs.o], Hm5.o⟩
   ·obtain rfl : i = xs.length := by omega
    have e2 : decide ((xs.length : Int) < (xs.length : Int)) = false := by simp
    have Hs : Hid (xs = ys) := hd' (by
     have h1 := Ht.o
     rw [List.take_length, Hlen.o, List.take_length] at h1
     exact h1)
    go_wp2_with fail
    go_ret
    exact ⟨by simp [Hs.o], Hm.o⟩
 ·have e1 : ((xs.length : Int) != (ys.length : Int)) = true := by simp; omega
  have Hs : Hid (xs ≠ ys) := hd' (fun h => hlen (by rw [h]))
  clear hlen
  go_wp2_with fail
  go_ret
  exact ⟨by simp [Hs.o], Gou.Mod.refl _ _⟩
theorem few_any (w : World) (G : Nat → Prop) (p1 p2 p3 : Option Addr) (k1 k2 k3 : Nat) (a : Ac) (hx : LookR G w a.op.look (.slice p1 a.op.look.content.pix.length k1) (.slice p2 a.op.look.filt.nodes.length k2) (.slice p3 a.op.look.back.nodes.length k3)) :
  Calls Tryz.prog 8 #[.agg (actC a (.slice p1 a.op.look.content.pix.length k1) (.slice p2 a.op.look.filt.nodes.length k2) (.slice p3 a.op.look.back.nodes.length k3))] w fun e w' => (∃ q : Bool, e = .returned (.bool q) ∧ (q = true → FewOk a)) ∧ Gou.Mod (fun _ => False) w w' := by
 have HA : Hid (Blk (w.alloc (.cells (actC a (.slice p1 a.op.look.content.pix.length k1) (.slice p2 a.op.look.filt.nodes.length k2) (.slice p3 a.op.look.back.nodes.length k3)) 41)) w.heap.size 41 (actC a (.slice p1 a.op.look.content.pix.length k1) (.slice p2 a.op.look.filt.nodes.length k2) (.slice p3 a.op.look.back.nodes.length k3))) := hd' (heap_alloc_new w _)
 have Hrg : Hid (((w.alloc (.cells (actC a (.slice p1 a.op.look.content.pix.length k1) (.slice p2 a.op.look.filt.nodes.length k2) (.slice p3 a.op.look.back.nodes.length k3)) 41))).rangeAt w.heap.size 7 (lkS a.op.look p1 k1 p2 k2 p3 k3).toList) := hd' (Blk.range HA.o (uo1 a _ _ _) rfl)
 have HiL : Hid ((Tryz.prog.info? 35).map (·.size) = some (lkS a.op.look p1 k1 p2 k2 p3 k3).toList.length) := hd' (size_look.trans (by simp [uai]))
 have HiL2 : Hid ((Tryz.prog.info? 35).map (·.size) = some (lkS a.op.look p1 k1 p2 k2 p3 k3).size) := hd' (size_look.trans (by rw [uj8]))
 have hA : Blk (((w.alloc (.cells (actC a (.slice p1 a.op.look.content.pix.length k1) (.slice p2 a.op.look.filt.nodes.length k2) (.slice p3 a.op.look.back.nodes.length k3)) 41))).alloc (.cells lz28 35)) (w.heap.size + 1) 35 lz28 := by
  have := heap_alloc_new ((w.alloc (.cells (actC a (.slice p1 a.op.look.content.pix.length k1) (.slice p2 a.op.look.filt.nodes.length k2) (.slice p3 a.op.look.back.nodes.length k3)) 41))) (.cells lz28 35)
  rw [World.size_alloc] at this
  exact this
 have Hth : Hid ((((w.alloc (.cells (actC a (.slice p1 a.op.look.content.pix.length k1) (.slice p2 a.op.look.filt.nodes.length k2) (.slice p3 a.op.look.back.nodes.length k3)) 41))).alloc (.cells lz28 35)).there (w.heap.size + 1) 0 (lkS a.op.look p1 k1 p2 k2 p3 k3).size) := hd' (hA.there 0 _ (by rw [uj8]; simp))
 have hA2 := hA.sets 0 (lkS a.op.look p1 k1 p2 k2 p3 k3).toList
 rw [uef _ _ (by simp [uai])] at hA2
 have HL2 : Hid (Blk (((w.alloc (.cells (actC a (.slice p1 a.op.look.content.pix.length k1) (.slice p2 a.op.look.filt.nodes.length k2) (.slice p3 a.op.look.back.nodes.length k3)) 41)).alloc (.cells lz28 35)).setCells (w.heap.size + 1) 0 (lkS a.op.look p1 k1 p2 k2 p3 k3).toList) (w.heap.size + 1) 35 (lkS a.op.look p1 k1 p2 k2 p3 k3)) := hd' hA2
 have HM : Hid (Gou.Mod (fun _ => False) w (((w.alloc (.cells (actC a (.slice p1 a.op.look.content.pix.length k1) (.slice p2 a.op.look.filt.nodes.length k2) (.slice p3 a.op.look.back.nodes.length k3)) 41)).alloc (.cells lz28 35)).setCells (w.heap.size + 1) 0 (lkS a.op.look p1 k1 p2 k2 p3 k3).toList)) := hd' (((Gou.Mod.alloc (fun _ => False) w _).trans' (Gou.Mod.alloc _ _ _)).trans (Blk.setMod _ _ _ _) (fun i hi e => by omega))
 have Hx := hd' (hx.mod HM.o (fun _ _ _ h => h))
 clear hA hA2 hx
 have c21 : ((((w.alloc (.cells (actC a (.slice p1 a.op.look.content.pix.length k1) (.slice p2 a.op.look.filt.nodes.length k2) (.slice p3 a.op.look.back.nodes.length k3)) 41)).alloc (.cells lz28 35)).setCells (w.heap.size + 1) 0 (lkS a.op.look p1 k1 p2 k2 p3 k3).toList)).cell? ⟨w.heap.size + 1, 21, none⟩ = some (.slice p1 a.op.look.content.pix.length k1) := HL2.o.cell 21 rfl
 have c23 : ((((w.alloc (.cells (actC a (.slice p1 a.op.look.content.pix.length k1) (.slice p2 a.op.look.filt.nodes.length k2) (.slice p3 a.op.look.back.nodes.length k3)) 41)).alloc (.cells lz28 35)).setCells (w.heap.size + 1) 0 (lkS a.op.look p1 k1 p2 k2 p3 k3).toList)).cell? ⟨w.heap.size + 1, 23, none⟩ = some (.slice p2 a.op.look.filt.nodes.length k2) := HL2.o.cell 23 rfl
 have c24 : ((((w.alloc (.cells (actC a (.slice p1 a.op.look.content.pix.length k1) (.slice p2 a.op.look.filt.nodes.length k2) (.slice p3 a.op.look.back.nodes.length k3)) 41)).alloc (.cells lz28 35)).setCells (w.heap.size + 1) 0 (lkS a.op.look p1 k1 p2 k2 p3 k3).toList)).cell? ⟨w.heap.size + 1, 24, none⟩ = some (iV a.op.look.filt.out) := HL2.o.cell 24 rfl
 have c26 : ((((w.alloc (.cells (actC a (.slice p1 a.op.look.content.pix.length k1) (.slice p2 a.op.look.filt.nodes.length k2) (.slice p3 a.op.look.back.nodes.length k3)) 41)).alloc (.cells lz28 35)).setCells (w.heap.size + 1) 0 (lkS a.op.look p1 k1 p2 k2 p3 k3).toList)).cell? ⟨w.heap.size + 1, 26, none⟩ = some (.slice p3 a.op.look.back.nodes.length k3) := HL2.o.cell 26 rfl
 have c27 : ((((w.alloc (.cells (actC a (.slice p1 a.op.look.content.pix.length k1) (.slice p2 a.op.look.filt.nodes.length k2) (.slice p3 a.op.look.back.nodes.length k3)) 41)).alloc (.cells lz28 35)).setCells (w.heap.size + 1) 0 (lkS a.op.look p1 k1 p2 k2 p3 k3).toList)).cell? ⟨w.heap.size + 1, 27, none⟩ = some (iV a.op.look.back.out) := HL2.o.cell 27 rfl
 have hbl := Blk.lt HL2.o
 go_enter Tryz.func8, Tryz.ntmps8
 by_cases h1 : a.op.look.content.pix.length ≤ 400
 case neg =>
  have q1 : decide ((400 : Int) < (a.op.look.content.pix.length : Int)) = true := dqt (by omega)
  clear h1
  go_wp2_with (first | ((with_reducible refine wpList_load_mid ?g1_1x 35 ?x1_1x ?o1_1x w.heap.size 7 ?h1_1x (lkS a.op.look p1 k1 p2 k2 p3 k3).toList ?d1_1x ?c1_1x ?u1_1x ?s1_1x ?i1_1x ?r1_1x); (case g1_1x => exact rfl); (case o1_1x => exact rfl); (case h1_1x => exact rfl); (case c1_1x => exact Hrg.o); (case u1_1x => exact Tryz.underlying35); (case s1_1x => exact rfl); (case i1_1x => exact HiL.o)) | ((with_reducible refine wpList_store_mid ?g1_2x 35 ?x1_2x ?y1_2x ?o1_2x (w.heap.size + 1) 0 (lkS a.op.look p1 k1 p2 k2 p3 k3) ?h1_2x ?j1_2x ?t1_2x ?i1_2x ?s1_2x ?r1_2x); (case g1_2x => exact rfl); (case o1_2x => exact rfl); (case h1_2x => exact rfl); (case j1_2x => exact rfl); (case t1_2x => exact Hth.o); (case i1_2x => exact HiL2.o); (case s1_2x => exact uka _ _ _ _ _ _ _ _ _ _)) | fail)
  go_ret
  exact ⟨⟨false, rfl, fun h => by cases h⟩, HM.o⟩
 have q1 : decide ((400 : Int) < (a.op.look.content.pix.length : Int)) = false := dqf (by omega)
 have H1 := hd' h1
 clear h1
 by_cases h2 : a.op.look.filt.nodes.length ≤ 1100
 case neg =>
  have q2 : decide ((1100 : Int) < (a.op.look.filt.nodes.length : Int)) = true := dqt (by omega)
  clear h2
  go_wp2_with (first | ((with_reducible refine wpList_load_mid ?g1_1y 35 ?x1_1y ?o1_1y w.heap.size 7 ?h1_1y (lkS a.op.look p1 k1 p2 k2 p3 k3).toList ?d1_1y ?c1_1y ?u1_1y ?s1_1y ?i1_1y ?r1_1y); (case g1_1y => exact rfl); (case o1_1y => exact rfl); (case h1_1y => exact rfl); (case c1_1y => exact Hrg.o); (case u1_1y => exact Tryz.underlying35); (case s1_1y => exact rfl); (case i1_1y => exact HiL.o)) | ((with_reducible refine wpList_store_mid ?g1_2y 35 ?x1_2y ?y1_2y ?o1_2y (w.heap.size + 1) 0 (lkS a.op.look p1 k1 p2 k2 p3 k3) ?h1_2y ?j1_2y ?t1_2y ?i1_2y ?s1_2y ?r1_2y); (case g1_2y => exact rfl); (case o1_2y => exact rfl); (case h1_2y => exact rfl); (case j1_2y => exact rfl); (case t1_2y => exact Hth.o); (case i1_2y => exact HiL2.o); (case s1_2y => exact uka _ _ _ _ _ _ _ _ _ _)) | fail)
  go_ret
  exact ⟨⟨false, rfl, fun h => by cases h⟩, HM.o⟩
 have q2 : decide ((1100 : Int) < (a.op.look.filt.nodes.length : Int)) = false := dqf (by omega)
 have H2 := hd' h2
 clear h2
 by_cases h3 : a.op.look.back.nodes.length ≤ 1100
 case neg =>
  have q3 : decide ((1100 : Int) < (a.op.look.back.nodes.length : Int)) = true := dqt (by omega)
  clear h3
  go_wp2_with (first | ((with_reducible refine wpList_load_mid ?g1_1z 35 ?x1_1z ?o1_1z w.heap.size 7 ?h1_1z (lkS a.op.look p1 k1 p2 k2 p3 k3).toList ?d1_1z ?c1_1z ?u1_1z ?s1_1z ?i1_1z ?r1_1z); (case g1_1z => exact rfl); (case o1_1z => exact rfl); (case h1_1z => exact rfl); (case c1_1z => exact Hrg.o); (case u1_1z => exact Tryz.underlying35); (case s1_1z => exact rfl); (case i1_1z => exact HiL.o)) | ((with_reducible refine wpList_store_mid ?g1_2z 35 ?x1_2z ?y1_2z ?o1_2z (w.heap.size + 1) 0 (lkS a.op.look p1 k1 p2 k2 p3 k3) ?h1_2z ?j1_2z ?t1_2z ?i1_2z ?s1_2z ?r1_2z); (case g1_2z => exact rfl); (case o1_2z => exact rfl); (case h1_2z => exact rfl); (case j1_2z => exact rfl); (case t1_2z => exact Hth.o); (case i1_2z => exact HiL2.o); (case s1_2z => exact uka _ _ _ _ _ _ _ _ _ _)) | fail)
  go_ret
  exact ⟨⟨false, rfl, fun h => by cases h⟩, HM.o⟩
 have q3 : decide ((1100 : Int) < (a.op.look.back.nodes.length : Int)) = false := dqf (by omega)
 have H3 := hd' h3
 clear h3
 go_wp2_with (first | ((with_reducible refine wpList_load_mid ?g1_1u 35 ?x1_1u ?o1_1u w.heap.size 7 ?h1_1u (lkS a.op.look p1 k1 p2 k2 p3 k3).toList ?d1_1u ?c1_1u ?u1_1u ?s1_1u ?i1_1u ?r1_1u); (case g1_1u => exact rfl); (case o1_1u => exact rfl); (case h1_1u => exact rfl); (case c1_1u => exact Hrg.o); (case u1_1u => exact Tryz.underlying35); (case s1_1u => exact rfl); (case i1_1u => exact HiL.o)) | ((with_reducible refine wpList_store_mid ?g1_2u 35 ?x1_2u ?y1_2u ?o1_2u (w.heap.size + 1) 0 (lkS a.op.look p1 k1 p2 k2 p3 k3) ?h1_2u ?j1_2u ?t1_2u ?i1_2u ?s1_2u ?r1_2u); (case g1_2u => exact rfl); (case o1_2u => exact rfl); (case h1_2u => exact rfl); (case j1_2u => exact rfl); (case t1_2u => exact Hth.o); (case i1_2u => exact HiL2.o); (case s1_2u => exact uka _ _ _ _ _ _ _ _ _ _)) | fail)
 generalize hW2 : (((w.alloc (.cells (actC a (.slice p1 a.op.look.content.pix.length k1) (.slice p2 a.op.look.filt.nodes.length k2) (.slice p3 a.op.look.back.nodes.length k3)) 41)).alloc (.cells lz28 35)).setCells (w.heap.size + 1) 0 (lkS a.op.look p1 k1 p2 k2 p3 k3).toList) = w2 at *
 clear hW2
 refine (uq9 w2 G p2 k2 a.op.look.filt Hx.o.filt H2.o).mono ?_
 rintro e w3 ⟨⟨q, rfl, hq⟩, hm3⟩
 have Hq := hd' hq
 have HM3 := hd' (HM.o.trans' hm3)
 have Hx3 := hd' (Hx.o.mod hm3 (fun _ _ _ h => h))
 have hL3 := HL2.o.mod hm3 (fun h => h)
 have d26 : w3.cell? ⟨w.heap.size + 1, 26, none⟩ = some (.slice p3 a.op.look.back.nodes.length k3) := hL3.cell 26 rfl
 have d27 : w3.cell? ⟨w.heap.size + 1, 27, none⟩ = some (iV a.op.look.back.out) := hL3.cell 27 rfl
 clear hq hm3 hL3
 cases q with
 | false =>
  go_wp2_with fail
  go_ret
  exact ⟨⟨false, rfl, fun h => by cases h⟩, HM3.o⟩
 | true =>
  go_wp2_with fail
  refine (uq9 w3 G p3 k3 a.op.look.back Hx3.o.back H3.o).mono ?_
  rintro e w4 ⟨⟨q, rfl, hq2⟩, hm4⟩
  have Hq2 := hd' hq2
  have HM4 := hd' (HM3.o.trans' hm4)
  clear hq2 hm4
  cases q with
  | false =>
   go_wp2_with fail
   go_ret
   exact ⟨⟨false, rfl, fun h => by cases h⟩, HM4.o⟩
  | true =>
   go_wp2_with fail
   go_ret
   exact ⟨⟨true, rfl, fun _ => ⟨H1.o, H2.o, H3.o, (by have := Hq.o; simpa using this), (by have := Hq2.o; simpa using this)⟩⟩, HM4.o⟩
end Go.Proofs.YtgolafbneiffpaaGreatDoor
namespace Go.Gou
open Go.RowKit
theorem BytesAt.take {G : Nat → Prop} {w : World} {p : Option Addr} {c n : Nat} {bs : List Nat} (h : BytesAt G w (.slice p n c) bs) (k : Nat) (hk : k ≤ bs.length) : BytesAt G w (.slice p k c) (bs.take k) := by
 obtain ⟨p', c', e, hcap, h⟩ := h
 simp only [Value.slice.injEq] at e
 obtain ⟨rfl, rfl, rfl⟩ := e
 have hl : (bs.take k).length = k := by simp; omega
 refine ⟨p, c, by rw [hl], by omega, ?_⟩
 rcases h with rfl | ⟨b, o, rfl, hb, hG, hc⟩
 ·left; simp
 ·refine .inr ⟨b, o, rfl, hb, hG, fun i hi => ?_⟩
  rw [hc i (by omega)]
  simp
end Go.Gou
namespace Go.Proofs.YtgolafbneiffpaaGreatDoor
open Go.RowKit Go.Gou
end Go.Proofs.YtgolafbneiffpaaGreatDoor
namespace Go.Gou
open Go.RowKit
def Written : List Ac → List Nat → Prop
 | [], bs => bs = []
 | a :: r, bs => ∃ es rest, uk6 a = some es ∧ PxSmall a.op.look.content ∧ LookBorne a.op.look ∧ bs = es ++ rest ∧ Written r rest
theorem Written.snoc {xs : List Ac} {bs : List Nat} (h : Written xs bs) {a : Ac} {es : List Nat} (hp : uk6 a = some es) (hs : PxSmall a.op.look.content) (hb : LookBorne a.op.look) : Written (xs ++ [a]) (bs ++ es) := by
 induction xs generalizing bs with
 | nil => obtain rfl : bs = [] := h; exact ⟨es, [], hp, hs, hb, by simp, rfl⟩
 | cons x r ih =>
  obtain ⟨e1, rest, h1, h2, h3, rfl, h4⟩ := h
  exact ⟨e1, rest ++ es, h1, h2, h3, by rw [List.append_assoc], ih h4⟩
theorem Written.small {xs : List Ac} {bs : List Nat} (h : Written xs bs) : ∀ b ∈ bs, b < 256 := by
 induction xs generalizing bs with
 | nil => obtain rfl : bs = [] := h; intro b hb; cases hb
 | cons x r ih =>
  obtain ⟨e1, rest, h1, h2, h3, rfl, h4⟩ := h
  obtain ⟨e2, he2, hp⟩ := Option.bind_eq_some_iff.1 (show (ukf x).bind _ = some e1 from h1)
  obtain ⟨_, _, hp⟩ := Option.bind_eq_some_iff.1 hp
  split at hp
  ·simp only [Option.some.injEq] at hp
   subst hp
   intro b hb
   exact (List.mem_append.1 hb).elim ((umx he2 h2).2 b) (ih h4 b)
  ·cases hp
theorem Written.borne {xs : List Ac} {bs : List Nat} (h : Written xs bs) : ∀ x ∈ xs, LookBorne x.op.look := by
 induction xs generalizing bs with
 | nil => intro b hb; cases hb
 | cons x r ih =>
  obtain ⟨e1, rest, h1, h2, h3, rfl, h4⟩ := h
  intro y hy
  rcases List.mem_cons.1 hy with rfl | hy
  ·exact h3
  ·exact ih h4 y hy
theorem Written.reads {xs : List Ac} {bs : List Nat} (h : Written xs bs) : ∀ pre : List Nat, (∀ b ∈ pre, b < 256) → Reads (pre ++ bs) xs pre.length (pre ++ bs).length := by
 induction xs generalizing bs with
 | nil => obtain rfl : bs = [] := h; intro pre _; show pre.length = (pre ++ []).length; simp
 | cons x r ih =>
  intro pre hpre
  have hsm := h.small
  obtain ⟨e1, rest, h1, h2, h3, rfl, h4⟩ := h
  have hb : ∀ b ∈ pre ++ (e1 ++ rest), b < 256 := fun b hb => (List.mem_append.1 hb).elim (hpre b) (hsm b)
  have := ih h4 (pre ++ e1) (fun b hb => (List.mem_append.1 hb).elim (hpre b) fun h => hsm b (List.mem_append_left _ h))
  rw [List.append_assoc, List.length_append] at this
  refine ⟨pre.length + e1.length, uph hb h2 h1 ⟨rest, by rw [List.drop_left]⟩, this⟩
structure WantIn (G : Nat → Prop) (w : World) (cs : List Value) (xs : List Ac) : Prop where
 len : cs.length = xs.length * 42
 at_ : ∀ i, (h : i < xs.length) → ∃ vp vf vb, (∀ j, j < 42 → cs[i * 42 + j]? = (actC xs[i] vp vf vb)[j]?) ∧ LookR G w xs[i].op.look vp vf vb
theorem WantIn.nil (G : Nat → Prop) (w : World) : WantIn G w [] [] := ⟨rfl, fun i h => by simp at h⟩
theorem WantIn.mod {G S : Nat → Prop} {w w' : World} {cs : List Value} {xs : List Ac} (h : WantIn G w cs xs) (hm : Mod S w w') (hS : ∀ k, k < w.heap.size → G k → ¬ S k) : WantIn G w' cs xs :=
 ⟨h.len, fun i hi => by
  obtain ⟨vp, vf, vb, h1, h2⟩ := h.at_ i hi
  exact ⟨vp, vf, vb, h1, h2.mod hm hS⟩⟩
theorem WantIn.snoc {G : Nat → Prop} {w : World} {cs : List Value} {xs : List Ac} (h : WantIn G w cs xs) {a : Ac} {vp vf vb : Value} (hl : LookR G w a.op.look vp vf vb) : WantIn G w (cs ++ (actC a vp vf vb).toList) (xs ++ [a]) := by
 have hc : (actC a vp vf vb).toList.length = 42 := by simp [actC]
 refine ⟨by rw [List.length_append, h.len, hc, List.length_append]; simp; omega, fun i hi => ?_⟩
 by_cases hin : i < xs.length
 ·obtain ⟨up, uf, ub, h1, h2⟩ := h.at_ i hin
  rw [List.getElem_append_left hin]
  refine ⟨up, uf, ub, fun j hj => ?_, h2⟩
  rw [lgL (by rw [h.len]; have : (i + 1) * 42 ≤ xs.length * 42 := Nat.mul_le_mul_right _ (by omega); omega)]
  exact h1 j hj
 ·have hi' : i = xs.length := by simp at hi; omega
  subst hi'
  have hg : (xs ++ [a])[xs.length] = a := by simp
  rw [hg]
  refine ⟨vp, vf, vb, fun j hj => ?_, hl⟩
  rw [lgR (by rw [h.len]; omega), h.len, Nat.add_sub_cancel_left, agT]
theorem WantIn.toR {G : Nat → Prop} {TA : TypeId} {base : Nat} {w : World} {v : Value} {cs : List Value} {xs : List Ac} (h : WantIn G w cs xs) (hown : w.ownsRow base TA 42 v xs.length cs) : ActsR w v xs := by
 have hlt := hown.lt
 obtain ⟨hl, ho⟩ := hown
 rcases ho with ⟨rfl, h0⟩ | ⟨g, cap, cur, rfl, hg, hh, hn, _, _, ht⟩
 ·obtain rfl := List.length_eq_zero_iff.1 h0
  exact ⟨none, 0, rfl, Nat.le_refl _, .inl rfl⟩
 ·refine ⟨_, cap, rfl, hn, .inr ⟨g, 0, rfl, (hlt g rfl).2, fun i hi' => ?_⟩⟩
  obtain ⟨vp, vf, vb, h1, h2⟩ := h.at_ i hi'
  refine ⟨vp, vf, vb, fun j u hu => ?_, h2.imp fun _ _ _ => trivial⟩
  have hj : j < 42 := by
   have := (Array.getElem?_eq_some_iff.1 hu).1
   simpa [actC] using this
  have hc := h1 j hj
  rw [hu] at hc
  rw [Nat.zero_add, cell_of_row w g _ cur _ (0, 0) hh, ← agT, ← hc, ← ht, List.getElem?_take, if_pos (by
   have : (i + 1) * 42 ≤ xs.length * 42 := Nat.mul_le_mul_right _ (by omega)
   omega)]
end Go.Gou
namespace Go.Proofs.YtgolafbneiffpaaGreatDoor
open Go.RowKit Go.Gou
set_option maxRecDepth 100000
theorem upi {ops : Array Oper} {rest : List Oper} {o : Oper} {a : Act} {w : World} {Q : Exit → Act → World → Prop} (hg : o.guard = none) (x : Operand) (ho : o.op = .buildSlice 49 1 #[(0, x)])
  (d : Ac) (p1 p2 p3 : Option Addr) (n1 n2 n3 k1 k2 k3 : Nat) (hx : a.eval x = .agg (actC d (.slice p1 n1 k1) (.slice p2 n2 k2) (.slice p3 n3 k3)))
  (h : wpList Tryz.prog ops Q rest (a.put o.dst (.slice (some ⟨w.heap.size, 0, none⟩) 1 1)) (w.alloc (.cells (actC d (.slice p1 n1 k1) (.slice p2 n2 k2) (.slice p3 n3 k3)) 41))) : wpList Tryz.prog ops Q (o :: rest) a w := by
 obtain ⟨iA, hiA, hz0, hz1, hz2⟩ := info_parts uvc
 exact upr hg 49 41 x ho _ hx iA _ Tryz.underlying49 hiA hz0 (by rw [hz1]; simp [actC]) (by simp [Value.cells, actC]) (by simp [actC]) (by simp [actC]) h
theorem uo3 {ops : Array Oper} {rest : List Oper} {o : Oper} {a : Act} {w : World} {Q : Exit → Act → World → Prop} (hg : o.guard = none) (s x : Operand) (ho : o.op = .call { callee := .builtin .append, args := #[s, x], argTypes := #[49, 49] })
  (base : Nat) (v : Value) (n : Nat) (cs : List Value) (B : Nat) (d : Ac) (p1 p2 p3 : Option Addr) (n1 n2 n3 k1 k2 k3 : Nat) (hs : a.eval s = v) (hx : a.eval x = .slice (some ⟨B, 0, none⟩) 1 1) (hown : w.ownsRow base 41 42 v n cs)
  (hB : w.heap[B]? = some (.cells (actC d (.slice p1 n1 k1) (.slice p2 n2 k2) (.slice p3 n3 k3)) 41 (0, 0))) (hn : n ≤ 100000000) (hbase : base ≤ w.heap.size)
  (h : ∀ g cap w', w'.ownsRow base 41 42 (.slice (some ⟨g, 0, none⟩) (n + 1) cap) (n + 1) (cs ++ (actC d (.slice p1 n1 k1) (.slice p2 n2 k2) (.slice p3 n3 k3)).toList) → Gou.Mod (fun k => v.ownBlock = some k) w w' → (v.ownBlock = some g ∨ w.heap.size ≤ g) → wpList Tryz.prog ops Q rest (a.put o.dst (.slice (some ⟨g, 0, none⟩) (n + 1) cap)) w') : wpList Tryz.prog ops Q (o :: rest) a w := by
 obtain ⟨iA, hiA, hz0, hz1, hz2⟩ := info_parts uvc
 refine wpList_append_lies w hg s x 49 ho base 41 iA _ 42 336 Tryz.underlying49 hiA hz0 hz1 hz2 (by simp [Value.cells]) (by omega) v n cs hs hown ⟨B, 0, none⟩ 1 1 (actC d (.slice p1 n1 k1) (.slice p2 n2 k2) (.slice p3 n3 k3)).toList hx (by simp [actC]) (un2 hB rfl) (fun u hu => by
  have h1 := ukj d p1 n1 k1 p2 n2 k2 p3 n3 k3
  rw [Array.all_eq_true_iff_forall_mem] at h1
  exact h1 u (by simpa using hu)) (by omega) (by unfold maxLen; omega) (by omega) hbase _ rfl (fun g cap w' h1 h2 h3 h4 => h g cap w' h1 (Gou.Mod.of_grown h2) (h3.imp id fun e => by omega))
end Go.Proofs.YtgolafbneiffpaaGreatDoor
namespace Go.Txt
open Go Go.Gou
theorem uop : ∀ (s : List UInt8), (uko s).length ≤ s.length + 1 ∧ ∀ l ∈ uko s, l.length ≤ s.length
 | [] => ⟨by simp [uko], fun l hl => by simp [uko] at hl; simp [hl]⟩
 | c :: r => by
  have ih := uop r
  rw [uko]
  split
  ·refine ⟨by simp; omega, fun l hl => ?_⟩
   rcases List.mem_cons.1 hl with rfl | hl
   ·simp
   ·have := ih.2 l hl
    simp
    omega
  ·split
   ·rename_i h t he
    rw [he] at ih
    refine ⟨by have := ih.1; simp at this ⊢; omega, fun l hl => ?_⟩
    rcases List.mem_cons.1 hl with rfl | hl
    ·have := ih.2 h List.mem_cons_self
     simp
     omega
    ·have := ih.2 l (List.mem_cons_of_mem _ hl)
     simp
     omega
   ·exact ⟨by simp, fun l hl => by simp at hl; simp [hl]⟩
theorem un9 : ∀ (l : List UInt8) (acc : Wd), (ukl acc l).length ≤ l.length + 1 ∧ ∀ u ∈ ukl acc l, u.length ≤ acc.length + l.length
 | [], acc => by
  rw [ukl]
  split
  ·exact ⟨by simp, fun u hu => by cases hu⟩
  ·exact ⟨by simp, fun u hu => by simp at hu; simp [hu]⟩
 | c :: r, acc => by
  rw [ukl]
  split
  ·have ih := un9 r []
   split
   ·refine ⟨by have := ih.1; simp; omega, fun u hu => ?_⟩
    have := ih.2 u hu
    simp at this ⊢
    omega
   ·refine ⟨by have := ih.1; simp; omega, fun u hu => ?_⟩
    rcases List.mem_cons.1 hu with rfl | hu
    ·simp
    ·have := ih.2 u hu
     simp at this ⊢
     omega
  ·have ih := un9 r (acc ++ [c])
   refine ⟨by have := ih.1; simp; omega, fun u hu => ?_⟩
   have := ih.2 u hu
   simp at this ⊢
   omega
theorem utu {l : List UInt8} {ws : List Wd} (h : uli l = some ws) : ws.length ≤ l.length + 1 ∧ ∀ u ∈ ws, u.length ≤ l.length := by
 unfold uli at h
 split at h
 ·cases h
  have h1 := un9 (unr l) []
  have h2 : (unr l).length ≤ l.length := (List.takeWhile_sublist _).length_le
  refine ⟨by have := h1.1; omega, fun u hu => ?_⟩
  have := h1.2 u hu
  simp at this
  omega
 ·cases h
end Go.Txt
namespace Go.Proofs.YtgolafbneiffpaaGreatDoor
open Go.RowKit Go.Gou Go.Txt
set_option maxRecDepth 100000
def TGetP (w : World) (r : List Ac × Option Nat) (e : Ending) (w' : World) : Prop :=
 Gou.Mod (fun _ => False) w w' ∧ ∃ p c, e = .returned (.tuple #[.slice p r.1.length c, iV ((r.2.getD 0 : Nat) : Int), iV (if r.2.isSome then 2 else 0)]) ∧ ActsR w' (.slice p r.1.length c) r.1
structure GT (w1 : World) (ls : List (List UInt8)) (wr : World) (i : Nat) (xs : List Ac) (va : Value) (cs : List Value) : Prop where
 mod : Gou.Mod (fun _ => False) w1 wr
 own : wr.ownsRow w1.heap.size 41 42 va xs.length cs
 want : WantIn (fun b => w1.heap.size ≤ b ∧ va.ownBlock ≠ some b) wr cs xs
 le : xs.length ≤ i
theorem _root_.Go.Gou.WantIn.imp {G G' : Nat → Prop} {w : World} {cs : List Value} {xs : List Ac} (h : WantIn G w cs xs) (hG : ∀ k, k < w.heap.size → G k → G' k) : WantIn G' w cs xs :=
 ⟨h.len, fun i hi => by
  obtain ⟨vp, vf, vb, h1, h2⟩ := h.at_ i hi
  exact ⟨vp, vf, vb, h1, h2.imp hG⟩⟩
theorem GT.other {w1 : World} {ls : List (List UInt8)} {wr w2 : World} {i : Nat} {xs : List Ac} {va : Value} {cs : List Value} (h : GT w1 ls wr i xs va cs) (hm : Gou.Mod (fun _ => False) wr w2) : GT w1 ls w2 i xs va cs :=
 ⟨h.mod.trans' hm, uac h.own hm (fun _ _ h => h), h.want.mod hm (fun _ _ _ h => h), h.le⟩
theorem GT.push {w1 : World} {ls : List (List UInt8)} {wr w2 : World} {i : Nat} {xs : List Ac} {va : Value} {cs : List Value} (h : GT w1 ls wr i xs va cs) {a : Ac} {vp vf vb : Value} (hl : LookR (fun b => w1.heap.size ≤ b ∧ va.ownBlock ≠ some b) wr a.op.look vp vf vb)
  {g cap : Nat} (hown : w2.ownsRow w1.heap.size 41 42 (.slice (some ⟨g, 0, none⟩) (xs.length + 1) cap) (xs.length + 1) (cs ++ (actC a vp vf vb).toList)) (hm : Gou.Mod (fun k => va.ownBlock = some k) wr w2) (hg : va.ownBlock = some g ∨ wr.heap.size ≤ g) :
  GT w1 ls w2 (i + 1) (xs ++ [a]) (.slice (some ⟨g, 0, none⟩) (xs.length + 1) cap) (cs ++ (actC a vp vf vb).toList) := by
 have hw := (h.want.snoc hl).imp (G' := fun b => b < wr.heap.size ∧ w1.heap.size ≤ b ∧ va.ownBlock ≠ some b) (fun k hk hG => ⟨hk, hG⟩)
 refine ⟨h.mod.trans hm (fun k hk e => by have := (h.own.lt k e).1; omega), by rw [List.length_append]; exact hown, (hw.mod hm (fun k _ hG e => hG.2.2 e)).imp (fun k hk hG => ⟨hG.2.1, fun e => ?_⟩), by rw [List.length_append]; have := h.le; simp; omega⟩
 simp only [Value.ownBlock, Option.some.injEq] at e
 rcases hg with hg | hg
 ·exact hG.2.2 (by rw [hg, e])
 ·omega
theorem get_step {i : Nat} {l : List UInt8} {r : List (List UInt8)} {R : List Ac × Option Nat} {xs : List Ac} (h : (xs ++ (uk7 i (l :: r)).1, (uk7 i (l :: r)).2) = R) :
  (uli l = none → R = (xs, some (i + 1))) ∧ (uli l = some [] → (xs ++ (uk7 (i + 1) r).1, (uk7 (i + 1) r).2) = R) ∧ (∀ u ws, uli l = some (u :: ws) → (oneT (u :: ws) = none → R = (xs, some (i + 1))) ∧ ∀ a, oneT (u :: ws) = some a → ((xs ++ [a]) ++ (uk7 (i + 1) r).1, (uk7 (i + 1) r).2) = R) := by
 subst h
 refine ⟨fun h => by simp [uk7, h], fun h => by simp [uk7, h], fun u ws h => ⟨fun h2 => by simp [uk7, h, h2], fun a h2 => by simp [uk7, h, h2]⟩⟩
theorem upm (w : World) (s : List UInt8) (hs : s.length ≤ 90000000) (ht : LT w) : Calls Tryz.prog 11 #[.string ⟨s.toArray⟩] w (TGetP w (getT s)) := by
 generalize hR : getT s = RR
 have HRR := hd' hR
 obtain ⟨m, hm⟩ := ht.mx
 have hsz : (⟨s.toArray⟩ : ByteArray).size = s.length := by simp [ByteArray.size]
 have hall := Lib.splitB_all ⟨#[10]⟩ (by decide) 0 _ ⟨s.toArray⟩ rfl
 have hdat : (Lib.splitB ⟨#[10]⟩ 0 (Lib.countB ⟨s.toArray⟩ ⟨#[10]⟩) ⟨s.toArray⟩).map (fun x => x.data.toList) = uko s := (Lib.splitB_data _ _ _ _).trans (upw s)
 have hcall := Tryz.strings_Split ⟨s.toArray⟩ ⟨#[10]⟩ m w (by omega) hm (by decide)
 have hls := uop s
 have hlen : Lib.countB ⟨s.toArray⟩ ⟨#[10]⟩ + 1 = (uko s).length := by rw [← hall, ← hdat, List.length_map]
 have hstr : (Lib.splitB ⟨#[10]⟩ 0 (Lib.countB ⟨s.toArray⟩ ⟨#[10]⟩) ⟨s.toArray⟩).map Value.string = strs (uko s) := by rw [← hdat, strs_of]
 rw [hlen, hstr] at hcall
 have HGo : Hid (uk7 0 (uko s) = RR) := hd' hR
 have Hcall := hd' hcall
 have Hls : Hid ((uko s).length ≤ 90000001 ∧ ∀ l ∈ uko s, l.length ≤ 90000000) := hd' ⟨by have := hls.1; omega, fun l hl => Nat.le_trans (hls.2 l hl) hs⟩
 have Ht := hd' ht
 clear hR hm hall hdat hcall hls hlen hstr hsz ht HRR hs
 generalize uko s = ls at *
 generalize (⟨s.toArray⟩ : ByteArray) = S at *
 go_enter Tryz.func11, Tryz.ntmps11
 go_wp2_with fail
 refine Hcall.o.mono ?_
 rintro e w1 ⟨rfl, hww⟩
 have HM0 : Hid (Gou.Mod (fun _ => False) w w1) := hd' (by rw [hww]; exact Gou.Mod.alloc0 _ _)
 have HB1 : Hid (Blk w1 w.heap.size 9 (strs ls).toArray) := hd' (by rw [hww]; exact Blk.new w 9 _)
 clear hww Hcall
 go_wp2_with fail
 go_loopw [5, 14] (fun va vi wr => ∃ (i : Nat) (xs : List Ac) (cs : List Value), vi = iV i ∧ i ≤ ls.length ∧ GT w1 ls wr i xs va cs ∧ (xs ++ (uk7 i (ls.drop i)).1, (uk7 i (ls.drop i)).2) = RR) (fun _ vi _ => ls.length - (intOf vi).toNat)
 case atStart => exact ⟨0, [], [], rfl, by omega, ⟨Gou.Mod.refl _ _, World.ownsRow_nil _ _ _ _, WantIn.nil _ _, by simp⟩, by rw [← HGo.o]; rfl⟩
 case round =>
  obtain ⟨i, xs, cs, rfl, hi, hg, hres⟩ := hrel
  obtain ⟨pa, ca, rfl⟩ := Gou.ownsRow_form hg.own
  have HG := hd' hg
  have hi1 : wrap64 ((i : Int) + 1) = (i : Int) + 1 := IntWalk.wrap64_in _ (by have := Hls.o.1; omega)
  clear hg
  by_cases hil : i < ls.length
  ·have t1 : decide ((i : Int) < (ls.length : Int)) = true := dqt (by omega)
   have jI : (i : Int) < (ls.length : Int) := by omega
   have j0 : (0 : Int) ≤ (i : Int) := by omega
   have Hil := hd' hil
   rw [List.drop_eq_getElem_cons hil] at hres
   have HX := hd' (get_step hres)
   have Hll := hd' (Hls.o.2 _ (lgM hil))
   have cB : wr.cell? ⟨w.heap.size, i, none⟩ = some (.string ⟨(ls[i]).toArray⟩) := (HB1.o.mod HG.o.mod (fun h => h)).cell i (by simp [strs, hil] <;> rfl)
   generalize ls[i] = l at *
   clear hil hres
   go_wp2_with fail
   clear cB
   refine (split_any wr l (by have := Hll.o; omega) (Ht.o.up0 (HM0.o.trans' HG.o.mod))).mono ?_
   rintro e w2 ⟨hm2, h2⟩
   have HG2 := hd' (HG.o.other hm2)
   clear hm2 HG
   rcases hwd : uli l with _ | ws
   ·rw [hwd] at h2
    subst h2
    have Hres := hd' (HX.o.1 hwd)
    clear hwd HX
    go_wp2_with fail
    go_ret3
    refine ⟨HM0.o.trans' HG2.o.mod, ?_⟩
    rw [Hres.o]
    exact ⟨pa, ca, by rw [show (((some (i + 1) : Option Nat).getD 0 : Nat) : Int) = wrap64 ((i : Int) + 1) by rw [hi1]; simp]; rfl, HG2.o.want.toR HG2.o.own⟩
   ·rw [hwd] at h2
    obtain ⟨pw, cw, rfl, hrow⟩ := h2
    have Hws := hd' (utu hwd)
    cases ws with
    | nil =>
     have Hres := hd' (HX.o.2.1 hwd)
     clear hwd HX hrow
     go_wp2_with fail
     go_roundw
     case rel => exact ⟨i + 1, xs, cs, by go_num, by have := Hil.o; omega, ⟨HG2.o.mod, HG2.o.own, HG2.o.want, by have := HG2.o.le; omega⟩, Hres.o⟩
     case measure => first | exact ury Hil.o | exact up5 Hil.o hi1
    | cons u r =>
     have HXo := hd' (HX.o.2.2 u r hwd)
     have Hrow := hd' hrow
     have e0 : (((u :: r : List Wd).length : Int) == 0) = false := by rw [bqf]; simp only [List.length_cons]; omega
     clear hwd HX hrow
     generalize hW : (u :: r : List Wd) = W at *
     have Hne : Hid (W ≠ []) := hd' (by rw [← hW]; simp)
     clear hW
     go_wp2_with fail
     clear e0
     refine (tone_any w2 pw cw W (Ht.o.up0 (HM0.o.trans' HG2.o.mod)) Hne.o Hrow.o (by have h1 := Hws.o.1; have h2 := Hll.o; omega) (fun x hx => by have h1 := Hws.o.2 x hx; have h2 := Hll.o; omega)).mono ?_
     rintro e w3 ⟨hm3, a, v, rfl, ⟨p1, n1, k1, p2, n2, k2, p3, n3, k3, rfl, hl⟩, hab⟩
     have HG3 := hd' (HG2.o.other hm3)
     have Hab := hd' hab
     have HL3 : Hid (LookR (fun b => w1.heap.size ≤ b ∧ (Value.slice pa xs.length ca).ownBlock ≠ some b) w3 a.op.look (.slice p1 n1 k1) (.slice p2 n2 k2) (.slice p3 n3 k3)) := hd' (hl.imp fun k _ hk => ⟨Nat.le_trans HG2.o.mod.size hk, fun e => by have := (HG2.o.own.lt k e).2; omega⟩)
     have hth : (w3.alloc (.cells lz42 41)).there w3.heap.size 0 (actC a (.slice p1 n1 k1) (.slice p2 n2 k2) (.slice p3 n3 k3)).size := CS.there
     have Hth := hd' hth
     have hA := (Blk.new w3 41 lz42).sets 0 (actC a (.slice p1 n1 k1) (.slice p2 n2 k2) (.slice p3 n3 k3)).toList
     rw [uef _ _ (by simp [actC])] at hA
     have hm4 : Gou.Mod (fun _ => False) w3 ((w3.alloc (.cells lz42 41)).setCells w3.heap.size 0 (actC a (.slice p1 n1 k1) (.slice p2 n2 k2) (.slice p3 n3 k3)).toList) := (Gou.Mod.alloc0 _ _).trans (Blk.setMod _ _ _ _) (fun i hi e => by omega)
     have HA4 := hd' hA
     have HG4 := hd' (HG3.o.other hm4)
     have HL4 := hd' (HL3.o.mod hm4 (fun _ _ _ h => h))
     clear hm3 hl hab hth hA hm4
     rcases hone : oneT W with _ | a2
     ·have Hres := hd' (HXo.o.1 hone)
      clear hone
      go_wp2_with (first | ((with_reducible refine wpList_store_mid ?g1_2 41 ?x1_2 ?y1_2 ?o1_2 w3.heap.size 0 (actC a (.slice p1 n1 k1) (.slice p2 n2 k2) (.slice p3 n3 k3)) ?h1_2 ?j1_2 ?t1_2 ?i1_2 ?s1_2 ?r1_2); (case g1_2 => exact rfl); (case o1_2 => exact rfl); (case h1_2 => exact rfl); (case j1_2 => exact rfl); (case t1_2 => exact Hth.o); (case i1_2 => exact szA); (case s1_2 => exact ukj _ _ _ _ _ _ _ _ _ _)) | fail)
      go_ret3
      refine ⟨HM0.o.trans' HG4.o.mod, ?_⟩
      rw [Hres.o]
      exact ⟨pa, ca, by rw [show (((some (i + 1) : Option Nat).getD 0 : Nat) : Int) = wrap64 ((i : Int) + 1) by rw [hi1]; simp]; rfl, HG4.o.want.toR HG4.o.own⟩
     ·have Hres : Hid (((xs ++ [a]) ++ (uk7 (i + 1) (ls.drop (i + 1))).1, (uk7 (i + 1) (ls.drop (i + 1))).2) = RR) := hd' (by
       have h1 := HXo.o.2 a2 hone
       rw [← Hab.o a2 hone] at h1
       exact h1)
      clear hone Hab
      go_wp2_with (first | ((with_reducible show wpList _ _ _ (⟨_, Op.store _ _ _, _, _, _, _⟩ :: _) _ _); refine halt ?_) | fail)
      show wpList _ _ _ _ _ _
      refine wpList_store_mid rfl 41 _ _ rfl w3.heap.size 0 (actC a (.slice p1 n1 k1) (.slice p2 n2 k2) (.slice p3 n3 k3)) rfl rfl Hth.o szA (ukj _ _ _ _ _ _ _ _ _ _) ?_
      clear Hth
      generalize ((w3.alloc (.cells lz42 41)).setCells w3.heap.size 0 (actC a (.slice p1 n1 k1) (.slice p2 n2 k2) (.slice p3 n3 k3)).toList) = w4 at *
      have Hrg : Hid (w4.rangeAt w3.heap.size 0 (actC a (.slice p1 n1 k1) (.slice p2 n2 k2) (.slice p3 n3 k3)).toList) := hd' (Blk.range (pre := []) (post := []) HA4.o (by rw [List.append_nil]; rfl) rfl)
      have HG5 := hd' (HG4.o.other (Gou.Mod.alloc0 _ (.cells (actC a (.slice p1 n1 k1) (.slice p2 n2 k2) (.slice p3 n3 k3)) 41)))
      have HL5 := hd' (HL4.o.mod (Gou.Mod.alloc0 _ (.cells (actC a (.slice p1 n1 k1) (.slice p2 n2 k2) (.slice p3 n3 k3)) 41)) (fun _ _ _ h => h))
      have Hnx : Hid (xs.length ≤ 100000000) := hd' (Nat.le_trans HG5.o.le (Nat.le_trans (Nat.le_of_lt Hil.o) (Nat.le_trans Hls.o.1 (by decide))))
      have HbB := hd' HG5.o.mod.size
      go_wp2_with (first | ((with_reducible refine wpList_load_mid ?g1_1 41 ?x1_1 ?o1_1 w3.heap.size 0 ?h1_1 (actC a (.slice p1 n1 k1) (.slice p2 n2 k2) (.slice p3 n3 k3)).toList ?d1_1 ?c1_1 ?u1_1 ?s1_1 ?i1_1 ?r1_1); (case g1_1 => exact rfl); (case o1_1 => exact rfl); (case h1_1 => exact rfl); (case c1_1 => exact Hrg.o); (case u1_1 => exact Tryz.underlying41); (case s1_1 => exact rfl); (case i1_1 => exact szAl)) | ((with_reducible show wpList _ _ _ (⟨_, Op.buildSlice _ _ _, _, _, _, _⟩ :: _) _ _); refine halt ?_) | fail)
      show wpList _ _ _ _ _ _
      refine upi rfl _ rfl a p1 p2 p3 n1 n2 n3 k1 k2 k3 rfl ?_
      simp only [Act.put, List.setIfInBounds_toArray, List.set_cons_zero, List.set_cons_succ]
      refine uo3 rfl _ _ rfl w1.heap.size (Value.slice pa xs.length ca) xs.length cs w4.heap.size a p1 p2 p3 n1 n2 n3 k1 k2 k3 rfl rfl HG5.o.own (heap_alloc_new _ _) Hnx.o HbB.o ?_
      intro gg cap w6 hown6 m6 f6
      have HG6 := hd' (HG5.o.push HL5.o hown6 m6 f6)
      clear hown6 m6 f6
      simp only [Act.put, List.setIfInBounds_toArray, List.set_cons_zero, List.set_cons_succ]
      clear Hrg
      go_wp2_with fail
      go_roundw
      case rel => exact ⟨i + 1, xs ++ [a], _, by go_num, by have := Hil.o; omega, HG6.o, Hres.o⟩
      case measure => first | exact ury Hil.o | exact up5 Hil.o hi1
  ·obtain rfl : i = ls.length := by omega
   have t1 : decide ((ls.length : Int) < (ls.length : Int)) = false := dqf (by omega)
   have Hres : Hid (RR = (xs, none)) := hd' (by rw [← hres, List.drop_length]; simp [uk7])
   clear hres
   go_wp2_with fail
   go_ret3
   refine ⟨HM0.o.trans' HG.o.mod, ?_⟩
   rw [Hres.o]
   exact ⟨pa, ca, rfl, HG.o.want.toR HG.o.own⟩
end Go.Proofs.YtgolafbneiffpaaGreatDoor
namespace Go.Txt
open Go Go.Gou
theorem unj {u : Nat} (h : u < 10) : Lib.decDigits u = [UInt8.ofNat (48 + u)] := by rw [Lib.decDigits, dif_pos h]
theorem dec_big {u : Nat} (h : ¬ u < 10) : Lib.decDigits u = Lib.decDigits (u / 10) ++ [UInt8.ofNat (48 + u % 10)] := by rw [Lib.decDigits, dif_neg h]
theorem up1 {n : Int} {w : Wd} (h : Lib.itoa n = w) (h0 : -2147483648 ≤ n) (h1 : n ≤ 2147483647) : numT w = some n := by rw [← h, up2 h0 h1]
theorem n0 : numT [48] = some 0 := up1 (by unfold Lib.itoa; rw [if_neg (by decide), unj (by decide)]; rfl) (by decide) (by decide)
theorem n1 : numT [49] = some 1 := up1 (by unfold Lib.itoa; rw [if_neg (by decide), unj (by decide)]; rfl) (by decide) (by decide)
theorem n2 : numT [50] = some 2 := up1 (by unfold Lib.itoa; rw [if_neg (by decide), unj (by decide)]; rfl) (by decide) (by decide)
theorem nm : numT [45, 49] = some (-1) := up1 (by unfold Lib.itoa; rw [if_pos (by decide), unj (by decide)]; rfl) (by decide) (by decide)
theorem n64 : numT [54, 52] = some 64 := up1 (by unfold Lib.itoa; rw [if_neg (by decide), dec_big (by decide), unj (by decide)]; rfl) (by decide) (by decide)
def awA : Ac := ⟨5, ⟨5, (1, 0), (0, 0), 0, { Lk.zero with dx := -1, dy := 64 }⟩, 0, 0, Cf.zero⟩
def awB : Ac := ⟨10, ⟨10, (1, 0), (0, 0), 0, { Lk.zero with hasFilt := true, filt := ⟨[⟨2, [-1], [2, 2]⟩], 0⟩ }⟩, 0, 0, Cf.zero⟩
def awC : Ac := ⟨13, Opr.zero, 0, 0, ⟨false, true, false, false, 9⟩⟩
def awF : Ac := ⟨14, Opr.zero, 0, 0, Cf.zero⟩
theorem encM_128' : encM 128 = [128, 1] := by
 rw [umi (by decide), uk8 (by decide)]
theorem put_awA : uk6 awA = some [5, 2, 0, 1, 128, 1] := by
 have h : ukf awA = some [5, 2, 0, 1, 128, 1] := by simp [ukf, awA, ukb, ug4, ul1, zig, uk8, encM_128']
 unfold uk6
 rw [h]
 rfl
theorem put_awB : uk6 awB = some [10, 2, 0, 2, 0, 2, 4, 2, 1, 4, 4, 4] := by
 have h : ukf awB = some [10, 2, 0, 2, 0, 2, 4, 2, 1, 4, 4, 4] := by simp [ukf, awB, ukb, uk5, ukr, ulm, ug4, ul1, zig, uk8]
 unfold uk6
 rw [h]
 rfl
theorem put_awC : uk6 awC = some [13, 4, 18] := by
 have h : ukf awC = some [13, 4, 18] := by simp [ukf, awC, ug4, ul1, zig, uk8, ukn]
 unfold uk6
 rw [h]
 rfl
theorem put_awF : uk6 awF = some [14] := by
 have h : ukf awF = some [14] := by simp [ukf, awF]
 unfold uk6
 rw [h]
 rfl
theorem one_awA : oneT [uny, [49], [48], [45, 49], [54, 52]] = some awA := by
 have h : ulx uny [[49], [48], [45, 49], [54, 52]] = some (awA, []) := by
  show um2 _ = _
  simp only [um2, idP, numP, n0, n1, nm, n64, Option.bind_some, Option.map_some]
  rfl
 simp only [oneT, h, Option.bind_some]
 rw [if_pos ⟨trivial, by rw [put_awA]; rfl⟩]
theorem one_awB : oneT [ul3, [49], [48], [48], [98, 108, 117, 114], [45, 49], [58], [50], [50], [59]] = some awB := by
 have h : ulx ul3 [[49], [48], [48], [98, 108, 117, 114], [45, 49], [58], [50], [50], [59]] = some (awB, []) := by
  show ulz _ = _
  have hk : us4 [98, 108, 117, 114] = some 2 := by decide
  have hl : ulu uoh 0 [[45, 49], [58], [50], [50], [59]] = some ([-1], [[50], [50], [59]]) := by
   simp only [ulu]
   rw [if_neg (by decide), if_pos (by decide), nm]
   rfl
  have hs : ulu uqk 0 [[50], [50], [59]] = some ([2, 2], []) := by
   simp only [ulu]
   rw [if_neg (by decide), if_pos (by decide), n2, if_neg (by decide), if_pos (by decide)]
   rfl
  have hg : umd [[48], [98, 108, 117, 114], [45, 49], [58], [50], [50], [59]] = some ((true, ⟨[⟨2, [-1], [2, 2]⟩], 0⟩), []) := by
   rw [umd, if_neg (by decide)]
   simp only [numP, n0, Option.map_some, Option.bind_some]
   show ((ung 6 0 _).map _) = _
   simp only [ung, hk, Option.bind_some]
   rw [if_pos (by decide), hl]
   simp only [Option.bind_some]
   rw [hs]
   rfl
  simp only [ulz, idP, numP, n0, n1, Option.bind_some, Option.map_some]
  rw [hg]
  rfl
 simp only [oneT, h, Option.bind_some]
 rw [if_pos ⟨trivial, by rw [put_awB]; rfl⟩]
theorem one_awF : oneT [umj] = some awF := by
 have h : ulx umj [] = some (awF, []) := rfl
 simp only [oneT, h, Option.bind_some]
 rw [if_pos ⟨trivial, by rw [put_awF]; rfl⟩]
theorem one_bad : oneT [umj, [49]] = none := by
 have h : ulx umj [[49]] = some (awF, [[49]]) := rfl
 simp only [oneT, h, Option.bind_some]
 rw [if_neg (fun h => by cases h.1)]
def S1 : List UInt8 := [115, 104, 105, 102, 116, 32, 49, 32, 48, 32, 45, 49, 32, 54, 52, 32, 35, 32, 116, 111, 32, 116, 104, 101, 32, 108, 101, 102, 116, 10, 10, 32, 102, 105, 108, 116, 101, 114, 9, 49, 32, 48, 32, 48, 32, 98, 108, 117, 114, 32, 45, 49, 32, 58, 32, 50, 32, 50, 32, 59]
def S2 : List UInt8 := [102, 114, 97, 109, 101, 10, 102, 114, 97, 109, 101, 32, 49, 10]
def S3 : List UInt8 := [99, 111, 110, 102, 32, 57, 32, 97, 108, 105, 97, 115, 10]
theorem get_S1 : getT S1 = ([awA, awB], none) := by
 have hl : uko S1 = [[115, 104, 105, 102, 116, 32, 49, 32, 48, 32, 45, 49, 32, 54, 52, 32, 35, 32, 116, 111, 32, 116, 104, 101, 32, 108, 101, 102, 116], [], [32, 102, 105, 108, 116, 101, 114, 9, 49, 32, 48, 32, 48, 32, 98, 108, 117, 114, 32, 45, 49, 32, 58, 32, 50, 32, 50, 32, 59]] := by decide
 have h1 : uli [115, 104, 105, 102, 116, 32, 49, 32, 48, 32, 45, 49, 32, 54, 52, 32, 35, 32, 116, 111, 32, 116, 104, 101, 32, 108, 101, 102, 116] = some [uny, [49], [48], [45, 49], [54, 52]] := by decide
 have h2 : uli [] = some [] := by decide
 have h3 : uli [32, 102, 105, 108, 116, 101, 114, 9, 49, 32, 48, 32, 48, 32, 98, 108, 117, 114, 32, 45, 49, 32, 58, 32, 50, 32, 50, 32, 59] = some [ul3, [49], [48], [48], [98, 108, 117, 114], [45, 49], [58], [50], [50], [59]] := by decide
 unfold getT
 rw [hl]
 simp only [uk7, h1, h2, h3, one_awA, one_awB]
theorem get_S2 : getT S2 = ([awF], some 2) := by
 have hl : uko S2 = [umj, [102, 114, 97, 109, 101, 32, 49], []] := by decide
 have h1 : uli umj = some [umj] := by decide
 have h3 : uli [102, 114, 97, 109, 101, 32, 49] = some [umj, [49]] := by decide
 unfold getT
 rw [hl]
 simp only [uk7, h1, h3, one_awF, one_bad]
theorem put_S3 : putT awC = some S3 := by
 have hi : Lib.itoa 9 = [57] := by unfold Lib.itoa; rw [if_neg (by decide), unj (by decide)]; rfl
 have hw : ukp awC = [uql, [57], wAlias] := by
  show uql :: (Lib.itoa 9 :: um7 _) = _
  rw [hi]
  rfl
 unfold putT
 rw [if_pos ⟨by rw [put_awC]; rfl, ⟨fun h => absurd h (by decide), fun h => absurd h (by decide), fun h => absurd h (by decide)⟩⟩, hw]
 rfl
end Go.Txt
namespace Go.Proofs.YtgolafbneiffpaaGreatDoor
open Go.RowKit Go.Gou Go.Txt
set_option maxRecDepth 100000
theorem get1_any (w : World) (ht : LT w) : Calls Tryz.prog 11 #[.string ⟨S1.toArray⟩] w fun e w' => Gou.Mod (fun _ => False) w w' ∧ ∃ p c, e = .returned (.tuple #[.slice p 2 c, iV 0, iV 0]) ∧ ActsR w' (.slice p 2 c) [awA, awB] := by
 refine (upm w S1 (by decide) ht).mono ?_
 rintro e w' ⟨hm, h⟩
 rw [get_S1] at h
 obtain ⟨p, c, rfl, h⟩ := h
 exact ⟨hm, p, c, rfl, h⟩
theorem get2_any (w : World) (ht : LT w) : Calls Tryz.prog 11 #[.string ⟨S2.toArray⟩] w fun e w' => Gou.Mod (fun _ => False) w w' ∧ ∃ p c, e = .returned (.tuple #[.slice p 1 c, iV 2, iV 2]) := by
 refine (upm w S2 (by decide) ht).mono ?_
 rintro e w' ⟨hm, h⟩
 rw [get_S2] at h
 obtain ⟨p, c, rfl, h⟩ := h
 exact ⟨hm, p, c, rfl⟩
theorem put3_any (w : World) (ht : LT w) : Calls Tryz.prog 9 #[.agg (actC awC nlS nlS nlS)] w fun e w' => Gou.Mod (fun _ => False) w w' ∧ e = .returned (.tuple #[.string ⟨S3.toArray⟩, iV 0]) := by
 refine (tput_any w none none none 0 0 0 awC ht (umm _ _) born_zero PxSmall.zero).mono ?_
 rintro e w' ⟨hm, h⟩
 rw [put_S3] at h
 exact ⟨hm, h⟩
theorem uur {w : World} {p : Option Addr} {n c : Nat} {a : Ac} {xs : List Ac} (h : ActsR w (.slice p n c) (a :: xs)) : n = (a :: xs).length ∧ ∃ b o, p = some ⟨b, o, none⟩ ∧ b < w.heap.size ∧ ∀ i, (h : i < (a :: xs).length) → ∃ vp vf vb, (∀ j u, (actC (a :: xs)[i] vp vf vb)[j]? = some u → w.cell? ⟨b, o + i * 42 + j, none⟩ = some u) ∧ LookR (fun _ => True) w (a :: xs)[i].op.look vp vf vb := by
 obtain ⟨p', cap, e, hc, h⟩ := h
 simp only [Value.slice.injEq] at e
 obtain ⟨rfl, rfl, rfl⟩ := e
 rcases h with h | ⟨b, o, rfl, hb, h⟩
 ·simp at h
 ·exact ⟨rfl, b, o, rfl, hb, h⟩
theorem uqw (w : World) (ht : LT w) : Calls Tryz.prog 7 #[] w fun e w' => e = .returned (.bool true) ∧ Gou.Mod (fun _ => False) w w' := by
 have Ht := hd' ht
 clear ht
 go_enter Tryz.func7, Tryz.ntmps7
 go_wp2_with fail
 refine (get1_any _ Ht.o).mono ?_
 rintro e w1 ⟨hm1, p, c, rfl, hA⟩
 obtain ⟨-, b, o, rfl, hb, hc⟩ := uur hA
 obtain ⟨vp, vf, vb, h0, -⟩ := hc 0 (by decide)
 obtain ⟨up, uf, ub, h1, hl⟩ := hc 1 (by decide)
 obtain ⟨pf, kf, rfl⟩ := hl.filt.form
 obtain ⟨-, bn, on, rfl, hbn, -, hn⟩ := hl.filt.cells (by decide)
 obtain ⟨pi, ci, pp, cp, k0, -, -, -, -⟩ := hn 0 ⟨2, [-1], [2, 2]⟩ rfl
 have d7 : w1.cell? ⟨b, o + 0 * 42 + 7, none⟩ = some (iV (-1)) := h0 7 _ rfl
 have d8 : w1.cell? ⟨b, o + 0 * 42 + 8, none⟩ = some (iV 64) := h0 8 _ rfl
 have d30 : w1.cell? ⟨b, o + 1 * 42 + 30, none⟩ = some (.slice (some ⟨bn, on, none⟩) 1 kf) := h1 30 _ rfl
 have hb' : b < w1.heap.size := hb
 have HD := hd' (And.intro hb (And.intro hbn (And.intro d7 (And.intro d8 (And.intro d30 k0)))))
 have HM1 := hd' hm1
 clear hA hc h0 h1 hl hn k0 d7 d8 d30 hb hbn hb' hm1
 go_wp2_with (first | ((with_reducible show wpList _ _ _ (⟨_, Op.build _ _, _, _, _, _⟩ :: _) _ _); refine halt ?_) | fail)
 show wpList _ _ _ _ _ _
 refine uav rfl (.agg #[.bool false, .bool true, .bool false, .bool false, iV 9]) (by kernel_rfl) ?_
 simp only [Act.put, List.setIfInBounds_toArray, List.set_cons_zero, List.set_cons_succ]
 refine uav rfl (.agg (actC awC nlS nlS nlS)) (by kernel_rfl) ?_
 simp only [Act.put, List.setIfInBounds_toArray, List.set_cons_zero, List.set_cons_succ]
 go_wp2_with fail
 refine (put3_any _ (Ht.o.up0 HM1.o)).mono ?_
 rintro e w2 ⟨hm2, rfl⟩
 have HM2 := hd' (HM1.o.trans' hm2)
 have Hm2 := hd' hm2
 clear hm2
 go_wp2_with fail
 refine (get2_any _ (Ht.o.up0 HM2.o)).mono ?_
 rintro e w3 ⟨hm3, p3, c3, rfl⟩
 have HM3 := hd' (HM2.o.trans' hm3)
 have hm13 := Hm2.o.trans' hm3
 obtain ⟨hb, hbn, d7, d8, d30, k0⟩ := HD.o
 have d7' : w3.cell? ⟨b, o + 7, none⟩ = some (iV (-1)) := by rw [hm13.cell (p := ⟨b, o + 7, none⟩) hb (fun h => h)]; simpa using d7
 have d8' : w3.cell? ⟨b, o + 8, none⟩ = some (iV 64) := by rw [hm13.cell (p := ⟨b, o + 8, none⟩) hb (fun h => h)]; simpa using d8
 have d30' : w3.cell? ⟨b, o + 42 + 30, none⟩ = some (.slice (some ⟨bn, on, none⟩) 1 kf) := by rw [hm13.cell (p := ⟨b, o + 42 + 30, none⟩) hb (fun h => h)]; simpa using d30
 have k0' : w3.cell? ⟨bn, on, none⟩ = some (iV 2) := by rw [hm13.cell (p := ⟨bn, on, none⟩) hbn (fun h => h)]; simpa using k0
 clear hb hbn d7 d8 d30 k0 hm13 hm3 HD Hm2
 go_wp2_with fail
 go_ret
 exact ⟨rfl, HM3.o⟩
end Go.Proofs.YtgolafbneiffpaaGreatDoor
namespace Go.Txt
open Go Go.Gou
theorem go_len : ∀ (n : Nat) (l : List (List UInt8)), (uk7 n l).1.length ≤ l.length ∧ ∀ k, (uk7 n l).2 = some k → n < k ∧ k ≤ n + l.length
 | n, [] => ⟨by simp [uk7], fun k h => by simp [uk7] at h⟩
 | n, l :: r => by
  have ih := go_len (n + 1) r
  unfold uk7
  split
  ·exact ⟨by simp, fun k h => by simp at h; simp; omega⟩
  ·refine ⟨by have := ih.1; simp; omega, fun k h => ?_⟩
   have := ih.2 k h
   simp
   omega
  ·split
   ·exact ⟨by simp, fun k h => by simp at h; simp; omega⟩
   ·refine ⟨by have := ih.1; simp; omega, fun k h => ?_⟩
    have := ih.2 k h
    simp
    omega
theorem Fit.born {a : Ac} (h : Fit a) : LookBorne a.op.look := by
 obtain ⟨es, g⟩ := h.act
 exact (uo2 g).2.1
theorem get_few {s : List UInt8} (h : s.length ≤ 90000000) : (getT s).1.length ≤ 1000000000 ∧ ∀ k, (getT s).2 = some k → 0 < k ∧ k ≤ 1000000000 := by
 have h1 := go_len 0 (uko s)
 have h2 := (uop s).1
 refine ⟨by have := h1.1; unfold getT; omega, fun k hk => ?_⟩
 have := h1.2 k hk
 omega
end Go.Txt
namespace Go.Proofs.YtgolafbneiffpaaGreatDoor
open Go.RowKit Go.Gou Go.Txt
set_option maxRecDepth 100000
end Go.Proofs.YtgolafbneiffpaaGreatDoor
namespace Go.Txt
open Go Go.Gou
end Go.Txt
namespace Go.Proofs.YtgolafbneiffpaaGreatDoor
open Go.RowKit Go.Gou Go.Txt
set_option maxRecDepth 100000
end Go.Proofs.YtgolafbneiffpaaGreatDoor
namespace Go.Txt
open Go Go.Gou Go.RowKit
theorem fields_len : ∀ (l acc : List UInt8), (ukl acc l).length ≤ acc.length + l.length
 | [], acc => by
  unfold ukl
  split
  ·simp
  ·cases acc <;> simp at *
 | c :: l, acc => by
  unfold ukl
  have h1 := fields_len l []
  have h2 := fields_len l (acc ++ [c])
  simp only [List.length_append, List.length_cons, List.length_nil] at *
  repeat' split
  all_goals (try simp only [List.length_cons]); (try cases acc <;> simp at *) <;> omega
theorem words_len {l : List UInt8} {ws : List Wd} (h : uli l = some ws) : ws.length ≤ l.length := by
 unfold uli at h
 split at h
 ·cases h
  have h1 := fields_len (unr l) []
  have h2 : (unr l).length ≤ l.length := (List.takeWhile_sublist _).length_le
  simp at h1
  omega
 ·cases h
theorem listP_eat {e : Wd} : ∀ {l : List Wd} {k : Nat} {xs : List Int} {r : List Wd}, ulu e k l = some (xs, r) → xs.length + 1 + r.length = l.length
 | [], k, xs, r, h => by cases h
 | a :: l, k, xs, r, h => by
  rw [ulu] at h
  split at h
  ·simp at h
   obtain ⟨rfl, rfl⟩ := h
   simp
   omega
  ·split at h
   ·obtain ⟨x, -, h⟩ := Option.bind_eq_some_iff.1 h
    obtain ⟨q, hq, h⟩ := Option.map_eq_some_iff.1 h
    cases h
    have := listP_eat hq
    simp
    omega
   ·cases h
theorem nodesP_eat : ∀ {f n : Nat} {ws : List Wd} {l : List ubb}, ung f n ws = some l → (l.flatMap umz).length ≤ ws.length
 | f, n, [], l, h => by
  have : l = [] := by cases f <;> (cases h; rfl)
  subst this
  simp
 | 0, n, w :: r, l, h => by cases h
 | f + 1, n, w :: r, l, h => by
  obtain ⟨op, hop, h⟩ := Option.bind_eq_some_iff.1 h
  split at h
  ·obtain ⟨i, hi, h⟩ := Option.bind_eq_some_iff.1 h
   obtain ⟨p, hp, h⟩ := Option.bind_eq_some_iff.1 h
   obtain ⟨l', hl, rfl⟩ := Option.map_eq_some_iff.1 h
   have ih := nodesP_eat hl
   have h1 := listP_eat hi
   have h2 := listP_eat hp
   simp only [List.flatMap_cons, umz, nums, List.length_append, List.length_cons, List.length_map, List.length_nil] at *
   omega
  ·cases h
theorem graphP_eat {ws : List Wd} {g : Bool × Gr} {r : List Wd} (h : umd ws = some (g, r)) : (ulg g.1 g.2).length ≤ ws.length + 1 := by
 unfold umd at h
 split at h
 ·cases h
  simp [ulg]
 ·obtain ⟨o, ho, h⟩ := Option.bind_eq_some_iff.1 h
  obtain ⟨l, hl, h⟩ := Option.map_eq_some_iff.1 h
  cases h
  have := nodesP_eat hl
  have := unp ho
  simp only [ulg, if_true, List.length_cons]
  omega
def PFew (p : P Ac) : Prop := ∀ ws a r, p ws = some (a, r) → (ukp a).length ≤ ws.length + 20
theorem PFew.ite {p q : P Ac} {c : Prop} [Decidable c] (hp : PFew p) (hq : PFew q) : PFew (if c then p else q) := by
 by_cases h : c
 ·rw [if_pos h]; exact hp
 ·rw [if_neg h]; exact hq
theorem few_of {a : Ac} {ws : List Wd} (h : (ukp a).length ≤ 20) : (ukp a).length ≤ ws.length + 20 := by omega
theorem insertP_few : PFew umu := fun ws a r h => by
 obtain ⟨x0, h0, h⟩ := Option.bind_eq_some_iff.1 h
 obtain ⟨x1, h1, h⟩ := Option.map_eq_some_iff.1 h
 cases h
 exact few_of (by simp [ukp, opA, lkA, uml, ulb, unx, nums, Lk.zero, Ct.zero])
theorem removeP_few : PFew um9 := fun ws a r h => by
 obtain ⟨x0, h0, h⟩ := Option.map_eq_some_iff.1 h
 cases h
 exact few_of (by simp [ukp, opA, lkA, uml, ulb, unx, nums, Lk.zero, Ct.zero])
theorem reparentP_few : PFew uln := fun ws a r h => by
 obtain ⟨x0, h0, h⟩ := Option.bind_eq_some_iff.1 h
 obtain ⟨x1, h1, h⟩ := Option.bind_eq_some_iff.1 h
 obtain ⟨x2, h2, h⟩ := Option.map_eq_some_iff.1 h
 cases h
 exact few_of (by simp [ukp, opA, lkA, uml, ulb, unx, nums, Lk.zero, Ct.zero])
theorem reorderP_few : PFew ul6 := fun ws a r h => by
 obtain ⟨x0, h0, h⟩ := Option.bind_eq_some_iff.1 h
 obtain ⟨x1, h1, h⟩ := Option.map_eq_some_iff.1 h
 cases h
 exact few_of (by simp [ukp, opA, lkA, uml, ulb, unx, nums, Lk.zero, Ct.zero])
theorem shiftP_few : PFew um2 := fun ws a r h => by
 obtain ⟨x0, h0, h⟩ := Option.bind_eq_some_iff.1 h
 obtain ⟨x1, h1, h⟩ := Option.bind_eq_some_iff.1 h
 obtain ⟨x2, h2, h⟩ := Option.map_eq_some_iff.1 h
 cases h
 exact few_of (by simp [ukp, opA, lkA, uml, ulb, unx, nums, Lk.zero, Ct.zero])
theorem fadeP_few : PFew uqg := fun ws a r h => by
 obtain ⟨x0, h0, h⟩ := Option.bind_eq_some_iff.1 h
 obtain ⟨x1, h1, h⟩ := Option.map_eq_some_iff.1 h
 cases h
 exact few_of (by simp [ukp, opA, lkA, uml, ulb, unx, nums, Lk.zero, Ct.zero])
theorem modeP_few : PFew up4 := fun ws a r h => by
 obtain ⟨x0, h0, h⟩ := Option.bind_eq_some_iff.1 h
 obtain ⟨x1, h1, h⟩ := Option.map_eq_some_iff.1 h
 cases h
 exact few_of (by simp [ukp, opA, lkA, uml, ulb, unx, nums, Lk.zero, Ct.zero])
theorem hideP_few : PFew uqp := fun ws a r h => by
 obtain ⟨x0, h0, h⟩ := Option.map_eq_some_iff.1 h
 cases h
 exact few_of (by simp [ukp, opA, lkA, uml, ulb, unx, nums, Lk.zero, Ct.zero])
theorem fillP_few : PFew upk := fun ws a r h => by
 obtain ⟨x0, h0, h⟩ := Option.bind_eq_some_iff.1 h
 obtain ⟨x1, h1, h⟩ := Option.bind_eq_some_iff.1 h
 obtain ⟨x2, h2, h⟩ := Option.map_eq_some_iff.1 h
 cases h
 exact few_of (by simp [ukp, opA, lkA, uml, ulb, unx, nums, Lk.zero, Ct.zero])
theorem viewP_few : PFew upt := fun ws a r h => by
 obtain ⟨x0, h0, h⟩ := Option.bind_eq_some_iff.1 h
 obtain ⟨x1, h1, h⟩ := Option.map_eq_some_iff.1 h
 cases h
 exact few_of (by simp [ukp, opA, lkA, uml, ulb, unx, nums, Lk.zero, Ct.zero])
theorem confP_few : PFew uqq := fun ws a r h => by
 obtain ⟨x0, h0, h⟩ := Option.map_eq_some_iff.1 h
 cases h
 refine few_of ?_
 have := Go.Proofs.YtgolafbneiffpaaGreatDoor.flagsW_len ⟨(uv9 wFuse x0.2).1, (uv9 wAlias (uv9 wFuse x0.2).2).1, (uv9 wRoi (uv9 wAlias (uv9 wFuse x0.2).2).2).1, (uv9 wDamage (uv9 wRoi (uv9 wAlias (uv9 wFuse x0.2).2).2).2).1, x0.1⟩
 simp only [ukp]
 simp
 omega
theorem frameP_few : PFew uqb := fun ws a r h => by
 cases h
 exact few_of (by simp [ukp])
theorem cutP_few : PFew cutP := fun ws a r h => by
 obtain ⟨i, hi, h⟩ := Option.bind_eq_some_iff.1 h
 split at h
 ·cases h
  exact few_of (by simp [ukp, opA, lkA, uml, ulb, unx, nums, Lk.zero, Ct.zero])
 ·obtain ⟨y, hy, h⟩ := Option.map_eq_some_iff.1 h
  cases h
  exact few_of (by simp [ukp, opA, lkA, uml, ulb, unx, nums, Lk.zero, Ct.zero])
theorem filterP_few : PFew ulz := fun ws a r h => by
 obtain ⟨i, hi, h⟩ := Option.bind_eq_some_iff.1 h
 obtain ⟨g, hg, h⟩ := Option.map_eq_some_iff.1 h
 cases h
 have h1 := graphP_eat hg
 have h2 := id_rest hi
 simp [ukp, opA, lkA, uml, ulb, nums]
 omega
theorem backdropP_few : PFew ulj := fun ws a r h => by
 obtain ⟨i, hi, h⟩ := Option.bind_eq_some_iff.1 h
 obtain ⟨g, hg, h⟩ := Option.map_eq_some_iff.1 h
 cases h
 have h1 := graphP_eat hg
 have h2 := id_rest hi
 simp [ukp, opA, lkA, uml, ulb, nums]
 omega
theorem pictureP_few : PFew ull := fun ws a r h => by
 obtain ⟨i, hi, h⟩ := Option.bind_eq_some_iff.1 h
 obtain ⟨x, hx, h⟩ := Option.bind_eq_some_iff.1 h
 obtain ⟨y, hy, h⟩ := Option.bind_eq_some_iff.1 h
 obtain ⟨u, hu, h⟩ := Option.bind_eq_some_iff.1 h
 obtain ⟨v, hv, h⟩ := Option.bind_eq_some_iff.1 h
 obtain ⟨t, ht, h⟩ := Option.bind_eq_some_iff.1 h
 obtain ⟨l, hl', h⟩ := Option.map_eq_some_iff.1 h
 cases h
 have h1 := uu4 hl'
 have h2 := unp ht
 have h3 := unp hv
 have h4 := unp hu
 have h5 := unp hy
 have h6 := unp hx
 have h7 := id_rest hi
 simp [ukp, opA, lkA, uml, ulb, unx, nums]
 omega
theorem read_few {w : Wd} {ws r : List Wd} {a : Ac} (h : ulx w ws = some (a, r)) : (ukp a).length ≤ ws.length + 20 :=
 (show PFew (ulx w) from PFew.ite insertP_few (.ite removeP_few (.ite reparentP_few (.ite reorderP_few (.ite shiftP_few (.ite cutP_few (.ite fadeP_few (.ite modeP_few (.ite hideP_few (.ite fillP_few (.ite pictureP_few (.ite filterP_few (.ite backdropP_few (.ite viewP_few (.ite confP_few (.ite frameP_few (fun _ _ _ h => by cases h))))))))))))))))) ws a r h
theorem one_few {ws : List Wd} {a : Ac} (h : oneT ws = some a) : (ukp a).length ≤ ws.length + 20 := by
 cases ws with
 | nil => cases h
 | cons w r =>
  obtain ⟨p, hp, h⟩ := Option.bind_eq_some_iff.1 h
  split at h
  ·cases h
   have := read_few hp
   simp
   omega
  ·cases h
theorem Fit.line {a : Ac} (h : Fit a) : (urb a).length ≤ 13 * (ukp a).length + 1 := by
 obtain ⟨es, he⟩ := h.act
 have hn := Go.Proofs.YtgolafbneiffpaaGreatDoor.actN_of he
 have hk : Go.Proofs.YtgolafbneiffpaaGreatDoor.okO a.op := ⟨h.ok.1, h.ok.2.1, h.ok.2.2⟩
 have := Go.Proofs.YtgolafbneiffpaaGreatDoor.join_len _ (Go.Proofs.YtgolafbneiffpaaGreatDoor.Short.words hn.1 hk).1
 simp [urb]
 omega
theorem get_back : ∀ (n : Nat) (l : List (List UInt8)), ((uk7 n l).1.flatMap urb).length ≤ (l.map fun x => 13 * x.length + 261).sum
 | n, [] => by simp [uk7]
 | n, x :: l => by
  have ih := get_back (n + 1) l
  unfold uk7
  split
  ·simp
  ·simp
   simp at ih
   omega
  ·rename_i w ws hw
   split
   ·simp
   ·rename_i a ha
    have h1 := words_len hw
    have h2 := one_few ha
    have h3 := one_ok ha
    have h4 := Fit.line ⟨h3.1.ok, h3.1.small, h3.2⟩
    simp only [List.flatMap_cons, List.length_append, List.map_cons, List.sum_cons]
    omega
theorem lines_sum : ∀ (s : List UInt8), ((uko s).map fun x => 13 * x.length + 261).sum ≤ 274 * s.length + 261
 | [] => by simp [uko]
 | c :: r => by
  have ih := lines_sum r
  rw [uko]
  split
  ·simp only [List.map_cons, List.sum_cons, List.length_cons, List.length_nil]
   omega
  ·cases hr : uko r with
   | nil => exact absurd hr (lines_ne r)
   | cons x l =>
    rw [hr] at ih
    simp only [List.map_cons, List.sum_cons, List.length_cons, List.headD_cons, List.tail_cons, List.drop_succ_cons, List.drop_zero] at *
    omega
theorem back_len (s : List UInt8) : ((getT s).1.flatMap urb).length ≤ 274 * s.length + 261 := Nat.le_trans (get_back 0 _) (lines_sum s)
theorem few_line {a : Ac} (hf : FewOk a) (h : Fit a) : (urb a).length ≤ 2700000 := by
 obtain ⟨es, he⟩ := h.act
 have hn := Go.Proofs.YtgolafbneiffpaaGreatDoor.actN_of he
 have hl := h.line
 have hp := hf.pix
 have hw : (ukp a).length ≤ 203200 := by
  unfold ukp
  split
  ·simp [nums]
  split
  ·have := Go.Proofs.YtgolafbneiffpaaGreatDoor.flagsW_len a.conf
   simp
   omega
  split
  ·simp
  ·rename_i k2 k3 k4
   have ho := hn.1.opr k2 k3 k4
   have ht := Go.Proofs.YtgolafbneiffpaaGreatDoor.treeW_len a.op
   have h2 : (ulb a.op).length ≤ 203100 := by
    unfold ulb
    repeat' split
    all_goals try (simp [nums]; done)
    ·simp only [unx]
     repeat' split
     all_goals (simp [nums]; try omega)
    ·rename_i k
     rcases hf : a.op.look.hasFilt with _ | _
     ·simp [nums, ulg]
     ·have := (Go.Proofs.YtgolafbneiffpaaGreatDoor.Short.graph (ho.filt k hf) true).2
      simp [nums]
      omega
    ·rename_i k
     rcases hf : a.op.look.hasBack with _ | _
     ·simp [nums, ulg]
     ·have := (Go.Proofs.YtgolafbneiffpaaGreatDoor.Short.graph (ho.back k hf) true).2
      simp [nums]
      omega
   rw [List.length_append]
   omega
 omega
end Go.Txt
