/- Texts of the codec's proofs, laid together: RfF, RfH. -/
import Derived.Test.YtnamnmipgpcjjaaZk
import Derived.Deep.RegionHeld
set_option linter.unusedSimpArgs false
set_option linter.unusedVariables false
set_option linter.unusedSectionVars false
set_option linter.constructorNameAsVariable false

/- Acts as bytes: the document's sameness of rows of acts; what is little. -/
namespace Go.Gou
open Go.RowKit

theorem ActsR.act {w : World} {p : Option Addr} {n c : Nat} {xs : List Ac} (h : ActsR w (.slice p n c) xs) (h0 : 0 < xs.length) :
    n = xs.length ∧ ∃ b o, p = some ⟨b, o, none⟩ ∧ b < w.heap.size ∧ ∀ i, (hi : i < xs.length) → ∃ p1 k1 p2 k2 p3 k3, w.rangeAt b (o + i * 42) (actC xs[i] (.slice p1 xs[i].op.look.content.pix.length k1) (.slice p2 xs[i].op.look.filt.nodes.length k2) (.slice p3 xs[i].op.look.back.nodes.length k3)).toList ∧ LookR (fun _ => True) w xs[i].op.look (.slice p1 xs[i].op.look.content.pix.length k1) (.slice p2 xs[i].op.look.filt.nodes.length k2) (.slice p3 xs[i].op.look.back.nodes.length k3) := by
  obtain ⟨p', c', e, hcap, h⟩ := h
  simp only [Value.slice.injEq] at e
  obtain ⟨rfl, rfl, rfl⟩ := e
  rcases h with h | ⟨b, o, rfl, hb, hc⟩
  · omega
  · refine ⟨rfl, b, o, rfl, hb, fun i hi => ?_⟩
    obtain ⟨vp, vf, vb, h1, h2⟩ := hc i hi
    obtain ⟨p1, k1, rfl, _⟩ := RowG.form h2.pix
    obtain ⟨p2, k2, rfl⟩ := h2.filt.form
    obtain ⟨p3, k3, rfl⟩ := h2.back.form
    exact ⟨p1, k1, p2, k2, p3, k3, fun j v hv => h1 j v (by rw [← Array.getElem?_toList]; exact hv), h2⟩

theorem ActsR.form {w : World} {v : Value} {xs : List Ac} (h : ActsR w v xs) : ∃ p c, v = .slice p xs.length c ∧ xs.length ≤ c := by
  obtain ⟨p, c, rfl, hc, _⟩ := h
  exact ⟨p, c, rfl, hc⟩

theorem ActsR.mod {S : Nat → Prop} {w w' : World} {v : Value} {xs : List Ac} (h : ActsR w v xs) (hm : Mod S w w') (hS : ∀ k, k < w.heap.size → ¬ S k) : ActsR w' v xs := by
  obtain ⟨p, c, rfl, hcap, h⟩ := h
  refine ⟨p, c, rfl, hcap, h.imp id ?_⟩
  rintro ⟨b, o, rfl, hb, hc⟩
  refine ⟨b, o, rfl, Nat.lt_of_lt_of_le hb hm.size, fun i hi => ?_⟩
  obtain ⟨vp, vf, vb, h1, h2⟩ := hc i hi
  exact ⟨vp, vf, vb, fun j u hu => by rw [hm.cell (p := ⟨b, o + i * 42 + j, none⟩) hb (hS b hb)]; exact h1 j u hu, h2.mod hm fun k hk _ => hS k hk⟩

theorem ActsR.take {w : World} {p : Option Addr} {n c : Nat} {xs : List Ac} (h : ActsR w (.slice p n c) xs) (k : Nat) (hk : k ≤ xs.length) (c' : Nat) (hc' : k ≤ c') : ActsR w (.slice p k c') (xs.take k) := by
  obtain ⟨p', c0, e, hcap, h⟩ := h
  simp only [Value.slice.injEq] at e
  obtain ⟨rfl, rfl, rfl⟩ := e
  refine ⟨p, c', by simp; omega, by simp; omega, ?_⟩
  rcases h with h | ⟨b, o, rfl, hb, hc⟩
  · left; simp; omega
  · refine .inr ⟨b, o, rfl, hb, fun i hi => ?_⟩
    have hi' : i < xs.length := by simp at hi; omega
    obtain ⟨vp, vf, vb, h1, h2⟩ := hc i hi'
    rw [List.getElem_take]
    exact ⟨vp, vf, vb, h1, h2⟩

theorem ActsV.toR {TA : TypeId} {base : Nat} {w : World} {v : Value} {xs : List Ac} (h : ActsV TA base w v xs) : ActsR w v xs := by
  obtain ⟨cs, lo, hi, hown, hin, _⟩ := h
  have hlt := hown.lt
  obtain ⟨hl, h⟩ := hown
  rcases h with ⟨rfl, h0⟩ | ⟨g, cap, cur, rfl, hg, hh, hn, _, _, ht⟩
  · obtain rfl := List.length_eq_zero_iff.1 h0
    exact ⟨none, 0, rfl, Nat.le_refl _, .inl rfl⟩
  · refine ⟨_, cap, rfl, hn, .inr ⟨g, 0, rfl, (hlt g rfl).2, fun i hi' => ?_⟩⟩
    obtain ⟨vp, vf, vb, h1, h2, _⟩ := hin.at_ i hi'
    refine ⟨vp, vf, vb, fun j u hu => ?_, h2.imp fun _ _ _ => trivial⟩
    have hj : j < 42 := by
      have := (Array.getElem?_eq_some_iff.1 hu).1
      simpa [actC] using this
    have hc := h1 j hj
    rw [hu] at hc
    rw [Nat.zero_add, cell_of_row w g _ cur _ (0, 0) hh, ← Array.getElem?_toList, ← hc, ← ht, List.getElem?_take, if_pos (by
      have : (i + 1) * 42 ≤ xs.length * 42 := Nat.mul_le_mul_right _ (by omega)
      omega)]

end Go.Gou
namespace Go.Proofs.Ytnamnmipgpcjjaa
open Go.RowKit Go.Gou

set_option linter.constructorNameAsVariable false
set_option maxRecDepth 100000

set_option maxHeartbeats 4000000 in
theorem sameAll_any (w : World) (r1 r2 : Option Addr) (c1 c2 : Nat) (xs ys : List Ac) (hx : ActsR w (.slice r1 xs.length c1) xs) (hy : ActsR w (.slice r2 ys.length c2) ys) (bx : ∀ x ∈ xs, LookBorne x.op.look) (by_ : ∀ x ∈ ys, LookBorne x.op.look) (hl : xs.length ≤ 1000000000) (hl2 : ys.length ≤ 1000000000) :
    Calls Try.prog 16 #[.slice r1 xs.length c1, .slice r2 ys.length c2] w fun e w' => e = .returned (.bool (decide (xs = ys))) ∧ Gou.Mod (fun _ => False) w w' := by
  have Hx := Lib.hid hx
  have Hy := Lib.hid hy
  have BX := Lib.hid bx
  have BY := Lib.hid by_
  have HL := Lib.hid hl
  clear hx hy bx by_
  go_enter Try.func16, Try.ntmps16
  by_cases hlen : xs.length = ys.length
  · have e1 : ((xs.length : Int) != (ys.length : Int)) = false := by simp [hlen]
    have Hlen := Lib.hid hlen
    clear hlen
    go_wp2_with fail
    go_loopw [5] (fun c wr => ∃ i : Nat, c = .int .i64 i ∧ i ≤ xs.length ∧ xs.take i = ys.take i ∧ Gou.Mod (fun _ => False) w wr) (fun c _ => xs.length - (intOf c).toNat)
    case atStart => exact ⟨0, rfl, by omega, by simp, Gou.Mod.refl _ _⟩
    case round =>
      obtain ⟨i, rfl, hi, ht, hm⟩ := hrel
      have Ht := Lib.hid ht
      have Hm := Lib.hid hm
      clear ht hm
      by_cases hil : i < xs.length
      · have e2 : decide ((i : Int) < (xs.length : Int)) = true := by simp; omega
        have hil2 : i < ys.length := by have := Hlen.out; omega
        obtain ⟨-, b1, o1, rfl, hb1, hc1⟩ := Hx.out.act (by omega)
        obtain ⟨-, b2, o2, rfl, hb2, hc2⟩ := Hy.out.act (by omega)
        obtain ⟨p1, k1, p2, k2, p3, k3, h1, l1⟩ := hc1 i hil
        obtain ⟨q1, j1, q2, j2, q3, j3, h2, l2⟩ := hc2 i hil2
        have hiI : (i : Int) < (xs.length : Int) := by omega
        have hiJ : (i : Int) < (ys.length : Int) := by omega
        have hi0I : (0 : Int) ≤ (i : Int) := by omega
        have Bx := Lib.hid (BX.out _ (List.getElem_mem hil))
        have By := Lib.hid (BY.out _ (List.getElem_mem hil2))
        have Hne := Lib.hid (fun he => ne_of_get (i := i) hil hil2 he : xs[i] ≠ ys[i] → xs ≠ ys)
        have Heq := Lib.hid (fun he => take_eq_snoc hil hil2 Ht.out he : xs[i] = ys[i] → xs.take (i + 1) = ys.take (i + 1))
        clear hc1 hc2
        generalize xs[i] = x at *
        generalize ys[i] = y at *
        have HS : Hid (∀ w' : World, Gou.Mod (fun _ => False) w w' → w'.rangeAt b1 (o1 + i * 42) (actC x (.slice p1 x.op.look.content.pix.length k1) (.slice p2 x.op.look.filt.nodes.length k2) (.slice p3 x.op.look.back.nodes.length k3)).toList ∧ w'.rangeAt b2 (o2 + i * 42) (actC y (.slice q1 y.op.look.content.pix.length j1) (.slice q2 y.op.look.filt.nodes.length j2) (.slice q3 y.op.look.back.nodes.length j3)).toList) := Lib.hid (fun w' hm => ⟨fun j v hv => (hm.cell (p := ⟨b1, o1 + i * 42 + j, none⟩) hb1 (fun h => h)).trans (h1 j v hv), fun j v hv => (hm.cell (p := ⟨b2, o2 + i * 42 + j, none⟩) hb2 (fun h => h)).trans (h2 j v hv)⟩)
        have Hl1 := Lib.hid ((l1.mod Hm.out (fun _ _ _ h => h)).mod (Gou.Mod.drew (fun _ => False) wr) (fun _ _ _ h => h))
        have Hl2 := Lib.hid ((l2.mod Hm.out (fun _ _ _ h => h)).mod (Gou.Mod.drew (fun _ => False) wr) (fun _ _ _ h => h))
        clear h1 h2 l1 l2
        go_wp2_with fail
        refine wp_region_held_drew (S := (fun w' => w'.rangeAt b1 (o1 + i * 42) (actC x (.slice p1 x.op.look.content.pix.length k1) (.slice p2 x.op.look.filt.nodes.length k2) (.slice p3 x.op.look.back.nodes.length k3)).toList ∧ w'.rangeAt b2 (o2 + i * 42) (actC y (.slice q1 y.op.look.content.pix.length j1) (.slice q2 y.op.look.filt.nodes.length j2) (.slice q3 y.op.look.back.nodes.length j3)).toList)) (by kernel_rfl) (HS.out _ (Hm.out.trans' (Gou.Mod.drew _ _))) (fun hHeld => ?_)
        refine wpAnyH_take (i := 0) (oi := ({ dst := some 17, op := Op.move (Operand.tmp 0), type := 51, pos := "ref.go:395", after := #[], guard := none } : Oper)) (v := .slice (some ⟨b1, o1, none⟩) xs.length c1) rfl (by kernel_rfl) (by kernel_rfl) (by kernel_rfl) (fun _ _ _ h => h) (Or.inl ⟨by rfl, ?_⟩) hHeld ?_
        · (intro w' hSw; (try dsimp only at hSw); clear hSw; go_simp; (try with_reducible rfl))
        try simp only [Act.put, List.setIfInBounds_toArray, List.set_cons_zero, List.set_cons_succ]
        refine wpAnyH_take (i := 1) (oi := ({ dst := some 18, op := Op.move (Operand.tmp 5), type := 3, pos := "ref.go:395", after := #[], guard := none } : Oper)) (v := .int .i64 (i : Nat)) rfl (by kernel_rfl) (by kernel_rfl) (by kernel_rfl) (fun _ _ _ h => h) (Or.inl ⟨by rfl, ?_⟩) hHeld ?_
        · (intro w' hSw; (try dsimp only at hSw); clear hSw; go_simp; (try with_reducible rfl))
        try simp only [Act.put, List.setIfInBounds_toArray, List.set_cons_zero, List.set_cons_succ]
        refine wpAnyH_take (i := 2) (oi := ({ dst := some 19, op := Op.indexAddr 51 (Operand.tmp 17) (Operand.tmp 18), type := 0, pos := "ref.go:395", after := #[{ on := 0, ground := Ground.data }, { on := 1, ground := Ground.data }], guard := none } : Oper)) (v := .pointer (some ⟨b1, o1 + i * 42, none⟩)) rfl (by kernel_rfl) (by kernel_rfl) (by kernel_rfl) (fun _ _ _ h => h) (Or.inl ⟨by rfl, ?_⟩) hHeld ?_
        · (intro w' hSw; (try dsimp only at hSw); clear hSw; go_simp; (try with_reducible rfl))
        try simp only [Act.put, List.setIfInBounds_toArray, List.set_cons_zero, List.set_cons_succ]
        refine wpAnyH_take (i := 3) (oi := ({ dst := some 20, op := Op.load 41 (Operand.tmp 19), type := 41, pos := "ref.go:395", after := #[{ on := 2, ground := Ground.data }], guard := none } : Oper)) (v := .agg (actC x (.slice p1 x.op.look.content.pix.length k1) (.slice p2 x.op.look.filt.nodes.length k2) (.slice p3 x.op.look.back.nodes.length k3))) rfl (by kernel_rfl) (by kernel_rfl) (by kernel_rfl) (fun _ _ _ h => h) (yieldsIf_load_mid (by rfl) 41 _ rfl b1 (o1 + i * 42) rfl (actC x (.slice p1 x.op.look.content.pix.length k1) (.slice p2 x.op.look.filt.nodes.length k2) (.slice p3 x.op.look.back.nodes.length k3)).toList _ (fun w' hSw => hSw.1) Try.underlying41 rfl (size_act.trans (by simp [actC]))) hHeld ?_
        try simp only [Act.put, List.setIfInBounds_toArray, List.set_cons_zero, List.set_cons_succ]
        refine wpAnyH_take (i := 4) (oi := ({ dst := some 21, op := Op.move (Operand.tmp 1), type := 51, pos := "ref.go:395", after := #[], guard := none } : Oper)) (v := .slice (some ⟨b2, o2, none⟩) ys.length c2) rfl (by kernel_rfl) (by kernel_rfl) (by kernel_rfl) (fun _ _ _ h => h) (Or.inl ⟨by rfl, ?_⟩) hHeld ?_
        · (intro w' hSw; (try dsimp only at hSw); clear hSw; go_simp; (try with_reducible rfl))
        try simp only [Act.put, List.setIfInBounds_toArray, List.set_cons_zero, List.set_cons_succ]
        refine wpAnyH_take (i := 5) (oi := ({ dst := some 22, op := Op.move (Operand.tmp 5), type := 3, pos := "ref.go:395", after := #[], guard := none } : Oper)) (v := .int .i64 (i : Nat)) rfl (by kernel_rfl) (by kernel_rfl) (by kernel_rfl) (fun _ _ _ h => h) (Or.inl ⟨by rfl, ?_⟩) hHeld ?_
        · (intro w' hSw; (try dsimp only at hSw); clear hSw; go_simp; (try with_reducible rfl))
        try simp only [Act.put, List.setIfInBounds_toArray, List.set_cons_zero, List.set_cons_succ]
        refine wpAnyH_take (i := 6) (oi := ({ dst := some 23, op := Op.indexAddr 51 (Operand.tmp 21) (Operand.tmp 22), type := 0, pos := "ref.go:395", after := #[{ on := 4, ground := Ground.data }, { on := 5, ground := Ground.data }], guard := none } : Oper)) (v := .pointer (some ⟨b2, o2 + i * 42, none⟩)) rfl (by kernel_rfl) (by kernel_rfl) (by kernel_rfl) (fun _ _ _ h => h) (Or.inl ⟨by rfl, ?_⟩) hHeld ?_
        · (intro w' hSw; (try dsimp only at hSw); clear hSw; go_simp; (try with_reducible rfl))
        try simp only [Act.put, List.setIfInBounds_toArray, List.set_cons_zero, List.set_cons_succ]
        refine wpAnyH_take (i := 7) (oi := ({ dst := some 24, op := Op.load 41 (Operand.tmp 23), type := 41, pos := "ref.go:395", after := #[{ on := 6, ground := Ground.data }], guard := none } : Oper)) (v := .agg (actC y (.slice q1 y.op.look.content.pix.length j1) (.slice q2 y.op.look.filt.nodes.length j2) (.slice q3 y.op.look.back.nodes.length j3))) rfl (by kernel_rfl) (by kernel_rfl) (by kernel_rfl) (fun _ _ _ h => h) (yieldsIf_load_mid (by rfl) 41 _ rfl b2 (o2 + i * 42) rfl (actC y (.slice q1 y.op.look.content.pix.length j1) (.slice q2 y.op.look.filt.nodes.length j2) (.slice q3 y.op.look.back.nodes.length j3)).toList _ (fun w' hSw => hSw.2) Try.underlying41 rfl (size_act.trans (by simp [actC]))) hHeld ?_
        try simp only [Act.put, List.setIfInBounds_toArray, List.set_cons_zero, List.set_cons_succ]
        refine wpAnyH_ready (rs := [8]) (by kernel_rfl) (by simp) (AllReadyH.cons (o := ({ dst := some 25, op := Op.call { callee := Callee.value (Operand.func 17), args := #[Operand.tmp 20, Operand.tmp 24], argTypes := #[41, 41] }, type := 4, pos := "ref.go:395", after := #[{ on := 3, ground := Ground.data }, { on := 7, ground := Ground.data }], guard := none } : Oper)) rfl (fun K hK => ?_) AllReadyH.nil)
        go_simp
        refine (actR_any _ _ _ p1 p2 p3 q1 q2 q3 k1 k2 k3 j1 j2 j3 x y Hl1.out Hl2.out Bx.out By.out).mono ?_
        rintro e w5 ⟨rfl, hm5⟩
        have Hm5 : Hid (Gou.Mod (fun _ => False) w w5) := Lib.hid (Hm.out.trans' ((Gou.Mod.drew _ _).trans' hm5))
        clear hm5 hHeld
        refine hK _ _ (HS.out _ Hm5.out) (fun hHeld => ?_)
        clear hK K
        try simp only [Act.put, List.setIfInBounds_toArray, List.set_cons_zero, List.set_cons_succ]
        by_cases hxy : x = y
        · have Hs := Lib.hid (Heq.out hxy)
          have hd : decide (x = y) = true := by simp [hxy]
          clear hxy
          generalize decide (x = y) = q at *
          subst hd
          refine wpAnyH_take (i := 9) (oi := ({ dst := some 26, op := Op.unOp UnOp.not 4 (Operand.tmp 25), type := 4, pos := "ref.go:395", after := #[{ on := 8, ground := Ground.data }], guard := none } : Oper)) (v := .bool false) rfl (by kernel_rfl) (by kernel_rfl) (by kernel_rfl) (fun _ _ _ h => h) (Or.inl ⟨by rfl, ?_⟩) hHeld ?_
          · (intro w' hSw; (try dsimp only at hSw); clear hSw; go_simp; (try with_reducible rfl))
          try simp only [Act.put, List.setIfInBounds_toArray, List.set_cons_zero, List.set_cons_succ]
          refine wpAnyH_done (by kernel_rfl) ?_ _
          clear hHeld
          go_wp2_with fail
          have hl' := HL.out
          go_roundw
          case rel => exact ⟨i + 1, by go_num, by omega, Hs.out, Hm5.out⟩
          case measure => simp [intOf]; omega
        · have Hs := Lib.hid (Hne.out hxy)
          have hd : decide (x = y) = false := by simp [hxy]
          clear hxy
          generalize decide (x = y) = q at *
          subst hd
          refine wpAnyH_take (i := 9) (oi := ({ dst := some 26, op := Op.unOp UnOp.not 4 (Operand.tmp 25), type := 4, pos := "ref.go:395", after := #[{ on := 8, ground := Ground.data }], guard := none } : Oper)) (v := .bool true) rfl (by kernel_rfl) (by kernel_rfl) (by kernel_rfl) (fun _ _ _ h => h) (Or.inl ⟨by rfl, ?_⟩) hHeld ?_
          · (intro w' hSw; (try dsimp only at hSw); clear hSw; go_simp; (try with_reducible rfl))
          try simp only [Act.put, List.setIfInBounds_toArray, List.set_cons_zero, List.set_cons_succ]
          refine wpAnyH_done (by kernel_rfl) ?_ _
          clear hHeld
          go_wp2_with fail
          go_ret
          exact ⟨by simp [Hs.out], Hm5.out⟩
      · obtain rfl : i = xs.length := by omega
        have e2 : decide ((xs.length : Int) < (xs.length : Int)) = false := by simp
        have Hs : Hid (xs = ys) := Lib.hid (by
          have h1 := Ht.out
          rw [List.take_length, Hlen.out, List.take_length] at h1
          exact h1)
        go_wp2_with fail
        go_ret
        exact ⟨by simp [Hs.out], Hm.out⟩
  · have e1 : ((xs.length : Int) != (ys.length : Int)) = true := by simp; omega
    have Hs : Hid (xs ≠ ys) := Lib.hid (fun h => hlen (by rw [h]))
    clear hlen
    go_wp2_with fail
    go_ret
    exact ⟨by simp [Hs.out], Gou.Mod.refl _ _⟩

end Go.Proofs.Ytnamnmipgpcjjaa

/- Acts as bytes: what reading says of rows of acts. -/
namespace Go.Gou
open Go.RowKit

theorem small_take {bs : List Nat} (hb : ∀ b ∈ bs, b < 256) (k : Nat) : ∀ b ∈ bs.take k, b < 256 := fun b h => hb b (List.mem_of_mem_take h)

theorem Reads.untake {bs : List Nat} (hb : ∀ b ∈ bs, b < 256) {k : Nat} {ys : List Ac} {n m : Nat} (h : Reads (bs.take k) ys n m) : Reads bs ys n m := by
  induction ys generalizing n with
  | nil => exact h
  | cons a r ih =>
    obtain ⟨q, hq, h⟩ := h
    obtain ⟨es, g, s, e⟩ := (act_spec (small_take hb k) n a q).1 hq
    exact ⟨q, (act_spec hb n a q).2 ⟨es, g, (Sits.take.1 s).1, e⟩, ih h⟩

theorem Reads.prefix_ {bs : List Nat} {xs ys : List Ac} {n m k : Nat} (h : Reads bs ys n k) (h2 : Reads bs xs n m) (e : actAt bs m = none) : ∃ rest, xs = ys ++ rest ∧ Reads bs rest k m := by
  induction ys generalizing n xs with
  | nil => obtain rfl : n = k := h; exact ⟨xs, rfl, h2⟩
  | cons y r ih =>
    obtain ⟨q, hq, h⟩ := h
    cases xs with
    | nil => obtain rfl : n = m := h2; rw [e] at hq; cases hq
    | cons x s =>
      obtain ⟨q', hq', h2⟩ := h2
      rw [hq] at hq'
      simp only [Option.some.injEq, Prod.mk.injEq] at hq'
      obtain ⟨rfl, rfl⟩ := hq'
      obtain ⟨rest, rfl, h3⟩ := ih h h2
      exact ⟨rest, rfl, h3⟩

theorem BytesAt.take {G : Nat → Prop} {w : World} {p : Option Addr} {c n : Nat} {bs : List Nat} (h : BytesAt G w (.slice p n c) bs) (k : Nat) (hk : k ≤ bs.length) : BytesAt G w (.slice p k c) (bs.take k) := by
  obtain ⟨p', c', e, hcap, h⟩ := h
  simp only [Value.slice.injEq] at e
  obtain ⟨rfl, rfl, rfl⟩ := e
  have hl : (bs.take k).length = k := by simp; omega
  refine ⟨p, c, by rw [hl], by omega, ?_⟩
  rcases h with rfl | ⟨b, o, rfl, hb, hG, hc⟩
  · left; simp
  · refine .inr ⟨b, o, rfl, hb, hG, fun i hi => ?_⟩
    rw [hc i (by omega)]
    simp

theorem readsAll {bs : List Nat} (hb : ∀ b ∈ bs, b < 256) {xs : List Ac} {n m : Nat} (h : Reads bs xs n m) : ∀ x ∈ xs, LookBorne x.op.look ∧ PxSmall x.op.look.content := by
  induction xs generalizing n with
  | nil => intro x hx; cases hx
  | cons a r ih =>
    obtain ⟨q, hq, h⟩ := h
    intro x hx
    rcases List.mem_cons.1 hx with rfl | hx
    · obtain ⟨es, ge, _⟩ := (act_spec hb n x q).1 hq
      exact (actG_enc ge).2
    · exact ih h x hx

theorem readsLe {bs : List Nat} {xs : List Ac} {n m : Nat} (h : Reads bs xs n m) : n + xs.length ≤ m := by
  induction xs generalizing n with
  | nil => obtain rfl : n = m := h; simp
  | cons a r ih =>
    obtain ⟨q, hq, h⟩ := h
    have := actAt_go hq
    have := ih h
    simp only [List.length_cons]
    omega

/-- What bytes that are cut off read as. -/
theorem cut_reads {bs : List Nat} (hb : ∀ b ∈ bs, b < 256) {A : Nat} (hA : A ≤ bs.length) {xs ys : List Ac} {n k : Nat} (hx : Reads bs xs 0 n) (ex : n < bs.length → actAt bs n = none) (hy : Reads (bs.take A) ys 0 k) (hk : k ≤ (bs.take A).length) (ey : k < (bs.take A).length → actAt (bs.take A) k = none) :
    ys.length ≤ xs.length ∧ ys = xs.take ys.length ∧ k ≤ n ∧ k ≤ A ∧ (ys.length = xs.length → k = n) ∧ ((hi : ys.length < xs.length) → ∃ es, putOf xs[ys.length] = some es ∧ A < k + es.length ∧ PxSmall xs[ys.length].op.look.content ∧ LookBorne xs[ys.length].op.look) := by
  have hl : (bs.take A).length = A := by simp; omega
  have ex' : actAt bs n = none := by
    by_cases h : n < bs.length
    · exact ex h
    · exact actAt_end h
  have ey' : actAt (bs.take A) k = none := by
    by_cases h : k < (bs.take A).length
    · exact ey h
    · exact actAt_end h
  obtain ⟨rest, rfl, hr⟩ := Reads.prefix_ (hy.untake hb) hx ex'
  refine ⟨by simp, by simp, Nat.le_trans (Nat.le_add_right _ _) (readsLe hr), by omega, fun h => ?_, fun hi => ?_⟩
  · simp only [List.length_append] at h
    obtain rfl : rest = [] := List.length_eq_zero_iff.1 (by omega)
    exact hr
  · cases rest with
    | nil => simp at hi
    | cons a r =>
      obtain ⟨q, hq, _⟩ := hr
      obtain ⟨es, h1, h2, h3, h4, h5⟩ := putOf_of_act hb hq
      have hg : (ys ++ a :: r)[ys.length] = a := by simp
      rw [hg]
      refine ⟨es, h1, ?_, h5, h4⟩
      rcases Nat.lt_or_ge A (k + es.length) with h | h
      · exact h
      · have := act_of_putOf (small_take hb A) h5 h1 (Sits.take.2 ⟨h2, .inr h⟩)
        rw [ey'] at this
        cases this

end Go.Gou

