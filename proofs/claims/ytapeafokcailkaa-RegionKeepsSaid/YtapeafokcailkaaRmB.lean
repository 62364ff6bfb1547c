/- Regions: the document's answer: a grid of all edges. -/
import Derived.Test.YtapeafokcailkaaRmA
import Derived.Test.YtapeafokcailkaaRgK
set_option linter.unusedSimpArgs false
set_option linter.unusedVariables false
set_option linter.unusedSectionVars false
set_option linter.constructorNameAsVariable false
namespace Go.Reg
theorem howF_none (h : Int) : howF h false false = false := by
  unfold howF
  split
  · rfl
  · split <;> rfl
end Go.Reg
namespace Go.Gou
open Go.RowKit Go.Reg
theorem rts_join (m : List Sp) (t : Sp) (x1 y0 y1 : Int) : (rts (bandOf (m ++ [t]) y0 y1)).set (m.length * 4 + 2) (.int .i64 x1) = rts (bandOf (m ++ [⟨t.a, x1⟩]) y0 y1) := by
  rw [bandOf_snoc, bandOf_snoc, rts_app, rts_app, List.set_append_right _ _ (by rw [rts_len, bandOf_len]; omega), rts_len, bandOf_len, show m.length * 4 + 2 - m.length * 4 = 2 from by omega]
  rfl
end Go.Gou
namespace Go.Proofs.Ytapeafokcailkaa
open Go.RowKit Go.Gou Go.Reg Go.Shelf
set_option maxRecDepth 100000

set_option maxHeartbeats 32000000 in
theorem refSets_any (w : World) (pa pb : Option Addr) (ca cb : Nat) (a b : List Rt) (h : Int) (hA : RtR (fun _ => True) w (.slice pa a.length ca) a) (hB : RtR (fun _ => True) w (.slice pb b.length cb) b) (hn : a.length + b.length ≤ 1000) :
    Calls Try.prog 17 #[.slice pa a.length ca, .slice pb b.length cb, .int .i64 h] w (CombP w a b (howF h)) := by
  have HA := Lib.hid hA
  have HB := Lib.hid hB
  have Hn := Lib.hid hn
  clear hA hB hn
  go_enter Try.func17, Try.ntmps17
  go_wp2_with (first | ((with_reducible show wpList _ _ _ (⟨_, Op.call ⟨.builtin .append, _, _⟩, _, _, _, _⟩ :: _) _ _); refine halt ?_) | fail)
  refine wpList_append_row T_rt rfl _ _ rfl (w.heap.size) (.slice none 0 0) (0) ([]) (fun _ => True) (.slice pa a.length ca) (a.length) (rts a) rfl rfl (Nat.le_refl _) (World.ownsRow_nil _ _ _ _) (HA.out) (rts_one a) (by have := Hn.out; first | (unfold maxLen; omega) | omega) (by have := Hn.out; first | (unfold maxLen; omega) | omega) ?_
  intro v5 w5 G5
  have Hm5 : Hid (Gou.Mod (fun _ => False) w w5) := Lib.hid (G5.mod0 (Gou.Mod.refl _ _) (fun b hb => by simp [Value.ownBlock] at hb))
  have Hown5 : Hid (w5.ownsRow w.heap.size 36 4 v5 a.length (rts a)) := Lib.hid (by have h := G5.own; simpa using h)
  clear G5
  obtain ⟨p5, c5, rfl⟩ := Gou.ownsRow_form Hown5.out
  go_wp2_with (first | ((with_reducible show wpList _ _ _ (⟨_, Op.call ⟨.builtin .append, _, _⟩, _, _, _, _⟩ :: _) _ _); refine halt ?_) | fail)
  refine wpList_append_row T_rt rfl _ _ rfl (w.heap.size) (.slice p5 a.length c5) (a.length) (rts a) (fun _ => True) (.slice pb b.length cb) (b.length) (rts b) rfl rfl (Hm5.out.size) (Hown5.out) (HB.out.under Hm5.out) (rts_one b) (by have := Hn.out; first | (unfold maxLen; omega) | omega) (by have := Hn.out; first | (unfold maxLen; omega) | omega) ?_
  intro v5 w5 G5
  have Hm2 : Hid (Gou.Mod (fun _ => False) w w5) := Lib.hid (G5.mod0 Hm5.out (own_ge Hown5.out))
  obtain ⟨pl, cl, rfl⟩ := Gou.ownsRow_form G5.own
  have hL : RtR (fun _ => True) w5 (.slice pl (a ++ b).length cl) (a ++ b) := by
    have h := RowG.own_of G5.own (G := fun _ => True) (fun _ _ _ => trivial)
    show RowG _ w5 4 _ (a ++ b).length (rts (a ++ b))
    rw [rts_app, List.length_append]
    exact h
  have hll : a.length + b.length = (a ++ b).length := by simp
  have HL := Lib.hid hL
  rw [hll]
  clear G5 hL hll Hown5 Hm5
  generalize w5 = w2 at *
  go_wp2_with fail
  go_loopw [7, 8, 10] (fun vx vy vi wr => ∃ (i : Nat) (xs ys : List Int), vi = .int .i64 i ∧ i ≤ (a ++ b).length ∧ IntsR (fun _ => True) wr vx xs ∧ IntsR (fun _ => True) wr vy ys ∧ Up xs ∧ Up ys ∧ XEdges xs ((a ++ b).take i) ∧ YEdges ys ((a ++ b).take i) ∧ xs.length ≤ 2 * i ∧ ys.length ≤ 2 * i ∧ Gou.Mod (fun _ => False) w2 wr) (fun _ _ vi _ => (a ++ b).length - (intOf vi).toNat)
  case atStart => exact ⟨0, [], [], rfl, by omega, RowG.nil _ _ _, RowG.nil _ _ _, List.Pairwise.nil, List.Pairwise.nil, fun r hr => by simp at hr, fun r hr => by simp at hr, by simp, by simp, Gou.Mod.refl _ _⟩
  case round =>
    obtain ⟨i, xs, ys, rfl, hi, hx, hy, hux, huy, hex, hey, hlx, hly, hm⟩ := hrel
    obtain ⟨px, cx, rfl, -⟩ := RowG.form hx
    obtain ⟨py, cy, rfl, -⟩ := RowG.form hy
    have Hx := Lib.hid hx
    have Hy := Lib.hid hy
    have Hu := Lib.hid (And.intro hux huy)
    have He := Lib.hid (And.intro hex hey)
    have Hlx := Lib.hid hlx
    have Hly := Lib.hid hly
    have Hm := Lib.hid hm
    clear hx hy hux huy hex hey hlx hly hm
    by_cases hil : i < (a ++ b).length
    · as_aux_lemma =>
        have t1 : decide ((i : Int) < ((a ++ b).length : Int)) = true := decide_eq_true (by omega)
        have t1' : decide ((i : Int) < (a.length : Int) + (b.length : Int)) = true := decide_eq_true (by simp at hil; omega)
        obtain ⟨-, gl, ol, rfl, hgl, -, hc⟩ := HL.out.cells (by omega)
        obtain ⟨e0, e1, e2, e3⟩ := hc i hil
        have Hcl := Lib.hid (And.intro e0 (And.intro e1 (And.intro e2 e3)))
        rw [← Hm.out.cell (p := ⟨gl, ol + i * 4, none⟩) hgl (fun h => h)] at e0
        rw [← Hm.out.cell (p := ⟨gl, ol + i * 4 + 1, none⟩) hgl (fun h => h)] at e1
        rw [← Hm.out.cell (p := ⟨gl, ol + i * 4 + 2, none⟩) hgl (fun h => h)] at e2
        rw [← Hm.out.cell (p := ⟨gl, ol + i * 4 + 3, none⟩) hgl (fun h => h)] at e3
        have hi1 : (i : Int) < ((a ++ b).length : Int) := by omega
        have hi1' : (i : Int) < (a.length : Int) + (b.length : Int) := by simp at hil; omega
        have hi0 : (0 : Int) ≤ (i : Int) := by omega
        have wi : IntKind.i64.wrap ((i : Int) + 1) = (i : Int) + 1 := wrap_id (by omega) (by have := Hn.out; simp at hi; omega)
        have Htk : Hid ((a ++ b).take (i + 1) = (a ++ b).take i ++ [(a ++ b)[i]]) := Lib.hid (List.take_succ_eq_append_getElem hil)
        have Hin : Hid (i < (a ++ b).length ∧ (a ++ b).length ≤ 1000) := Lib.hid ⟨hil, by have := Hn.out; simp; omega⟩
        have Hgl := Lib.hid hgl
        clear hc
        generalize (a ++ b)[i] = s at *
        obtain ⟨x0, y0, x1, y1⟩ := s
        simp only at e0 e1 e2 e3 Hcl
        have Hem := Lib.hid (fun (w' : World) => refEmpty_any ⟨x0, y0, x1, y1⟩ w')
        obtain ⟨q, hq⟩ : ∃ q, q = decide (Rt.Some ⟨x0, y0, x1, y1⟩) := ⟨_, rfl⟩
        have Hq := Lib.hid hq
        rw [← hq] at Hem
        clear hq hgl
        go_wp2_with fail
        refine (Hem.out _).mono ?_
        rintro e w3 ⟨rfl, hb3⟩
        have M0 : Hid (Gou.Mod (fun _ => False) w2 w3) := Lib.hid (Hm.out.trans' (Gou.Mod.of_below hb3 (fun _ => False)))
        have Hx3 := Lib.hid (RowG.under Hx.out (Gou.Mod.of_below hb3 (fun _ => False)))
        have Hy3 := Lib.hid (RowG.under Hy.out (Gou.Mod.of_below hb3 (fun _ => False)))
        clear hb3 Hx Hy e0 e1 e2 e3
        cases q with
        | true =>
          have Hsome := Lib.hid (of_decide_eq_true Hq.out.symm)
          have e0 := (M0.out.cell (p := ⟨gl, ol + i * 4, none⟩) Hgl.out (fun h => h)).trans Hcl.out.1
          have e1 := (M0.out.cell (p := ⟨gl, ol + i * 4 + 1, none⟩) Hgl.out (fun h => h)).trans Hcl.out.2.1
          have e2 := (M0.out.cell (p := ⟨gl, ol + i * 4 + 2, none⟩) Hgl.out (fun h => h)).trans Hcl.out.2.2.1
          have e3 := (M0.out.cell (p := ⟨gl, ol + i * 4 + 3, none⟩) Hgl.out (fun h => h)).trans Hcl.out.2.2.2
          have Hgl3 : Hid (gl < w3.heap.size) := Lib.hid (Nat.lt_of_lt_of_le Hgl.out M0.out.size)
          have Hx := Hx3
          clear Hq Hem
          go_wp2_with fail
          refine wp_region_held_drew (S := fun w' => Gou.Mod (fun _ => False) w3 w') (by kernel_rfl) (Gou.Mod.drew _ _) (fun hHeld => ?_)
          refine wpAnyH_take (i := 0) (oi := ({ dst := some 38, op := Op.move (Operand.tmp 7), type := 47, pos := "ref.go:58", after := #[], guard := none } : Oper)) (v := .slice px xs.length cx) rfl (by kernel_rfl) (by kernel_rfl) (by kernel_rfl) (fun _ _ _ h => h) (Or.inl ⟨by rfl, ?_⟩) hHeld ?_
          · (intro w' hSw; (try dsimp only at hSw); clear hSw; go_simp; (try with_reducible rfl))
          try simp only [Act.put, List.setIfInBounds_toArray, List.set_cons_zero, List.set_cons_succ]
          refine wpAnyH_take (i := 1) (oi := ({ dst := some 39, op := Op.move (Operand.tmp 9), type := 22, pos := "ref.go:58", after := #[], guard := none } : Oper)) (v := .slice (some ⟨gl, ol, none⟩) (a ++ b).length cl) rfl (by kernel_rfl) (by kernel_rfl) (by kernel_rfl) (fun _ _ _ h => h) (Or.inl ⟨by rfl, ?_⟩) hHeld ?_
          · (intro w' hSw; (try dsimp only at hSw); clear hSw; go_simp; (try with_reducible rfl))
          try simp only [Act.put, List.setIfInBounds_toArray, List.set_cons_zero, List.set_cons_succ]
          refine wpAnyH_take (i := 2) (oi := ({ dst := some 40, op := Op.move (Operand.tmp 10), type := 3, pos := "ref.go:58", after := #[], guard := none } : Oper)) (v := .int .i64 (i : Nat)) rfl (by kernel_rfl) (by kernel_rfl) (by kernel_rfl) (fun _ _ _ h => h) (Or.inl ⟨by rfl, ?_⟩) hHeld ?_
          · (intro w' hSw; (try dsimp only at hSw); clear hSw; go_simp; (try with_reducible rfl))
          try simp only [Act.put, List.setIfInBounds_toArray, List.set_cons_zero, List.set_cons_succ]
          refine wpAnyH_take (i := 3) (oi := ({ dst := some 41, op := Op.indexAddr 22 (Operand.tmp 39) (Operand.tmp 40), type := 0, pos := "ref.go:58", after := #[{ on := 1, ground := Ground.data }, { on := 2, ground := Ground.data }], guard := none } : Oper)) (v := .pointer (some ⟨gl, ol + i * 4, none⟩)) rfl (by kernel_rfl) (by kernel_rfl) (by kernel_rfl) (fun _ _ _ h => h) (Or.inl ⟨by rfl, ?_⟩) hHeld ?_
          · (intro w' hSw; (try dsimp only at hSw); clear hSw; go_simp; (try with_reducible rfl))
          try simp only [Act.put, List.setIfInBounds_toArray, List.set_cons_zero, List.set_cons_succ]
          refine wpAnyH_take (i := 4) (oi := ({ dst := some 42, op := Op.fieldAddr 36 (Operand.tmp 41) 0, type := 0, pos := "ref.go:58", after := #[{ on := 3, ground := Ground.data }], guard := none } : Oper)) (v := .pointer (some ⟨gl, ol + i * 4, none⟩)) rfl (by kernel_rfl) (by kernel_rfl) (by kernel_rfl) (fun _ _ _ h => h) (Or.inl ⟨by rfl, ?_⟩) hHeld ?_
          · (intro w' hSw; (try dsimp only at hSw); clear hSw; go_simp; (try with_reducible rfl))
          try simp only [Act.put, List.setIfInBounds_toArray, List.set_cons_zero, List.set_cons_succ]
          refine wpAnyH_take (i := 5) (oi := ({ dst := some 43, op := Op.load 3 (Operand.tmp 42), type := 3, pos := "ref.go:58", after := #[{ on := 4, ground := Ground.data }], guard := none } : Oper)) (v := .int .i64 x0) rfl (by kernel_rfl) (by kernel_rfl) (by kernel_rfl) (fun _ _ _ h => h) (Or.inl ⟨by rfl, ?_⟩) hHeld ?_
          · (intro w' hSw; (try dsimp only at hSw); have g := (hSw.cell (p := ⟨gl, ol + i * 4, none⟩) (by show gl < _; have := Hgl3.out; omega) ((fun h => h))).trans e0; clear hSw; go_simp; (try with_reducible rfl))
          try simp only [Act.put, List.setIfInBounds_toArray, List.set_cons_zero, List.set_cons_succ]
          refine wpAnyH_take (i := 7) (oi := ({ dst := some 45, op := Op.move (Operand.tmp 9), type := 22, pos := "ref.go:58", after := #[], guard := none } : Oper)) (v := .slice (some ⟨gl, ol, none⟩) (a ++ b).length cl) rfl (by kernel_rfl) (by kernel_rfl) (by kernel_rfl) (fun _ _ _ h => h) (Or.inl ⟨by rfl, ?_⟩) hHeld ?_
          · (intro w' hSw; (try dsimp only at hSw); clear hSw; go_simp; (try with_reducible rfl))
          try simp only [Act.put, List.setIfInBounds_toArray, List.set_cons_zero, List.set_cons_succ]
          refine wpAnyH_take (i := 8) (oi := ({ dst := some 46, op := Op.move (Operand.tmp 10), type := 3, pos := "ref.go:58", after := #[], guard := none } : Oper)) (v := .int .i64 (i : Nat)) rfl (by kernel_rfl) (by kernel_rfl) (by kernel_rfl) (fun _ _ _ h => h) (Or.inl ⟨by rfl, ?_⟩) hHeld ?_
          · (intro w' hSw; (try dsimp only at hSw); clear hSw; go_simp; (try with_reducible rfl))
          try simp only [Act.put, List.setIfInBounds_toArray, List.set_cons_zero, List.set_cons_succ]
          refine wpAnyH_take (i := 9) (oi := ({ dst := some 47, op := Op.indexAddr 22 (Operand.tmp 45) (Operand.tmp 46), type := 0, pos := "ref.go:58", after := #[{ on := 7, ground := Ground.data }, { on := 8, ground := Ground.data }], guard := none } : Oper)) (v := .pointer (some ⟨gl, ol + i * 4, none⟩)) rfl (by kernel_rfl) (by kernel_rfl) (by kernel_rfl) (fun _ _ _ h => h) (Or.inl ⟨by rfl, ?_⟩) hHeld ?_
          · (intro w' hSw; (try dsimp only at hSw); clear hSw; go_simp; (try with_reducible rfl))
          try simp only [Act.put, List.setIfInBounds_toArray, List.set_cons_zero, List.set_cons_succ]
          refine wpAnyH_take (i := 10) (oi := ({ dst := some 48, op := Op.fieldAddr 36 (Operand.tmp 47) 2, type := 0, pos := "ref.go:58", after := #[{ on := 9, ground := Ground.data }], guard := none } : Oper)) (v := .pointer (some ⟨gl, ol + i * 4 + 2, none⟩)) rfl (by kernel_rfl) (by kernel_rfl) (by kernel_rfl) (fun _ _ _ h => h) (Or.inl ⟨by rfl, ?_⟩) hHeld ?_
          · (intro w' hSw; (try dsimp only at hSw); clear hSw; go_simp; (try with_reducible rfl))
          try simp only [Act.put, List.setIfInBounds_toArray, List.set_cons_zero, List.set_cons_succ]
          refine wpAnyH_take (i := 11) (oi := ({ dst := some 49, op := Op.load 3 (Operand.tmp 48), type := 3, pos := "ref.go:58", after := #[{ on := 10, ground := Ground.data }], guard := none } : Oper)) (v := .int .i64 x1) rfl (by kernel_rfl) (by kernel_rfl) (by kernel_rfl) (fun _ _ _ h => h) (Or.inl ⟨by rfl, ?_⟩) hHeld ?_
          · (intro w' hSw; (try dsimp only at hSw); have g := (hSw.cell (p := ⟨gl, ol + i * 4 + 2, none⟩) (by show gl < _; have := Hgl3.out; omega) ((fun h => h))).trans e2; clear hSw; go_simp; (try with_reducible rfl))
          try simp only [Act.put, List.setIfInBounds_toArray, List.set_cons_zero, List.set_cons_succ]
          refine wpAnyH_ready (rs := [6]) (by kernel_rfl) (by simp) (AllReadyH.cons (o := ({ dst := some 44, op := Op.call { callee := Callee.value (Operand.func 38), args := #[Operand.tmp 38, Operand.tmp 43], argTypes := #[47, 3] }, type := 47, pos := "ref.go:58", after := #[{ on := 0, ground := Ground.data }, { on := 5, ground := Ground.data }], guard := none } : Oper)) rfl (fun K hK => ?_) AllReadyH.nil)
          go_simp
          refine (refPut_any _ (fun _ => True) px cx xs x0 (RowG.under Hx.out hHeld) (by have := Hlx.out; have := Hly.out; have := Hn.out; have := Hin.out; omega)).mono ?_
          rintro e wp1 ⟨hm, v, rfl, hown⟩
          have M1 := Lib.hid (hHeld.trans' hm)
          obtain ⟨X1, hX1⟩ : ∃ X, X = putN xs x0 := ⟨_, rfl⟩
          rw [← hX1] at hown
          have HX1 := Lib.hid hX1
          have Hl1 : Hid (X1.length ≤ xs.length + 1) := Lib.hid (by rw [hX1]; exact putN_len1 _ _)
          have H1 : Hid (IntsR (fun _ => True) wp1 v X1) := Lib.hid (RowG.own_of hown (fun _ _ _ => trivial))
          obtain ⟨p1, c1, rfl⟩ := Gou.ownsRow_form hown
          clear hm hown hX1 hHeld
          refine hK _ _ M1.out (fun hHeld => ?_)
          clear hK K
          try simp only [Act.put, List.setIfInBounds_toArray, List.set_cons_zero, List.set_cons_succ]
          refine wpAnyH_ready (rs := [12]) (by kernel_rfl) (by simp) (AllReadyH.cons (o := ({ dst := some 50, op := Op.call { callee := Callee.value (Operand.func 38), args := #[Operand.tmp 44, Operand.tmp 49], argTypes := #[47, 3] }, type := 47, pos := "ref.go:58", after := #[{ on := 6, ground := Ground.data }, { on := 11, ground := Ground.data }, { on := 6, ground := Ground.chain }], guard := none } : Oper)) rfl (fun K hK => ?_) AllReadyH.nil)
          go_simp
          refine (refPut_any _ (fun _ => True) p1 c1 X1 x1 (H1.out) (by have := Hlx.out; have := Hly.out; have := Hl1.out; have := Hn.out; have := Hin.out; omega)).mono ?_
          rintro e wp2 ⟨hm, v, rfl, hown⟩
          have M2 := Lib.hid (hHeld.trans' hm)
          obtain ⟨X2, hX2⟩ : ∃ X, X = putN X1 x1 := ⟨_, rfl⟩
          rw [← hX2] at hown
          have HX2 := Lib.hid hX2
          have Hl2 : Hid (X2.length ≤ X1.length + 1) := Lib.hid (by rw [hX2]; exact putN_len1 _ _)
          have H2 : Hid (IntsR (fun _ => True) wp2 v X2) := Lib.hid (RowG.own_of hown (fun _ _ _ => trivial))
          obtain ⟨p2, c2, rfl⟩ := Gou.ownsRow_form hown
          clear hm hown hX2 hHeld
          refine hK _ _ M2.out (fun hHeld => ?_)
          clear hK K
          try simp only [Act.put, List.setIfInBounds_toArray, List.set_cons_zero, List.set_cons_succ]
          refine wpAnyH_take (i := 13) (oi := ({ dst := some 7, op := Op.assign (Operand.tmp 50), type := 47, pos := "ref.go:58", after := #[{ on := 12, ground := Ground.data }, { on := 12, ground := Ground.chain }, { on := 0, ground := Ground.phase }, { on := 1, ground := Ground.phase }, { on := 2, ground := Ground.phase }, { on := 3, ground := Ground.phase }, { on := 4, ground := Ground.phase }, { on := 5, ground := Ground.phase }, { on := 6, ground := Ground.phase }, { on := 7, ground := Ground.phase }, { on := 8, ground := Ground.phase }, { on := 9, ground := Ground.phase }, { on := 10, ground := Ground.phase }, { on := 11, ground := Ground.phase }, { on := 12, ground := Ground.phase }], guard := none } : Oper)) (v := .slice p2 X2.length c2) rfl (by kernel_rfl) (by kernel_rfl) (by kernel_rfl) (fun _ _ _ h => h) (Or.inl ⟨by rfl, ?_⟩) hHeld ?_
          · (intro w' hSw; (try dsimp only at hSw); clear hSw; go_simp; (try with_reducible rfl))
          try simp only [Act.put, List.setIfInBounds_toArray, List.set_cons_zero, List.set_cons_succ]
          refine wpAnyH_done (by kernel_rfl) ?_ _
          clear hHeld
          have Hy : Hid (IntsR (fun _ => True) wp2 (.slice py ys.length cy) ys) := Lib.hid (RowG.under Hy3.out M2.out)
          have e1' : wp2.cell? ⟨gl, ol + i * 4 + 1, none⟩ = some (.int .i64 y0) := (M2.out.cell (p := ⟨gl, ol + i * 4 + 1, none⟩) Hgl3.out (fun h => h)).trans e1
          have e3' : wp2.cell? ⟨gl, ol + i * 4 + 3, none⟩ = some (.int .i64 y1) := (M2.out.cell (p := ⟨gl, ol + i * 4 + 3, none⟩) Hgl3.out (fun h => h)).trans e3
          have Hgl4 : Hid (gl < wp2.heap.size) := Lib.hid (Nat.lt_of_lt_of_le Hgl3.out M2.out.size)
          clear e0 e1 e2 e3
          have e1 := e1'
          have e3 := e3'
          clear e1' e3'
          go_wp2_with fail
          refine wp_region_held_drew (S := fun w' => Gou.Mod (fun _ => False) wp2 w') (by kernel_rfl) (Gou.Mod.drew _ _) (fun hHeld => ?_)
          refine wpAnyH_take (i := 0) (oi := ({ dst := some 51, op := Op.move (Operand.tmp 8), type := 47, pos := "ref.go:59", after := #[], guard := none } : Oper)) (v := .slice py ys.length cy) rfl (by kernel_rfl) (by kernel_rfl) (by kernel_rfl) (fun _ _ _ h => h) (Or.inl ⟨by rfl, ?_⟩) hHeld ?_
          · (intro w' hSw; (try dsimp only at hSw); clear hSw; go_simp; (try with_reducible rfl))
          try simp only [Act.put, List.setIfInBounds_toArray, List.set_cons_zero, List.set_cons_succ]
          refine wpAnyH_take (i := 1) (oi := ({ dst := some 52, op := Op.move (Operand.tmp 9), type := 22, pos := "ref.go:59", after := #[], guard := none } : Oper)) (v := .slice (some ⟨gl, ol, none⟩) (a ++ b).length cl) rfl (by kernel_rfl) (by kernel_rfl) (by kernel_rfl) (fun _ _ _ h => h) (Or.inl ⟨by rfl, ?_⟩) hHeld ?_
          · (intro w' hSw; (try dsimp only at hSw); clear hSw; go_simp; (try with_reducible rfl))
          try simp only [Act.put, List.setIfInBounds_toArray, List.set_cons_zero, List.set_cons_succ]
          refine wpAnyH_take (i := 2) (oi := ({ dst := some 53, op := Op.move (Operand.tmp 10), type := 3, pos := "ref.go:59", after := #[], guard := none } : Oper)) (v := .int .i64 (i : Nat)) rfl (by kernel_rfl) (by kernel_rfl) (by kernel_rfl) (fun _ _ _ h => h) (Or.inl ⟨by rfl, ?_⟩) hHeld ?_
          · (intro w' hSw; (try dsimp only at hSw); clear hSw; go_simp; (try with_reducible rfl))
          try simp only [Act.put, List.setIfInBounds_toArray, List.set_cons_zero, List.set_cons_succ]
          refine wpAnyH_take (i := 3) (oi := ({ dst := some 54, op := Op.indexAddr 22 (Operand.tmp 52) (Operand.tmp 53), type := 0, pos := "ref.go:59", after := #[{ on := 1, ground := Ground.data }, { on := 2, ground := Ground.data }], guard := none } : Oper)) (v := .pointer (some ⟨gl, ol + i * 4, none⟩)) rfl (by kernel_rfl) (by kernel_rfl) (by kernel_rfl) (fun _ _ _ h => h) (Or.inl ⟨by rfl, ?_⟩) hHeld ?_
          · (intro w' hSw; (try dsimp only at hSw); clear hSw; go_simp; (try with_reducible rfl))
          try simp only [Act.put, List.setIfInBounds_toArray, List.set_cons_zero, List.set_cons_succ]
          refine wpAnyH_take (i := 4) (oi := ({ dst := some 55, op := Op.fieldAddr 36 (Operand.tmp 54) 1, type := 0, pos := "ref.go:59", after := #[{ on := 3, ground := Ground.data }], guard := none } : Oper)) (v := .pointer (some ⟨gl, ol + i * 4 + 1, none⟩)) rfl (by kernel_rfl) (by kernel_rfl) (by kernel_rfl) (fun _ _ _ h => h) (Or.inl ⟨by rfl, ?_⟩) hHeld ?_
          · (intro w' hSw; (try dsimp only at hSw); clear hSw; go_simp; (try with_reducible rfl))
          try simp only [Act.put, List.setIfInBounds_toArray, List.set_cons_zero, List.set_cons_succ]
          refine wpAnyH_take (i := 5) (oi := ({ dst := some 56, op := Op.load 3 (Operand.tmp 55), type := 3, pos := "ref.go:59", after := #[{ on := 4, ground := Ground.data }], guard := none } : Oper)) (v := .int .i64 y0) rfl (by kernel_rfl) (by kernel_rfl) (by kernel_rfl) (fun _ _ _ h => h) (Or.inl ⟨by rfl, ?_⟩) hHeld ?_
          · (intro w' hSw; (try dsimp only at hSw); have g := (hSw.cell (p := ⟨gl, ol + i * 4 + 1, none⟩) (by show gl < _; have := Hgl4.out; omega) ((fun h => h))).trans e1; clear hSw; go_simp; (try with_reducible rfl))
          try simp only [Act.put, List.setIfInBounds_toArray, List.set_cons_zero, List.set_cons_succ]
          refine wpAnyH_take (i := 7) (oi := ({ dst := some 58, op := Op.move (Operand.tmp 9), type := 22, pos := "ref.go:59", after := #[], guard := none } : Oper)) (v := .slice (some ⟨gl, ol, none⟩) (a ++ b).length cl) rfl (by kernel_rfl) (by kernel_rfl) (by kernel_rfl) (fun _ _ _ h => h) (Or.inl ⟨by rfl, ?_⟩) hHeld ?_
          · (intro w' hSw; (try dsimp only at hSw); clear hSw; go_simp; (try with_reducible rfl))
          try simp only [Act.put, List.setIfInBounds_toArray, List.set_cons_zero, List.set_cons_succ]
          refine wpAnyH_take (i := 8) (oi := ({ dst := some 59, op := Op.move (Operand.tmp 10), type := 3, pos := "ref.go:59", after := #[], guard := none } : Oper)) (v := .int .i64 (i : Nat)) rfl (by kernel_rfl) (by kernel_rfl) (by kernel_rfl) (fun _ _ _ h => h) (Or.inl ⟨by rfl, ?_⟩) hHeld ?_
          · (intro w' hSw; (try dsimp only at hSw); clear hSw; go_simp; (try with_reducible rfl))
          try simp only [Act.put, List.setIfInBounds_toArray, List.set_cons_zero, List.set_cons_succ]
          refine wpAnyH_take (i := 9) (oi := ({ dst := some 60, op := Op.indexAddr 22 (Operand.tmp 58) (Operand.tmp 59), type := 0, pos := "ref.go:59", after := #[{ on := 7, ground := Ground.data }, { on := 8, ground := Ground.data }], guard := none } : Oper)) (v := .pointer (some ⟨gl, ol + i * 4, none⟩)) rfl (by kernel_rfl) (by kernel_rfl) (by kernel_rfl) (fun _ _ _ h => h) (Or.inl ⟨by rfl, ?_⟩) hHeld ?_
          · (intro w' hSw; (try dsimp only at hSw); clear hSw; go_simp; (try with_reducible rfl))
          try simp only [Act.put, List.setIfInBounds_toArray, List.set_cons_zero, List.set_cons_succ]
          refine wpAnyH_take (i := 10) (oi := ({ dst := some 61, op := Op.fieldAddr 36 (Operand.tmp 60) 3, type := 0, pos := "ref.go:59", after := #[{ on := 9, ground := Ground.data }], guard := none } : Oper)) (v := .pointer (some ⟨gl, ol + i * 4 + 3, none⟩)) rfl (by kernel_rfl) (by kernel_rfl) (by kernel_rfl) (fun _ _ _ h => h) (Or.inl ⟨by rfl, ?_⟩) hHeld ?_
          · (intro w' hSw; (try dsimp only at hSw); clear hSw; go_simp; (try with_reducible rfl))
          try simp only [Act.put, List.setIfInBounds_toArray, List.set_cons_zero, List.set_cons_succ]
          refine wpAnyH_take (i := 11) (oi := ({ dst := some 62, op := Op.load 3 (Operand.tmp 61), type := 3, pos := "ref.go:59", after := #[{ on := 10, ground := Ground.data }], guard := none } : Oper)) (v := .int .i64 y1) rfl (by kernel_rfl) (by kernel_rfl) (by kernel_rfl) (fun _ _ _ h => h) (Or.inl ⟨by rfl, ?_⟩) hHeld ?_
          · (intro w' hSw; (try dsimp only at hSw); have g := (hSw.cell (p := ⟨gl, ol + i * 4 + 3, none⟩) (by show gl < _; have := Hgl4.out; omega) ((fun h => h))).trans e3; clear hSw; go_simp; (try with_reducible rfl))
          try simp only [Act.put, List.setIfInBounds_toArray, List.set_cons_zero, List.set_cons_succ]
          refine wpAnyH_ready (rs := [6]) (by kernel_rfl) (by simp) (AllReadyH.cons (o := ({ dst := some 57, op := Op.call { callee := Callee.value (Operand.func 38), args := #[Operand.tmp 51, Operand.tmp 56], argTypes := #[47, 3] }, type := 47, pos := "ref.go:59", after := #[{ on := 0, ground := Ground.data }, { on := 5, ground := Ground.data }], guard := none } : Oper)) rfl (fun K hK => ?_) AllReadyH.nil)
          go_simp
          refine (refPut_any _ (fun _ => True) py cy ys y0 (RowG.under Hy.out hHeld) (by have := Hlx.out; have := Hly.out; have := Hn.out; have := Hin.out; omega)).mono ?_
          rintro e wp3 ⟨hm, v, rfl, hown⟩
          have M3 := Lib.hid (hHeld.trans' hm)
          obtain ⟨X3, hX3⟩ : ∃ X, X = putN ys y0 := ⟨_, rfl⟩
          rw [← hX3] at hown
          have HX3 := Lib.hid hX3
          have Hl3 : Hid (X3.length ≤ ys.length + 1) := Lib.hid (by rw [hX3]; exact putN_len1 _ _)
          have H3 : Hid (IntsR (fun _ => True) wp3 v X3) := Lib.hid (RowG.own_of hown (fun _ _ _ => trivial))
          obtain ⟨p3, c3, rfl⟩ := Gou.ownsRow_form hown
          clear hm hown hX3 hHeld
          refine hK _ _ M3.out (fun hHeld => ?_)
          clear hK K
          try simp only [Act.put, List.setIfInBounds_toArray, List.set_cons_zero, List.set_cons_succ]
          refine wpAnyH_ready (rs := [12]) (by kernel_rfl) (by simp) (AllReadyH.cons (o := ({ dst := some 63, op := Op.call { callee := Callee.value (Operand.func 38), args := #[Operand.tmp 57, Operand.tmp 62], argTypes := #[47, 3] }, type := 47, pos := "ref.go:59", after := #[{ on := 6, ground := Ground.data }, { on := 11, ground := Ground.data }, { on := 6, ground := Ground.chain }], guard := none } : Oper)) rfl (fun K hK => ?_) AllReadyH.nil)
          go_simp
          refine (refPut_any _ (fun _ => True) p3 c3 X3 y1 (H3.out) (by have := Hlx.out; have := Hly.out; have := Hl3.out; have := Hn.out; have := Hin.out; omega)).mono ?_
          rintro e wp4 ⟨hm, v, rfl, hown⟩
          have M4 := Lib.hid (hHeld.trans' hm)
          obtain ⟨X4, hX4⟩ : ∃ X, X = putN X3 y1 := ⟨_, rfl⟩
          rw [← hX4] at hown
          have HX4 := Lib.hid hX4
          have Hl4 : Hid (X4.length ≤ X3.length + 1) := Lib.hid (by rw [hX4]; exact putN_len1 _ _)
          have H4 : Hid (IntsR (fun _ => True) wp4 v X4) := Lib.hid (RowG.own_of hown (fun _ _ _ => trivial))
          obtain ⟨p4, c4, rfl⟩ := Gou.ownsRow_form hown
          clear hm hown hX4 hHeld
          refine hK _ _ M4.out (fun hHeld => ?_)
          clear hK K
          try simp only [Act.put, List.setIfInBounds_toArray, List.set_cons_zero, List.set_cons_succ]
          refine wpAnyH_take (i := 13) (oi := ({ dst := some 8, op := Op.assign (Operand.tmp 63), type := 47, pos := "ref.go:59", after := #[{ on := 12, ground := Ground.data }, { on := 12, ground := Ground.chain }, { on := 0, ground := Ground.phase }, { on := 1, ground := Ground.phase }, { on := 2, ground := Ground.phase }, { on := 3, ground := Ground.phase }, { on := 4, ground := Ground.phase }, { on := 5, ground := Ground.phase }, { on := 6, ground := Ground.phase }, { on := 7, ground := Ground.phase }, { on := 8, ground := Ground.phase }, { on := 9, ground := Ground.phase }, { on := 10, ground := Ground.phase }, { on := 11, ground := Ground.phase }, { on := 12, ground := Ground.phase }], guard := none } : Oper)) (v := .slice p4 X4.length c4) rfl (by kernel_rfl) (by kernel_rfl) (by kernel_rfl) (fun _ _ _ h => h) (Or.inl ⟨by rfl, ?_⟩) hHeld ?_
          · (intro w' hSw; (try dsimp only at hSw); clear hSw; go_simp; (try with_reducible rfl))
          try simp only [Act.put, List.setIfInBounds_toArray, List.set_cons_zero, List.set_cons_succ]
          refine wpAnyH_done (by kernel_rfl) ?_ _
          clear hHeld
          have Hend : Hid (IntsR (fun _ => True) wp4 (.slice p2 X2.length c2) X2 ∧ Gou.Mod (fun _ => False) w2 wp4) := Lib.hid ⟨RowG.under H2.out M4.out, (M0.out.trans' M2.out).trans' M4.out⟩
          go_wp2_with fail
          go_roundw
          case rel =>
            refine ⟨i + 1, X2, X4, by go_num, by have := Hin.out; omega, Hend.out.1, H4.out, ?_, ?_, ?_, ?_, by have h1 := Hl1.out; have h2 := Hl2.out; have h3 := Hlx.out; omega, by have h1 := Hl3.out; have h2 := Hl4.out; have h3 := Hly.out; omega, Hend.out.2⟩
            · rw [HX2.out, HX1.out]; exact putN_up (putN_up Hu.out.1 _) _
            · rw [HX4.out, HX3.out]; exact putN_up (putN_up Hu.out.2 _) _
            · rw [Htk.out]
              refine (He.out.1.imp fun x hx => ?_).snoc fun _ => ?_
              · rw [HX2.out, putN_mem, HX1.out, putN_mem]; exact .inr (.inr hx)
              · rw [HX2.out, putN_mem, putN_mem, HX1.out, putN_mem]; exact ⟨.inr (.inl rfl), .inl rfl⟩
            · rw [Htk.out]
              refine (He.out.2.imp fun x hx => ?_).snoc fun _ => ?_
              · rw [HX4.out, putN_mem, HX3.out, putN_mem]; exact .inr (.inr hx)
              · rw [HX4.out, putN_mem, putN_mem, HX3.out, putN_mem]; exact ⟨.inr (.inl rfl), .inl rfl⟩
          case measure => have := Hin.out; simp [intOf, wi]; omega
        | false =>
          have Hno := Lib.hid (of_decide_eq_false Hq.out.symm)
          clear Hq Hem
          go_wp2_with fail
          go_roundw
          case rel =>
            refine ⟨i + 1, xs, ys, by go_num, by have := Hin.out; omega, Hx3.out, Hy3.out, Hu.out.1, Hu.out.2, ?_, ?_, by have h3 := Hlx.out; omega, by have h3 := Hly.out; omega, M0.out⟩
            · rw [Htk.out]; exact He.out.1.snoc fun h => (Hno.out h).elim
            · rw [Htk.out]; exact He.out.2.snoc fun h => (Hno.out h).elim
          case measure => have := Hin.out; simp [intOf, wi]; omega
    · have hil' : i = (a ++ b).length := by omega
      have t1 : decide ((i : Int) < ((a ++ b).length : Int)) = false := decide_eq_false (by omega)
      have t1' : decide ((i : Int) < (a.length : Int) + (b.length : Int)) = false := decide_eq_false (by simp at hil; omega)
      rw [hil', List.take_length] at He
      have Hxl : Hid (xs.length ≤ 2 * (a.length + b.length)) := Lib.hid (by have := Hlx.out; rw [hil'] at this; simpa using this)
      have Hyl : Hid (ys.length ≤ 2 * (a.length + b.length)) := Lib.hid (by have := Hly.out; rw [hil'] at this; simpa using this)
      have Hxa : Hid (XEdges xs a ∧ XEdges xs b) := Lib.hid ⟨fun r hr => He.out.1 r (by simp [hr]), fun r hr => He.out.1 r (by simp [hr])⟩
      have Hya : Hid (YEdges ys a ∧ YEdges ys b) := Lib.hid ⟨fun r hr => He.out.2 r (by simp [hr]), fun r hr => He.out.2 r (by simp [hr])⟩
      have Hm1 : Hid (Gou.Mod (fun _ => False) w wr) := Lib.hid (Hm2.out.trans' Hm.out)
      have HA1 := Lib.hid (RowG.under HA.out Hm1.out)
      have HB1 := Lib.hid (RowG.under HB.out Hm1.out)
      clear He Hlx Hly hil' hil hi
      go_wp2_with fail
      generalize wr = w1 at *
      obtain ⟨f, hf⟩ : ∃ f, f = howF h := ⟨_, rfl⟩
      have Hf := Lib.hid hf
      have Hff : Hid (f false false = false) := Lib.hid (by rw [hf]; exact howF_none h)
      clear hf
      have Hbig : Hid (∀ i, i < ys.length → i * (2 * (a.length + b.length)) ≤ 4000000) := Lib.hid (fun i hi => by
        have h1 := Hn.out
        have h2 := Hyl.out
        have h3 : i * (2 * (a.length + b.length)) ≤ 2000 * 2000 := Nat.mul_le_mul (by omega) (by omega)
        omega)
      go_loopw [11, 12, 13] (fun vo vf vj wr => ∃ (j fr : Nat) (out : List Rt) (last : List Sp), vf = .int .i64 fr ∧ vj = .int .i64 j ∧ (0 < ys.length → RunB a b f ys j out fr last) ∧ (ys = [] → out = []) ∧ wr.ownsRow w1.heap.size 36 4 vo out.length (rts out) ∧ Gou.Mod (fun _ => False) w1 wr ∧ out.length ≤ j * (2 * (a.length + b.length)) ∧ (j < ys.length ∨ ys = [] ∧ j = 0)) (fun _ _ vj _ => ys.length - (intOf vj).toNat)
      case atStart =>
        refine ⟨0, 0, [], [], rfl, rfl, fun k => RunB.start Hff.out Hu.out.2 Hya.out.1 Hya.out.2 k, fun _ => rfl, World.ownsRow_nil _ _ _ _, Gou.Mod.refl _ _, by simp, ?_⟩
        cases ys with
        | nil => exact .inr ⟨rfl, rfl⟩
        | cons _ _ => exact .inl (by simp)
      case round =>
        obtain ⟨j, fr, out, last, rfl, rfl, hrun, hnil, hown, hmj, hlen, hat⟩ := hrel
        obtain ⟨pq, cq, rfl⟩ := Gou.ownsRow_form hown
        have Hnil := Lib.hid hnil
        have Howno := Lib.hid hown
        have Hmj := Lib.hid hmj
        have Hlen := Lib.hid hlen
        have Hat := Lib.hid hat
        have Hrun := Lib.hid hrun
        clear hrun hnil hown hmj hlen hat
        generalize wr = wj at *
        have wj' : IntKind.i64.wrap ((j : Int) + 1) = (j : Int) + 1 := wrap_id (by omega) (by have := Hyl.out; have := Hn.out; rcases Hat.out with h | h <;> omega)
        by_cases hj1 : j + 1 < ys.length
        · have t1 : decide ((j : Int) + 1 < (ys.length : Int)) = true := decide_eq_true (by omega)
          obtain ⟨-, gy, oy, rfl, hgy, -, hcy⟩ := IntsR.cells Hy.out (by omega)
          have ey0 := hcy j (by omega)
          have ey1 := hcy (j + 1) hj1
          have Hy0 : Hid (ys[j]? = some ys[j] ∧ ys[j + 1]? = some ys[j + 1]) := Lib.hid ⟨List.getElem?_eq_getElem (by omega), List.getElem?_eq_getElem hj1⟩
          have HR := Lib.hid (Hrun.out (by omega))
          have Hj1 := Lib.hid hj1
          have j0 : (0 : Int) ≤ (j : Int) := by omega
          have j1 : (j : Int) < (ys.length : Int) := by omega
          have j2 : (0 : Int) ≤ (j : Int) + 1 := by omega
          have j3 : (j : Int) + 1 < (ys.length : Int) := by omega
          have j4 : ((j : Int) + 1).toNat = j + 1 := by omega
          have Hgy := Lib.hid hgy
          clear hcy
          generalize ys[j] = y0 at *
          generalize ys[j + 1] = y1 at *
          clear hj1
          have Hey := Lib.hid (And.intro ey0 ey1)
          clear ey0 ey1 hgy
          go_wp2_with fail
          go_loopw [14, 15] (fun vr vi wr => ∃ (i : Nat) (row : List Sp), vi = .int .i64 i ∧ row.length ≤ i ∧ (i < xs.length ∨ xs = [] ∧ i = 0) ∧ GridB a b f xs y0 i row ∧ wr.ownsRow wj.heap.size 36 4 vr (bandOf row y0 y1).length (rts (bandOf row y0 y1)) ∧ Gou.Mod (fun _ => False) wj wr) (fun _ vi _ => xs.length - (intOf vi).toNat)
          case atStart =>
            refine ⟨0, [], rfl, by simp, ?_, GridB.start Hff.out Hu.out.1 Hxa.out.1 Hxa.out.2, World.ownsRow_nil _ _ _ _, Gou.Mod.refl _ _⟩
            cases xs with
            | nil => exact .inr ⟨rfl, rfl⟩
            | cons _ _ => exact .inl (by simp)
          case round =>
            obtain ⟨i, row, rfl, hrl, hati, hG, hown, hm⟩ := hrel
            rw [bandOf_len] at hown
            obtain ⟨po, co, rfl⟩ := Gou.ownsRow_form hown
            have Hrl := Lib.hid hrl
            have Hati := Lib.hid hati
            have HG := Lib.hid hG
            have Hown := Lib.hid hown
            have Hm := Lib.hid hm
            clear hrl hati hG hown hm
            have Hmw : Hid (Gou.Mod (fun _ => False) w1 wr) := Lib.hid (Hmj.out.trans' Hm.out)
            have wi : IntKind.i64.wrap ((i : Int) + 1) = (i : Int) + 1 := wrap_id (by omega) (by have := Hxl.out; have := Hn.out; rcases Hati.out with h | h <;> omega)
            have Hgyr : Hid (gy < wr.heap.size) := Lib.hid (Nat.lt_of_lt_of_le Hgy.out Hmw.out.size)
            have ey0 := (Hmw.out.cell (p := ⟨gy, oy + j, none⟩) Hgy.out (fun h => h)).trans Hey.out.1
            have ey1 := (Hmw.out.cell (p := ⟨gy, oy + (j + 1), none⟩) Hgy.out (fun h => h)).trans Hey.out.2
            by_cases hi1 : i + 1 < xs.length
            · as_aux_lemma =>
                have t2 : decide ((i : Int) + 1 < (xs.length : Int)) = true := decide_eq_true (by omega)
                obtain ⟨-, gx, ox, rfl, hgx, -, hcx⟩ := IntsR.cells Hx.out (by omega)
                have ex0 := (Hmw.out.cell (p := ⟨gx, ox + i, none⟩) hgx (fun h => h)).trans (hcx i (by omega))
                have ex1 := (Hmw.out.cell (p := ⟨gx, ox + (i + 1), none⟩) hgx (fun h => h)).trans (hcx (i + 1) hi1)
                have Hx0 : Hid (xs[i]? = some xs[i] ∧ xs[i + 1]? = some xs[i + 1]) := Lib.hid ⟨List.getElem?_eq_getElem (by omega), List.getElem?_eq_getElem hi1⟩
                have i0 : (0 : Int) ≤ (i : Int) := by omega
                have i1 : (i : Int) < (xs.length : Int) := by omega
                have i2 : (0 : Int) ≤ (i : Int) + 1 := by omega
                have i3 : (i : Int) + 1 < (xs.length : Int) := by omega
                have i4 : ((i : Int) + 1).toNat = i + 1 := by omega
                have Hil := Lib.hid hi1
                have Hgx := Lib.hid hgx
                have Hgxr : Hid (gx < wr.heap.size) := Lib.hid (Nat.lt_of_lt_of_le hgx Hmw.out.size)
                clear hcx hgx
                generalize xs[i] = x0 at *
                generalize xs[i + 1] = x1 at *
                clear hi1
                have HAr := Lib.hid (RowG.under HA1.out Hmw.out)
                have HBr := Lib.hid (RowG.under HB1.out Hmw.out)
                obtain ⟨q, hq⟩ : ∃ q, q = decide (Pts a b (howF h) x0 y0) := ⟨_, rfl⟩
                have Hq := Lib.hid hq
                have Hqf : Hid (q = decide (Pts a b f x0 y0)) := Lib.hid (by rw [Hf.out]; exact hq)
                clear hq
                go_wp2_with fail
                refine wp_region_held_drew (S := fun w' => Gou.Mod (fun _ => False) wr w') (by kernel_rfl) (Gou.Mod.drew _ _) (fun hHeld => ?_)
                refine wpAnyH_take (i := 0) (oi := ({ dst := some 78, op := Op.move (Operand.tmp 0), type := 22, pos := "ref.go:67", after := #[], guard := none } : Oper)) (v := .slice pa a.length ca) rfl (by kernel_rfl) (by kernel_rfl) (by kernel_rfl) (fun _ _ _ h => h) (Or.inl ⟨by rfl, ?_⟩) hHeld ?_
                · (intro w' hSw; (try dsimp only at hSw); clear hSw; go_simp; (try with_reducible rfl))
                try simp only [Act.put, List.setIfInBounds_toArray, List.set_cons_zero, List.set_cons_succ]
                refine wpAnyH_take (i := 1) (oi := ({ dst := some 79, op := Op.move (Operand.tmp 1), type := 22, pos := "ref.go:67", after := #[], guard := none } : Oper)) (v := .slice pb b.length cb) rfl (by kernel_rfl) (by kernel_rfl) (by kernel_rfl) (fun _ _ _ h => h) (Or.inl ⟨by rfl, ?_⟩) hHeld ?_
                · (intro w' hSw; (try dsimp only at hSw); clear hSw; go_simp; (try with_reducible rfl))
                try simp only [Act.put, List.setIfInBounds_toArray, List.set_cons_zero, List.set_cons_succ]
                refine wpAnyH_take (i := 2) (oi := ({ dst := some 80, op := Op.move (Operand.tmp 2), type := 3, pos := "ref.go:67", after := #[], guard := none } : Oper)) (v := .int .i64 h) rfl (by kernel_rfl) (by kernel_rfl) (by kernel_rfl) (fun _ _ _ h => h) (Or.inl ⟨by rfl, ?_⟩) hHeld ?_
                · (intro w' hSw; (try dsimp only at hSw); clear hSw; go_simp; (try with_reducible rfl))
                try simp only [Act.put, List.setIfInBounds_toArray, List.set_cons_zero, List.set_cons_succ]
                refine wpAnyH_take (i := 3) (oi := ({ dst := some 81, op := Op.move (Operand.tmp 7), type := 47, pos := "ref.go:67", after := #[], guard := none } : Oper)) (v := .slice (some ⟨gx, ox, none⟩) xs.length cx) rfl (by kernel_rfl) (by kernel_rfl) (by kernel_rfl) (fun _ _ _ h => h) (Or.inl ⟨by rfl, ?_⟩) hHeld ?_
                · (intro w' hSw; (try dsimp only at hSw); clear hSw; go_simp; (try with_reducible rfl))
                try simp only [Act.put, List.setIfInBounds_toArray, List.set_cons_zero, List.set_cons_succ]
                refine wpAnyH_take (i := 4) (oi := ({ dst := some 82, op := Op.move (Operand.tmp 15), type := 3, pos := "ref.go:67", after := #[], guard := none } : Oper)) (v := .int .i64 (i : Nat)) rfl (by kernel_rfl) (by kernel_rfl) (by kernel_rfl) (fun _ _ _ h => h) (Or.inl ⟨by rfl, ?_⟩) hHeld ?_
                · (intro w' hSw; (try dsimp only at hSw); clear hSw; go_simp; (try with_reducible rfl))
                try simp only [Act.put, List.setIfInBounds_toArray, List.set_cons_zero, List.set_cons_succ]
                refine wpAnyH_take (i := 5) (oi := ({ dst := some 83, op := Op.indexAddr 47 (Operand.tmp 81) (Operand.tmp 82), type := 0, pos := "ref.go:67", after := #[{ on := 3, ground := Ground.data }, { on := 4, ground := Ground.data }], guard := none } : Oper)) (v := .pointer (some ⟨gx, ox + i, none⟩)) rfl (by kernel_rfl) (by kernel_rfl) (by kernel_rfl) (fun _ _ _ h => h) (Or.inl ⟨by rfl, ?_⟩) hHeld ?_
                · (intro w' hSw; (try dsimp only at hSw); clear hSw; go_simp; (try with_reducible rfl))
                try simp only [Act.put, List.setIfInBounds_toArray, List.set_cons_zero, List.set_cons_succ]
                refine wpAnyH_take (i := 6) (oi := ({ dst := some 84, op := Op.load 3 (Operand.tmp 83), type := 3, pos := "ref.go:67", after := #[{ on := 5, ground := Ground.data }], guard := none } : Oper)) (v := .int .i64 x0) rfl (by kernel_rfl) (by kernel_rfl) (by kernel_rfl) (fun _ _ _ h => h) (Or.inl ⟨by rfl, ?_⟩) hHeld ?_
                · (intro w' hSw; (try dsimp only at hSw); have g := (hSw.cell (p := ⟨gx, ox + i, none⟩) (by show gx < _; have := Hgxr.out; omega) ((fun h => h))).trans ex0; clear hSw; go_simp; (try with_reducible rfl))
                try simp only [Act.put, List.setIfInBounds_toArray, List.set_cons_zero, List.set_cons_succ]
                refine wpAnyH_take (i := 7) (oi := ({ dst := some 85, op := Op.move (Operand.tmp 8), type := 47, pos := "ref.go:67", after := #[], guard := none } : Oper)) (v := .slice (some ⟨gy, oy, none⟩) ys.length cy) rfl (by kernel_rfl) (by kernel_rfl) (by kernel_rfl) (fun _ _ _ h => h) (Or.inl ⟨by rfl, ?_⟩) hHeld ?_
                · (intro w' hSw; (try dsimp only at hSw); clear hSw; go_simp; (try with_reducible rfl))
                try simp only [Act.put, List.setIfInBounds_toArray, List.set_cons_zero, List.set_cons_succ]
                refine wpAnyH_take (i := 8) (oi := ({ dst := some 86, op := Op.move (Operand.tmp 13), type := 3, pos := "ref.go:67", after := #[], guard := none } : Oper)) (v := .int .i64 (j : Nat)) rfl (by kernel_rfl) (by kernel_rfl) (by kernel_rfl) (fun _ _ _ h => h) (Or.inl ⟨by rfl, ?_⟩) hHeld ?_
                · (intro w' hSw; (try dsimp only at hSw); clear hSw; go_simp; (try with_reducible rfl))
                try simp only [Act.put, List.setIfInBounds_toArray, List.set_cons_zero, List.set_cons_succ]
                refine wpAnyH_take (i := 9) (oi := ({ dst := some 87, op := Op.indexAddr 47 (Operand.tmp 85) (Operand.tmp 86), type := 0, pos := "ref.go:67", after := #[{ on := 7, ground := Ground.data }, { on := 8, ground := Ground.data }], guard := none } : Oper)) (v := .pointer (some ⟨gy, oy + j, none⟩)) rfl (by kernel_rfl) (by kernel_rfl) (by kernel_rfl) (fun _ _ _ h => h) (Or.inl ⟨by rfl, ?_⟩) hHeld ?_
                · (intro w' hSw; (try dsimp only at hSw); clear hSw; go_simp; (try with_reducible rfl))
                try simp only [Act.put, List.setIfInBounds_toArray, List.set_cons_zero, List.set_cons_succ]
                refine wpAnyH_take (i := 10) (oi := ({ dst := some 88, op := Op.load 3 (Operand.tmp 87), type := 3, pos := "ref.go:67", after := #[{ on := 9, ground := Ground.data }], guard := none } : Oper)) (v := .int .i64 y0) rfl (by kernel_rfl) (by kernel_rfl) (by kernel_rfl) (fun _ _ _ h => h) (Or.inl ⟨by rfl, ?_⟩) hHeld ?_
                · (intro w' hSw; (try dsimp only at hSw); have g := (hSw.cell (p := ⟨gy, oy + j, none⟩) (by show gy < _; have := Hgyr.out; omega) ((fun h => h))).trans ey0; clear hSw; go_simp; (try with_reducible rfl))
                try simp only [Act.put, List.setIfInBounds_toArray, List.set_cons_zero, List.set_cons_succ]
                refine wpAnyH_ready (rs := [11]) (by kernel_rfl) (by simp) (AllReadyH.cons (o := ({ dst := some 89, op := Op.call { callee := Callee.value (Operand.func 39), args := #[Operand.tmp 78, Operand.tmp 79, Operand.tmp 80, Operand.tmp 84, Operand.tmp 88], argTypes := #[22, 22, 3, 3, 3] }, type := 4, pos := "ref.go:67", after := #[{ on := 0, ground := Ground.data }, { on := 1, ground := Ground.data }, { on := 2, ground := Ground.data }, { on := 6, ground := Ground.data }, { on := 10, ground := Ground.data }], guard := none } : Oper)) rfl (fun K hK => ?_) AllReadyH.nil)
                go_simp
                refine (refWant_any _ pa pb ca cb a b h x0 y0 (RowG.under HAr.out hHeld) (RowG.under HBr.out hHeld) (by have := Hn.out; omega) (by have := Hn.out; omega)).mono ?_
                rintro e ww ⟨rfl, hm⟩
                have Mw := Lib.hid (hHeld.trans' hm)
                rw [← Hq.out]
                clear hm hHeld
                refine hK _ _ Mw.out (fun hHeld => ?_)
                clear hK K
                try simp only [Act.put, List.setIfInBounds_toArray, List.set_cons_zero, List.set_cons_succ]
                refine wpAnyH_take (i := 12) (oi := ({ dst := some 90, op := Op.unOp UnOp.not 4 (Operand.tmp 89), type := 4, pos := "ref.go:67", after := #[{ on := 11, ground := Ground.data }], guard := none } : Oper)) (v := .bool (!q)) rfl (by kernel_rfl) (by kernel_rfl) (by kernel_rfl) (fun _ _ _ h => h) (Or.inl ⟨by rfl, ?_⟩) hHeld ?_
                · (intro w' hSw; (try dsimp only at hSw); clear hSw; go_simp; (try with_reducible rfl))
                try simp only [Act.put, List.setIfInBounds_toArray, List.set_cons_zero, List.set_cons_succ]
                refine wpAnyH_done (by kernel_rfl) ?_ _
                clear hHeld
                cases q with
                | false =>
                  have Hno := Lib.hid (of_decide_eq_false Hqf.out.symm)
                  have Hend : Hid (ww.ownsRow wj.heap.size 36 4 (.slice po row.length co) (bandOf row y0 y1).length (rts (bandOf row y0 y1)) ∧ Gou.Mod (fun _ => False) wj ww) := Lib.hid ⟨by rw [bandOf_len]; exact own_up Hown.out Mw.out, Hm.out.trans' Mw.out⟩
                  clear Hq Hqf
                  go_wp2_with fail
                  go_roundw
                  case rel => exact ⟨i + 1, row, by go_num, by have := Hrl.out; omega, .inl Hil.out, HG.out.no Hu.out.1 Hxa.out.1 Hxa.out.2 Hx0.out.1 Hx0.out.2 Hno.out, Hend.out.1, Hend.out.2⟩
                  case measure => have := Hil.out; simp [intOf, wi]; omega
                | true =>
                  have Hyes := Lib.hid (of_decide_eq_true Hqf.out.symm)
                  have Hown2 := Lib.hid (own_up Hown.out Mw.out)
                  have Hm2' := Lib.hid (Hm.out.trans' Mw.out)
                  have ey0' := (Mw.out.cell (p := ⟨gy, oy + j, none⟩) Hgyr.out (fun h => h)).trans ey0
                  have ey1' := (Mw.out.cell (p := ⟨gy, oy + (j + 1), none⟩) Hgyr.out (fun h => h)).trans ey1
                  have ex0' := (Mw.out.cell (p := ⟨gx, ox + i, none⟩) Hgxr.out (fun h => h)).trans ex0
                  have ex1' := (Mw.out.cell (p := ⟨gx, ox + (i + 1), none⟩) Hgxr.out (fun h => h)).trans ex1
                  have Hgyw : Hid (gy < ww.heap.size) := Lib.hid (Nat.lt_of_lt_of_le Hgyr.out Mw.out.size)
                  have Hgxw : Hid (gx < ww.heap.size) := Lib.hid (Nat.lt_of_lt_of_le Hgxr.out Mw.out.size)
                  have Hjlt : Hid (gy < wj.heap.size ∧ gx < wj.heap.size) := Lib.hid ⟨Nat.lt_of_lt_of_le Hgy.out Hmj.out.size, Nat.lt_of_lt_of_le Hgx.out Hmj.out.size⟩
                  clear Hq Hqf ey0 ey1 ex0 ex1 Hown Hm Hmw HAr HBr Mw Hgyr Hgxr
                  have HF : Hid (row.length + 1 ≤ maxLen ∧ (row.length + 1) * 32 ≤ 140737488355328) := Lib.hid (by
                    have h1 := Hrl.out
                    have h2 := Hil.out
                    have h3 := Hxl.out
                    have h4 := Hn.out
                    unfold maxLen
                    omega)
                  have Hne : Hid ((Value.slice po row.length co).ownBlock ≠ some gx ∧ (Value.slice po row.length co).ownBlock ≠ some gy) := Lib.hid ⟨fun k => by have := own_ge Hown2.out gx k; have := Hjlt.out; omega, fun k => by have := own_ge Hown2.out gy k; have := Hjlt.out; omega⟩
                  rcases last_cases row with rfl | ⟨m, t, rfl⟩
                  · as_aux_lemma =>
                      simp only [List.length_nil] at Hown2 HF Hne ⊢
                      have n1 : decide ((0 : Int) ≤ -1) = false := rfl
                      go_wp2_with fail
                      go_quiet (fail)
                      have Hown3 := Lib.hid (own_up Hown2.out (Gou.Mod.drewN _ ww nq))
                      have Hm3 := Lib.hid (Hm2'.out.trans' (Gou.Mod.drewN _ ww nq))
                      have ex0 : (ww.drewN nq).cell? ⟨gx, ox + i, none⟩ = some (.int .i64 x0) := by rw [World.cell?_drewN]; exact ex0'
                      have ex1 : (ww.drewN nq).cell? ⟨gx, ox + (i + 1), none⟩ = some (.int .i64 x1) := by rw [World.cell?_drewN]; exact ex1'
                      have ey0 : (ww.drewN nq).cell? ⟨gy, oy + j, none⟩ = some (.int .i64 y0) := by rw [World.cell?_drewN]; exact ey0'
                      have ey1 : (ww.drewN nq).cell? ⟨gy, oy + (j + 1), none⟩ = some (.int .i64 y1) := by rw [World.cell?_drewN]; exact ey1'
                      have Hgyr : Hid (gy < (ww.drewN nq).heap.size) := Lib.hid Hgyw.out
                      have Hgxr : Hid (gx < (ww.drewN nq).heap.size) := Lib.hid Hgxw.out
                      clear Hown2 Hm2' ex0' ex1' ey0' ey1' Hgyw Hgxw
                      generalize ww.drewN nq = W3 at *
                      go_wp2_with fail
                      refine wp_region_held_drew (S := fun w' => Gou.Mod (fun b => (Value.slice po 0 co).ownBlock = some b) W3 w') (by kernel_rfl) (Gou.Mod.drew _ _) (fun hHeld => ?_)
                      refine wpAnyH_take (i := 0) (oi := ({ dst := some 117, op := Op.move (Operand.tmp 14), type := 27, pos := "ref.go:74", after := #[], guard := none } : Oper)) (v := .slice po 0 co) rfl (by kernel_rfl) (by kernel_rfl) (by kernel_rfl) (fun _ _ _ h => h) (Or.inl ⟨by rfl, ?_⟩) hHeld ?_
                      · (intro w' hSw; (try dsimp only at hSw); clear hSw; go_simp; (try with_reducible rfl))
                      try simp only [Act.put, List.setIfInBounds_toArray, List.set_cons_zero, List.set_cons_succ]
                      refine wpAnyH_take (i := 1) (oi := ({ dst := some 118, op := Op.move (Operand.tmp 7), type := 47, pos := "ref.go:74", after := #[], guard := none } : Oper)) (v := .slice (some ⟨gx, ox, none⟩) xs.length cx) rfl (by kernel_rfl) (by kernel_rfl) (by kernel_rfl) (fun _ _ _ h => h) (Or.inl ⟨by rfl, ?_⟩) hHeld ?_
                      · (intro w' hSw; (try dsimp only at hSw); clear hSw; go_simp; (try with_reducible rfl))
                      try simp only [Act.put, List.setIfInBounds_toArray, List.set_cons_zero, List.set_cons_succ]
                      refine wpAnyH_take (i := 2) (oi := ({ dst := some 119, op := Op.move (Operand.tmp 15), type := 3, pos := "ref.go:74", after := #[], guard := none } : Oper)) (v := .int .i64 (i : Nat)) rfl (by kernel_rfl) (by kernel_rfl) (by kernel_rfl) (fun _ _ _ h => h) (Or.inl ⟨by rfl, ?_⟩) hHeld ?_
                      · (intro w' hSw; (try dsimp only at hSw); clear hSw; go_simp; (try with_reducible rfl))
                      try simp only [Act.put, List.setIfInBounds_toArray, List.set_cons_zero, List.set_cons_succ]
                      refine wpAnyH_take (i := 3) (oi := ({ dst := some 120, op := Op.indexAddr 47 (Operand.tmp 118) (Operand.tmp 119), type := 0, pos := "ref.go:74", after := #[{ on := 1, ground := Ground.data }, { on := 2, ground := Ground.data }], guard := none } : Oper)) (v := .pointer (some ⟨gx, ox + i, none⟩)) rfl (by kernel_rfl) (by kernel_rfl) (by kernel_rfl) (fun _ _ _ h => h) (Or.inl ⟨by rfl, ?_⟩) hHeld ?_
                      · (intro w' hSw; (try dsimp only at hSw); clear hSw; go_simp; (try with_reducible rfl))
                      try simp only [Act.put, List.setIfInBounds_toArray, List.set_cons_zero, List.set_cons_succ]
                      refine wpAnyH_take (i := 4) (oi := ({ dst := some 121, op := Op.load 3 (Operand.tmp 120), type := 3, pos := "ref.go:74", after := #[{ on := 3, ground := Ground.data }], guard := none } : Oper)) (v := .int .i64 x0) rfl (by kernel_rfl) (by kernel_rfl) (by kernel_rfl) (fun _ _ _ h => h) (Or.inl ⟨by rfl, ?_⟩) hHeld ?_
                      · (intro w' hSw; (try dsimp only at hSw); have g := (hSw.cell (p := ⟨gx, ox + i, none⟩) (by show gx < _; have := Hgxr.out; omega) (by show ¬ (_ = some gx); exact Hne.out.1)).trans ex0; clear hSw; go_simp; (try with_reducible rfl))
                      try simp only [Act.put, List.setIfInBounds_toArray, List.set_cons_zero, List.set_cons_succ]
                      refine wpAnyH_take (i := 5) (oi := ({ dst := some 122, op := Op.move (Operand.tmp 8), type := 47, pos := "ref.go:74", after := #[], guard := none } : Oper)) (v := .slice (some ⟨gy, oy, none⟩) ys.length cy) rfl (by kernel_rfl) (by kernel_rfl) (by kernel_rfl) (fun _ _ _ h => h) (Or.inl ⟨by rfl, ?_⟩) hHeld ?_
                      · (intro w' hSw; (try dsimp only at hSw); clear hSw; go_simp; (try with_reducible rfl))
                      try simp only [Act.put, List.setIfInBounds_toArray, List.set_cons_zero, List.set_cons_succ]
                      refine wpAnyH_take (i := 6) (oi := ({ dst := some 123, op := Op.move (Operand.tmp 13), type := 3, pos := "ref.go:74", after := #[], guard := none } : Oper)) (v := .int .i64 (j : Nat)) rfl (by kernel_rfl) (by kernel_rfl) (by kernel_rfl) (fun _ _ _ h => h) (Or.inl ⟨by rfl, ?_⟩) hHeld ?_
                      · (intro w' hSw; (try dsimp only at hSw); clear hSw; go_simp; (try with_reducible rfl))
                      try simp only [Act.put, List.setIfInBounds_toArray, List.set_cons_zero, List.set_cons_succ]
                      refine wpAnyH_take (i := 7) (oi := ({ dst := some 124, op := Op.indexAddr 47 (Operand.tmp 122) (Operand.tmp 123), type := 0, pos := "ref.go:74", after := #[{ on := 5, ground := Ground.data }, { on := 6, ground := Ground.data }], guard := none } : Oper)) (v := .pointer (some ⟨gy, oy + j, none⟩)) rfl (by kernel_rfl) (by kernel_rfl) (by kernel_rfl) (fun _ _ _ h => h) (Or.inl ⟨by rfl, ?_⟩) hHeld ?_
                      · (intro w' hSw; (try dsimp only at hSw); clear hSw; go_simp; (try with_reducible rfl))
                      try simp only [Act.put, List.setIfInBounds_toArray, List.set_cons_zero, List.set_cons_succ]
                      refine wpAnyH_take (i := 8) (oi := ({ dst := some 125, op := Op.load 3 (Operand.tmp 124), type := 3, pos := "ref.go:74", after := #[{ on := 7, ground := Ground.data }], guard := none } : Oper)) (v := .int .i64 y0) rfl (by kernel_rfl) (by kernel_rfl) (by kernel_rfl) (fun _ _ _ h => h) (Or.inl ⟨by rfl, ?_⟩) hHeld ?_
                      · (intro w' hSw; (try dsimp only at hSw); have g := (hSw.cell (p := ⟨gy, oy + j, none⟩) (by show gy < _; have := Hgyr.out; omega) (by show ¬ (_ = some gy); exact Hne.out.2)).trans ey0; clear hSw; go_simp; (try with_reducible rfl))
                      try simp only [Act.put, List.setIfInBounds_toArray, List.set_cons_zero, List.set_cons_succ]
                      refine wpAnyH_take (i := 9) (oi := ({ dst := some 126, op := Op.move (Operand.tmp 7), type := 47, pos := "ref.go:74", after := #[], guard := none } : Oper)) (v := .slice (some ⟨gx, ox, none⟩) xs.length cx) rfl (by kernel_rfl) (by kernel_rfl) (by kernel_rfl) (fun _ _ _ h => h) (Or.inl ⟨by rfl, ?_⟩) hHeld ?_
                      · (intro w' hSw; (try dsimp only at hSw); clear hSw; go_simp; (try with_reducible rfl))
                      try simp only [Act.put, List.setIfInBounds_toArray, List.set_cons_zero, List.set_cons_succ]
                      refine wpAnyH_take (i := 10) (oi := ({ dst := some 127, op := Op.move (Operand.tmp 15), type := 3, pos := "ref.go:74", after := #[], guard := none } : Oper)) (v := .int .i64 (i : Nat)) rfl (by kernel_rfl) (by kernel_rfl) (by kernel_rfl) (fun _ _ _ h => h) (Or.inl ⟨by rfl, ?_⟩) hHeld ?_
                      · (intro w' hSw; (try dsimp only at hSw); clear hSw; go_simp; (try with_reducible rfl))
                      try simp only [Act.put, List.setIfInBounds_toArray, List.set_cons_zero, List.set_cons_succ]
                      refine wpAnyH_take (i := 11) (oi := ({ dst := some 128, op := Op.binOp BinOp.add 3 (Operand.tmp 127) (Operand.const (Value.int IntKind.i64 1)) 3, type := 3, pos := "ref.go:74", after := #[{ on := 10, ground := Ground.data }], guard := none } : Oper)) (v := .int .i64 ((i : Int) + 1)) rfl (by kernel_rfl) (by kernel_rfl) (by kernel_rfl) (fun _ _ _ h => h) (Or.inl ⟨by rfl, ?_⟩) hHeld ?_
                      · (intro w' hSw; (try dsimp only at hSw); clear hSw; go_simp; (try with_reducible rfl))
                      try simp only [Act.put, List.setIfInBounds_toArray, List.set_cons_zero, List.set_cons_succ]
                      refine wpAnyH_take (i := 12) (oi := ({ dst := some 129, op := Op.indexAddr 47 (Operand.tmp 126) (Operand.tmp 128), type := 0, pos := "ref.go:74", after := #[{ on := 9, ground := Ground.data }, { on := 11, ground := Ground.data }], guard := none } : Oper)) (v := .pointer (some ⟨gx, ox + (i + 1), none⟩)) rfl (by kernel_rfl) (by kernel_rfl) (by kernel_rfl) (fun _ _ _ h => h) (Or.inl ⟨by rfl, ?_⟩) hHeld ?_
                      · (intro w' hSw; (try dsimp only at hSw); clear hSw; go_simp; (try with_reducible rfl))
                      try simp only [Act.put, List.setIfInBounds_toArray, List.set_cons_zero, List.set_cons_succ]
                      refine wpAnyH_take (i := 13) (oi := ({ dst := some 130, op := Op.load 3 (Operand.tmp 129), type := 3, pos := "ref.go:74", after := #[{ on := 12, ground := Ground.data }], guard := none } : Oper)) (v := .int .i64 x1) rfl (by kernel_rfl) (by kernel_rfl) (by kernel_rfl) (fun _ _ _ h => h) (Or.inl ⟨by rfl, ?_⟩) hHeld ?_
                      · (intro w' hSw; (try dsimp only at hSw); have g := (hSw.cell (p := ⟨gx, ox + (i + 1), none⟩) (by show gx < _; have := Hgxr.out; omega) (by show ¬ (_ = some gx); exact Hne.out.1)).trans ex1; clear hSw; go_simp; (try with_reducible rfl))
                      try simp only [Act.put, List.setIfInBounds_toArray, List.set_cons_zero, List.set_cons_succ]
                      refine wpAnyH_take (i := 14) (oi := ({ dst := some 131, op := Op.move (Operand.tmp 8), type := 47, pos := "ref.go:74", after := #[], guard := none } : Oper)) (v := .slice (some ⟨gy, oy, none⟩) ys.length cy) rfl (by kernel_rfl) (by kernel_rfl) (by kernel_rfl) (fun _ _ _ h => h) (Or.inl ⟨by rfl, ?_⟩) hHeld ?_
                      · (intro w' hSw; (try dsimp only at hSw); clear hSw; go_simp; (try with_reducible rfl))
                      try simp only [Act.put, List.setIfInBounds_toArray, List.set_cons_zero, List.set_cons_succ]
                      refine wpAnyH_take (i := 15) (oi := ({ dst := some 132, op := Op.move (Operand.tmp 13), type := 3, pos := "ref.go:74", after := #[], guard := none } : Oper)) (v := .int .i64 (j : Nat)) rfl (by kernel_rfl) (by kernel_rfl) (by kernel_rfl) (fun _ _ _ h => h) (Or.inl ⟨by rfl, ?_⟩) hHeld ?_
                      · (intro w' hSw; (try dsimp only at hSw); clear hSw; go_simp; (try with_reducible rfl))
                      try simp only [Act.put, List.setIfInBounds_toArray, List.set_cons_zero, List.set_cons_succ]
                      refine wpAnyH_take (i := 16) (oi := ({ dst := some 133, op := Op.binOp BinOp.add 3 (Operand.tmp 132) (Operand.const (Value.int IntKind.i64 1)) 3, type := 3, pos := "ref.go:74", after := #[{ on := 15, ground := Ground.data }], guard := none } : Oper)) (v := .int .i64 ((j : Int) + 1)) rfl (by kernel_rfl) (by kernel_rfl) (by kernel_rfl) (fun _ _ _ h => h) (Or.inl ⟨by rfl, ?_⟩) hHeld ?_
                      · (intro w' hSw; (try dsimp only at hSw); clear hSw; go_simp; (try with_reducible rfl))
                      try simp only [Act.put, List.setIfInBounds_toArray, List.set_cons_zero, List.set_cons_succ]
                      refine wpAnyH_take (i := 17) (oi := ({ dst := some 134, op := Op.indexAddr 47 (Operand.tmp 131) (Operand.tmp 133), type := 0, pos := "ref.go:74", after := #[{ on := 14, ground := Ground.data }, { on := 16, ground := Ground.data }], guard := none } : Oper)) (v := .pointer (some ⟨gy, oy + (j + 1), none⟩)) rfl (by kernel_rfl) (by kernel_rfl) (by kernel_rfl) (fun _ _ _ h => h) (Or.inl ⟨by rfl, ?_⟩) hHeld ?_
                      · (intro w' hSw; (try dsimp only at hSw); clear hSw; go_simp; (try with_reducible rfl))
                      try simp only [Act.put, List.setIfInBounds_toArray, List.set_cons_zero, List.set_cons_succ]
                      refine wpAnyH_take (i := 18) (oi := ({ dst := some 135, op := Op.load 3 (Operand.tmp 134), type := 3, pos := "ref.go:74", after := #[{ on := 17, ground := Ground.data }], guard := none } : Oper)) (v := .int .i64 y1) rfl (by kernel_rfl) (by kernel_rfl) (by kernel_rfl) (fun _ _ _ h => h) (Or.inl ⟨by rfl, ?_⟩) hHeld ?_
                      · (intro w' hSw; (try dsimp only at hSw); have g := (hSw.cell (p := ⟨gy, oy + (j + 1), none⟩) (by show gy < _; have := Hgyr.out; omega) (by show ¬ (_ = some gy); exact Hne.out.2)).trans ey1; clear hSw; go_simp; (try with_reducible rfl))
                      try simp only [Act.put, List.setIfInBounds_toArray, List.set_cons_zero, List.set_cons_succ]
                      refine wpAnyH_take (i := 19) (oi := ({ dst := some 136, op := Op.build 36 #[(0, Operand.tmp 121), (1, Operand.tmp 125), (2, Operand.tmp 130), (3, Operand.tmp 135)], type := 36, pos := "ref.go:74", after := #[{ on := 4, ground := Ground.data }, { on := 8, ground := Ground.data }, { on := 13, ground := Ground.data }, { on := 18, ground := Ground.data }], guard := none } : Oper)) (v := .agg #[.int .i64 x0, .int .i64 y0, .int .i64 x1, .int .i64 y1]) rfl (by kernel_rfl) (by kernel_rfl) (by kernel_rfl) (fun _ _ _ h => h) (Or.inl ⟨by rfl, ?_⟩) hHeld ?_
                      · (intro w' hSw; (try dsimp only at hSw); clear hSw; go_simp; (try with_reducible rfl))
                      try simp only [Act.put, List.setIfInBounds_toArray, List.set_cons_zero, List.set_cons_succ]
                      refine wpAnyH_ready (rs := [20]) (by kernel_rfl) (by simp) (AllReadyH.cons (o := ({ dst := some 137, op := Op.buildSlice 27 1 #[(0, Operand.tmp 136)], type := 27, pos := "ref.go:74", after := #[{ on := 19, ground := Ground.data }], guard := none } : Oper)) rfl (fun K hK => ?_) AllReadyH.nil)
                      go_simp
                      refine hK _ _ (hHeld.trans' (Gou.Mod.alloc _ _ _)) (fun hHeld => ?_)
                      clear hK K
                      try simp only [Act.put, List.setIfInBounds_toArray, List.set_cons_zero, List.set_cons_succ]
                      refine wpAnyH_ready (rs := [21]) (by kernel_rfl) (by simp) (AllReadyH.cons (o := ({ dst := some 138, op := Op.call { callee := Callee.builtin Builtin.append, args := #[Operand.tmp 117, Operand.tmp 137], argTypes := #[27, 27] }, type := 27, pos := "ref.go:74", after := #[{ on := 0, ground := Ground.data }, { on := 20, ground := Ground.data }], guard := none } : Oper)) rfl (fun K hK => ?_) AllReadyH.nil)
                      refine wp_append_row T_reg _ _ rfl wj.heap.size (.slice po 0 co) (0) ([]) (fun _ => True) (.slice (some ⟨W3.heap.size, 0, none⟩) 1 1) 1 [.int .i64 x0, .int .i64 y0, .int .i64 x1, .int .i64 y1] rfl rfl (by have := Hm3.out.size; simp; omega)
                        (own_up (own_up Hown3.out (Gou.Mod.drew _ _)) (Gou.Mod.alloc0 _ _)) (RowG.of_blk (Blk.new W3.drew 36 #[.int .i64 x0, .int .i64 y0, .int .i64 x1, .int .i64 y1]) 4 1 rfl _ trivial) (rtC_one ⟨x0, y0, x1, y1⟩) HF.out.1 HF.out.2 ?_
                      intro v5 w5 G5
                      have Hm5 := Lib.hid (G5.mod0 ((Hm3.out.trans' (Gou.Mod.drew _ _)).trans' (Gou.Mod.alloc0 _ _)) (own_ge Hown3.out))
                      have Hown5 := Lib.hid G5.own
                      have hS5 := hHeld.trans' G5.mod
                      obtain ⟨p5, c5, rfl⟩ := Gou.ownsRow_form Hown5.out
                      clear G5
                      refine hK _ _ hS5 (fun hHeld => ?_)
                      clear hK K
                      try simp only [Act.put, List.setIfInBounds_toArray, List.set_cons_zero, List.set_cons_succ]
                      refine wpAnyH_take (i := 22) (oi := ({ dst := some 14, op := Op.assign (Operand.tmp 138), type := 27, pos := "ref.go:74", after := #[{ on := 21, ground := Ground.data }, { on := 21, ground := Ground.chain }, { on := 0, ground := Ground.phase }, { on := 1, ground := Ground.phase }, { on := 2, ground := Ground.phase }, { on := 3, ground := Ground.phase }, { on := 4, ground := Ground.phase }, { on := 5, ground := Ground.phase }, { on := 6, ground := Ground.phase }, { on := 7, ground := Ground.phase }, { on := 8, ground := Ground.phase }, { on := 9, ground := Ground.phase }, { on := 10, ground := Ground.phase }, { on := 11, ground := Ground.phase }, { on := 12, ground := Ground.phase }, { on := 13, ground := Ground.phase }, { on := 14, ground := Ground.phase }, { on := 15, ground := Ground.phase }, { on := 16, ground := Ground.phase }, { on := 17, ground := Ground.phase }, { on := 18, ground := Ground.phase }, { on := 19, ground := Ground.phase }, { on := 20, ground := Ground.phase }, { on := 21, ground := Ground.phase }], guard := none } : Oper)) (v := .slice p5 (0 + 1) c5) rfl (by kernel_rfl) (by kernel_rfl) (by kernel_rfl) (fun _ _ _ h => h) (Or.inl ⟨by rfl, ?_⟩) hHeld ?_
                      · (intro w' hSw; (try dsimp only at hSw); clear hSw; go_simp; (try with_reducible rfl))
                      try simp only [Act.put, List.setIfInBounds_toArray, List.set_cons_zero, List.set_cons_succ]
                      refine wpAnyH_done (by kernel_rfl) ?_ _
                      clear hHeld
                      go_wp2_with fail
                      go_roundw
                      case rel =>
                        refine ⟨i + 1, [⟨x0, x1⟩], by go_num, by have := Hrl.out; first | omega | (simp at this ⊢; omega) | simp, .inl Hil.out, HG.out.first Hu.out.1 Hxa.out.1 Hxa.out.2 Hx0.out.1 Hx0.out.2 Hyes.out, ?_, Hm5.out⟩
                        have h := Hown5.out
                        simpa [rts, rtC, bandOf] using h
                      case measure => have := Hil.out; simp [intOf, wi]; omega
                  · have hnl : (m ++ [t]).length = m.length + 1 := by simp
                    rw [hnl] at Hown2 HF Hne ⊢
                    obtain ⟨gr, rfl⟩ := own_some Hown2.out (by omega)
                    have hml : m.length < (bandOf (m ++ [t]) y0 y1).length := by rw [bandOf_len]; omega
                    have d0 := Hown2.out.cellAt (m.length * 4 + 2) (by omega)
                    rw [(rts_get _ m.length hml).2.2.1] at d0
                    have hbt : ((bandOf (m ++ [t]) y0 y1)[m.length]).x1 = t.b := by simp [bandOf]
                    rw [hbt] at d0
                    have f0 := Hown2.out.frozenAt (m.length * 4 + 2)
                    clear hml hbt
                    obtain ⟨KL, hK⟩ : ∃ KL, KL = m.length := ⟨_, rfl⟩
                    have HKm := Lib.hid hK
                    have Hrl2 : Hid (KL + 1 ≤ i) := Lib.hid (by have := Hrl.out; rw [hnl, ← hK] at this; exact this)
                    rw [← hK] at Hown2 HF Hne d0 f0 ⊢
                    have k1 : IntKind.i64.wrap (KL : Int) = KL := wrap_id (by omega) (by have := Hrl2.out; have := Hil.out; have := Hxl.out; have := Hn.out; omega)
                    have k0 : (0 : Int) ≤ (KL : Int) := by omega
                    have k2 : (KL : Int) < (KL : Int) + 1 := by omega
                    have k3 : decide ((0 : Int) ≤ (KL : Int)) = true := decide_eq_true k0
                    clear hnl hK
                    by_cases ht : t.b = x0
                    · as_aux_lemma =>
                        have e1 : (t.b == x0) = true := by simpa using ht
                        have Hnew := Lib.hid (HG.out.join Hu.out.1 Hxa.out.1 Hxa.out.2 Hx0.out.1 Hx0.out.2 Hyes.out ht)
                        clear ht
                        go_wp2_with fail
                        go_quiet (fail)
                        have Hown3 := Lib.hid (own_up Hown2.out (Gou.Mod.drewN _ ww nq))
                        have Hm3 := Lib.hid (Hm2'.out.trans' (Gou.Mod.drewN _ ww nq))
                        have ex1 : (ww.drewN nq).cell? ⟨gx, ox + (i + 1), none⟩ = some (.int .i64 x1) := by rw [World.cell?_drewN]; exact ex1'
                        have d3 : (ww.drewN nq).cell? ⟨gr, KL * 4 + 2, none⟩ = some (.int .i64 t.b) := by rw [World.cell?_drewN]; exact d0
                        have f3 := Hown3.out.frozenAt (KL * 4 + 2)
                        clear Hown2 Hm2' ex0' ex1' ey0' ey1' d0 f0 Hgyw Hgxw
                        generalize ww.drewN nq = W3 at *
                        have Hset : Hid ((rts (bandOf (m ++ [t]) y0 y1)).set (KL * 4 + 2) (.int .i64 x1) = rts (bandOf (m ++ [⟨t.a, x1⟩]) y0 y1)) := Lib.hid (by rw [HKm.out]; exact rts_join m t x1 y0 y1)
                        go_wp2_with fail
                        go_roundw
                        case rel =>
                          refine ⟨i + 1, m ++ [⟨t.a, x1⟩], by go_num, by have := Hrl.out; first | omega | (simp at this ⊢; omega) | simp, .inl Hil.out, Hnew.out, ?_, ?_⟩
                          · have h := own_set Hown3.out (KL * 4 + 2) (.int .i64 x1)
                            rw [Hset.out] at h
                            obtain rfl := HKm.out
                            simpa [bandOf_len] using h
                          · exact Hm3.out.trans (Gou.Mod.setCell _ ⟨gr, KL * 4 + 2, none⟩ _) (fun b hb hs => absurd (own_ge Hown3.out gr rfl) (by simp only at hs; omega))
                        case measure => have := Hil.out; simp [intOf, wi]; omega
                    · as_aux_lemma =>
                        have e1 : (t.b == x0) = false := by simpa using ht
                        have Ht := Lib.hid ht
                        clear ht
                        go_wp2_with fail
                        go_quiet (fail)
                        have Hown3 := Lib.hid (own_up Hown2.out (Gou.Mod.drewN _ ww nq))
                        have Hm3 := Lib.hid (Hm2'.out.trans' (Gou.Mod.drewN _ ww nq))
                        have ex0 : (ww.drewN nq).cell? ⟨gx, ox + i, none⟩ = some (.int .i64 x0) := by rw [World.cell?_drewN]; exact ex0'
                        have ex1 : (ww.drewN nq).cell? ⟨gx, ox + (i + 1), none⟩ = some (.int .i64 x1) := by rw [World.cell?_drewN]; exact ex1'
                        have ey0 : (ww.drewN nq).cell? ⟨gy, oy + j, none⟩ = some (.int .i64 y0) := by rw [World.cell?_drewN]; exact ey0'
                        have ey1 : (ww.drewN nq).cell? ⟨gy, oy + (j + 1), none⟩ = some (.int .i64 y1) := by rw [World.cell?_drewN]; exact ey1'
                        have Hgyr : Hid (gy < (ww.drewN nq).heap.size) := Lib.hid Hgyw.out
                        have Hgxr : Hid (gx < (ww.drewN nq).heap.size) := Lib.hid Hgxw.out
                        clear Hown2 Hm2' ex0' ex1' ey0' ey1' d0 f0 Hgyw Hgxw
                        generalize ww.drewN nq = W3 at *
                        go_wp2_with fail
                        refine wp_region_held_drew (S := fun w' => Gou.Mod (fun b => (Value.slice (some ⟨gr, 0, none⟩) (KL + 1) co).ownBlock = some b) W3 w') (by kernel_rfl) (Gou.Mod.drew _ _) (fun hHeld => ?_)
                        refine wpAnyH_take (i := 0) (oi := ({ dst := some 117, op := Op.move (Operand.tmp 14), type := 27, pos := "ref.go:74", after := #[], guard := none } : Oper)) (v := .slice (some ⟨gr, 0, none⟩) (KL + 1) co) rfl (by kernel_rfl) (by kernel_rfl) (by kernel_rfl) (fun _ _ _ h => h) (Or.inl ⟨by rfl, ?_⟩) hHeld ?_
                        · (intro w' hSw; (try dsimp only at hSw); clear hSw; go_simp; (try with_reducible rfl))
                        try simp only [Act.put, List.setIfInBounds_toArray, List.set_cons_zero, List.set_cons_succ]
                        refine wpAnyH_take (i := 1) (oi := ({ dst := some 118, op := Op.move (Operand.tmp 7), type := 47, pos := "ref.go:74", after := #[], guard := none } : Oper)) (v := .slice (some ⟨gx, ox, none⟩) xs.length cx) rfl (by kernel_rfl) (by kernel_rfl) (by kernel_rfl) (fun _ _ _ h => h) (Or.inl ⟨by rfl, ?_⟩) hHeld ?_
                        · (intro w' hSw; (try dsimp only at hSw); clear hSw; go_simp; (try with_reducible rfl))
                        try simp only [Act.put, List.setIfInBounds_toArray, List.set_cons_zero, List.set_cons_succ]
                        refine wpAnyH_take (i := 2) (oi := ({ dst := some 119, op := Op.move (Operand.tmp 15), type := 3, pos := "ref.go:74", after := #[], guard := none } : Oper)) (v := .int .i64 (i : Nat)) rfl (by kernel_rfl) (by kernel_rfl) (by kernel_rfl) (fun _ _ _ h => h) (Or.inl ⟨by rfl, ?_⟩) hHeld ?_
                        · (intro w' hSw; (try dsimp only at hSw); clear hSw; go_simp; (try with_reducible rfl))
                        try simp only [Act.put, List.setIfInBounds_toArray, List.set_cons_zero, List.set_cons_succ]
                        refine wpAnyH_take (i := 3) (oi := ({ dst := some 120, op := Op.indexAddr 47 (Operand.tmp 118) (Operand.tmp 119), type := 0, pos := "ref.go:74", after := #[{ on := 1, ground := Ground.data }, { on := 2, ground := Ground.data }], guard := none } : Oper)) (v := .pointer (some ⟨gx, ox + i, none⟩)) rfl (by kernel_rfl) (by kernel_rfl) (by kernel_rfl) (fun _ _ _ h => h) (Or.inl ⟨by rfl, ?_⟩) hHeld ?_
                        · (intro w' hSw; (try dsimp only at hSw); clear hSw; go_simp; (try with_reducible rfl))
                        try simp only [Act.put, List.setIfInBounds_toArray, List.set_cons_zero, List.set_cons_succ]
                        refine wpAnyH_take (i := 4) (oi := ({ dst := some 121, op := Op.load 3 (Operand.tmp 120), type := 3, pos := "ref.go:74", after := #[{ on := 3, ground := Ground.data }], guard := none } : Oper)) (v := .int .i64 x0) rfl (by kernel_rfl) (by kernel_rfl) (by kernel_rfl) (fun _ _ _ h => h) (Or.inl ⟨by rfl, ?_⟩) hHeld ?_
                        · (intro w' hSw; (try dsimp only at hSw); have g := (hSw.cell (p := ⟨gx, ox + i, none⟩) (by show gx < _; have := Hgxr.out; omega) (by show ¬ (_ = some gx); exact Hne.out.1)).trans ex0; clear hSw; go_simp; (try with_reducible rfl))
                        try simp only [Act.put, List.setIfInBounds_toArray, List.set_cons_zero, List.set_cons_succ]
                        refine wpAnyH_take (i := 5) (oi := ({ dst := some 122, op := Op.move (Operand.tmp 8), type := 47, pos := "ref.go:74", after := #[], guard := none } : Oper)) (v := .slice (some ⟨gy, oy, none⟩) ys.length cy) rfl (by kernel_rfl) (by kernel_rfl) (by kernel_rfl) (fun _ _ _ h => h) (Or.inl ⟨by rfl, ?_⟩) hHeld ?_
                        · (intro w' hSw; (try dsimp only at hSw); clear hSw; go_simp; (try with_reducible rfl))
                        try simp only [Act.put, List.setIfInBounds_toArray, List.set_cons_zero, List.set_cons_succ]
                        refine wpAnyH_take (i := 6) (oi := ({ dst := some 123, op := Op.move (Operand.tmp 13), type := 3, pos := "ref.go:74", after := #[], guard := none } : Oper)) (v := .int .i64 (j : Nat)) rfl (by kernel_rfl) (by kernel_rfl) (by kernel_rfl) (fun _ _ _ h => h) (Or.inl ⟨by rfl, ?_⟩) hHeld ?_
                        · (intro w' hSw; (try dsimp only at hSw); clear hSw; go_simp; (try with_reducible rfl))
                        try simp only [Act.put, List.setIfInBounds_toArray, List.set_cons_zero, List.set_cons_succ]
                        refine wpAnyH_take (i := 7) (oi := ({ dst := some 124, op := Op.indexAddr 47 (Operand.tmp 122) (Operand.tmp 123), type := 0, pos := "ref.go:74", after := #[{ on := 5, ground := Ground.data }, { on := 6, ground := Ground.data }], guard := none } : Oper)) (v := .pointer (some ⟨gy, oy + j, none⟩)) rfl (by kernel_rfl) (by kernel_rfl) (by kernel_rfl) (fun _ _ _ h => h) (Or.inl ⟨by rfl, ?_⟩) hHeld ?_
                        · (intro w' hSw; (try dsimp only at hSw); clear hSw; go_simp; (try with_reducible rfl))
                        try simp only [Act.put, List.setIfInBounds_toArray, List.set_cons_zero, List.set_cons_succ]
                        refine wpAnyH_take (i := 8) (oi := ({ dst := some 125, op := Op.load 3 (Operand.tmp 124), type := 3, pos := "ref.go:74", after := #[{ on := 7, ground := Ground.data }], guard := none } : Oper)) (v := .int .i64 y0) rfl (by kernel_rfl) (by kernel_rfl) (by kernel_rfl) (fun _ _ _ h => h) (Or.inl ⟨by rfl, ?_⟩) hHeld ?_
                        · (intro w' hSw; (try dsimp only at hSw); have g := (hSw.cell (p := ⟨gy, oy + j, none⟩) (by show gy < _; have := Hgyr.out; omega) (by show ¬ (_ = some gy); exact Hne.out.2)).trans ey0; clear hSw; go_simp; (try with_reducible rfl))
                        try simp only [Act.put, List.setIfInBounds_toArray, List.set_cons_zero, List.set_cons_succ]
                        refine wpAnyH_take (i := 9) (oi := ({ dst := some 126, op := Op.move (Operand.tmp 7), type := 47, pos := "ref.go:74", after := #[], guard := none } : Oper)) (v := .slice (some ⟨gx, ox, none⟩) xs.length cx) rfl (by kernel_rfl) (by kernel_rfl) (by kernel_rfl) (fun _ _ _ h => h) (Or.inl ⟨by rfl, ?_⟩) hHeld ?_
                        · (intro w' hSw; (try dsimp only at hSw); clear hSw; go_simp; (try with_reducible rfl))
                        try simp only [Act.put, List.setIfInBounds_toArray, List.set_cons_zero, List.set_cons_succ]
                        refine wpAnyH_take (i := 10) (oi := ({ dst := some 127, op := Op.move (Operand.tmp 15), type := 3, pos := "ref.go:74", after := #[], guard := none } : Oper)) (v := .int .i64 (i : Nat)) rfl (by kernel_rfl) (by kernel_rfl) (by kernel_rfl) (fun _ _ _ h => h) (Or.inl ⟨by rfl, ?_⟩) hHeld ?_
                        · (intro w' hSw; (try dsimp only at hSw); clear hSw; go_simp; (try with_reducible rfl))
                        try simp only [Act.put, List.setIfInBounds_toArray, List.set_cons_zero, List.set_cons_succ]
                        refine wpAnyH_take (i := 11) (oi := ({ dst := some 128, op := Op.binOp BinOp.add 3 (Operand.tmp 127) (Operand.const (Value.int IntKind.i64 1)) 3, type := 3, pos := "ref.go:74", after := #[{ on := 10, ground := Ground.data }], guard := none } : Oper)) (v := .int .i64 ((i : Int) + 1)) rfl (by kernel_rfl) (by kernel_rfl) (by kernel_rfl) (fun _ _ _ h => h) (Or.inl ⟨by rfl, ?_⟩) hHeld ?_
                        · (intro w' hSw; (try dsimp only at hSw); clear hSw; go_simp; (try with_reducible rfl))
                        try simp only [Act.put, List.setIfInBounds_toArray, List.set_cons_zero, List.set_cons_succ]
                        refine wpAnyH_take (i := 12) (oi := ({ dst := some 129, op := Op.indexAddr 47 (Operand.tmp 126) (Operand.tmp 128), type := 0, pos := "ref.go:74", after := #[{ on := 9, ground := Ground.data }, { on := 11, ground := Ground.data }], guard := none } : Oper)) (v := .pointer (some ⟨gx, ox + (i + 1), none⟩)) rfl (by kernel_rfl) (by kernel_rfl) (by kernel_rfl) (fun _ _ _ h => h) (Or.inl ⟨by rfl, ?_⟩) hHeld ?_
                        · (intro w' hSw; (try dsimp only at hSw); clear hSw; go_simp; (try with_reducible rfl))
                        try simp only [Act.put, List.setIfInBounds_toArray, List.set_cons_zero, List.set_cons_succ]
                        refine wpAnyH_take (i := 13) (oi := ({ dst := some 130, op := Op.load 3 (Operand.tmp 129), type := 3, pos := "ref.go:74", after := #[{ on := 12, ground := Ground.data }], guard := none } : Oper)) (v := .int .i64 x1) rfl (by kernel_rfl) (by kernel_rfl) (by kernel_rfl) (fun _ _ _ h => h) (Or.inl ⟨by rfl, ?_⟩) hHeld ?_
                        · (intro w' hSw; (try dsimp only at hSw); have g := (hSw.cell (p := ⟨gx, ox + (i + 1), none⟩) (by show gx < _; have := Hgxr.out; omega) (by show ¬ (_ = some gx); exact Hne.out.1)).trans ex1; clear hSw; go_simp; (try with_reducible rfl))
                        try simp only [Act.put, List.setIfInBounds_toArray, List.set_cons_zero, List.set_cons_succ]
                        refine wpAnyH_take (i := 14) (oi := ({ dst := some 131, op := Op.move (Operand.tmp 8), type := 47, pos := "ref.go:74", after := #[], guard := none } : Oper)) (v := .slice (some ⟨gy, oy, none⟩) ys.length cy) rfl (by kernel_rfl) (by kernel_rfl) (by kernel_rfl) (fun _ _ _ h => h) (Or.inl ⟨by rfl, ?_⟩) hHeld ?_
                        · (intro w' hSw; (try dsimp only at hSw); clear hSw; go_simp; (try with_reducible rfl))
                        try simp only [Act.put, List.setIfInBounds_toArray, List.set_cons_zero, List.set_cons_succ]
                        refine wpAnyH_take (i := 15) (oi := ({ dst := some 132, op := Op.move (Operand.tmp 13), type := 3, pos := "ref.go:74", after := #[], guard := none } : Oper)) (v := .int .i64 (j : Nat)) rfl (by kernel_rfl) (by kernel_rfl) (by kernel_rfl) (fun _ _ _ h => h) (Or.inl ⟨by rfl, ?_⟩) hHeld ?_
                        · (intro w' hSw; (try dsimp only at hSw); clear hSw; go_simp; (try with_reducible rfl))
                        try simp only [Act.put, List.setIfInBounds_toArray, List.set_cons_zero, List.set_cons_succ]
                        refine wpAnyH_take (i := 16) (oi := ({ dst := some 133, op := Op.binOp BinOp.add 3 (Operand.tmp 132) (Operand.const (Value.int IntKind.i64 1)) 3, type := 3, pos := "ref.go:74", after := #[{ on := 15, ground := Ground.data }], guard := none } : Oper)) (v := .int .i64 ((j : Int) + 1)) rfl (by kernel_rfl) (by kernel_rfl) (by kernel_rfl) (fun _ _ _ h => h) (Or.inl ⟨by rfl, ?_⟩) hHeld ?_
                        · (intro w' hSw; (try dsimp only at hSw); clear hSw; go_simp; (try with_reducible rfl))
                        try simp only [Act.put, List.setIfInBounds_toArray, List.set_cons_zero, List.set_cons_succ]
                        refine wpAnyH_take (i := 17) (oi := ({ dst := some 134, op := Op.indexAddr 47 (Operand.tmp 131) (Operand.tmp 133), type := 0, pos := "ref.go:74", after := #[{ on := 14, ground := Ground.data }, { on := 16, ground := Ground.data }], guard := none } : Oper)) (v := .pointer (some ⟨gy, oy + (j + 1), none⟩)) rfl (by kernel_rfl) (by kernel_rfl) (by kernel_rfl) (fun _ _ _ h => h) (Or.inl ⟨by rfl, ?_⟩) hHeld ?_
                        · (intro w' hSw; (try dsimp only at hSw); clear hSw; go_simp; (try with_reducible rfl))
                        try simp only [Act.put, List.setIfInBounds_toArray, List.set_cons_zero, List.set_cons_succ]
                        refine wpAnyH_take (i := 18) (oi := ({ dst := some 135, op := Op.load 3 (Operand.tmp 134), type := 3, pos := "ref.go:74", after := #[{ on := 17, ground := Ground.data }], guard := none } : Oper)) (v := .int .i64 y1) rfl (by kernel_rfl) (by kernel_rfl) (by kernel_rfl) (fun _ _ _ h => h) (Or.inl ⟨by rfl, ?_⟩) hHeld ?_
                        · (intro w' hSw; (try dsimp only at hSw); have g := (hSw.cell (p := ⟨gy, oy + (j + 1), none⟩) (by show gy < _; have := Hgyr.out; omega) (by show ¬ (_ = some gy); exact Hne.out.2)).trans ey1; clear hSw; go_simp; (try with_reducible rfl))
                        try simp only [Act.put, List.setIfInBounds_toArray, List.set_cons_zero, List.set_cons_succ]
                        refine wpAnyH_take (i := 19) (oi := ({ dst := some 136, op := Op.build 36 #[(0, Operand.tmp 121), (1, Operand.tmp 125), (2, Operand.tmp 130), (3, Operand.tmp 135)], type := 36, pos := "ref.go:74", after := #[{ on := 4, ground := Ground.data }, { on := 8, ground := Ground.data }, { on := 13, ground := Ground.data }, { on := 18, ground := Ground.data }], guard := none } : Oper)) (v := .agg #[.int .i64 x0, .int .i64 y0, .int .i64 x1, .int .i64 y1]) rfl (by kernel_rfl) (by kernel_rfl) (by kernel_rfl) (fun _ _ _ h => h) (Or.inl ⟨by rfl, ?_⟩) hHeld ?_
                        · (intro w' hSw; (try dsimp only at hSw); clear hSw; go_simp; (try with_reducible rfl))
                        try simp only [Act.put, List.setIfInBounds_toArray, List.set_cons_zero, List.set_cons_succ]
                        refine wpAnyH_ready (rs := [20]) (by kernel_rfl) (by simp) (AllReadyH.cons (o := ({ dst := some 137, op := Op.buildSlice 27 1 #[(0, Operand.tmp 136)], type := 27, pos := "ref.go:74", after := #[{ on := 19, ground := Ground.data }], guard := none } : Oper)) rfl (fun K hK => ?_) AllReadyH.nil)
                        go_simp
                        refine hK _ _ (hHeld.trans' (Gou.Mod.alloc _ _ _)) (fun hHeld => ?_)
                        clear hK K
                        try simp only [Act.put, List.setIfInBounds_toArray, List.set_cons_zero, List.set_cons_succ]
                        refine wpAnyH_ready (rs := [21]) (by kernel_rfl) (by simp) (AllReadyH.cons (o := ({ dst := some 138, op := Op.call { callee := Callee.builtin Builtin.append, args := #[Operand.tmp 117, Operand.tmp 137], argTypes := #[27, 27] }, type := 27, pos := "ref.go:74", after := #[{ on := 0, ground := Ground.data }, { on := 20, ground := Ground.data }], guard := none } : Oper)) rfl (fun K hK => ?_) AllReadyH.nil)
                        refine wp_append_row T_reg _ _ rfl wj.heap.size (.slice (some ⟨gr, 0, none⟩) (KL + 1) co) ((KL + 1)) (rts (bandOf (m ++ [t]) y0 y1)) (fun _ => True) (.slice (some ⟨W3.heap.size, 0, none⟩) 1 1) 1 [.int .i64 x0, .int .i64 y0, .int .i64 x1, .int .i64 y1] rfl rfl (by have := Hm3.out.size; simp; omega)
                          (own_up (own_up Hown3.out (Gou.Mod.drew _ _)) (Gou.Mod.alloc0 _ _)) (RowG.of_blk (Blk.new W3.drew 36 #[.int .i64 x0, .int .i64 y0, .int .i64 x1, .int .i64 y1]) 4 1 rfl _ trivial) (rtC_one ⟨x0, y0, x1, y1⟩) HF.out.1 HF.out.2 ?_
                        intro v5 w5 G5
                        have Hm5 := Lib.hid (G5.mod0 ((Hm3.out.trans' (Gou.Mod.drew _ _)).trans' (Gou.Mod.alloc0 _ _)) (own_ge Hown3.out))
                        have Hown5 := Lib.hid G5.own
                        have hS5 := hHeld.trans' G5.mod
                        obtain ⟨p5, c5, rfl⟩ := Gou.ownsRow_form Hown5.out
                        clear G5
                        refine hK _ _ hS5 (fun hHeld => ?_)
                        clear hK K
                        try simp only [Act.put, List.setIfInBounds_toArray, List.set_cons_zero, List.set_cons_succ]
                        refine wpAnyH_take (i := 22) (oi := ({ dst := some 14, op := Op.assign (Operand.tmp 138), type := 27, pos := "ref.go:74", after := #[{ on := 21, ground := Ground.data }, { on := 21, ground := Ground.chain }, { on := 0, ground := Ground.phase }, { on := 1, ground := Ground.phase }, { on := 2, ground := Ground.phase }, { on := 3, ground := Ground.phase }, { on := 4, ground := Ground.phase }, { on := 5, ground := Ground.phase }, { on := 6, ground := Ground.phase }, { on := 7, ground := Ground.phase }, { on := 8, ground := Ground.phase }, { on := 9, ground := Ground.phase }, { on := 10, ground := Ground.phase }, { on := 11, ground := Ground.phase }, { on := 12, ground := Ground.phase }, { on := 13, ground := Ground.phase }, { on := 14, ground := Ground.phase }, { on := 15, ground := Ground.phase }, { on := 16, ground := Ground.phase }, { on := 17, ground := Ground.phase }, { on := 18, ground := Ground.phase }, { on := 19, ground := Ground.phase }, { on := 20, ground := Ground.phase }, { on := 21, ground := Ground.phase }], guard := none } : Oper)) (v := .slice p5 ((KL + 1) + 1) c5) rfl (by kernel_rfl) (by kernel_rfl) (by kernel_rfl) (fun _ _ _ h => h) (Or.inl ⟨by rfl, ?_⟩) hHeld ?_
                        · (intro w' hSw; (try dsimp only at hSw); clear hSw; go_simp; (try with_reducible rfl))
                        try simp only [Act.put, List.setIfInBounds_toArray, List.set_cons_zero, List.set_cons_succ]
                        refine wpAnyH_done (by kernel_rfl) ?_ _
                        clear hHeld
                        obtain rfl := HKm.out
                        go_wp2_with fail
                        go_roundw
                        case rel =>
                          refine ⟨i + 1, m ++ [t] ++ [⟨x0, x1⟩], by go_num, by have := Hrl.out; first | omega | (simp at this ⊢; omega) | simp, .inl Hil.out, HG.out.new Hu.out.1 Hxa.out.1 Hxa.out.2 Hx0.out.1 Hx0.out.2 Hyes.out Ht.out, ?_, Hm5.out⟩
                          have h := Hown5.out
                          simpa [rts, rtC, bandOf] using h
                        case measure => have := Hil.out; simp [intOf, wi]; omega
            · as_aux_lemma =>
                have t2 : decide ((i : Int) + 1 < (xs.length : Int)) = false := decide_eq_false (by omega)
                have Hrow : Hid (Canon row ∧ (∀ x, In row x ↔ Pts a b f x y0)) := Lib.hid (HG.out.done Hff.out Hu.out.1 Hxa.out.1 Hxa.out.2 hi1)
                have Hrll : Hid (row.length ≤ 2 * (a.length + b.length)) := Lib.hid (by have h1 := Hrl.out; have h2 := Hxl.out; rcases Hati.out with h | h <;> omega)
                clear hi1 HG Hrl Hati
                have Hown0 := Lib.hid Hown.out
                have Hrdj : Hid ((Value.slice pq out.length cq).ownBlock ≠ (Value.slice po row.length co).ownBlock ∨ True) := Lib.hid (.inr trivial)
                have Hout1 : Hid (wr.ownsRow w1.heap.size 36 4 (.slice pq out.length cq) out.length (rts out)) := Lib.hid (own_up Howno.out Hm.out)
                have Hfr := Lib.hid HR.out.fr_le
                have w3 : IntKind.i64.wrap ((out.length : Int) - (fr : Int)) = (out.length : Int) - (fr : Int) := wrap_id (by have := Hfr.out; omega) (by have h1 := Hlen.out; have h2 := Hbig.out j (by have := Hj1.out; omega); omega)
                go_upto_region 26 with fail
                go_cut [17] from 139 to 150 (fun vs wx => vs = .bool (decide (row ≠ [] ∧ out.length - fr = row.length)) ∧ wx = wr)
                case first =>
                  by_cases hr0 : row = []
                  · have Hq : Hid (decide (row ≠ [] ∧ out.length - fr = row.length) = false) := Lib.hid (by simp [hr0])
                    subst hr0
                    simp only [List.length_nil]
                    go_wp2_with fail
                    go_meet
                    case rel => exact ⟨by rw [Hq.out], rfl⟩
                  · have hl0 : 0 < row.length := by cases row with | nil => exact absurd rfl hr0 | cons _ _ => simp
                    have e1 : decide ((0 : Int) < (row.length : Int)) = true := decide_eq_true (by omega)
                    have e1' : decide (0 < row.length) = true := decide_eq_true hl0
                    by_cases hl : out.length - fr = row.length
                    · have Hq : Hid (decide (row ≠ [] ∧ out.length - fr = row.length) = true) := Lib.hid (by simp [hr0, hl])
                      have e2 : ((out.length : Int) - (fr : Int) == (row.length : Int)) = true := by have := Hfr.out; simp; omega
                      clear hl
                      go_wp2_with fail
                      go_meet
                      case rel => exact ⟨by rw [Hq.out], rfl⟩
                    · have Hq : Hid (decide (row ≠ [] ∧ out.length - fr = row.length) = false) := Lib.hid (by simp [hl])
                      have e2 : ((out.length : Int) - (fr : Int) == (row.length : Int)) = false := by have := Hfr.out; simp; omega
                      clear hl
                      go_wp2_with fail
                      go_meet
                      case rel => exact ⟨by rw [Hq.out], rfl⟩
                case rest =>
                  obtain ⟨rfl, hww⟩ := hcut
                  have hww := hww.symm
                  subst hww
                  go_upto_block 6 with fail
                  go_cut [17, 18] from 151 to 201 (fun vs vk wx => vs = .bool (decide (row ≠ [] ∧ row = last)) ∧ Gou.Mod (fun _ => False) wr wx)
                  case first =>
                    obtain ⟨s0, hs0⟩ : ∃ s, s = decide (row ≠ [] ∧ out.length - fr = row.length) := ⟨_, rfl⟩
                    have Hs0 := Lib.hid hs0
                    rw [← hs0]
                    clear hs0
                    go_wp2_with fail
                    go_loopw [17, 18] (fun vs vk wx => ∃ (s : Bool) (k : Nat), vs = .bool s ∧ vk = .int .i64 k ∧ k ≤ row.length ∧ (s = true → row ≠ [] ∧ out.length - fr = row.length ∧ ∀ i, i < k → TestAt out fr row y0 i) ∧ (s = false → ¬ (row ≠ [] ∧ row = last)) ∧ Gou.Mod (fun _ => False) wr wx) (fun _ vk _ => row.length - (intOf vk).toNat)
                    case atStart =>
                      refine ⟨s0, 0, rfl, rfl, by omega, fun k => ?_, fun k => ?_, Gou.Mod.refl _ _⟩
                      · have h1 := of_decide_eq_true (Hs0.out.symm.trans k)
                        exact ⟨h1.1, h1.2, fun i hi => by omega⟩
                      · have h1 := of_decide_eq_false (Hs0.out.symm.trans k)
                        exact fun h2 => h1 ⟨h2.1, HR.out.len_of Hy0.out.1 h2.1 h2.2⟩
                    case round =>
                      obtain ⟨s, k, rfl, rfl, hk, hst, hsf, hm⟩ := hrel
                      have Hst := Lib.hid hst
                      have Hsf := Lib.hid hsf
                      have Hmk := Lib.hid hm
                      clear hst hsf hm
                      have wk : IntKind.i64.wrap ((k : Int) + 1) = (k : Int) + 1 := wrap_id (by omega) (by have := Hrll.out; have := Hn.out; omega)
                      cases s with
                      | false =>
                        have Hq : Hid (decide (row ≠ [] ∧ row = last) = false) := Lib.hid (decide_eq_false (Hsf.out rfl))
                        go_wp2_with fail
                        all_goals go_meet
                        all_goals (case rel => exact ⟨by rw [Hq.out], Hmk.out⟩)
                      | true =>
                        have Hs := Lib.hid (Hst.out rfl)
                        clear Hst Hsf
                        by_cases hkl : k < row.length
                        · have e1 : decide ((k : Int) < (row.length : Int)) = true := decide_eq_true (by omega)
                          have e1' : decide (k < row.length) = true := decide_eq_true hkl
                          have hfk : fr + k < out.length := by have := Hs.out.2.1; omega
                          obtain ⟨go_, hgo⟩ := own_some Hout1.out (by omega)
                          obtain ⟨gr, hgr⟩ := own_some Hown0.out (by omega)
                          subst hgo hgr
                          have hbl : k < (bandOf row y0 y1).length := by rw [bandOf_len]; exact hkl
                          have d0 := Hout1.out.cellAt ((fr + k) * 4) (by omega)
                          have d1 := Hout1.out.cellAt ((fr + k) * 4 + 2) (by omega)
                          have d2 := Hout1.out.cellAt ((fr + k) * 4 + 3) (by omega)
                          rw [(rts_get _ _ hfk).1] at d0
                          rw [(rts_get _ _ hfk).2.2.1] at d1
                          rw [(rts_get _ _ hfk).2.2.2] at d2
                          have b0 := Hown0.out.cellAt (k * 4) (by omega)
                          have b1 := Hown0.out.cellAt (k * 4 + 2) (by omega)
                          rw [(rts_get _ _ hbl).1] at b0
                          rw [(rts_get _ _ hbl).2.2.1] at b1
                          have hb0 : ((bandOf row y0 y1)[k]).x0 = row[k].a := by simp [bandOf]
                          have hb1 : ((bandOf row y0 y1)[k]).x1 = row[k].b := by simp [bandOf]
                          rw [hb0] at b0
                          rw [hb1] at b1
                          have lo := (Hout1.out.lt go_ rfl).2
                          have lr := (Hown0.out.lt gr rfl).2
                          rw [← Hmk.out.cell (p := ⟨go_, (fr + k) * 4, none⟩) lo (fun h => h)] at d0
                          rw [← Hmk.out.cell (p := ⟨go_, (fr + k) * 4 + 2, none⟩) lo (fun h => h)] at d1
                          rw [← Hmk.out.cell (p := ⟨go_, (fr + k) * 4 + 3, none⟩) lo (fun h => h)] at d2
                          rw [← Hmk.out.cell (p := ⟨gr, k * 4, none⟩) lr (fun h => h)] at b0
                          rw [← Hmk.out.cell (p := ⟨gr, k * 4 + 2, none⟩) lr (fun h => h)] at b1
                          have ey := (Hmk.out.cell (p := ⟨gy, oy + j, none⟩) Hgyr.out (fun h => h)).trans ey0
                          have HT : Hid ((out[fr + k].x0 = row[k].a ∧ out[fr + k].x1 = row[k].b ∧ out[fr + k].y1 = y0) ↔ TestAt out fr row y0 k) := Lib.hid ⟨fun h => ⟨_, _, List.getElem?_eq_getElem hfk, List.getElem?_eq_getElem hkl, h.1, h.2.1, h.2.2⟩, fun ⟨r, s, h1, h2, h3⟩ => by
                            rw [List.getElem?_eq_getElem hfk, Option.some.injEq] at h1
                            rw [List.getElem?_eq_getElem hkl, Option.some.injEq] at h2
                            subst h1 h2
                            exact h3⟩
                          have q0 : (0 : Int) ≤ (k : Int) := by omega
                          have q1 : (k : Int) < (row.length : Int) := by omega
                          have q2 : IntKind.i64.wrap ((fr : Int) + (k : Int)) = ((fr + k : Nat) : Int) := by rw [wrap_id (by omega) (by have h1 := Hlen.out; have h2 := Hbig.out j (by have := Hj1.out; omega); omega)]; simp
                          have q3 : (0 : Int) ≤ ((fr + k : Nat) : Int) := by omega
                          have q4 : ((fr + k : Nat) : Int) < (out.length : Int) := by omega
                          have q5 : (((fr + k : Nat) : Int)).toNat = fr + k := by omega
                          have Hkl := Lib.hid hkl
                          have Hfk := Lib.hid hfk
                          generalize out[fr + k].x0 = r0 at *
                          generalize out[fr + k].x1 = r1 at *
                          generalize out[fr + k].y1 = r2 at *
                          generalize row[k].a = s0' at *
                          generalize row[k].b = s1' at *
                          clear hkl hfk hbl hb0 hb1 lo lr Hs0
                          obtain ⟨FK, hFK⟩ : ∃ FK, FK = fr + k := ⟨_, rfl⟩
                          have HFK := Lib.hid hFK
                          rw [← hFK] at d0 d1 d2 q2 q3 q4 q5
                          clear hFK
                          go_wp2_with fail
                          by_cases c1 : r0 = s0'
                          · as_aux_lemma =>
                              have t1 : (r0 == s0') = true := by simpa using c1
                              by_cases c2 : r1 = s1'
                              · have t2 : (r1 == s1') = true := by simpa using c2
                                by_cases c3 : r2 = y0
                                · have t3 : (r2 == y0) = true := by simpa using c3
                                  have Hyes := Lib.hid (HT.out.1 ⟨c1, c2, c3⟩)
                                  clear c1 c2 c3
                                  go_quiet (fail)
                                  go_wp2_with fail
                                  go_roundw
                                  case rel =>
                                    refine ⟨true, k + 1, rfl, by go_num, by have := Hkl.out; omega, fun _ => ⟨Hs.out.1, Hs.out.2.1, fun i hi => ?_⟩, fun h => (by cases h), Hmk.out.trans' (Gou.Mod.drewN _ _ _)⟩
                                    rcases Nat.lt_or_ge i k with h | h
                                    · exact Hs.out.2.2 i h
                                    · obtain rfl : i = k := by omega
                                      exact Hyes.out
                                  case measure => have := Hkl.out; simp [intOf, wk]; omega
                                · have t3 : (r2 == y0) = false := by simpa using c3
                                  have Hno := Lib.hid (fun h => c3 (HT.out.2 h).2.2)
                                  clear c1 c2 c3
                                  go_quiet (fail)
                                  go_wp2_with fail
                                  go_roundw
                                  case rel =>
                                    refine ⟨false, k + 1, rfl, by go_num, by have := Hkl.out; omega, fun h => (by cases h), fun _ => fun h2 => Hno.out ((HR.out.tests Hy0.out.1 Hs.out.1 Hs.out.2.1).2 h2.2 k Hkl.out), Hmk.out.trans' (Gou.Mod.drewN _ _ _)⟩
                                  case measure => have := Hkl.out; simp [intOf, wk]; omega
                              · have t2 : (r1 == s1') = false := by simpa using c2
                                have Hno := Lib.hid (fun h => c2 (HT.out.2 h).2.1)
                                clear c1 c2
                                go_quiet (fail)
                                go_wp2_with fail
                                go_roundw
                                case rel =>
                                  refine ⟨false, k + 1, rfl, by go_num, by have := Hkl.out; omega, fun h => (by cases h), fun _ => fun h2 => Hno.out ((HR.out.tests Hy0.out.1 Hs.out.1 Hs.out.2.1).2 h2.2 k Hkl.out), Hmk.out.trans' (Gou.Mod.drewN _ _ _)⟩
                                case measure => have := Hkl.out; simp [intOf, wk]; omega
                          · have t1 : (r0 == s0') = false := by simpa using c1
                            have Hno := Lib.hid (fun h => c1 (HT.out.2 h).1)
                            clear c1
                            go_quiet (fail)
                            go_wp2_with fail
                            go_roundw
                            case rel =>
                              refine ⟨false, k + 1, rfl, by go_num, by have := Hkl.out; omega, fun h => (by cases h), fun _ => fun h2 => Hno.out ((HR.out.tests Hy0.out.1 Hs.out.1 Hs.out.2.1).2 h2.2 k Hkl.out), Hmk.out.trans' (Gou.Mod.drewN _ _ _)⟩
                            case measure => have := Hkl.out; simp [intOf, wk]; omega
                        · have hk' : k = row.length := by omega
                          have e1 : decide ((k : Int) < (row.length : Int)) = false := decide_eq_false (by omega)
                          have e1' : decide (k < row.length) = false := decide_eq_false hkl
                          have Hq : Hid (decide (row ≠ [] ∧ row = last) = true) := Lib.hid (decide_eq_true ⟨Hs.out.1, (HR.out.tests Hy0.out.1 Hs.out.1 Hs.out.2.1).1 (fun i hi => Hs.out.2.2 i (by omega))⟩)
                          clear hkl hk'
                          go_wp2_with fail
                          go_meet
                          case rel => exact ⟨by rw [Hq.out], Hmk.out⟩
                  case rest =>
                    obtain ⟨rfl, hmd⟩ := hcut
                    have Hout2 : Hid (wc.ownsRow w1.heap.size 36 4 (.slice pq out.length cq) out.length (rts out)) := Lib.hid (own_up Hout1.out hmd)
                    have Hrow2 := Lib.hid (own_up Hown0.out hmd)
                    have Hmd : Hid (Gou.Mod (fun _ => False) w1 wc) := Lib.hid ((Hmj.out.trans' Hm.out).trans' hmd)
                    have ey7 := (hmd.cell (p := ⟨gy, oy + (j + 1), none⟩) Hgyr.out (fun h => h)).trans ey1
                    have Hgyne : Hid ((Value.slice pq out.length cq).ownBlock ≠ some gy) := Lib.hid (fun h => by have := own_ge Howno.out gy h; have := Hgy.out; omega)
                    clear hmd ey0 ey1
                    by_cases hsame : row ≠ [] ∧ row = last
                    · as_aux_lemma =>
                        have Hq : Hid (decide (row ≠ [] ∧ row = last) = true) := Lib.hid (decide_eq_true hsame)
                        rw [Hq.out]
                        have Hrun2 := Lib.hid (HR.out.same Hu.out.2 Hya.out.1 Hya.out.2 Hy0.out.1 Hy0.out.2 Hrow.out.1 Hrow.out.2 hsame.1 hsame.2)
                        clear hsame
                        go_wp2_with fail
                        go_loopw [19] (fun vk wx => ∃ k : Nat, vk = .int .i64 k ∧ fr ≤ k ∧ k ≤ out.length ∧ wx.ownsRow w1.heap.size 36 4 (.slice pq out.length cq) out.length (rts (partY out fr y1 k)) ∧ Gou.Mod (fun _ => False) w1 wx ∧ wx.cell? ⟨gy, oy + (j + 1), none⟩ = some (.int .i64 y1) ∧ gy < wx.heap.size) (fun vk _ => out.length - (intOf vk).toNat)
                        case atStart => exact ⟨fr, rfl, Nat.le_refl _, Hfr.out, by rw [partY_start]; exact Hout2.out, Hmd.out, ey7, Nat.lt_of_lt_of_le Hgy.out Hmd.out.size⟩
                        case round =>
                          obtain ⟨k, rfl, hk0, hk1, hown, hm, hcy, hgy⟩ := hrel
                          have Hownk := Lib.hid hown
                          have Hmk := Lib.hid hm
                          have Hk := Lib.hid (And.intro hk0 hk1)
                          clear hm hown
                          have wk : IntKind.i64.wrap ((k : Int) + 1) = (k : Int) + 1 := wrap_id (by omega) (by have h1 := Hlen.out; have h2 := Hbig.out j (by have := Hj1.out; omega); omega)
                          by_cases hkl : k < out.length
                          · have e1 : decide ((k : Int) < (out.length : Int)) = true := decide_eq_true (by omega)
                            obtain ⟨gb, rfl⟩ := own_some Hownk.out (by omega)
                            have hpl : k < (partY out fr y1 k).length := by rw [partY_len]; exact hkl
                            have hc := Hownk.out.cellAt (k * 4 + 3) (by omega)
                            rw [(rts_get _ k hpl).2.2.2] at hc
                            have hf := Hownk.out.frozenAt (k * 4 + 3)
                            have k0 : (0 : Int) ≤ (k : Int) := by omega
                            have k1 : (k : Int) < (out.length : Int) := by omega
                            have Hset : Hid ((rts (partY out fr y1 k)).set (k * 4 + 3) (.int .i64 y1) = rts (partY out fr y1 (k + 1))) := Lib.hid (by rw [rts_set _ _ hpl, partY_get _ _ _ _ hkl, partY_set _ _ _ _ hk0 hkl])
                            have Hne : Hid (gy ≠ gb) := Lib.hid (fun h => Hgyne.out (by rw [h]; rfl))
                            have Hkl := Lib.hid hkl
                            generalize ((partY out fr y1 k)[k]).y1 = oldy at *
                            clear hpl hkl
                            go_wp2_with fail
                            go_roundw
                            case rel =>
                              refine ⟨k + 1, by go_num, by have := Hk.out; omega, by have := Hkl.out; omega, ?_, ?_, ?_, ?_⟩
                              · have h := own_set Hownk.out (k * 4 + 3) (.int .i64 y1)
                                rw [Hset.out] at h
                                exact h
                              · exact Hmk.out.trans (Gou.Mod.setCell _ ⟨gb, k * 4 + 3, none⟩ _) (fun b hb hs => absurd (own_ge Hownk.out gb rfl) (by simp only at hs; omega))
                              · exact ((Gou.Mod.setCell _ ⟨gb, k * 4 + 3, none⟩ (.int .i64 y1)).cell (p := ⟨gy, oy + (j + 1), none⟩) hgy Hne.out).trans hcy
                              · exact Nat.lt_of_lt_of_le hgy (Gou.Mod.setCell _ ⟨gb, k * 4 + 3, none⟩ (.int .i64 y1)).size
                            case measure => have := Hkl.out; simp [intOf, wk]; omega
                          · obtain rfl : k = out.length := by have := Hk.out; omega
                            have e1 : decide ((out.length : Int) < (out.length : Int)) = false := decide_eq_false (by omega)
                            have Hend : Hid (partY out fr y1 out.length = out.take fr ++ (out.drop fr).map (setY1 y1)) := Lib.hid (partY_end _ _ _ Hfr.out)
                            have Hle2 : Hid ((out.take fr ++ (out.drop fr).map (setY1 y1)).length = out.length) := Lib.hid (by rw [← partY_end _ _ _ Hfr.out, partY_len])
                            go_wp2_with fail
                            go_roundw
                            case rel =>
                              refine ⟨j + 1, fr, out.take fr ++ (out.drop fr).map (setY1 y1), last, rfl, by go_num, fun _ => Hrun2.out, fun h => by have := Hj1.out; rw [h] at this; simp at this, ?_, Hmk.out, ?_, .inl (by have := Hj1.out; omega)⟩
                              · rw [Hle2.out, ← Hend.out]; exact Hownk.out
                              · rw [Hle2.out]; have := Hlen.out; rw [Nat.add_mul]; omega
                            case measure => have := Hj1.out; simp [intOf, wj']; omega
                    · as_aux_lemma =>
                        have Hq : Hid (decide (row ≠ [] ∧ row = last) = false) := Lib.hid (decide_eq_false hsame)
                        rw [Hq.out]
                        have Hrun2 := Lib.hid (HR.out.other Hu.out.2 Hya.out.1 Hya.out.2 Hy0.out.1 Hy0.out.2 Hrow.out.1 Hrow.out.2 (by
                          by_cases h1 : row = []
                          · exact .inl h1
                          · exact .inr fun h2 => hsame ⟨h1, h2⟩))
                        clear hsame
                        have HF : Hid (out.length + row.length ≤ maxLen ∧ (out.length + row.length) * 32 ≤ 140737488355328) := Lib.hid (by
                          have h1 := Hlen.out
                          have h2 := Hbig.out j (by have := Hj1.out; omega)
                          have h3 := Hrll.out
                          have h4 := Hn.out
                          unfold maxLen
                          omega)
                        have HrG : Hid (RowG (fun _ => True) wc 4 (.slice po row.length co) row.length (rts (bandOf row y0 y1))) := Lib.hid (RowG.own_of Hrow2.out (fun _ _ _ => trivial))
                        go_wp2_with (first | ((with_reducible show wpList _ _ _ (⟨_, Op.call ⟨.builtin .append, _, _⟩, _, _, _, _⟩ :: _) _ _); refine halt ?_) | fail)
                        refine wpList_append_row T_reg rfl _ _ rfl (w1.heap.size) (.slice pq out.length cq) (out.length) (rts out) (fun _ => True) (.slice po row.length co) (row.length) (rts (bandOf row y0 y1)) rfl rfl (Hmd.out.size) (Hout2.out) (HrG.out) (rts_one _) (by first | exact HF.out.1 | exact HF.out.2) (by first | exact HF.out.1 | exact HF.out.2) ?_
                        intro v5 w5 G5
                        have Hm6 := Lib.hid (G5.mod0 Hmd.out (own_ge Hout2.out))
                        have Hown6 := Lib.hid G5.own
                        clear G5
                        obtain ⟨p6, c6, rfl⟩ := Gou.ownsRow_form Hown6.out
                        go_wp2_with fail
                        go_roundw
                        case rel =>
                          refine ⟨j + 1, out.length, out ++ bandOf row y0 y1, row, rfl, by go_num, fun _ => Hrun2.out, fun h => by have := Hj1.out; rw [h] at this; simp at this, ?_, Hm6.out, ?_, .inl (by have := Hj1.out; omega)⟩
                          · rw [rts_app, List.length_append, bandOf_len]; exact Hown6.out
                          · rw [List.length_append, bandOf_len, Nat.add_mul]
                            have := Hlen.out
                            have := Hrll.out
                            omega
                        case measure => have := Hj1.out; simp [intOf, wj']; omega
        · have t1 : decide ((j : Int) + 1 < (ys.length : Int)) = false := decide_eq_false (by omega)
          have Hend : Hid (CombP w a b f (.returned (.slice pq out.length cq)) wj) := Lib.hid (by
            refine ⟨Hm1.out.trans' Hmj.out, _, out, rfl, ownsRow_base Howno.out Hm1.out.size, ?_, ?_⟩
            · rcases Hat.out with k | ⟨k, _⟩
              · exact (Hrun.out (by omega)).done Hff.out Hu.out.2 Hya.out.1 Hya.out.2 (by omega)
              · rw [Hnil.out k]
                exact reg_empty Hff.out (by have := Hya.out.1; rwa [k] at this) (by have := Hya.out.2; rwa [k] at this)
            · refine Nat.le_trans Hlen.out (Nat.mul_le_mul_right _ ?_)
              have h1 := Hyl.out
              rcases Hat.out with k | ⟨k, _⟩ <;> omega)
          rw [Hf.out] at Hend
          go_wp2_with fail
          go_ret
          exact Hend.out
end Go.Proofs.Ytapeafokcailkaa
