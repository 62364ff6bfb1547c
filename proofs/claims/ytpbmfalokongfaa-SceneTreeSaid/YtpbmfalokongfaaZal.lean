/- Texts of the scenes' proofs, laid together: SdM, SdN, SdO. -/
import Derived.Test.YtpbmfalokongfaaZak
set_option linter.unusedSimpArgs false
set_option linter.unusedVariables false
set_option linter.unusedSectionVars false
set_option linter.constructorNameAsVariable false

/- Scenes: the code's do. -/
namespace Go.Gou
theorem TFit.get : ∀ {π : List Nat} {T s : Ly}, TFit T → T.get? π = some s → TFit s
  | [], T, s, h, hg => by cases T; cases hg; exact h
  | i :: π, T, s, h, hg => by
    rw [Ly.get?] at hg
    cases hk : T.kids[i]? with
    | none => rw [hk] at hg; cases hg
    | some k =>
      rw [hk] at hg
      cases h with
      | mk i' lk ks hl hn hks => exact TFit.get (hks k (List.mem_of_getElem? hk)) hg
theorem TFit.kid {T k : Ly} {i : Nat} (h : TFit T) (hk : T.kids[i]? = some k) : TFit k := by
  cases h with
  | mk i' lk ks hl hn hks => exact hks k (List.mem_of_getElem? hk)
theorem TFit.put {s : Ly} (hs : TFit s) : ∀ {π : List Nat} {T : Ly}, TFit T → T.get? π = some s → ∀ i, TFit (T.put π (.mk s.id s.look (s.kids.eraseIdx i)))
  | [], T, h, hg, i => by
    cases s with
    | mk j lk ks =>
      cases hs with
      | mk _ _ _ hl hn hks => rw [Ly.put]; exact .mk _ _ _ hl (Nat.le_trans (List.length_eraseIdx_le ks i) hn) (fun k hk => hks k (List.mem_of_mem_eraseIdx hk))
  | j :: π, T, h, hg, i => by
    rw [Ly.get?] at hg
    cases hk : T.kids[j]? with
    | none => rw [hk] at hg; cases hg
    | some k =>
      rw [hk] at hg
      rw [Ly.put, hk]
      cases T with
      | mk j' lk ks =>
        cases h with
        | mk _ _ _ hl hn hks =>
          refine .mk _ _ _ hl (by rw [List.length_set]; exact hn) (fun k' hk' => ?_)
          rcases List.mem_or_eq_of_mem_set hk' with hk' | rfl
          · exact hks k' hk'
          · exact TFit.put hs (hks k (List.mem_of_getElem? hk)) hg i
end Go.Gou
namespace Go.Proofs.Ytpbmfalokongfaa
open Go.RowKit Go.Gou
set_option maxRecDepth 100000
set_option linter.constructorNameAsVariable false

/-- What do leaves. -/
def DoP (base : Nat) (s : Sn) (op : Opr) (F : List Nat) (vp vf vb : Value) (w : World) (D : Nat) (e : Ending) (w' : World) : Prop := Gou.Mod (fun x => x = D ∨ x ∈ F) w w' ∧
  e = .returned (.tuple #[.agg #[.int .i64 (doP checkS s op).2.1.1, .int .i64 (doP checkS s op).2.1.2], .int .i64 (doP checkS s op).2.2]) ∧
  ((doP checkS s op).2.2 = 0 → ∃ vg vl cur F3, DoerL base w' D (doP checkS s op).1.arena (doP checkS s op).1.root F3 op vg vl vp vf vb cur)

set_option maxHeartbeats 8000000 in
theorem do_any (base : Nat) (w : World) (D : Nat) (s : Sn) (F : List Nat) (op : Opr) (vg vl vp vf vb : Value) (cur : Array Value) (hD : DoerL base w D s.arena s.root F op vg vl vp vf vb cur) (n : Nat) (hI : Inv n s) (hn : n ≤ 100) (hft : TFit s.root) (hfit : LkFit op.look) (hwf : GrWf op.look.filt) (hwb : GrWf op.look.back) :
    Calls Try.prog 19 #[.pointer (some ⟨D, 0, none⟩)] w (DoP base s op F vp vf vb w D) := by
  have HD := Lib.hid hD
  have HI := Lib.hid hI
  have Hn := Lib.hid hn
  have Hft := Lib.hid hft
  have Hfit := Lib.hid hfit
  have Hwf := Lib.hid hwf
  have Hwb := Lib.hid hwb
  have HDlt := Lib.hid (Blk.lt hD.blk)
  have Hge := Lib.hid hD.tree.ge
  have HFlt : Hid (∀ x ∈ F, x < w.heap.size) := Lib.hid (fun x hx => by
    obtain ⟨⟨c, _, _, g1, _⟩, _, _⟩ := hD.tree
    exact (g1.rows x hx).2.1)
  obtain ⟨b0, b1, bm⟩ := two_new w 30 30 #[.int .i64 0, .int .i64 0] #[.int .i64 0, .int .i64 0]
  have HR := Lib.hid b0
  have HN := Lib.hid b1
  have HM := Lib.hid bm
  clear hD hI hn hft hfit hwf hwb b0 b1 bm
  go_enter Try.func19, Try.ntmps19
  go_upto_region 2 with fail
  generalize (w.alloc (.cells #[.int .i64 0, .int .i64 0] 30)).alloc (.cells #[.int .i64 0, .int .i64 0] 30) = W1 at *
  have HRD : Hid (∀ x, (x = D ∨ x ∈ F) → ¬ w.heap.size = x ∧ ¬ w.heap.size + 1 = x) := Lib.hid (fun x hx => by
    rcases hx with rfl | hx
    · have := HDlt.out; omega
    · have := HFlt.out x hx; omega)
  have HD1 := Lib.hid (HD.out.up HM.out)
  have c33 := HD1.out.cell.2.2.1
  have n0 : W1.cell? ⟨w.heap.size + 1, 0, none⟩ = some (.int .i64 0) := HN.out.cell 0 rfl
  have n1 : W1.cell? ⟨w.heap.size + 1, 1, none⟩ = some (.int .i64 0) := HN.out.cell 1 rfl
  have r0 : W1.cell? ⟨w.heap.size, 0, none⟩ = some (.int .i64 0) := HR.out.cell 0 rfl
  have r1 : W1.cell? ⟨w.heap.size, 1, none⟩ = some (.int .i64 0) := HR.out.cell 1 rfl
  have s0 := HR.out.frozen 0
  have s1 := HR.out.frozen 1
  by_cases k1 : op.kind < 1
  · have Hl := Lib.hid (doP_bad checkS s op (.inl k1))
    have e1 : decide (op.kind < 1) = true := decide_eq_true k1
    go_wp2_with fail
    have hR := ((HR.out.set 0 (.int .i64 0)).set 1 (.int .i64 0))
    have hS := (Gou.Mod.set1 W1 w.heap.size 0 (.int .i64 0)).trans' (Gou.Mod.set1 _ w.heap.size 1 (.int .i64 0))
    refine bodyPost_ret (results_ct rfl (ResAt.of rfl hR Try.underlying30 rfl size_id)) rfl ?_
    exact ⟨(HM.out.trans hS (fun k hk e => by omega)).imp (fun _ _ h => h.elim), by (rw [Hl.out]; try rfl), fun h => absurd h (by rw [Hl.out]; show ¬ ((1 : Int) = 0); decide)⟩
  · have e1 : decide (op.kind < 1) = false := decide_eq_false k1
    by_cases k11 : 11 < op.kind
    · have Hl := Lib.hid (doP_bad checkS s op (.inr k11))
      have e2 : decide (11 < op.kind) = true := decide_eq_true k11
      go_wp2_with fail
      have hR := ((HR.out.set 0 (.int .i64 0)).set 1 (.int .i64 0))
      have hS := (Gou.Mod.set1 W1 w.heap.size 0 (.int .i64 0)).trans' (Gou.Mod.set1 _ w.heap.size 1 (.int .i64 0))
      refine bodyPost_ret (results_ct rfl (ResAt.of rfl hR Try.underlying30 rfl size_id)) rfl ?_
      exact ⟨(HM.out.trans hS (fun k hk e => by omega)).imp (fun _ _ h => h.elim), by (rw [Hl.out]; try rfl), fun h => absurd h (by rw [Hl.out]; show ¬ ((1 : Int) = 0); decide)⟩
    · have e2 : decide (11 < op.kind) = false := decide_eq_false k11
      have HK : Hid (1 ≤ op.kind ∧ op.kind ≤ 11) := Lib.hid (by omega)
      clear k1 k11
      go_upto_region 4 with fail
      clear e1 e2
      go_wp2_with fail
      refine (stale_any base _ D s.arena s.root F op vg vl vp vf vb cur HD1.out HI.out.ok.len).mono ?_
      rintro e w2 ⟨rfl, hm2⟩
      have HM2 := Lib.hid (HM.out.trans' hm2)
      have HR2 := Lib.hid (HR.out.up hm2)
      have HN2 := Lib.hid (HN.out.up hm2)
      have HD2 := Lib.hid (HD1.out.up hm2)
      clear n0 n1 r0 r1 s0 s1
      clear hm2 c33
      have n0 : w2.cell? ⟨w.heap.size + 1, 0, none⟩ = some (.int .i64 0) := HN2.out.cell 0 rfl
      have n1 : w2.cell? ⟨w.heap.size + 1, 1, none⟩ = some (.int .i64 0) := HN2.out.cell 1 rfl
      have r0 : w2.cell? ⟨w.heap.size, 0, none⟩ = some (.int .i64 0) := HR2.out.cell 0 rfl
      have r1 : w2.cell? ⟨w.heap.size, 1, none⟩ = some (.int .i64 0) := HR2.out.cell 1 rfl
      have s0 := HR2.out.frozen 0
      have s1 := HR2.out.frozen 1
      cases hst : stale s.arena op
      · have Hst := Lib.hid hst
        clear hst
        have c33 := HD2.out.cell.2.2.1
        by_cases k1 : op.kind = 1
        · rw [k1] at c33
          have Hk := Lib.hid k1
          clear k1
          obtain ⟨π, x, p1, p2, hl⟩ := doP_insert HI.out checkS op Hk.out Hst.out
          have P1 := Lib.hid p1
          have P2 := Lib.hid p2
          have HL := Lib.hid hl
          have Hlen := Lib.hid HI.out.ok.len
          have Hl0 : Hid (0 < s.arena.live.length) := Lib.hid (List.getElem?_eq_some_iff.1 HI.out.ok.l0).1
          have Hsm : Hid (s.arena.live.length ≤ 1024) := Lib.hid (by have := HI.out.small; have := HI.out.ok.len; have := Hn.out; omega)
          clear p1 p2 hl
          go_wp2_with fail
          refine (insertOp_any base _ D s.arena s.root F op vg vl vp vf vb cur HD2.out π x P1.out P2.out (TFit.len (Hft.out.get P2.out)) (by have := HI.out.deep; omega) Hlen.out Hl0.out Hsm.out).mono ?_
          rintro e w7 ⟨hm7, hbad, hgood⟩
          have Hm7 := Lib.hid hm7
          have HR7 := Lib.hid (HR2.out.mod hm7 (fun h => (HRD.out _ h).1 rfl))
          have HMM := Lib.hid ((HM2.out.imp (S' := fun x => x = D ∨ x ∈ F) (fun _ _ h => h.elim)).trans' hm7)
          clear hm7 n0 n1 r0 r1 s0 s1 c33
          have r0 : w7.cell? ⟨w.heap.size, 0, none⟩ = some (.int .i64 0) := HR7.out.cell 0 rfl
          have r1 : w7.cell? ⟨w.heap.size, 1, none⟩ = some (.int .i64 0) := HR7.out.cell 1 rfl
          have s0 := HR7.out.frozen 0
          have s1 := HR7.out.frozen 1
          by_cases hb : op.at_ < 0 ∨ (x.kids.length : Int) < op.at_ ∨ 64 ≤ π.length
          · obtain rfl := hbad hb
            have Hl : Hid (doP checkS s op = (s, (0, 0), 3)) := Lib.hid (by rw [HL.out, if_pos hb])
            clear hbad hgood hb
            go_wp2_with fail
            have hR := ((HR7.out.set 0 (.int .i64 0)).set 1 (.int .i64 0))
            have hS := (Gou.Mod.set1 w7 w.heap.size 0 (.int .i64 0)).trans' (Gou.Mod.set1 _ w.heap.size 1 (.int .i64 0))
            refine bodyPost_ret (results_ct rfl (ResAt.of rfl hR Try.underlying30 rfl size_id)) rfl ?_
            exact ⟨HMM.out.trans hS (fun k hk e => by omega), by (rw [Hl.out]; try rfl), fun h => absurd h (by rw [Hl.out]; show ¬ ((3 : Int) = 0); decide)⟩
          · obtain ⟨m, hm⟩ : ∃ m : Nat, op.at_ = m := ⟨op.at_.toNat, by omega⟩
            obtain ⟨hg1, hg2⟩ := hgood m hm (by omega) (by omega)
            have hLe := HL.out
            rw [if_neg hb] at hLe
            cases htk : s.arena.take with
            | none =>
              obtain rfl := hg1 htk
              have Hl : Hid (doP checkS s op = (s, (0, 0), 9)) := Lib.hid (by rw [hLe, htk])
              clear hbad hgood hb hg1 hg2 hLe htk
              go_wp2_with fail
              have hR := ((HR7.out.set 0 (.int .i64 0)).set 1 (.int .i64 0))
              have hS := (Gou.Mod.set1 w7 w.heap.size 0 (.int .i64 0)).trans' (Gou.Mod.set1 _ w.heap.size 1 (.int .i64 0))
              refine bodyPost_ret (results_ct rfl (ResAt.of rfl hR Try.underlying30 rfl size_id)) rfl ?_
              exact ⟨HMM.out.trans hS (fun k hk e => by omega), by (rw [Hl.out]; try rfl), fun h => absurd h (by rw [Hl.out]; show ¬ ((9 : Int) = 0); decide)⟩
            | some by_ =>
              obtain ⟨b, y⟩ := by_
              obtain ⟨rfl, vg3, vl3, cur3, F3, h3⟩ := hg2 b y htk
              have Hl : Hid (doP checkS s op = (⟨b, s.root.put π (.mk x.id x.look (x.kids.take m ++ (.mk y Lk.plain []) :: x.kids.drop m))⟩, y, 0)) := Lib.hid (by rw [hLe, htk]; simp only; rw [Ly.insAt_nat hm _ _ (by omega)])
              have H3 := Lib.hid h3
              clear hbad hgood hb hg1 hg2 hLe htk h3 hm
              go_wp2_with fail
              have hR := ((HR7.out.set 0 (.int .i64 y.1)).set 1 (.int .i64 y.2))
              have hS := (Gou.Mod.set1 w7 w.heap.size 0 (.int .i64 y.1)).trans' (Gou.Mod.set1 _ w.heap.size 1 (.int .i64 y.2))
              refine bodyPost_ret (results_ct rfl (ResAt.of rfl hR Try.underlying30 rfl size_id)) rfl ?_
              refine ⟨HMM.out.trans hS (fun k hk e => by omega), by (rw [Hl.out]; try rfl), fun _ => ?_⟩
              rw [Hl.out]
              exact ⟨vg3, vl3, cur3, F3, H3.out.box tI tB HR7.out (by decide) (by have := HDlt.out; omega) (by have := HDlt.out; have := Hge.out; omega) hS⟩
        · have e1 : (op.kind == 1) = false := beq_eq_false_iff_ne.2 k1
          have Hk1 := Lib.hid k1
          clear k1
          by_cases k5 : 4 < op.kind
          · have e5 : decide (4 < op.kind) = true := decide_eq_true k5
            obtain ⟨π, x, p1, p2, hl⟩ := doP_set HI.out checkS op (by omega) HK.out.2 Hst.out
            have Hk5 := Lib.hid k5
            have P1 := Lib.hid p1
            have P2 := Lib.hid p2
            have HL := Lib.hid hl
            clear p1 p2 hl k5
            go_upto_region 9 with fail
            clear e1 e5 c33
            have HIr : Hid (w2.rangeAt D 34 [.int .i64 op.id.1, .int .i64 op.id.2]) := Lib.hid (fun j v hv => by
              obtain ⟨_, _, _, c34, c35, _⟩ := HD2.out.cell
              match j, hv with
              | 0, hv => simp at hv; rw [← hv]; exact c34
              | 1, hv => simp at hv; rw [← hv]; exact c35)
            refine wp_region_held_drew (S := fun w' => Gou.Mod (fun _ => False) w2 w') (by kernel_rfl) (Gou.Mod.drew _ _) (fun hHeld => ?_)
            refine wpAnyH_take (i := 0) (oi := ({ dst := some 47, op := Op.move (Operand.tmp 0), type := 64, pos := "scene.go:286", after := #[], guard := none } : Oper)) (v := .pointer (some ⟨D, 0, none⟩)) rfl (by kernel_rfl) (by kernel_rfl) (by kernel_rfl) (fun _ _ _ h => h) (Or.inl ⟨by rfl, ?_⟩) hHeld ?_
            · (intro w' hSw; (try dsimp only at hSw); clear hSw hHeld; go_simp; (try with_reducible rfl))
            try simp only [Act.put, List.setIfInBounds_toArray, List.set_cons_zero, List.set_cons_succ]
            refine wpAnyH_take (i := 1) (oi := ({ dst := some 48, op := Op.nilCheck (Operand.tmp 47), type := 0, pos := "scene.go:286", after := #[{ on := 0, ground := Ground.data }], guard := none } : Oper)) (v := .pointer (some ⟨D, 0, none⟩)) rfl (by kernel_rfl) (by kernel_rfl) (by kernel_rfl) (fun _ _ _ h => h) (Or.inl ⟨by rfl, ?_⟩) hHeld ?_
            · (intro w' hSw; (try dsimp only at hSw); clear hSw hHeld; go_simp; (try with_reducible rfl))
            try simp only [Act.put, List.setIfInBounds_toArray, List.set_cons_zero, List.set_cons_succ]
            refine wpAnyH_take (i := 2) (oi := ({ dst := some 49, op := Op.fieldAddr 67 (Operand.tmp 48) 0, type := 0, pos := "scene.go:286", after := #[{ on := 1, ground := Ground.data }], guard := none } : Oper)) (v := .pointer (some ⟨D, 0, none⟩)) rfl (by kernel_rfl) (by kernel_rfl) (by kernel_rfl) (fun _ _ _ h => h) (Or.inl ⟨by rfl, ?_⟩) hHeld ?_
            · (intro w' hSw; (try dsimp only at hSw); clear hSw hHeld; go_simp; (try with_reducible rfl))
            try simp only [Act.put, List.setIfInBounds_toArray, List.set_cons_zero, List.set_cons_succ]
            refine wpAnyH_take (i := 3) (oi := ({ dst := some 50, op := Op.fieldAddr 47 (Operand.tmp 49) 1, type := 0, pos := "scene.go:286", after := #[{ on := 2, ground := Ground.data }], guard := none } : Oper)) (v := .pointer (some ⟨D, 2, none⟩)) rfl (by kernel_rfl) (by kernel_rfl) (by kernel_rfl) (fun _ _ _ h => h) (Or.inl ⟨by rfl, ?_⟩) hHeld ?_
            · (intro w' hSw; (try dsimp only at hSw); clear hSw hHeld; go_simp; (try with_reducible rfl))
            try simp only [Act.put, List.setIfInBounds_toArray, List.set_cons_zero, List.set_cons_succ]
            refine wpAnyH_take (i := 4) (oi := ({ dst := some 51, op := Op.move (Operand.tmp 0), type := 64, pos := "scene.go:286", after := #[], guard := none } : Oper)) (v := .pointer (some ⟨D, 0, none⟩)) rfl (by kernel_rfl) (by kernel_rfl) (by kernel_rfl) (fun _ _ _ h => h) (Or.inl ⟨by rfl, ?_⟩) hHeld ?_
            · (intro w' hSw; (try dsimp only at hSw); clear hSw hHeld; go_simp; (try with_reducible rfl))
            try simp only [Act.put, List.setIfInBounds_toArray, List.set_cons_zero, List.set_cons_succ]
            refine wpAnyH_take (i := 5) (oi := ({ dst := some 52, op := Op.nilCheck (Operand.tmp 51), type := 0, pos := "scene.go:286", after := #[{ on := 4, ground := Ground.data }], guard := none } : Oper)) (v := .pointer (some ⟨D, 0, none⟩)) rfl (by kernel_rfl) (by kernel_rfl) (by kernel_rfl) (fun _ _ _ h => h) (Or.inl ⟨by rfl, ?_⟩) hHeld ?_
            · (intro w' hSw; (try dsimp only at hSw); clear hSw hHeld; go_simp; (try with_reducible rfl))
            try simp only [Act.put, List.setIfInBounds_toArray, List.set_cons_zero, List.set_cons_succ]
            refine wpAnyH_take (i := 6) (oi := ({ dst := some 53, op := Op.fieldAddr 67 (Operand.tmp 52) 1, type := 0, pos := "scene.go:286", after := #[{ on := 5, ground := Ground.data }], guard := none } : Oper)) (v := .pointer (some ⟨D, 33, none⟩)) rfl (by kernel_rfl) (by kernel_rfl) (by kernel_rfl) (fun _ _ _ h => h) (Or.inl ⟨by rfl, ?_⟩) hHeld ?_
            · (intro w' hSw; (try dsimp only at hSw); clear hSw hHeld; go_simp; (try with_reducible rfl))
            try simp only [Act.put, List.setIfInBounds_toArray, List.set_cons_zero, List.set_cons_succ]
            refine wpAnyH_take (i := 7) (oi := ({ dst := some 54, op := Op.fieldAddr 53 (Operand.tmp 53) 1, type := 0, pos := "scene.go:286", after := #[{ on := 6, ground := Ground.data }], guard := none } : Oper)) (v := .pointer (some ⟨D, 34, none⟩)) rfl (by kernel_rfl) (by kernel_rfl) (by kernel_rfl) (fun _ _ _ h => h) (Or.inl ⟨by rfl, ?_⟩) hHeld ?_
            · (intro w' hSw; (try dsimp only at hSw); clear hSw hHeld; go_simp; (try with_reducible rfl))
            try simp only [Act.put, List.setIfInBounds_toArray, List.set_cons_zero, List.set_cons_succ]
            refine wpAnyH_take (i := 8) (oi := ({ dst := some 55, op := Op.load 30 (Operand.tmp 54), type := 30, pos := "scene.go:286", after := #[{ on := 7, ground := Ground.data }], guard := none } : Oper)) (v := .agg #[.int .i64 op.id.1, .int .i64 op.id.2]) rfl (by kernel_rfl) (by kernel_rfl) (by kernel_rfl) (fun _ _ _ h => h) (yieldsIf_load_mid (by rfl) 30 _ rfl D (34) rfl ([.int .i64 op.id.1, .int .i64 op.id.2]) _ (fun w' hSw => range_up HIr.out hSw (fun h => h)) Try.underlying30 rfl size_id) hHeld ?_
            try simp only [Act.put, List.setIfInBounds_toArray, List.set_cons_zero, List.set_cons_succ]
            refine wpAnyH_ready (rs := [9]) (by kernel_rfl) (by simp) (AllReadyH.cons (o := ({ dst := some 56, op := Op.call { callee := Callee.value (Operand.func 21), args := #[Operand.tmp 50, Operand.tmp 55, Operand.const (Value.int IntKind.i64 0)], argTypes := #[71, 30, 3] }, type := 72, pos := "scene.go:286", after := #[{ on := 3, ground := Ground.data }, { on := 8, ground := Ground.data }], guard := none } : Oper)) rfl (fun K hK => ?_) AllReadyH.nil)
            go_simp
            refine (find_any base op.id s.root _ D 2 F 0 (HD2.out.up hHeld).tree (by have := HI.out.deep; omega)).mono ?_
            rintro e w4 ⟨hm4, _, hs4⟩
            obtain ⟨b', o', F', x', rfl, hz4⟩ := hs4 _ P1.out
            have hss : x' = x := by
              have := hz4.get
              rw [P2.out] at this
              exact (Option.some.inj this).symm
            subst hss
            have M := Lib.hid (hHeld.trans' hm4)
            have Hz4 := Lib.hid hz4
            obtain ⟨dd, hdd⟩ : ∃ dd, dd = 0 + π.length := ⟨_, rfl⟩
            rw [← hdd]
            clear hHeld hm4 hs4 hz4 hdd
            refine hK _ _ M.out (fun hHeld => ?_)
            clear hK K M
            try simp only [Act.put, List.setIfInBounds_toArray, List.set_cons_zero, List.set_cons_succ]
            refine wpAnyH_take (i := 10) (oi := ({ dst := some 46, op := Op.move (Operand.tmp 56), type := 72, pos := "scene.go:286", after := #[{ on := 9, ground := Ground.data }], guard := none } : Oper)) (v := .tuple #[.pointer (some ⟨b', o', none⟩), .int .i64 ((dd : Nat) : Int)]) rfl (by kernel_rfl) (by kernel_rfl) (by kernel_rfl) (fun _ _ _ h => h) (Or.inl ⟨by rfl, ?_⟩) hHeld ?_
            · (intro w' hSw; (try dsimp only at hSw); clear hSw hHeld; go_simp; (try with_reducible rfl))
            try simp only [Act.put, List.setIfInBounds_toArray, List.set_cons_zero, List.set_cons_succ]
            refine wpAnyH_take (i := 11) (oi := ({ dst := some 57, op := Op.extract (Operand.tmp 46) 0, type := 71, pos := "scene.go:286", after := #[{ on := 10, ground := Ground.data }], guard := none } : Oper)) (v := .pointer (some ⟨b', o', none⟩)) rfl (by kernel_rfl) (by kernel_rfl) (by kernel_rfl) (fun _ _ _ h => h) (Or.inl ⟨by rfl, ?_⟩) hHeld ?_
            · (intro w' hSw; (try dsimp only at hSw); clear hSw hHeld; go_simp; (try with_reducible rfl))
            try simp only [Act.put, List.setIfInBounds_toArray, List.set_cons_zero, List.set_cons_succ]
            refine wpAnyH_take (i := 12) (oi := ({ dst := some 58, op := Op.extract (Operand.tmp 46) 1, type := 3, pos := "scene.go:286", after := #[{ on := 10, ground := Ground.data }, { on := 13, ground := Ground.gcOnly Departure.lateStores }], guard := none } : Oper)) (v := .int .i64 ((dd : Nat) : Int)) rfl (by kernel_rfl) (by kernel_rfl) (by kernel_rfl) (fun _ _ _ h => h) (Or.inl ⟨by rfl, ?_⟩) hHeld ?_
            · (intro w' hSw; (try dsimp only at hSw); clear hSw hHeld; go_simp; (try with_reducible rfl))
            try simp only [Act.put, List.setIfInBounds_toArray, List.set_cons_zero, List.set_cons_succ]
            refine wpAnyH_take (i := 13) (oi := ({ dst := some 5, op := Op.assign (Operand.tmp 57), type := 71, pos := "scene.go:286", after := #[{ on := 11, ground := Ground.data }, { on := 9, ground := Ground.chain }, { on := 0, ground := Ground.phase }, { on := 1, ground := Ground.phase }, { on := 2, ground := Ground.phase }, { on := 3, ground := Ground.phase }, { on := 4, ground := Ground.phase }, { on := 5, ground := Ground.phase }, { on := 6, ground := Ground.phase }, { on := 7, ground := Ground.phase }, { on := 8, ground := Ground.phase }, { on := 9, ground := Ground.phase }, { on := 10, ground := Ground.phase }, { on := 11, ground := Ground.phase }, { on := 12, ground := Ground.textOnly Departure.lateStores }], guard := none } : Oper)) (v := .pointer (some ⟨b', o', none⟩)) rfl (by kernel_rfl) (by kernel_rfl) (by kernel_rfl) (fun _ _ _ h => h) (Or.inl ⟨by rfl, ?_⟩) hHeld ?_
            · (intro w' hSw; (try dsimp only at hSw); clear hSw hHeld; go_simp; (try with_reducible rfl))
            try simp only [Act.put, List.setIfInBounds_toArray, List.set_cons_zero, List.set_cons_succ]
            refine wpAnyH_take (i := 14) (oi := ({ dst := some 6, op := Op.assign (Operand.tmp 58), type := 3, pos := "scene.go:286", after := #[{ on := 12, ground := Ground.data }, { on := 13, ground := Ground.chain }, { on := 0, ground := Ground.phase }, { on := 1, ground := Ground.phase }, { on := 2, ground := Ground.phase }, { on := 3, ground := Ground.phase }, { on := 4, ground := Ground.phase }, { on := 5, ground := Ground.phase }, { on := 6, ground := Ground.phase }, { on := 7, ground := Ground.phase }, { on := 8, ground := Ground.phase }, { on := 9, ground := Ground.phase }, { on := 10, ground := Ground.phase }, { on := 11, ground := Ground.phase }, { on := 12, ground := Ground.phase }, { on := 13, ground := Ground.phase }], guard := none } : Oper)) (v := .int .i64 ((dd : Nat) : Int)) rfl (by kernel_rfl) (by kernel_rfl) (by kernel_rfl) (fun _ _ _ h => h) (Or.inl ⟨by rfl, ?_⟩) hHeld ?_
            · (intro w' hSw; (try dsimp only at hSw); clear hSw hHeld; go_simp; (try with_reducible rfl))
            try simp only [Act.put, List.setIfInBounds_toArray, List.set_cons_zero, List.set_cons_succ]
            have MS := Lib.hid hHeld
            refine wpAnyH_done (by kernel_rfl) ?_ _
            clear hHeld
            try simp only [Act.put]
            have HM4 := Lib.hid (HM2.out.trans' MS.out)
            have HR4 := Lib.hid (HR2.out.up MS.out)
            have HN4 := Lib.hid (HN2.out.up MS.out)
            have HD4 := Lib.hid (HD2.out.up MS.out)
            clear MS HIr n0 n1 r0 r1 s0 s1
            go_upto_region 10 with fail
            have HNr : Hid (w4.rangeAt (w.heap.size + 1) 0 [.int .i64 0, .int .i64 0]) := Lib.hid (Blk.range (pre := []) (post := []) HN4.out (by simp) rfl)
            have HNn : Hid (¬ ((w.heap.size + 1 = D ∨ w.heap.size + 1 ∈ F) ∨ w.heap.size + 1 = w.heap.size)) := Lib.hid (by rintro (h | h); exact (HRD.out _ h).2 rfl; omega)
            have HDq := Lib.hid (HD4.out.up (Gou.Mod.drew (fun _ => False) w4))
            have HRq := Lib.hid (HR4.out.up (Gou.Mod.drew (fun _ => False) w4))
            refine wp_region_held_drew (S := fun w' => Gou.Mod (fun x => (x = D ∨ x ∈ F) ∨ x = w.heap.size) w4 w') (by kernel_rfl) (Gou.Mod.drew _ _) (fun hHeld => ?_)
            refine wpAnyH_take (i := 0) (oi := ({ dst := some 59, op := Op.load 30 (Operand.tmp 4), type := 30, pos := "scene.go:287", after := #[], guard := none } : Oper)) (v := .agg #[.int .i64 0, .int .i64 0]) rfl (by kernel_rfl) (by kernel_rfl) (by kernel_rfl) (fun _ _ _ h => h) (yieldsIf_load_mid (by rfl) 30 _ rfl (w.heap.size + 1) (0) rfl ([.int .i64 0, .int .i64 0]) _ (fun w' hSw => range_up HNr.out hSw HNn.out) Try.underlying30 rfl size_id) hHeld ?_
            try simp only [Act.put, List.setIfInBounds_toArray, List.set_cons_zero, List.set_cons_succ]
            refine wpAnyH_take (i := 1) (oi := ({ dst := some 60, op := Op.move (Operand.tmp 0), type := 64, pos := "scene.go:287", after := #[], guard := none } : Oper)) (v := .pointer (some ⟨D, 0, none⟩)) rfl (by kernel_rfl) (by kernel_rfl) (by kernel_rfl) (fun _ _ _ h => h) (Or.inl ⟨by rfl, ?_⟩) hHeld ?_
            · (intro w' hSw; (try dsimp only at hSw); clear hSw hHeld; go_simp; (try with_reducible rfl))
            try simp only [Act.put, List.setIfInBounds_toArray, List.set_cons_zero, List.set_cons_succ]
            refine wpAnyH_take (i := 2) (oi := ({ dst := some 61, op := Op.move (Operand.tmp 5), type := 71, pos := "scene.go:287", after := #[], guard := none } : Oper)) (v := .pointer (some ⟨b', o', none⟩)) rfl (by kernel_rfl) (by kernel_rfl) (by kernel_rfl) (fun _ _ _ h => h) (Or.inl ⟨by rfl, ?_⟩) hHeld ?_
            · (intro w' hSw; (try dsimp only at hSw); clear hSw hHeld; go_simp; (try with_reducible rfl))
            try simp only [Act.put, List.setIfInBounds_toArray, List.set_cons_zero, List.set_cons_succ]
            refine wpAnyH_take (i := 3) (oi := ({ dst := some 62, op := Op.nilCheck (Operand.tmp 61), type := 0, pos := "scene.go:287", after := #[{ on := 2, ground := Ground.data }], guard := none } : Oper)) (v := .pointer (some ⟨b', o', none⟩)) rfl (by kernel_rfl) (by kernel_rfl) (by kernel_rfl) (fun _ _ _ h => h) (Or.inl ⟨by rfl, ?_⟩) hHeld ?_
            · (intro w' hSw; (try dsimp only at hSw); clear hSw hHeld; go_simp; (try with_reducible rfl))
            try simp only [Act.put, List.setIfInBounds_toArray, List.set_cons_zero, List.set_cons_succ]
            refine wpAnyH_take (i := 4) (oi := ({ dst := some 63, op := Op.fieldAddr 45 (Operand.tmp 62) 1, type := 0, pos := "scene.go:287", after := #[{ on := 3, ground := Ground.data }], guard := none } : Oper)) (v := .pointer (some ⟨b', o' + 2, none⟩)) rfl (by kernel_rfl) (by kernel_rfl) (by kernel_rfl) (fun _ _ _ h => h) (Or.inl ⟨by rfl, ?_⟩) hHeld ?_
            · (intro w' hSw; (try dsimp only at hSw); clear hSw hHeld; go_simp; (try with_reducible rfl))
            try simp only [Act.put, List.setIfInBounds_toArray, List.set_cons_zero, List.set_cons_succ]
            refine wpAnyH_ready (rs := [5]) (by kernel_rfl) (by simp) (AllReadyH.cons (o := ({ dst := some 64, op := Op.call { callee := Callee.value (Operand.func 28), args := #[Operand.tmp 60, Operand.tmp 63], argTypes := #[64, 81] }, type := 49, pos := "scene.go:287", after := #[{ on := 1, ground := Ground.data }, { on := 4, ground := Ground.data }], guard := none } : Oper)) rfl (fun K hK => ?_) AllReadyH.nil)
            go_simp
            refine (set_any base _ D s.arena s.root F op vg vl vp vf vb cur HDq.out π x' b' o' F' (Hz4.out.up (Gou.Mod.drew (fun _ => False) w4)) Hfit.out Hwf.out Hwb.out (by have := Hk5.out; omega) HK.out.2).mono ?_
            rintro e w7 ⟨hm7, rfl, hs7⟩
            have M := Lib.hid (hHeld.trans' (hm7.imp (fun _ _ h => .inl h)))
            have HR7 := Lib.hid (HRq.out.mod hm7 (fun h => (HRD.out _ h).1 rfl))
            have Hm7 := Lib.hid hm7
            have Hs7 := Lib.hid hs7
            clear hs7
            clear hHeld
            refine hK _ _ M.out (fun hHeld => ?_)
            clear hK K M
            try simp only [Act.put, List.setIfInBounds_toArray, List.set_cons_zero, List.set_cons_succ]
            refine wpAnyH_ready (rs := [6]) (by kernel_rfl) (by simp) (AllReadyH.cons (o := ({ dst := none, op := Op.store 30 (Operand.tmp 2) (Operand.tmp 59), type := 0, pos := "scene.go:287", after := #[{ on := 0, ground := Ground.data }, { on := 5, ground := Ground.chain }, { on := 0, ground := Ground.phase }, { on := 1, ground := Ground.textOnly Departure.lateStores }, { on := 2, ground := Ground.textOnly Departure.lateStores }, { on := 3, ground := Ground.textOnly Departure.lateStores }, { on := 4, ground := Ground.textOnly Departure.lateStores }, { on := 5, ground := Ground.textOnly Departure.lateStoresUnsure }], guard := none } : Oper)) rfl (fun K hK => ?_) AllReadyH.nil)
            rw [if_pos (by rfl)]
            refine wp_store_mid 30 _ _ rfl w.heap.size 0 #[.int .i64 0, .int .i64 0] rfl rfl (HR7.out.there 0 2 (by simp)) size_id (by simp [Value.oneCell']) ?_
            have HS8 := Lib.hid (Blk.setMod w7 w.heap.size 0 (#[.int .i64 0, .int .i64 0] : Array Value).toList)
            have HR8 := Lib.hid (HR7.out.setAll #[.int .i64 0, .int .i64 0] rfl)
            have M := Lib.hid (hHeld.trans' (HS8.out.imp (fun _ _ h => .inr h)))
            clear hHeld
            refine hK _ _ M.out (fun hHeld => ?_)
            clear hK K M
            try simp only [Act.put, List.setIfInBounds_toArray, List.set_cons_zero, List.set_cons_succ]
            refine wpAnyH_take (i := 7) (oi := ({ dst := some 3, op := Op.assign (Operand.tmp 64), type := 49, pos := "scene.go:287", after := #[{ on := 5, ground := Ground.data }, { on := 6, ground := Ground.chain }, { on := 0, ground := Ground.phase }, { on := 1, ground := Ground.phase }, { on := 2, ground := Ground.phase }, { on := 3, ground := Ground.phase }, { on := 4, ground := Ground.phase }, { on := 5, ground := Ground.phase }, { on := 6, ground := Ground.phase }], guard := none } : Oper)) (v := .int .i64 (lookP checkS x'.look op).2) rfl (by kernel_rfl) (by kernel_rfl) (by kernel_rfl) (fun _ _ _ h => h) (Or.inl ⟨by rfl, ?_⟩) hHeld ?_
            · (intro w' hSw; (try dsimp only at hSw); clear hSw hHeld; go_simp; (try with_reducible rfl))
            try simp only [Act.put, List.setIfInBounds_toArray, List.set_cons_zero, List.set_cons_succ]
            have MS := Lib.hid hHeld
            refine wpAnyH_done (by kernel_rfl) ?_ _
            clear hHeld
            try simp only [Act.put]
            go_wp2_with fail
            refine bodyPost_ret (results_ct rfl (ResAt.of rfl HR8.out Try.underlying30 rfl size_id)) rfl ?_
            have hMM := ((HM4.out.trans' (Gou.Mod.drew (fun _ => False) w4)).imp (S' := fun x => x = D ∨ x ∈ F) (fun _ _ h => h.elim)).trans' Hm7.out
            have hM8 := hMM.trans HS8.out (S' := fun k => k = w.heap.size) (fun k hk e => by omega)
            have hbox : ∀ (a2 : Ar) (T2 : Ly) (F3 : List Nat) (vg vl : Value) (cur : Array Value), DoerL base w7 D a2 T2 F3 op vg vl vp vf vb cur → DoerL base _ D a2 T2 F3 op vg vl vp vf vb cur := fun a2 T2 F3 vg vl cur hd => hd.box tI tB HR7.out (by decide) (by have := HDlt.out; omega) (by have := HDlt.out; have := Hge.out; omega) HS8.out
            by_cases hz : (lookP checkS x'.look op).2 = 0
            · have Hl : Hid (doP checkS s op = (⟨s.arena, s.root.put π (.mk x'.id (lookP checkS x'.look op).1 x'.kids)⟩, (0, 0), 0)) := Lib.hid (by rw [HL.out, if_neg (by simpa using hz)])
              refine ⟨hM8, by (rw [Hl.out, hz]; try rfl), fun _ => ?_⟩
              rw [Hl.out]
              obtain ⟨vg3, vl3, cur3, F3, h3⟩ := Hs7.out hz
              exact ⟨_, _, _, _, hbox _ _ _ _ _ _ h3⟩
            · have Hl : Hid (doP checkS s op = (s, (0, 0), (lookP checkS x'.look op).2)) := Lib.hid (by rw [HL.out, if_pos hz])
              exact ⟨hM8, by (rw [Hl.out]; try rfl), fun h => absurd h (by rw [Hl.out]; exact hz)⟩
          · have e5 : decide (4 < op.kind) = false := decide_eq_false k5
            have Hk5 : Hid (2 ≤ op.kind ∧ op.kind ≤ 4) := Lib.hid (by have := HK.out; have := Hk1.out; omega)
            clear k5
            go_upto_region 11 with fail
            obtain ⟨_, _, _, c34, c35, _⟩ := HD2.out.cell
            have Hid0 := fun (w' : World) => id_op op.id (0, 0) w'
            by_cases hid : op.id = (0, 0)
            · have ez : decide (op.id = ((0 : Int), (0 : Int))) = true := decide_eq_true hid
              rw [ez] at Hid0
              have Hl := Lib.hid (doP_root checkS s op Hk5.out.1 Hk5.out.2 Hst.out hid)
              clear hid ez e1 e5
              go_quiet (fail)
              go_wp2_with fail
              have hR := (((HR2.out.up (Gou.Mod.drewN (fun _ => False) w2 nq)).set 0 (.int .i64 0)).set 1 (.int .i64 0))
              have hS := (Gou.Mod.set1 (w2.drewN nq) w.heap.size 0 (.int .i64 0)).trans' (Gou.Mod.set1 _ w.heap.size 1 (.int .i64 0))
              refine bodyPost_ret (results_ct rfl (ResAt.of rfl hR Try.underlying30 rfl size_id)) rfl ?_
              exact ⟨((HM2.out.trans' (Gou.Mod.drewN (fun _ => False) w2 nq)).trans hS (fun k hk e => by omega)).imp (fun _ _ h => h.elim), by (rw [Hl.out]; try rfl), fun h => absurd h (by rw [Hl.out]; show ¬ ((1 : Int) = 0); decide)⟩
            · have ez : decide (op.id = ((0 : Int), (0 : Int))) = false := decide_eq_false hid
              rw [ez] at Hid0
              have Hid1 := Lib.hid hid
              clear hid ez e1 e5
              obtain ⟨π, i, q, k, T2, hO⟩ := outAt HI.out op Hk1.out Hst.out Hid1.out
              have HO := Lib.hid hO
              clear hO
              go_quiet (fail)
              go_upto_region 13 with fail
              have HM3 := Lib.hid (HM2.out.trans' (Gou.Mod.drewN (fun _ => False) w2 nq))
              have HR3 := Lib.hid (HR2.out.up (Gou.Mod.drewN (fun _ => False) w2 nq))
              have HN3 := Lib.hid (HN2.out.up (Gou.Mod.drewN (fun _ => False) w2 nq))
              have HD3 := Lib.hid (HD2.out.up (Gou.Mod.drewN (fun _ => False) w2 nq))
              generalize w2.drewN nq = W3 at *
              clear n0 n1 r0 r1 s0 s1 c33 c34 c35 Hid0
              have c33 := HD3.out.cell.2.2.1
              have Hqk : Hid (q.kids.length ≤ 1000000) := Lib.hid (TFit.len (Hft.out.get HO.out.get))
              have Hkf : Hid (TFit k) := Lib.hid (TFit.kid (Hft.out.get HO.out.get) HO.out.kid)
              by_cases k2 : op.kind = 2
              · rw [k2] at c33
                have Hk := Lib.hid k2
                have Hl := Lib.hid (doP_remove checkS op HO.out k2 Hst.out Hid1.out)
                clear k2
                go_upto_region 15 with fail
                have HAN : Hid (ArN s.arena 10000) := Lib.hid ⟨HI.out.ok.len, by have := HI.out.small; have := HI.out.ok.len; have := Hn.out; omega, fun g hg => ⟨(HI.out.ok.gen g hg).1, by have h1 := (HI.out.ok.gen g hg).2; have h2 : n * n ≤ 100 * 100 := Nat.mul_le_mul Hn.out Hn.out; omega⟩⟩
                have HIL : Hid (10000 + k.ids.length ≤ 1000000000000) := Lib.hid (by have h1 := HO.out.perm.length_eq; have h2 := HI.out.cnt; have h3 := Ar.count_le (a := s.arena); have h4 := HI.out.small; have h5 := HI.out.ok.len; have h6 := Hn.out; rw [List.length_append] at h1; omega)
                have HNr : Hid (W3.rangeAt (w.heap.size + 1) 0 [.int .i64 0, .int .i64 0]) := Lib.hid (Blk.range (pre := []) (post := []) HN3.out (by simp) rfl)
                have HNn : Hid (¬ ((w.heap.size + 1 = D ∨ w.heap.size + 1 ∈ F) ∨ w.heap.size + 1 = w.heap.size)) := Lib.hid (by rintro (h | h); exact (HRD.out _ h).2 rfl; omega)
                have HDq := Lib.hid (HD3.out.up (Gou.Mod.drew (fun _ => False) W3))
                have HRq := Lib.hid (HR3.out.up (Gou.Mod.drew (fun _ => False) W3))
                refine wp_region_held_drew (S := fun w' => Gou.Mod (fun x => (x = D ∨ x ∈ F) ∨ x = w.heap.size) W3 w') (by kernel_rfl) (Gou.Mod.drew _ _) (fun hHeld => ?_)
                refine wpAnyH_take (i := 0) (oi := ({ dst := some 81, op := Op.load 30 (Operand.tmp 4), type := 30, pos := "scene.go:293", after := #[], guard := none } : Oper)) (v := .agg #[.int .i64 0, .int .i64 0]) rfl (by kernel_rfl) (by kernel_rfl) (by kernel_rfl) (fun _ _ _ h => h) (yieldsIf_load_mid (by rfl) 30 _ rfl (w.heap.size + 1) (0) rfl ([.int .i64 0, .int .i64 0]) _ (fun w' hSw => range_up HNr.out hSw HNn.out) Try.underlying30 rfl size_id) hHeld ?_
                try simp only [Act.put, List.setIfInBounds_toArray, List.set_cons_zero, List.set_cons_succ]
                refine wpAnyH_take (i := 1) (oi := ({ dst := some 82, op := Op.move (Operand.tmp 0), type := 64, pos := "scene.go:293", after := #[], guard := none } : Oper)) (v := .pointer (some ⟨D, 0, none⟩)) rfl (by kernel_rfl) (by kernel_rfl) (by kernel_rfl) (fun _ _ _ h => h) (Or.inl ⟨by rfl, ?_⟩) hHeld ?_
                · (intro w' hSw; (try dsimp only at hSw); clear hSw hHeld; go_simp; (try with_reducible rfl))
                try simp only [Act.put, List.setIfInBounds_toArray, List.set_cons_zero, List.set_cons_succ]
                refine wpAnyH_ready (rs := [2]) (by kernel_rfl) (by simp) (AllReadyH.cons (o := ({ dst := some 83, op := Op.call { callee := Callee.value (Operand.func 29), args := #[Operand.tmp 82], argTypes := #[64] }, type := 49, pos := "scene.go:293", after := #[{ on := 1, ground := Ground.data }], guard := none } : Oper)) rfl (fun K hK => ?_) AllReadyH.nil)
                go_simp
                refine (remove_any base _ D s.arena s.root F op vg vl vp vf vb cur HDq.out π i q k HO.out.par HO.out.get HO.out.kid Hqk.out Hkf.out 10000 HAN.out HIL.out).mono ?_
                rintro e w7 ⟨rfl, hs7, hm7⟩
                have M := Lib.hid (hHeld.trans' (hm7.imp (fun _ _ h => .inl h)))
                have HR7 := Lib.hid (HRq.out.mod hm7 (fun h => (HRD.out _ h).1 rfl))
                have Hm7 := Lib.hid hm7
                have Hs7 := Lib.hid hs7
                clear hs7
                clear hHeld
                refine hK _ _ M.out (fun hHeld => ?_)
                clear hK K M
                try simp only [Act.put, List.setIfInBounds_toArray, List.set_cons_zero, List.set_cons_succ]
                refine wpAnyH_ready (rs := [3]) (by kernel_rfl) (by simp) (AllReadyH.cons (o := ({ dst := none, op := Op.store 30 (Operand.tmp 2) (Operand.tmp 81), type := 0, pos := "scene.go:293", after := #[{ on := 0, ground := Ground.data }, { on := 2, ground := Ground.chain }, { on := 0, ground := Ground.phase }, { on := 1, ground := Ground.textOnly Departure.lateStores }, { on := 2, ground := Ground.textOnly Departure.lateStoresUnsure }], guard := none } : Oper)) rfl (fun K hK => ?_) AllReadyH.nil)
                rw [if_pos (by rfl)]
                refine wp_store_mid 30 _ _ rfl w.heap.size 0 #[.int .i64 0, .int .i64 0] rfl rfl (HR7.out.there 0 2 (by simp)) size_id (by simp [Value.oneCell']) ?_
                have HS8 := Lib.hid (Blk.setMod w7 w.heap.size 0 (#[.int .i64 0, .int .i64 0] : Array Value).toList)
                have HR8 := Lib.hid (HR7.out.setAll #[.int .i64 0, .int .i64 0] rfl)
                have M := Lib.hid (hHeld.trans' (HS8.out.imp (fun _ _ h => .inr h)))
                clear hHeld
                refine hK _ _ M.out (fun hHeld => ?_)
                clear hK K M
                try simp only [Act.put, List.setIfInBounds_toArray, List.set_cons_zero, List.set_cons_succ]
                refine wpAnyH_take (i := 4) (oi := ({ dst := some 3, op := Op.assign (Operand.tmp 83), type := 49, pos := "scene.go:293", after := #[{ on := 2, ground := Ground.data }, { on := 3, ground := Ground.chain }, { on := 0, ground := Ground.phase }, { on := 1, ground := Ground.phase }, { on := 2, ground := Ground.phase }, { on := 3, ground := Ground.phase }], guard := none } : Oper)) (v := .int .i64 0) rfl (by kernel_rfl) (by kernel_rfl) (by kernel_rfl) (fun _ _ _ h => h) (Or.inl ⟨by rfl, ?_⟩) hHeld ?_
                · (intro w' hSw; (try dsimp only at hSw); clear hSw hHeld; go_simp; (try with_reducible rfl))
                try simp only [Act.put, List.setIfInBounds_toArray, List.set_cons_zero, List.set_cons_succ]
                have MS := Lib.hid hHeld
                refine wpAnyH_done (by kernel_rfl) ?_ _
                clear hHeld
                try simp only [Act.put]
                go_wp2_with fail
                refine bodyPost_ret (results_ct rfl (ResAt.of rfl HR8.out Try.underlying30 rfl size_id)) rfl ?_
                have hMM := ((HM3.out.trans' (Gou.Mod.drew (fun _ => False) W3)).imp (S' := fun x => x = D ∨ x ∈ F) (fun _ _ h => h.elim)).trans' Hm7.out
                have hM8 := hMM.trans HS8.out (S' := fun k => k = w.heap.size) (fun k hk e => by omega)
                have hbox : ∀ (a2 : Ar) (T2 : Ly) (F3 : List Nat) (vg vl : Value) (cur : Array Value), DoerL base w7 D a2 T2 F3 op vg vl vp vf vb cur → DoerL base _ D a2 T2 F3 op vg vl vp vf vb cur := fun a2 T2 F3 vg vl cur hd => hd.box tI tB HR7.out (by decide) (by have := HDlt.out; omega) (by have := HDlt.out; have := Hge.out; omega) HS8.out
                obtain ⟨vg3, vl3, cur3, F3, h3⟩ := Hs7.out
                refine ⟨hM8, by (rw [Hl.out]; try rfl), fun _ => ?_⟩
                rw [Hl.out]
                rw [HO.out.out] at h3
                exact ⟨_, _, _, _, hbox _ _ _ _ _ _ h3⟩
              · have e2 : (op.kind == 2) = false := beq_eq_false_iff_ne.2 k2
                by_cases k3 : op.kind = 3
                · rw [k3] at c33
                  have Hk := Lib.hid k3
                  clear k3 k2 e2
                  go_upto_region 17 with fail
                  obtain ⟨σ, x, hσ⟩ : ∃ σ x, k.pathOf op.to = none → T2.pathOf op.to = some σ ∧ T2.get? σ = some x ∧ σ.length ≤ 64 ∧ doP checkS s op = if op.at_ < 0 ∨ (x.kids.length : Int) < op.at_ ∨ 64 < σ.length + 1 + k.height then (s, (0, 0), 3) else (⟨s.arena, T2.put σ (.mk x.id x.look (Ly.insAt op.at_ k x.kids))⟩, (0, 0), 0) := by
                    by_cases hto : k.pathOf op.to = none
                    · obtain ⟨σ, x, h⟩ := doP_reparent HI.out checkS op HO.out Hk.out Hst.out Hid1.out hto
                      exact ⟨σ, x, fun _ => h⟩
                    · exact ⟨[], k, fun h => absurd h hto⟩
                  have Hσ := Lib.hid hσ
                  have HT2 : Hid (TFit T2) := Lib.hid (by rw [← HO.out.out]; exact TFit.put (Hft.out.get HO.out.get) Hft.out HO.out.get i)
                  clear hσ
                  have HNr : Hid (W3.rangeAt (w.heap.size + 1) 0 [.int .i64 0, .int .i64 0]) := Lib.hid (Blk.range (pre := []) (post := []) HN3.out (by simp) rfl)
                  have HNn : Hid (¬ ((w.heap.size + 1 = D ∨ w.heap.size + 1 ∈ F) ∨ w.heap.size + 1 = w.heap.size)) := Lib.hid (by rintro (h | h); exact (HRD.out _ h).2 rfl; omega)
                  have HDq := Lib.hid (HD3.out.up (Gou.Mod.drew (fun _ => False) W3))
                  have HRq := Lib.hid (HR3.out.up (Gou.Mod.drew (fun _ => False) W3))
                  refine wp_region_held_drew (S := fun w' => Gou.Mod (fun x => (x = D ∨ x ∈ F) ∨ x = w.heap.size) W3 w') (by kernel_rfl) (Gou.Mod.drew _ _) (fun hHeld => ?_)
                  refine wpAnyH_take (i := 0) (oi := ({ dst := some 86, op := Op.load 30 (Operand.tmp 4), type := 30, pos := "scene.go:295", after := #[], guard := none } : Oper)) (v := .agg #[.int .i64 0, .int .i64 0]) rfl (by kernel_rfl) (by kernel_rfl) (by kernel_rfl) (fun _ _ _ h => h) (yieldsIf_load_mid (by rfl) 30 _ rfl (w.heap.size + 1) (0) rfl ([.int .i64 0, .int .i64 0]) _ (fun w' hSw => range_up HNr.out hSw HNn.out) Try.underlying30 rfl size_id) hHeld ?_
                  try simp only [Act.put, List.setIfInBounds_toArray, List.set_cons_zero, List.set_cons_succ]
                  refine wpAnyH_take (i := 1) (oi := ({ dst := some 87, op := Op.move (Operand.tmp 0), type := 64, pos := "scene.go:295", after := #[], guard := none } : Oper)) (v := .pointer (some ⟨D, 0, none⟩)) rfl (by kernel_rfl) (by kernel_rfl) (by kernel_rfl) (fun _ _ _ h => h) (Or.inl ⟨by rfl, ?_⟩) hHeld ?_
                  · (intro w' hSw; (try dsimp only at hSw); clear hSw hHeld; go_simp; (try with_reducible rfl))
                  try simp only [Act.put, List.setIfInBounds_toArray, List.set_cons_zero, List.set_cons_succ]
                  refine wpAnyH_ready (rs := [2]) (by kernel_rfl) (by simp) (AllReadyH.cons (o := ({ dst := some 88, op := Op.call { callee := Callee.value (Operand.func 30), args := #[Operand.tmp 87], argTypes := #[64] }, type := 49, pos := "scene.go:295", after := #[{ on := 1, ground := Ground.data }], guard := none } : Oper)) rfl (fun K hK => ?_) AllReadyH.nil)
                  go_simp
                  refine (reparent_any base _ D s.arena s.root F op vg vl vp vf vb cur HDq.out (π ++ [i]) π σ i q k x T2 HO.out.out HO.out.path HO.out.geti HO.out.par HO.out.get HO.out.kid Hqk.out (by have := HI.out.deep; omega) (by have := HO.out.kdeep; omega) (by have := HO.out.deep; omega) Hkf.out (fun h => ⟨(Hσ.out h).1, (Hσ.out h).2.1, TFit.len (HT2.out.get (Hσ.out h).2.1), by have := (Hσ.out h).2.2.1; omega⟩)).mono ?_
                  rintro e w7 ⟨hm7, h5, hno⟩
                  have M := Lib.hid (hHeld.trans' (hm7.imp (fun _ _ h => .inl h)))
                  have HR7 := Lib.hid (HRq.out.mod hm7 (fun h => (HRD.out _ h).1 rfl))
                  have Hm7 := Lib.hid hm7
                  obtain ⟨ec, rfl, hcs⟩ : ∃ ec : Int, e = .returned (.int .i64 ec) ∧ ((doP checkS s op = (s, (0, 0), ec) ∧ ¬ ec = 0) ∨ ∃ sn : Sn, doP checkS s op = (sn, (0, 0), 0) ∧ ec = 0 ∧ ∃ vg vl cur F3, DoerL base w7 D sn.arena sn.root F3 op vg vl vp vf vb cur) := by
                    by_cases hto : k.pathOf op.to = none
                    · obtain ⟨hn1, hn2⟩ := hno hto
                      obtain ⟨_, _, _, hd⟩ := Hσ.out hto
                      by_cases hb : op.at_ < 0 ∨ (x.kids.length : Int) < op.at_ ∨ 64 < σ.length + 1 + k.height
                      · exact ⟨3, hn1 hb, .inl ⟨by rw [hd, if_pos hb], by decide⟩⟩
                      · obtain ⟨m, hm⟩ : ∃ m : Nat, op.at_ = m := ⟨op.at_.toNat, by omega⟩
                        obtain ⟨he, hx⟩ := hn2 m hm (by omega) (by omega)
                        exact ⟨0, he, .inr ⟨_, by rw [hd, if_neg hb, Ly.insAt_nat hm _ _ (by omega)], rfl, hx⟩⟩
                    · exact ⟨5, h5 hto, .inl ⟨doP_cycle checkS op HO.out Hk.out Hst.out Hid1.out hto, by decide⟩⟩
                  have Hcs := Lib.hid hcs
                  clear h5 hno hcs
                  clear hHeld
                  refine hK _ _ M.out (fun hHeld => ?_)
                  clear hK K M
                  try simp only [Act.put, List.setIfInBounds_toArray, List.set_cons_zero, List.set_cons_succ]
                  refine wpAnyH_ready (rs := [3]) (by kernel_rfl) (by simp) (AllReadyH.cons (o := ({ dst := none, op := Op.store 30 (Operand.tmp 2) (Operand.tmp 86), type := 0, pos := "scene.go:295", after := #[{ on := 0, ground := Ground.data }, { on := 2, ground := Ground.chain }, { on := 0, ground := Ground.phase }, { on := 1, ground := Ground.textOnly Departure.lateStores }, { on := 2, ground := Ground.textOnly Departure.lateStoresUnsure }], guard := none } : Oper)) rfl (fun K hK => ?_) AllReadyH.nil)
                  rw [if_pos (by rfl)]
                  refine wp_store_mid 30 _ _ rfl w.heap.size 0 #[.int .i64 0, .int .i64 0] rfl rfl (HR7.out.there 0 2 (by simp)) size_id (by simp [Value.oneCell']) ?_
                  have HS8 := Lib.hid (Blk.setMod w7 w.heap.size 0 (#[.int .i64 0, .int .i64 0] : Array Value).toList)
                  have HR8 := Lib.hid (HR7.out.setAll #[.int .i64 0, .int .i64 0] rfl)
                  have M := Lib.hid (hHeld.trans' (HS8.out.imp (fun _ _ h => .inr h)))
                  clear hHeld
                  refine hK _ _ M.out (fun hHeld => ?_)
                  clear hK K M
                  try simp only [Act.put, List.setIfInBounds_toArray, List.set_cons_zero, List.set_cons_succ]
                  refine wpAnyH_take (i := 4) (oi := ({ dst := some 3, op := Op.assign (Operand.tmp 88), type := 49, pos := "scene.go:295", after := #[{ on := 2, ground := Ground.data }, { on := 3, ground := Ground.chain }, { on := 0, ground := Ground.phase }, { on := 1, ground := Ground.phase }, { on := 2, ground := Ground.phase }, { on := 3, ground := Ground.phase }], guard := none } : Oper)) (v := .int .i64 ec) rfl (by kernel_rfl) (by kernel_rfl) (by kernel_rfl) (fun _ _ _ h => h) (Or.inl ⟨by rfl, ?_⟩) hHeld ?_
                  · (intro w' hSw; (try dsimp only at hSw); clear hSw hHeld; go_simp; (try with_reducible rfl))
                  try simp only [Act.put, List.setIfInBounds_toArray, List.set_cons_zero, List.set_cons_succ]
                  have MS := Lib.hid hHeld
                  refine wpAnyH_done (by kernel_rfl) ?_ _
                  clear hHeld
                  try simp only [Act.put]
                  go_wp2_with fail
                  refine bodyPost_ret (results_ct rfl (ResAt.of rfl HR8.out Try.underlying30 rfl size_id)) rfl ?_
                  have hMM := ((HM3.out.trans' (Gou.Mod.drew (fun _ => False) W3)).imp (S' := fun x => x = D ∨ x ∈ F) (fun _ _ h => h.elim)).trans' Hm7.out
                  have hM8 := hMM.trans HS8.out (S' := fun k => k = w.heap.size) (fun k hk e => by omega)
                  have hbox : ∀ (a2 : Ar) (T2 : Ly) (F3 : List Nat) (vg vl : Value) (cur : Array Value), DoerL base w7 D a2 T2 F3 op vg vl vp vf vb cur → DoerL base _ D a2 T2 F3 op vg vl vp vf vb cur := fun a2 T2 F3 vg vl cur hd => hd.box tI tB HR7.out (by decide) (by have := HDlt.out; omega) (by have := HDlt.out; have := Hge.out; omega) HS8.out
                  rcases Hcs.out with ⟨h1, h2⟩ | ⟨sn, h1, h2, h3⟩
                  · exact ⟨hM8, by (rw [h1]; try rfl), fun h => absurd h (by rw [h1]; exact h2)⟩
                  · obtain ⟨vg3, vl3, cur3, F3, h4⟩ := h3
                    refine ⟨hM8, by (rw [h1, h2]; try rfl), fun _ => ?_⟩
                    rw [h1]
                    exact ⟨_, _, _, _, hbox _ _ _ _ _ _ h4⟩
                · have e3 : (op.kind == 3) = false := beq_eq_false_iff_ne.2 k3
                  have Hk : Hid (op.kind = 4) := Lib.hid (by have := Hk5.out; omega)
                  clear k3 k2
                  go_upto_region 18 with fail
                  have HL := Lib.hid (doP_reorder HI.out checkS op HO.out Hk.out Hst.out Hid1.out)
                  have HNr : Hid (W3.rangeAt (w.heap.size + 1) 0 [.int .i64 0, .int .i64 0]) := Lib.hid (Blk.range (pre := []) (post := []) HN3.out (by simp) rfl)
                  have HNn : Hid (¬ ((w.heap.size + 1 = D ∨ w.heap.size + 1 ∈ F) ∨ w.heap.size + 1 = w.heap.size)) := Lib.hid (by rintro (h | h); exact (HRD.out _ h).2 rfl; omega)
                  have HDq := Lib.hid (HD3.out.up (Gou.Mod.drew (fun _ => False) W3))
                  have HRq := Lib.hid (HR3.out.up (Gou.Mod.drew (fun _ => False) W3))
                  refine wp_region_held_drew (S := fun w' => Gou.Mod (fun x => (x = D ∨ x ∈ F) ∨ x = w.heap.size) W3 w') (by kernel_rfl) (Gou.Mod.drew _ _) (fun hHeld => ?_)
                  refine wpAnyH_take (i := 0) (oi := ({ dst := some 89, op := Op.load 30 (Operand.tmp 4), type := 30, pos := "scene.go:297", after := #[], guard := none } : Oper)) (v := .agg #[.int .i64 0, .int .i64 0]) rfl (by kernel_rfl) (by kernel_rfl) (by kernel_rfl) (fun _ _ _ h => h) (yieldsIf_load_mid (by rfl) 30 _ rfl (w.heap.size + 1) (0) rfl ([.int .i64 0, .int .i64 0]) _ (fun w' hSw => range_up HNr.out hSw HNn.out) Try.underlying30 rfl size_id) hHeld ?_
                  try simp only [Act.put, List.setIfInBounds_toArray, List.set_cons_zero, List.set_cons_succ]
                  refine wpAnyH_take (i := 1) (oi := ({ dst := some 90, op := Op.move (Operand.tmp 0), type := 64, pos := "scene.go:297", after := #[], guard := none } : Oper)) (v := .pointer (some ⟨D, 0, none⟩)) rfl (by kernel_rfl) (by kernel_rfl) (by kernel_rfl) (fun _ _ _ h => h) (Or.inl ⟨by rfl, ?_⟩) hHeld ?_
                  · (intro w' hSw; (try dsimp only at hSw); clear hSw hHeld; go_simp; (try with_reducible rfl))
                  try simp only [Act.put, List.setIfInBounds_toArray, List.set_cons_zero, List.set_cons_succ]
                  refine wpAnyH_ready (rs := [2]) (by kernel_rfl) (by simp) (AllReadyH.cons (o := ({ dst := some 91, op := Op.call { callee := Callee.value (Operand.func 31), args := #[Operand.tmp 90], argTypes := #[64] }, type := 49, pos := "scene.go:297", after := #[{ on := 1, ground := Ground.data }], guard := none } : Oper)) rfl (fun K hK => ?_) AllReadyH.nil)
                  go_simp
                  refine (reorder_any base _ D s.arena s.root F op vg vl vp vf vb cur HDq.out π i q k HO.out.par HO.out.get HO.out.kid Hqk.out).mono ?_
                  rintro e w7 ⟨hm7, h5, hno⟩
                  have M := Lib.hid (hHeld.trans' (hm7.imp (fun _ _ h => .inl h)))
                  have HR7 := Lib.hid (HRq.out.mod hm7 (fun h => (HRD.out _ h).1 rfl))
                  have Hm7 := Lib.hid hm7
                  obtain ⟨ec, rfl, hcs⟩ : ∃ ec : Int, e = .returned (.int .i64 ec) ∧ ((doP checkS s op = (s, (0, 0), ec) ∧ ¬ ec = 0) ∨ ∃ sn : Sn, doP checkS s op = (sn, (0, 0), 0) ∧ ec = 0 ∧ ∃ vg vl cur F3, DoerL base w7 D sn.arena sn.root F3 op vg vl vp vf vb cur) := by
                    by_cases hb : op.at_ < 0 ∨ (q.kids.length : Int) ≤ op.at_
                    · exact ⟨3, h5 hb, .inl ⟨by rw [HL.out, if_pos hb], by decide⟩⟩
                    · obtain ⟨m, hm⟩ : ∃ m : Nat, op.at_ = m := ⟨op.at_.toNat, by omega⟩
                      obtain ⟨he, vg3, vl3, cur3, F3, hx⟩ := hno m hm (by omega)
                      have hlen : (q.kids.eraseIdx i).length = q.kids.length - 1 := by rw [List.length_eraseIdx, if_pos (List.getElem?_eq_some_iff.1 HO.out.kid).1]
                      rw [HO.out.out] at hx
                      exact ⟨0, he, .inr ⟨_, by rw [HL.out, if_neg hb, Ly.insAt_nat hm _ _ (by omega)], rfl, vg3, vl3, cur3, F3, hx⟩⟩
                  have Hcs := Lib.hid hcs
                  clear h5 hno hcs
                  clear hHeld
                  refine hK _ _ M.out (fun hHeld => ?_)
                  clear hK K M
                  try simp only [Act.put, List.setIfInBounds_toArray, List.set_cons_zero, List.set_cons_succ]
                  refine wpAnyH_ready (rs := [3]) (by kernel_rfl) (by simp) (AllReadyH.cons (o := ({ dst := none, op := Op.store 30 (Operand.tmp 2) (Operand.tmp 89), type := 0, pos := "scene.go:297", after := #[{ on := 0, ground := Ground.data }, { on := 2, ground := Ground.chain }, { on := 0, ground := Ground.phase }, { on := 1, ground := Ground.textOnly Departure.lateStores }, { on := 2, ground := Ground.textOnly Departure.lateStoresUnsure }], guard := none } : Oper)) rfl (fun K hK => ?_) AllReadyH.nil)
                  rw [if_pos (by rfl)]
                  refine wp_store_mid 30 _ _ rfl w.heap.size 0 #[.int .i64 0, .int .i64 0] rfl rfl (HR7.out.there 0 2 (by simp)) size_id (by simp [Value.oneCell']) ?_
                  have HS8 := Lib.hid (Blk.setMod w7 w.heap.size 0 (#[.int .i64 0, .int .i64 0] : Array Value).toList)
                  have HR8 := Lib.hid (HR7.out.setAll #[.int .i64 0, .int .i64 0] rfl)
                  have M := Lib.hid (hHeld.trans' (HS8.out.imp (fun _ _ h => .inr h)))
                  clear hHeld
                  refine hK _ _ M.out (fun hHeld => ?_)
                  clear hK K M
                  try simp only [Act.put, List.setIfInBounds_toArray, List.set_cons_zero, List.set_cons_succ]
                  refine wpAnyH_take (i := 4) (oi := ({ dst := some 3, op := Op.assign (Operand.tmp 91), type := 49, pos := "scene.go:297", after := #[{ on := 2, ground := Ground.data }, { on := 3, ground := Ground.chain }, { on := 0, ground := Ground.phase }, { on := 1, ground := Ground.phase }, { on := 2, ground := Ground.phase }, { on := 3, ground := Ground.phase }], guard := none } : Oper)) (v := .int .i64 ec) rfl (by kernel_rfl) (by kernel_rfl) (by kernel_rfl) (fun _ _ _ h => h) (Or.inl ⟨by rfl, ?_⟩) hHeld ?_
                  · (intro w' hSw; (try dsimp only at hSw); clear hSw hHeld; go_simp; (try with_reducible rfl))
                  try simp only [Act.put, List.setIfInBounds_toArray, List.set_cons_zero, List.set_cons_succ]
                  have MS := Lib.hid hHeld
                  refine wpAnyH_done (by kernel_rfl) ?_ _
                  clear hHeld
                  try simp only [Act.put]
                  go_wp2_with fail
                  refine bodyPost_ret (results_ct rfl (ResAt.of rfl HR8.out Try.underlying30 rfl size_id)) rfl ?_
                  have hMM := ((HM3.out.trans' (Gou.Mod.drew (fun _ => False) W3)).imp (S' := fun x => x = D ∨ x ∈ F) (fun _ _ h => h.elim)).trans' Hm7.out
                  have hM8 := hMM.trans HS8.out (S' := fun k => k = w.heap.size) (fun k hk e => by omega)
                  have hbox : ∀ (a2 : Ar) (T2 : Ly) (F3 : List Nat) (vg vl : Value) (cur : Array Value), DoerL base w7 D a2 T2 F3 op vg vl vp vf vb cur → DoerL base _ D a2 T2 F3 op vg vl vp vf vb cur := fun a2 T2 F3 vg vl cur hd => hd.box tI tB HR7.out (by decide) (by have := HDlt.out; omega) (by have := HDlt.out; have := Hge.out; omega) HS8.out
                  rcases Hcs.out with ⟨h1, h2⟩ | ⟨sn, h1, h2, h3⟩
                  · exact ⟨hM8, by (rw [h1]; try rfl), fun h => absurd h (by rw [h1]; exact h2)⟩
                  · obtain ⟨vg3, vl3, cur3, F3, h4⟩ := h3
                    refine ⟨hM8, by (rw [h1, h2]; try rfl), fun _ => ?_⟩
                    rw [h1]
                    exact ⟨_, _, _, _, hbox _ _ _ _ _ _ h4⟩
      · have Hl := Lib.hid (doP_stale checkS s op HK.out.1 HK.out.2 hst)
        clear hst
        go_wp2_with fail
        have hR := ((HR2.out.set 0 (.int .i64 0)).set 1 (.int .i64 0))
        have hS := (Gou.Mod.set1 w2 w.heap.size 0 (.int .i64 0)).trans' (Gou.Mod.set1 _ w.heap.size 1 (.int .i64 0))
        refine bodyPost_ret (results_ct rfl (ResAt.of rfl hR Try.underlying30 rfl size_id)) rfl ?_
        exact ⟨(HM2.out.trans hS (fun k hk e => by omega)).imp (fun _ _ h => h.elim), by (rw [Hl.out]; try rfl), fun h => absurd h (by rw [Hl.out]; show ¬ ((4 : Int) = 0); decide)⟩

end Go.Proofs.Ytpbmfalokongfaa

/- Scenes as values: the code's whole, New and Do. -/
namespace Go.Gou
open Go.RowKit
set_option linter.constructorNameAsVariable false
/-- The cells of a scene, and of a doer. -/
def scA (vg vl : Value) (i : Idt) (l : Lk) (vp vf vb vk : Value) : Array Value :=
  List.toArray (vg :: vl :: Value.int .i64 i.1 :: Value.int .i64 i.2 :: Value.int .i64 l.dx :: Value.int .i64 l.dy :: Value.bool l.hasClip :: Value.int .i64 l.clip.x0 :: Value.int .i64 l.clip.y0 :: Value.int .i64 l.clip.x1 :: Value.int .i64 l.clip.y1 :: Value.int .i64 l.opacity :: Value.int .i64 l.mode :: Value.int .i64 l.content.kind :: Value.int .i64 l.content.box.x0 :: Value.int .i64 l.content.box.y0 :: Value.int .i64 l.content.box.x1 :: Value.int .i64 l.content.box.y1 :: Value.int .u8 (l.content.px.p0 : Nat) :: Value.int .u8 (l.content.px.p1 : Nat) :: Value.int .u8 (l.content.px.p2 : Nat) :: Value.int .u8 (l.content.px.p3 : Nat) :: Value.int .i64 l.content.w :: Value.int .i64 l.content.h :: Value.int .i64 l.content.turn :: vp :: Value.bool l.hasFilt :: vf :: Value.int .i64 l.filt.out :: Value.bool l.hasBack :: vb :: Value.int .i64 l.back.out :: vk :: [])
def doA (vg vl : Value) (i : Idt) (l : Lk) (vp vf vb vk : Value) (o : Opr) (wp wf wb : Value) : Array Value :=
  List.toArray (vg :: vl :: Value.int .i64 i.1 :: Value.int .i64 i.2 :: Value.int .i64 l.dx :: Value.int .i64 l.dy :: Value.bool l.hasClip :: Value.int .i64 l.clip.x0 :: Value.int .i64 l.clip.y0 :: Value.int .i64 l.clip.x1 :: Value.int .i64 l.clip.y1 :: Value.int .i64 l.opacity :: Value.int .i64 l.mode :: Value.int .i64 l.content.kind :: Value.int .i64 l.content.box.x0 :: Value.int .i64 l.content.box.y0 :: Value.int .i64 l.content.box.x1 :: Value.int .i64 l.content.box.y1 :: Value.int .u8 (l.content.px.p0 : Nat) :: Value.int .u8 (l.content.px.p1 : Nat) :: Value.int .u8 (l.content.px.p2 : Nat) :: Value.int .u8 (l.content.px.p3 : Nat) :: Value.int .i64 l.content.w :: Value.int .i64 l.content.h :: Value.int .i64 l.content.turn :: vp :: Value.bool l.hasFilt :: vf :: Value.int .i64 l.filt.out :: Value.bool l.hasBack :: vb :: Value.int .i64 l.back.out :: vk :: Value.int .i64 o.kind :: Value.int .i64 o.id.1 :: Value.int .i64 o.id.2 :: Value.int .i64 o.to.1 :: Value.int .i64 o.to.2 :: Value.int .i64 o.at_ :: Value.int .i64 o.look.dx :: Value.int .i64 o.look.dy :: Value.bool o.look.hasClip :: Value.int .i64 o.look.clip.x0 :: Value.int .i64 o.look.clip.y0 :: Value.int .i64 o.look.clip.x1 :: Value.int .i64 o.look.clip.y1 :: Value.int .i64 o.look.opacity :: Value.int .i64 o.look.mode :: Value.int .i64 o.look.content.kind :: Value.int .i64 o.look.content.box.x0 :: Value.int .i64 o.look.content.box.y0 :: Value.int .i64 o.look.content.box.x1 :: Value.int .i64 o.look.content.box.y1 :: Value.int .u8 (o.look.content.px.p0 : Nat) :: Value.int .u8 (o.look.content.px.p1 : Nat) :: Value.int .u8 (o.look.content.px.p2 : Nat) :: Value.int .u8 (o.look.content.px.p3 : Nat) :: Value.int .i64 o.look.content.w :: Value.int .i64 o.look.content.h :: Value.int .i64 o.look.content.turn :: wp :: Value.bool o.look.hasFilt :: wf :: Value.int .i64 o.look.filt.out :: Value.bool o.look.hasBack :: wb :: Value.int .i64 o.look.back.out :: [])
theorem scA_list (vg vl : Value) (i : Idt) (l : Lk) (vp vf vb vk : Value) : (scA vg vl i l vp vf vb vk).toList = [vg, vl] ++ (lyA i l vp vf vb vk).toList := rfl
theorem doA_list (vg vl : Value) (i : Idt) (l : Lk) (vp vf vb vk : Value) (o : Opr) (wp wf wb : Value) : (doA vg vl i l vp vf vb vk o wp wf wb).toList = (scA vg vl i l vp vf vb vk).toList ++ (oprC o wp wf wb).toList := rfl
/-- An arena that reads so, in blocks that are good. -/
structure ArG (G : Nat → Prop) (w : World) (vg vl : Value) (a : Ar) : Prop where
  g : RowG G w 1 vg a.gens.length (ivs a.gens)
  l : RowG G w 1 vl a.live.length (bvs a.live)
theorem ArG.reads {G : Nat → Prop} {w : World} {vg vl : Value} {a : Ar} (h : ArG G w vg vl a) : ArR w vg vl a := ⟨h.g.imp (fun _ _ _ => trivial), h.l.imp (fun _ _ _ => trivial)⟩
/-- A value that reads as a scene. -/
def SnR (G : Nat → Prop) (w : World) (v : Value) (s : Sn) : Prop := ∃ vg vl vp vf vb vk, v = .agg (scA vg vl s.root.id s.root.look vp vf vb vk) ∧ ArG G w vg vl s.arena ∧ LyR G w (lyA s.root.id s.root.look vp vf vb vk).toList s.root
theorem SnR.mod {G S : Nat → Prop} {w w' : World} {v : Value} {s : Sn} (h : SnR G w v s) (hm : Mod S w w') (hS : ∀ k, k < w.heap.size → G k → ¬ S k) : SnR G w' v s := by
  obtain ⟨vg, vl, vp, vf, vb, vk, h1, h2, h3⟩ := h
  exact ⟨vg, vl, vp, vf, vb, vk, h1, ⟨RowG.mod h2.g hm hS, RowG.mod h2.l hm hS⟩, h3.mod hm hS⟩
theorem SnR.imp {G G' : Nat → Prop} {w : World} {v : Value} {s : Sn} (h : SnR G w v s) (hG : ∀ k, k < w.heap.size → G k → G' k) : SnR G' w v s := by
  obtain ⟨vg, vl, vp, vf, vb, vk, h1, h2, h3⟩ := h
  exact ⟨vg, vl, vp, vf, vb, vk, h1, ⟨RowG.imp h2.g hG, RowG.imp h2.l hG⟩, h3.imp hG⟩
theorem SnR.up {G : Nat → Prop} {w w' : World} {v : Value} {s : Sn} (h : SnR G w v s) (hm : Mod (fun _ => False) w w') : SnR G w' v s := h.mod hm (fun _ _ _ h => h)
/-- Bounds of a scene. -/
structure SnFit (s : Sn) : Prop where
  root : TFit s.root
  g : s.arena.gens.length ≤ 1000000
  l : s.arena.live.length ≤ 1000000
theorem four_new (w : World) (T U V X : TypeId) (cs ds es gs : Array Value) : Blk ((((w.alloc (.cells cs T)).alloc (.cells ds U)).alloc (.cells es V)).alloc (.cells gs X)) w.heap.size T cs ∧ Blk ((((w.alloc (.cells cs T)).alloc (.cells ds U)).alloc (.cells es V)).alloc (.cells gs X)) (w.heap.size + 1) U ds ∧
    Blk ((((w.alloc (.cells cs T)).alloc (.cells ds U)).alloc (.cells es V)).alloc (.cells gs X)) (w.heap.size + 1 + 1) V es ∧ Blk ((((w.alloc (.cells cs T)).alloc (.cells ds U)).alloc (.cells es V)).alloc (.cells gs X)) (w.heap.size + 1 + 1 + 1) X gs ∧
    Mod (fun _ => False) w ((((w.alloc (.cells cs T)).alloc (.cells ds U)).alloc (.cells es V)).alloc (.cells gs X)) := by
  obtain ⟨a0, a1, am⟩ := two_new w T U cs ds
  obtain ⟨b0, b1, bm⟩ := two_new ((w.alloc (.cells cs T)).alloc (.cells ds U)) V X es gs
  have e : ((w.alloc (.cells cs T)).alloc (.cells ds U)).heap.size = w.heap.size + 1 + 1 := by simp
  rw [e] at b0 b1
  exact ⟨a0.up bm, a1.up bm, b0, b1, am.trans' bm⟩
theorem doP_err (check : Gr → Int) (s : Sn) (o : Opr) (h : (doP check s o).2.2 ≠ 0) : (doP check s o).1 = s ∧ (doP check s o).2.1 = (0, 0) := by
  revert h
  unfold doP
  repeat' (first | split | (intro h; first | exact ⟨rfl, rfl⟩ | exact absurd rfl h))
  all_goals (simp only; repeat' (first | split | (intro h; first | exact ⟨rfl, rfl⟩ | exact absurd rfl h)))
end Go.Gou
namespace Go.Proofs.Ytpbmfalokongfaa
open Go.RowKit Go.Gou
set_option maxRecDepth 100000
set_option linter.constructorNameAsVariable false
theorem size_doer : (Try.prog.info? 67).map (·.size) = some 67 := by kernel_rfl
/-- A scene of the call's own. -/
def SnO (base : Nat) (w : World) (v : Value) (s : Sn) : Prop := ∃ vg vl vp vf vb vk F, v = .agg (scA vg vl s.root.id s.root.look vp vf vb vk) ∧ ArL base w vg vl s.arena ∧ LyO 45 67 base w (lyA s.root.id s.root.look vp vf vb vk).toList s.root F
theorem SnO.reads {base : Nat} {w : World} {v : Value} {s : Sn} (h : SnO base w v s) : SnR (fun b => base ≤ b) w v s := by
  obtain ⟨vg, vl, vp, vf, vb, vk, F, h1, h2, h3⟩ := h
  exact ⟨vg, vl, vp, vf, vb, vk, h1, ⟨RowG.of_own h2.g, RowG.of_own h2.l⟩, h3.reads⟩
theorem SnO.up {base : Nat} {w w' : World} {v : Value} {s : Sn} (h : SnO base w v s) (hm : Gou.Mod (fun _ => False) w w') : SnO base w' v s := by
  obtain ⟨vg, vl, vp, vf, vb, vk, F, h1, h2, h3⟩ := h
  exact ⟨vg, vl, vp, vf, vb, vk, F, h1, h2.up hm, h3.up hm⟩
theorem SnO.low {base base' : Nat} {w : World} {v : Value} {s : Sn} (h : SnO base w v s) (hb : base' ≤ base) : SnO base' w v s := by
  obtain ⟨vg, vl, vp, vf, vb, vk, F, h1, h2, h3⟩ := h
  exact ⟨vg, vl, vp, vf, vb, vk, F, h1, ⟨ownsRow_base h2.g hb, ownsRow_base h2.l hb⟩, h3.low hb⟩
/-- A box of the call's own turns: a scene does not. -/
theorem SnO.box {base : Nat} {w w' : World} {v : Value} {s : Sn} (h : SnO base w v s) {k : Nat} {U : TypeId} {cs : Array Value} (hk : Blk w k U cs) (hU : U ≠ 45 ∧ ¬ RowTy U) (hm : Gou.Mod (fun x => x = k) w w') : SnO base w' v s := by
  obtain ⟨vg, vl, vp, vf, vb, vk, F, h1, h2, h3⟩ := h
  refine ⟨vg, vl, vp, vf, vb, vk, F, h1, ⟨ownsRow_mod h2.g hm (fun x hx e => ?_), ownsRow_mod h2.l hm (fun x hx e => ?_)⟩, h3.mod hm (fun x hx e => ?_) (fun x _ hl e => ?_)⟩
  · exact own_blk_ne h2.g hk (by intro e; exact hU.2 (.inl e.symm)) (by rw [hx, e])
  · exact own_blk_ne h2.l hk (by intro e; exact hU.2 (.inr (.inl e.symm))) (by rw [hx, e])
  · obtain ⟨_, _, cu, g2⟩ := h3.rows x hx
    subst e
    exact hU.1 (Blk.ty hk g2)
  · obtain ⟨cu, T', g1, _, _, hT⟩ := hl
    subst e
    exact hU.2 (Blk.ty hk g1 ▸ hT)
theorem scA_one {vg vl : Value} {i : Idt} {l : Lk} {vp vf vb vk : Value} (h0 : vg.oneCell' = true) (h1 : vl.oneCell' = true) (h : ∀ d ∈ (lyA i l vp vf vb vk).toList, d.oneCell' = true) : (scA vg vl i l vp vf vb vk).all (·.oneCell') = true := all_one (fun d hd => by
  rw [scA_list] at hd
  rcases List.mem_append.1 hd with hd | hd
  · simp at hd
    rcases hd with rfl | rfl
    · exact h0
    · exact h1
  · exact h d hd)

/-- What whole hands back. -/
def WholeP (w : World) (s : Sn) (e : Ending) (w' : World) : Prop := ∃ v', e = .returned v' ∧ SnO w.heap.size w' v' s ∧ Gou.Mod (fun _ => False) w w'

set_option maxHeartbeats 8000000 in
theorem whole_any (w : World) (v : Value) (s : Sn) (h : SnR (fun _ => True) w v s) (hf : SnFit s) : Calls Try.prog 18 #[v] w (WholeP w s) := by
  obtain ⟨vg, vl, vp, vf, vb, vk, rfl, har, hly⟩ := h
  obtain ⟨pg, cg, rfl⟩ := RowG.slice har.g
  obtain ⟨pl, cl, rfl⟩ := RowG.slice har.l
  have Har := Lib.hid har
  have Hly := Lib.hid hly
  have Hf := Lib.hid hf
  clear har hly hf
  obtain ⟨b0, b1, bm⟩ := two_new w 47 47 (scA (.slice pg s.arena.gens.length cg) (.slice pl s.arena.live.length cl) s.root.id s.root.look vp vf vb vk) (scA (.slice none 0 0) (.slice none 0 0) (0, 0) Lk.zero (.slice none 0 0) (.slice none 0 0) (.slice none 0 0) (.slice none 0 0))
  have HB := Lib.hid b0
  have HR := Lib.hid b1
  have HM := Lib.hid bm
  clear b0 b1 bm
  go_enter Try.func18, Try.ntmps18
  go_upto_region 1 with fail
  show Code.wp _ _ _ _ ((w.alloc (.cells (scA (.slice pg s.arena.gens.length cg) (.slice pl s.arena.live.length cl) s.root.id s.root.look vp vf vb vk) 47)).alloc (.cells (scA (.slice none 0 0) (.slice none 0 0) (0, 0) Lk.zero (.slice none 0 0) (.slice none 0 0) (.slice none 0 0) (.slice none 0 0)) 47))
  generalize (w.alloc (.cells (scA (.slice pg s.arena.gens.length cg) (.slice pl s.arena.live.length cl) s.root.id s.root.look vp vf vb vk) 47)).alloc (.cells (scA (.slice none 0 0) (.slice none 0 0) (0, 0) Lk.zero (.slice none 0 0) (.slice none 0 0) (.slice none 0 0) (.slice none 0 0)) 47) = W1 at *
  have c0 : W1.cell? ⟨w.heap.size, 0, none⟩ = some (.slice pg s.arena.gens.length cg) := HB.out.cell 0 rfl
  have c1 : W1.cell? ⟨w.heap.size, 1, none⟩ = some (.slice pl s.arena.live.length cl) := HB.out.cell 1 rfl
  have HLr : Hid (W1.rangeAt w.heap.size 2 (lyA s.root.id s.root.look vp vf vb vk).toList) := Lib.hid (Blk.range (pre := [.slice pg s.arena.gens.length cg, .slice pl s.arena.live.length cl]) (post := []) HB.out (by rw [List.append_nil]; exact scA_list _ _ _ _ _ _ _ _) rfl)
  refine wp_region_defer (S := fun w' => Gou.Mod (fun _ => False) W1 w') 13 ({ dst := none, op := Op.store 47 (Operand.tmp 2) (Operand.tmp 15), type := 0, pos := "scene.go:302", after := #[{ on := 12, ground := Ground.data }, { on := 11, ground := Ground.chain }, { on := 0, ground := Ground.phase }, { on := 1, ground := Ground.phase }, { on := 2, ground := Ground.phase }, { on := 3, ground := Ground.phase }, { on := 4, ground := Ground.phase }, { on := 5, ground := Ground.phase }, { on := 6, ground := Ground.phase }, { on := 7, ground := Ground.phase }, { on := 8, ground := Ground.phase }, { on := 9, ground := Ground.phase }, { on := 10, ground := Ground.phase }, { on := 11, ground := Ground.phase }, { on := 12, ground := Ground.phase }], guard := none } : Oper) rfl (by kernel_rfl) rfl rfl (by kernel_rfl) (by kernel_rfl) (Gou.Mod.drew _ _) (fun hHeld => ?_)
  refine wpAnyH_take (i := 0) (oi := ({ dst := some 3, op := Op.fieldAddr 47 (Operand.tmp 1) 0, type := 0, pos := "scene.go:302", after := #[], guard := none } : Oper)) (v := .pointer (some ⟨w.heap.size, 0, none⟩)) rfl (by kernel_rfl) (by kernel_rfl) (by kernel_rfl) (fun _ _ _ h => h) (Or.inl ⟨by rfl, ?_⟩) hHeld ?_
  · (intro w' hSw; (try dsimp only at hSw); clear hSw hHeld; go_simp; (try with_reducible rfl))
  try simp only [Act.put, List.setIfInBounds_toArray, List.set_cons_zero, List.set_cons_succ]
  refine wpAnyH_take (i := 1) (oi := ({ dst := some 4, op := Op.fieldAddr 28 (Operand.tmp 3) 0, type := 0, pos := "scene.go:302", after := #[{ on := 0, ground := Ground.data }], guard := none } : Oper)) (v := .pointer (some ⟨w.heap.size, 0, none⟩)) rfl (by kernel_rfl) (by kernel_rfl) (by kernel_rfl) (fun _ _ _ h => h) (Or.inl ⟨by rfl, ?_⟩) hHeld ?_
  · (intro w' hSw; (try dsimp only at hSw); clear hSw hHeld; go_simp; (try with_reducible rfl))
  try simp only [Act.put, List.setIfInBounds_toArray, List.set_cons_zero, List.set_cons_succ]
  refine wpAnyH_take (i := 2) (oi := ({ dst := some 5, op := Op.load 25 (Operand.tmp 4), type := 25, pos := "scene.go:302", after := #[{ on := 1, ground := Ground.data }], guard := none } : Oper)) (v := .slice pg s.arena.gens.length cg) rfl (by kernel_rfl) (by kernel_rfl) (by kernel_rfl) (fun _ _ _ h => h) (Or.inl ⟨by rfl, ?_⟩) hHeld ?_
  · (intro w' hSw; (try dsimp only at hSw); have g := (hSw.cell (p := ⟨w.heap.size, 0, none⟩) (World.block_lt_of_cell? _ _ c0) (fun h => h)).trans c0; clear hSw hHeld; go_simp; (try with_reducible rfl))
  try simp only [Act.put, List.setIfInBounds_toArray, List.set_cons_zero, List.set_cons_succ]
  refine wpAnyH_take (i := 4) (oi := ({ dst := some 7, op := Op.fieldAddr 47 (Operand.tmp 1) 0, type := 0, pos := "scene.go:302", after := #[], guard := none } : Oper)) (v := .pointer (some ⟨w.heap.size, 0, none⟩)) rfl (by kernel_rfl) (by kernel_rfl) (by kernel_rfl) (fun _ _ _ h => h) (Or.inl ⟨by rfl, ?_⟩) hHeld ?_
  · (intro w' hSw; (try dsimp only at hSw); clear hSw hHeld; go_simp; (try with_reducible rfl))
  try simp only [Act.put, List.setIfInBounds_toArray, List.set_cons_zero, List.set_cons_succ]
  refine wpAnyH_take (i := 5) (oi := ({ dst := some 8, op := Op.fieldAddr 28 (Operand.tmp 7) 1, type := 0, pos := "scene.go:302", after := #[{ on := 4, ground := Ground.data }], guard := none } : Oper)) (v := .pointer (some ⟨w.heap.size, 1, none⟩)) rfl (by kernel_rfl) (by kernel_rfl) (by kernel_rfl) (fun _ _ _ h => h) (Or.inl ⟨by rfl, ?_⟩) hHeld ?_
  · (intro w' hSw; (try dsimp only at hSw); clear hSw hHeld; go_simp; (try with_reducible rfl))
  try simp only [Act.put, List.setIfInBounds_toArray, List.set_cons_zero, List.set_cons_succ]
  refine wpAnyH_take (i := 6) (oi := ({ dst := some 9, op := Op.load 26 (Operand.tmp 8), type := 26, pos := "scene.go:302", after := #[{ on := 5, ground := Ground.data }], guard := none } : Oper)) (v := .slice pl s.arena.live.length cl) rfl (by kernel_rfl) (by kernel_rfl) (by kernel_rfl) (fun _ _ _ h => h) (Or.inl ⟨by rfl, ?_⟩) hHeld ?_
  · (intro w' hSw; (try dsimp only at hSw); have g := (hSw.cell (p := ⟨w.heap.size, 1, none⟩) (World.block_lt_of_cell? _ _ c1) (fun h => h)).trans c1; clear hSw hHeld; go_simp; (try with_reducible rfl))
  try simp only [Act.put, List.setIfInBounds_toArray, List.set_cons_zero, List.set_cons_succ]
  refine wpAnyH_take (i := 9) (oi := ({ dst := some 12, op := Op.fieldAddr 47 (Operand.tmp 1) 1, type := 0, pos := "scene.go:302", after := #[], guard := none } : Oper)) (v := .pointer (some ⟨w.heap.size, 2, none⟩)) rfl (by kernel_rfl) (by kernel_rfl) (by kernel_rfl) (fun _ _ _ h => h) (Or.inl ⟨by rfl, ?_⟩) hHeld ?_
  · (intro w' hSw; (try dsimp only at hSw); clear hSw hHeld; go_simp; (try with_reducible rfl))
  try simp only [Act.put, List.setIfInBounds_toArray, List.set_cons_zero, List.set_cons_succ]
  refine wpAnyH_take (i := 10) (oi := ({ dst := some 13, op := Op.load 45 (Operand.tmp 12), type := 45, pos := "scene.go:302", after := #[{ on := 9, ground := Ground.data }], guard := none } : Oper)) (v := .agg (lyA s.root.id s.root.look vp vf vb vk)) rfl (by kernel_rfl) (by kernel_rfl) (by kernel_rfl) (fun _ _ _ h => h) (yieldsIf_load_mid (by rfl) 45 _ rfl w.heap.size (2) rfl ((lyA s.root.id s.root.look vp vf vb vk).toList) _ (fun w' hSw => range_up HLr.out hSw (fun h => h)) Try.underlying45 rfl size_layer) hHeld ?_
  try simp only [Act.put, List.setIfInBounds_toArray, List.set_cons_zero, List.set_cons_succ]
  refine wpAnyH_ready (rs := [3]) (by kernel_rfl) (by simp) (AllReadyH.cons (o := ({ dst := some 6, op := Op.call { callee := Callee.value (Operand.func 24), args := #[Operand.tmp 5], argTypes := #[25] }, type := 25, pos := "scene.go:302", after := #[{ on := 2, ground := Ground.data }], guard := none } : Oper)) rfl (fun K hK => ?_) AllReadyH.nil)
  go_simp
  refine (cloneInt_any _ pg s.arena.gens.length cg (ivs s.arena.gens) (fun _ => True) (RowG.mod Har.out.g (HM.out.trans' hHeld) (fun _ _ _ h => h)) (ivs_one _) (by have := Hf.out.g; omega)).mono ?_
  rintro e w4 ⟨p4, c4, rfl, ho4, hm4⟩
  have M := Lib.hid (hHeld.trans' hm4)
  have Ho4 := Lib.hid ho4
  clear hHeld ho4 hm4
  refine hK _ _ M.out (fun hHeld => ?_)
  clear hK K M
  try simp only [Act.put, List.setIfInBounds_toArray, List.set_cons_zero, List.set_cons_succ]
  refine wpAnyH_ready (rs := [7]) (by kernel_rfl) (by simp) (AllReadyH.cons (o := ({ dst := some 10, op := Op.call { callee := Callee.value (Operand.func 25), args := #[Operand.tmp 9], argTypes := #[26] }, type := 26, pos := "scene.go:302", after := #[{ on := 6, ground := Ground.data }, { on := 3, ground := Ground.chain }], guard := none } : Oper)) rfl (fun K hK => ?_) AllReadyH.nil)
  go_simp
  refine (cloneBool_any _ pl s.arena.live.length cl (bvs s.arena.live) (fun _ => True) (RowG.mod Har.out.l (HM.out.trans' hHeld) (fun _ _ _ h => h)) (bvs_one _) (by have := Hf.out.l; omega)).mono ?_
  rintro e w5 ⟨p5, c5, rfl, ho5, hm5⟩
  have M := Lib.hid (hHeld.trans' hm5)
  have Ho5 := Lib.hid ho5
  have Ho4b := Lib.hid (own_up Ho4.out hm5)
  have Hz5 := Lib.hid hHeld.size
  clear hHeld ho5 hm5 Ho4
  refine hK _ _ M.out (fun hHeld => ?_)
  clear hK K M
  try simp only [Act.put, List.setIfInBounds_toArray, List.set_cons_zero, List.set_cons_succ]
  refine wpAnyH_take (i := 8) (oi := ({ dst := some 11, op := Op.build 28 #[(0, Operand.tmp 6), (1, Operand.tmp 10)], type := 28, pos := "scene.go:302", after := #[{ on := 3, ground := Ground.data }, { on := 7, ground := Ground.data }], guard := none } : Oper)) (v := .agg #[.slice p4 s.arena.gens.length c4, .slice p5 s.arena.live.length c5]) rfl (by kernel_rfl) (by kernel_rfl) (by kernel_rfl) (fun _ _ _ h => h) (Or.inl ⟨by rfl, ?_⟩) hHeld ?_
  · (intro w' hSw; (try dsimp only at hSw); clear hSw hHeld; go_simp; (try with_reducible rfl))
  try simp only [Act.put, List.setIfInBounds_toArray, List.set_cons_zero, List.set_cons_succ]
  refine wpAnyH_ready (rs := [11]) (by kernel_rfl) (by simp) (AllReadyH.cons (o := ({ dst := some 14, op := Op.call { callee := Callee.value (Operand.func 23), args := #[Operand.tmp 13], argTypes := #[45] }, type := 45, pos := "scene.go:302", after := #[{ on := 10, ground := Ground.data }, { on := 7, ground := Ground.chain }], guard := none } : Oper)) rfl (fun K hK => ?_) AllReadyH.nil)
  go_simp
  refine (copied_any s.root _ vp vf vb vk (Hly.out.mod (HM.out.trans' hHeld) (fun _ _ _ h => h)) Hf.out.root).mono ?_
  rintro e w6 ⟨vp6, vf6, vb6, vk6, F6, rfl, ho6, hm6⟩
  have M := Lib.hid (hHeld.trans' hm6)
  have Ho6 := Lib.hid ho6
  have Ho4c := Lib.hid (own_up Ho4b.out hm6)
  have Ho5c := Lib.hid (own_up Ho5.out hm6)
  have Hz6 := Lib.hid hHeld.size
  clear hHeld ho6 hm6 Ho4b Ho5
  refine hK _ _ M.out (fun hHeld => ?_)
  clear hK K M
  try simp only [Act.put, List.setIfInBounds_toArray, List.set_cons_zero, List.set_cons_succ]
  refine wpAnyH_take (i := 12) (oi := ({ dst := some 15, op := Op.build 47 #[(0, Operand.tmp 11), (1, Operand.tmp 14)], type := 47, pos := "scene.go:302", after := #[{ on := 8, ground := Ground.data }, { on := 11, ground := Ground.data }], guard := none } : Oper)) (v := .agg (scA (.slice p4 s.arena.gens.length c4) (.slice p5 s.arena.live.length c5) s.root.id s.root.look vp6 vf6 vb6 vk6)) rfl (by kernel_rfl) (by kernel_rfl) (by kernel_rfl) (fun _ _ _ h => h) (Or.inl ⟨by rfl, fun w' hSw => by kernel_rfl⟩) hHeld ?_
  try simp only [Act.put, List.setIfInBounds_toArray, List.set_cons_zero, List.set_cons_succ]
  refine wpAnyH_take (i := 13) (oi := ({ dst := none, op := Op.assign (Operand.const (Value.bool true)), type := 0, pos := "scene.go:302", after := #[{ on := 12, ground := Ground.data }, { on := 11, ground := Ground.chain }, { on := 0, ground := Ground.phase }, { on := 1, ground := Ground.phase }, { on := 2, ground := Ground.phase }, { on := 3, ground := Ground.phase }, { on := 4, ground := Ground.phase }, { on := 5, ground := Ground.phase }, { on := 6, ground := Ground.phase }, { on := 7, ground := Ground.phase }, { on := 8, ground := Ground.phase }, { on := 9, ground := Ground.phase }, { on := 10, ground := Ground.phase }, { on := 11, ground := Ground.phase }, { on := 12, ground := Ground.phase }], guard := none } : Oper)) (v := .bool true) rfl (by kernel_rfl) (by kernel_rfl) (by kernel_rfl) (fun _ _ _ h => h) (Or.inl ⟨by rfl, ?_⟩) hHeld ?_
  · (intro w' hSw; clear hSw hHeld; go_simp; (try with_reducible rfl))
  try simp only [Act.put, List.setIfInBounds_toArray, List.set_cons_zero, List.set_cons_succ]
  have MS := Lib.hid hHeld
  refine wpAnyH_done (by kernel_rfl) ?_ _
  clear hHeld
  show Oper.wp _ _ _ _ _ _
  refine wp_store_mid 47 _ _ rfl (w.heap.size + 1) 0 (scA (.slice p4 s.arena.gens.length c4) (.slice p5 s.arena.live.length c5) s.root.id s.root.look vp6 vf6 vb6 vk6) rfl rfl ((HR.out.up MS.out).there 0 33 (by simp [scA])) size_scene (scA_one rfl rfl (LyO.one Ho6.out)) ?_
  have HS := Lib.hid (Blk.setMod w6 (w.heap.size + 1) 0 (scA (.slice p4 s.arena.gens.length c4) (.slice p5 s.arena.live.length c5) s.root.id s.root.look vp6 vf6 vb6 vk6).toList)
  have HR2 := Lib.hid ((HR.out.up MS.out).setAll (scA (.slice p4 s.arena.gens.length c4) (.slice p5 s.arena.live.length c5) s.root.id s.root.look vp6 vf6 vb6 vk6) rfl)
  have HM2 := Lib.hid ((HM.out.trans' MS.out).trans HS.out (fun k hk e => by omega))
  have hsn : SnO w.heap.size w6 (.agg (scA (.slice p4 s.arena.gens.length c4) (.slice p5 s.arena.live.length c5) s.root.id s.root.look vp6 vf6 vb6 vk6)) s := ⟨_, _, _, _, _, _, F6, rfl, ⟨ownsRow_base Ho4c.out HM.out.size, ownsRow_base Ho5c.out (Nat.le_trans HM.out.size Hz5.out)⟩, Ho6.out.low (Nat.le_trans HM.out.size Hz6.out)⟩
  have HSN := Lib.hid (hsn.box (HR.out.up MS.out) (by decide) HS.out)
  clear hsn
  generalize w6.setCells (w.heap.size + 1) 0 (scA (.slice p4 s.arena.gens.length c4) (.slice p5 s.arena.live.length c5) s.root.id s.root.look vp6 vf6 vb6 vk6).toList = W2 at *
  try simp only [Act.put]
  go_wp2_with fail
  refine bodyPost_ret (results_cell_row rfl _ _ (w.heap.size + 1) 47 (scA (.slice p4 s.arena.gens.length c4) (.slice p5 s.arena.live.length c5) s.root.id s.root.look vp6 vf6 vb6 vk6) (0, 0) _ rfl HR2.out Try.underlying47 rfl size_scene) rfl ?_
  exact ⟨_, rfl, HSN.out, HM2.out⟩
end Go.Proofs.Ytpbmfalokongfaa

/- Scenes: the code's New and Do. -/
namespace Go.Gou
open Go Go.RowKit
theorem wpList_val {P : Program} {ops : Array Oper} {rest : List Oper} {o : Oper} {a : Act} {w : World} {Q : Exit → Act → World → Prop} (hg : o.guard = none) (v : Value) (hr : (execOp a.eval o).run P w = .ok (.value v) w) (h : wpList P ops Q rest (a.put o.dst v) w) : wpList P ops Q (o :: rest) a w :=
  wpList_plain hg fun K hK => by unfold Oper.wp; rw [hr]; exact hK _ _ h
theorem oprC_one {o : Opr} {p1 p2 p3 : Option Addr} {n1 n2 n3 c1 c2 c3 : Nat} : ∀ d ∈ (oprC o (.slice p1 n1 c1) (.slice p2 n2 c2) (.slice p3 n3 c3)).toList, d.oneCell' = true := by
  simp [oprC, Value.oneCell']
end Go.Gou
namespace Go.Proofs.Ytpbmfalokongfaa
open Go.RowKit Go.Gou
set_option maxRecDepth 100000
set_option linter.constructorNameAsVariable false

/-- A doer's block, just made. -/
theorem DoerR.new {base : Nat} {w : World} {s : Sn} {op : Opr} {vg vl vp vf vb vk wp wf wb : Value} {F : List Nat} (ha : ArL base w vg vl s.arena) (hl : LyO 45 67 base w (lyA s.root.id s.root.look vp vf vb vk).toList s.root F) (ho : LookR (fun b => b < base) w op.look wp wf wb) (hb : base ≤ w.heap.size) :
    DoerL base (w.alloc (.cells (doA vg vl s.root.id s.root.look vp vf vb vk op wp wf wb) 67)) w.heap.size s.arena s.root F op vg vl wp wf wb (doA vg vl s.root.id s.root.look vp vf vb vk op wp wf wb) := by
  have hm := Gou.Mod.alloc0 w (.cells (doA vg vl s.root.id s.root.look vp vf vb vk op wp wf wb) 67)
  have hB := Blk.new w 67 (doA vg vl s.root.id s.root.look vp vf vb vk op wp wf wb)
  refine ⟨⟨⟨_, _, _, hl.up hm, hB, .inr rfl, fun j hj => ?_⟩, hb, fun h => ?_⟩, hB, rfl, rfl, rfl, fun j hj => ?_, ha.up hm, ho.mod hm (fun _ _ _ h => h)⟩
  · rw [← Array.getElem?_toList, doA_list, scA_list, List.append_assoc, List.getElem?_append_right (by simp), List.getElem?_append_left (by simp only [lyA_len, List.length_cons, List.length_nil]; omega)]
    simp
  · have := (hl.rows _ h).2.1
    omega
  · rw [← Array.getElem?_toList, doA_list, List.getElem?_append_right (by rw [scA_list, List.length_append, lyA_len]; simp only [List.length_cons, List.length_nil]; omega), ← Array.getElem?_toList]
    congr 1
    rw [scA_list, List.length_append, lyA_len]
    simp only [List.length_cons, List.length_nil]
    omega
theorem DoerR.scene {base : Nat} {w : World} {D : Nat} {a : Ar} {T : Ly} {F : List Nat} {op : Opr} {vg vl vp vf vb : Value} {cur : Array Value} (h : DoerL base w D a T F op vg vl vp vf vb cur) :
    ∃ up uf ub uk, w.rangeAt D 0 (scA vg vl T.id T.look up uf ub uk).toList ∧ LyO 45 67 base w (lyA T.id T.look up uf ub uk).toList T F := by
  obtain ⟨⟨c, cur', TT, h1, h2, h3, h4⟩, h5, h6⟩ := h.tree
  have hb := h.blk
  unfold Blk at hb h2
  rw [hb] at h2
  simp only [Option.some.injEq, Obj.cells.injEq] at h2
  obtain ⟨rfl, rfl, -⟩ := h2
  obtain ⟨up, uf, ub, uk, css, e, _⟩ := h1.reads.form
  subst e
  refine ⟨up, uf, ub, uk, fun j v hv => ?_, h1⟩
  rw [Nat.zero_add]
  refine h.blk.cell j ?_
  rw [scA_list] at hv
  match j, hv with
  | 0, hv => rw [h.c0]; simpa using hv
  | 1, hv => rw [h.c1]; simpa using hv
  | j + 2, hv =>
    rw [List.getElem?_append_right (by simp)] at hv
    simp only [List.length_cons, List.length_nil, Nat.add_sub_cancel] at hv
    have hj := (List.getElem?_eq_some_iff.1 hv).1
    rw [lyA_len] at hj
    have := h4 j hj
    rw [Nat.add_comm] at this
    rw [this]
    exact hv

set_option maxHeartbeats 8000000 in
theorem new_any (w : World) : Calls Try.prog 6 #[] w (WholeP w Sn.new) := by
  have HB := Lib.hid (Blk.new w 47 (scA (.slice none 0 0) (.slice none 0 0) (0, 0) Lk.zero (.slice none 0 0) (.slice none 0 0) (.slice none 0 0) (.slice none 0 0)))
  have HM := Lib.hid (Gou.Mod.alloc0 w (.cells (scA (.slice none 0 0) (.slice none 0 0) (0, 0) Lk.zero (.slice none 0 0) (.slice none 0 0) (.slice none 0 0) (.slice none 0 0)) 47))
  go_enter Try.func6, Try.ntmps6
  go_upto_region 1 with fail
  show Code.wp _ _ _ _ (w.alloc (.cells (scA (.slice none 0 0) (.slice none 0 0) (0, 0) Lk.zero (.slice none 0 0) (.slice none 0 0) (.slice none 0 0) (.slice none 0 0)) 47))
  generalize w.alloc (.cells (scA (.slice none 0 0) (.slice none 0 0) (0, 0) Lk.zero (.slice none 0 0) (.slice none 0 0) (.slice none 0 0) (.slice none 0 0)) 47) = W1 at *
  go_wp2_with fail
  refine (arNew_any _).mono ?_
  rintro e w2 ⟨vg2, vl2, rfl, ha2, hm2⟩
  have Ha2 := Lib.hid ha2
  have HM2 := Lib.hid (HM.out.trans' hm2)
  have HB2 := Lib.hid (HB.out.up hm2)
  have Hz := Lib.hid hm2.size
  clear ha2 hm2
  go_wp2_with fail
  refine (plain_any _).mono ?_
  rintro e w3 ⟨rfl, hm3⟩
  have Ha3 := Lib.hid (Ha2.out.up hm3)
  have HM3 := Lib.hid (HM2.out.trans' hm3)
  have HB3 := Lib.hid (HB2.out.up hm3)
  clear hm3
  go_wp2_with (first | ((with_reducible show wpList _ _ _ (⟨_, Op.build _ _, _, _, _, _⟩ :: _) _ _); refine halt ?_) | fail)
  show wpList _ _ _ _ _ _
  refine wpList_val rfl (.agg (lyA (0, 0) Lk.plain (.slice none 0 0) (.slice none 0 0) (.slice none 0 0) (.slice none 0 0))) (by kernel_rfl) ?_
  simp only [Act.put, List.setIfInBounds_toArray, List.set_cons_zero, List.set_cons_succ]
  refine wpList_val rfl (.agg (scA vg2 vl2 (0, 0) Lk.plain (.slice none 0 0) (.slice none 0 0) (.slice none 0 0) (.slice none 0 0))) (by kernel_rfl) ?_
  simp only [Act.put, List.setIfInBounds_toArray, List.set_cons_zero, List.set_cons_succ]
  refine wpList_store_mid rfl 47 _ _ rfl w.heap.size 0 (scA vg2 vl2 (0, 0) Lk.plain (.slice none 0 0) (.slice none 0 0) (.slice none 0 0) (.slice none 0 0)) rfl rfl (HB3.out.there 0 33 (by simp [scA])) size_scene (scA_one (by obtain ⟨⟨_, _, rfl⟩, _⟩ := Ha2.out.forms; rfl) (by obtain ⟨_, _, _, rfl⟩ := Ha2.out.forms; rfl) (by simp [lyA, Value.oneCell'])) ?_
  have HS := Lib.hid (Blk.setMod w3 w.heap.size 0 (scA vg2 vl2 (0, 0) Lk.plain (.slice none 0 0) (.slice none 0 0) (.slice none 0 0) (.slice none 0 0)).toList)
  have HB4 := Lib.hid (HB3.out.setAll (scA vg2 vl2 (0, 0) Lk.plain (.slice none 0 0) (.slice none 0 0) (.slice none 0 0) (.slice none 0 0)) rfl)
  have HM4 := Lib.hid (HM3.out.trans HS.out (fun k hk e => by omega))
  have hsn : SnO w.heap.size w3 (.agg (scA vg2 vl2 (0, 0) Lk.plain (.slice none 0 0) (.slice none 0 0) (.slice none 0 0) (.slice none 0 0))) Sn.new := ⟨_, _, _, _, _, _, [], rfl, ⟨ownsRow_base Ha3.out.g HM.out.size, ownsRow_base Ha3.out.l HM.out.size⟩, LyO.mk (0, 0) Lk.plain [] _ _ _ _ [] [] ⟨PixR.nil _ _, NodesR.nil _ _, NodesR.nil _ _⟩ (World.ownsRow_nil _ _ _ _) rfl rfl (fun j c k f h => by simp at h) (by simp [Value.ownBlock])⟩
  have HSN := Lib.hid (hsn.box HB3.out (by decide) HS.out)
  clear hsn
  generalize w3.setCells w.heap.size 0 (scA vg2 vl2 (0, 0) Lk.plain (.slice none 0 0) (.slice none 0 0) (.slice none 0 0) (.slice none 0 0)).toList = W4 at *
  go_wp2_with fail
  refine bodyPost_ret (results_cell_row rfl _ _ (w.heap.size) 47 (scA vg2 vl2 (0, 0) Lk.plain (.slice none 0 0) (.slice none 0 0) (.slice none 0 0) (.slice none 0 0)) (0, 0) _ rfl HB4.out Try.underlying47 rfl size_scene) rfl ?_
  exact ⟨_, rfl, HSN.out, HM4.out⟩

/-- What Do hands back. -/
def DoSP (w : World) (s : Sn) (op : Opr) (e : Ending) (w' : World) : Prop := ∃ v', e = .returned (.tuple #[v', .agg #[.int .i64 (doP checkS s op).2.1.1, .int .i64 (doP checkS s op).2.1.2], .int .i64 (doP checkS s op).2.2]) ∧ SnO w.heap.size w' v' (doP checkS s op).1 ∧ Gou.Mod (fun _ => False) w w'

set_option maxHeartbeats 16000000 in
theorem doS_any (w : World) (v : Value) (s : Sn) (op : Opr) (wp wf wb : Value) (h : SnR (fun _ => True) w v s) (hf : SnFit s) (ho : LookR (fun _ => True) w op.look wp wf wb) (n : Nat) (hI : Inv n s) (hn : n ≤ 100) (hfit : LkFit op.look) (hwf : GrWf op.look.filt) (hwb : GrWf op.look.back) :
    Calls Try.prog 7 #[v, .agg (oprC op wp wf wb)] w (DoSP w s op) := by
  obtain ⟨vg, vl, vp, vf, vb, vk, rfl, har, hly⟩ := h
  obtain ⟨pg, cg, rfl⟩ := RowG.slice har.g
  obtain ⟨pl, cl, rfl⟩ := RowG.slice har.l
  obtain ⟨⟨pp, cp, rfl⟩, ⟨pf, cf, rfl⟩, ⟨pb, cb, rfl⟩⟩ := ho.forms
  have HS0 : Hid (SnR (fun b => b < w.heap.size) w (.agg (scA (.slice pg s.arena.gens.length cg) (.slice pl s.arena.live.length cl) s.root.id s.root.look vp vf vb vk)) s) := Lib.hid (SnR.imp (G := fun _ => True) ⟨_, _, _, _, _, _, rfl, har, hly⟩ (fun k hk _ => hk))
  have Hf := Lib.hid hf
  have Hlk : Hid (LookR (fun b => b < w.heap.size) w op.look (.slice pp op.look.content.pix.length cp) (.slice pf op.look.filt.nodes.length cf) (.slice pb op.look.back.nodes.length cb)) := Lib.hid (ho.imp (fun k hk _ => hk))
  have HI := Lib.hid hI
  have Hn := Lib.hid hn
  have Hfit := Lib.hid hfit
  have Hwf := Lib.hid hwf
  have Hwb := Lib.hid hwb
  obtain ⟨b0, b1, b2, b3, bm⟩ := four_new w 47 53 47 30 (scA (.slice pg s.arena.gens.length cg) (.slice pl s.arena.live.length cl) s.root.id s.root.look vp vf vb vk) (oprC op (.slice pp op.look.content.pix.length cp) (.slice pf op.look.filt.nodes.length cf) (.slice pb op.look.back.nodes.length cb)) (scA (.slice none 0 0) (.slice none 0 0) (0, 0) Lk.zero (.slice none 0 0) (.slice none 0 0) (.slice none 0 0) (.slice none 0 0)) #[.int .i64 0, .int .i64 0]
  have HB0 := Lib.hid b0
  have HB1 := Lib.hid b1
  have HR := Lib.hid b2
  have HJ := Lib.hid b3
  have HM := Lib.hid bm
  clear har hly hf ho hI hn hfit hwf hwb b0 b1 b2 b3 bm
  go_enter Try.func7, Try.ntmps7
  go_upto_region 1 with fail
  show Code.wp _ _ _ _ ((((w.alloc (.cells (scA (.slice pg s.arena.gens.length cg) (.slice pl s.arena.live.length cl) s.root.id s.root.look vp vf vb vk) 47)).alloc (.cells (oprC op (.slice pp op.look.content.pix.length cp) (.slice pf op.look.filt.nodes.length cf) (.slice pb op.look.back.nodes.length cb)) 53)).alloc (.cells (scA (.slice none 0 0) (.slice none 0 0) (0, 0) Lk.zero (.slice none 0 0) (.slice none 0 0) (.slice none 0 0) (.slice none 0 0)) 47)).alloc (.cells #[.int .i64 0, .int .i64 0] 30))
  generalize (((w.alloc (.cells (scA (.slice pg s.arena.gens.length cg) (.slice pl s.arena.live.length cl) s.root.id s.root.look vp vf vb vk) 47)).alloc (.cells (oprC op (.slice pp op.look.content.pix.length cp) (.slice pf op.look.filt.nodes.length cf) (.slice pb op.look.back.nodes.length cb)) 53)).alloc (.cells (scA (.slice none 0 0) (.slice none 0 0) (0, 0) Lk.zero (.slice none 0 0) (.slice none 0 0) (.slice none 0 0) (.slice none 0 0)) 47)).alloc (.cells #[.int .i64 0, .int .i64 0] 30) = W1 at *
  have HSr : Hid (W1.rangeAt w.heap.size 0 (scA (.slice pg s.arena.gens.length cg) (.slice pl s.arena.live.length cl) s.root.id s.root.look vp vf vb vk).toList) := Lib.hid (Blk.range (pre := []) (post := []) HB0.out (by rw [List.append_nil]; rfl) rfl)
  have HOr : Hid (W1.rangeAt (w.heap.size + 1) 0 (oprC op (.slice pp op.look.content.pix.length cp) (.slice pf op.look.filt.nodes.length cf) (.slice pb op.look.back.nodes.length cb)).toList) := Lib.hid (Blk.range (pre := []) (post := []) HB1.out (by rw [List.append_nil]; rfl) rfl)
  have HW1 : Hid (w.heap.size + 4 ≤ W1.heap.size) := Lib.hid (by have := Blk.lt HJ.out; omega)
  refine wp_region_held_drew (S := fun w' => Gou.Mod (fun _ => False) W1 w') (by kernel_rfl) (Gou.Mod.drew _ _) (fun hHeld => ?_)
  refine wpAnyH_take (i := 0) (oi := ({ dst := some 10, op := Op.load 47 (Operand.tmp 2), type := 47, pos := "scene.go:307", after := #[], guard := none } : Oper)) (v := .agg (scA (.slice pg s.arena.gens.length cg) (.slice pl s.arena.live.length cl) s.root.id s.root.look vp vf vb vk)) rfl (by kernel_rfl) (by kernel_rfl) (by kernel_rfl) (fun _ _ _ h => h) (yieldsIf_load_mid (by rfl) 47 _ rfl w.heap.size (0) rfl ((scA (.slice pg s.arena.gens.length cg) (.slice pl s.arena.live.length cl) s.root.id s.root.look vp vf vb vk).toList) _ (fun w' hSw => range_up HSr.out hSw (fun h => h)) Try.underlying47 rfl size_scene) hHeld ?_
  try simp only [Act.put, List.setIfInBounds_toArray, List.set_cons_zero, List.set_cons_succ]
  refine wpAnyH_take (i := 2) (oi := ({ dst := some 12, op := Op.load 53 (Operand.tmp 3), type := 53, pos := "scene.go:307", after := #[], guard := none } : Oper)) (v := .agg (oprC op (.slice pp op.look.content.pix.length cp) (.slice pf op.look.filt.nodes.length cf) (.slice pb op.look.back.nodes.length cb))) rfl (by kernel_rfl) (by kernel_rfl) (by kernel_rfl) (fun _ _ _ h => h) (yieldsIf_load_mid (by rfl) 53 _ rfl (w.heap.size + 1) (0) rfl ((oprC op (.slice pp op.look.content.pix.length cp) (.slice pf op.look.filt.nodes.length cf) (.slice pb op.look.back.nodes.length cb)).toList) _ (fun w' hSw => range_up HOr.out hSw (fun h => h)) Try.underlying53 rfl size_op) hHeld ?_
  try simp only [Act.put, List.setIfInBounds_toArray, List.set_cons_zero, List.set_cons_succ]
  refine wpAnyH_ready (rs := [1]) (by kernel_rfl) (by simp) (AllReadyH.cons (o := ({ dst := some 11, op := Op.call { callee := Callee.value (Operand.func 18), args := #[Operand.tmp 10], argTypes := #[47] }, type := 47, pos := "scene.go:307", after := #[{ on := 0, ground := Ground.data }], guard := none } : Oper)) rfl (fun K hK => ?_) AllReadyH.nil)
  go_simp
  refine (whole_any _ _ s ((HS0.out.up (HM.out.trans' hHeld)).imp (fun _ _ _ => trivial)) Hf.out).mono ?_
  rintro e w4 ⟨v4, rfl, hs4, hm4⟩
  obtain ⟨vg4, vl4, vp4, vf4, vb4, vk4, F4, rfl, ha4, hl4⟩ := hs4
  have M := Lib.hid (hHeld.trans' hm4)
  have Ha4 := Lib.hid ha4
  have Hl4 := Lib.hid hl4
  have Hm4 := Lib.hid ((Gou.Mod.drew (fun _ => False) W1).trans' hm4)
  clear hHeld ha4 hl4 hm4
  refine hK _ _ M.out (fun hHeld => ?_)
  clear hK K M
  try simp only [Act.put, List.setIfInBounds_toArray, List.set_cons_zero, List.set_cons_succ]
  refine wpAnyH_take (i := 3) (oi := ({ dst := some 13, op := Op.build 67 #[(0, Operand.tmp 11), (1, Operand.tmp 12)], type := 67, pos := "scene.go:307", after := #[{ on := 1, ground := Ground.data }, { on := 2, ground := Ground.data }], guard := none } : Oper)) (v := .agg (doA vg4 vl4 s.root.id s.root.look vp4 vf4 vb4 vk4 op (.slice pp op.look.content.pix.length cp) (.slice pf op.look.filt.nodes.length cf) (.slice pb op.look.back.nodes.length cb))) rfl (by kernel_rfl) (by kernel_rfl) (by kernel_rfl) (fun _ _ _ h => h) (Or.inl ⟨by rfl, fun w' hSw => by kernel_rfl⟩) hHeld ?_
  try simp only [Act.put, List.setIfInBounds_toArray, List.set_cons_zero, List.set_cons_succ]
  refine wpAnyH_ready (rs := [4]) (by kernel_rfl) (by simp) (AllReadyH.cons (o := ({ dst := some 14, op := Op.box 67 (Operand.tmp 13), type := 64, pos := "scene.go:307", after := #[{ on := 3, ground := Ground.data }], guard := none } : Oper)) rfl (fun K hK => ?_) AllReadyH.nil)
  go_simp
  have M := Lib.hid (hHeld.trans' (Gou.Mod.alloc0 w4 (.cells (doA vg4 vl4 s.root.id s.root.look vp4 vf4 vb4 vk4 op (.slice pp op.look.content.pix.length cp) (.slice pf op.look.filt.nodes.length cf) (.slice pb op.look.back.nodes.length cb)) 67)))
  clear hHeld
  have hz4 := Nat.le_trans HM.out.size Hm4.out.size
  have HDn := Lib.hid (DoerR.new (s := s) (base := w.heap.size) (op := op) ⟨ownsRow_base Ha4.out.g HM.out.size, ownsRow_base Ha4.out.l HM.out.size⟩ (Hl4.out.low HM.out.size) (Hlk.out.mod (HM.out.trans' Hm4.out) (fun _ _ _ h => h)) hz4)
  have HDge : Hid (w.heap.size + 4 ≤ w4.heap.size) := Lib.hid (by have := HW1.out; have := Hm4.out.size; omega)
  have HFg : Hid (∀ x ∈ F4, w.heap.size + 4 ≤ x) := Lib.hid (fun x hx => by have h1 := (Hl4.out.rows x hx).1; have h2 := HW1.out; exact Nat.le_trans h2 h1)
  have hma := Hm4.out.trans' (Gou.Mod.alloc0 w4 (.cells (doA vg4 vl4 s.root.id s.root.look vp4 vf4 vb4 vk4 op (.slice pp op.look.content.pix.length cp) (.slice pf op.look.filt.nodes.length cf) (.slice pb op.look.back.nodes.length cb)) 67))
  have HB05 := Lib.hid (HB0.out.up hma)
  have HR5 := Lib.hid (HR.out.up hma)
  have HJ5 := Lib.hid (HJ.out.up hma)
  clear hz4 hma
  generalize w4.alloc (.cells (doA vg4 vl4 s.root.id s.root.look vp4 vf4 vb4 vk4 op (.slice pp op.look.content.pix.length cp) (.slice pf op.look.filt.nodes.length cf) (.slice pb op.look.back.nodes.length cb)) 67) = W5 at *
  generalize w4.heap.size = D at *
  refine hK _ _ M.out (fun hHeld => ?_)
  clear hK K M
  try simp only [Act.put, List.setIfInBounds_toArray, List.set_cons_zero, List.set_cons_succ]
  refine wpAnyH_take (i := 5) (oi := ({ dst := some 7, op := Op.assign (Operand.tmp 14), type := 64, pos := "scene.go:307", after := #[{ on := 4, ground := Ground.data }, { on := 1, ground := Ground.chain }, { on := 0, ground := Ground.phase }, { on := 1, ground := Ground.phase }, { on := 2, ground := Ground.phase }, { on := 3, ground := Ground.phase }, { on := 4, ground := Ground.phase }], guard := none } : Oper)) (v := .pointer (some ⟨D, 0, none⟩)) rfl (by kernel_rfl) (by kernel_rfl) (by kernel_rfl) (fun _ _ _ h => h) (Or.inl ⟨by rfl, ?_⟩) hHeld ?_
  · (intro w' hSw; (try dsimp only at hSw); clear hSw hHeld; go_simp; (try with_reducible rfl))
  try simp only [Act.put, List.setIfInBounds_toArray, List.set_cons_zero, List.set_cons_succ]
  have MS := Lib.hid hHeld
  refine wpAnyH_done (by kernel_rfl) ?_ _
  clear hHeld
  try simp only [Act.put]
  have HMk := Lib.hid (HM.out.trans' MS.out)
  clear MS
  have HD5 : Hid (DoerL w.heap.size W5 D s.arena s.root F4 op vg4 vl4 (.slice pp op.look.content.pix.length cp) (.slice pf op.look.filt.nodes.length cf) (.slice pb op.look.back.nodes.length cb) (doA vg4 vl4 s.root.id s.root.look vp4 vf4 vb4 vk4 op (.slice pp op.look.content.pix.length cp) (.slice pf op.look.filt.nodes.length cf) (.slice pb op.look.back.nodes.length cb))) := HDn
  have HDg : Hid (w.heap.size + 4 ≤ D) := HDge
  go_upto_region 2 with fail
  go_wp2_with fail
  refine (do_any w.heap.size W5 D s F4 op vg4 vl4 _ _ _ _ HD5.out n HI.out Hn.out Hf.out.root Hfit.out Hwf.out Hwb.out).mono ?_
  rintro e w6 ⟨hm6, rfl, hgood⟩
  have HX : Hid (∀ x, (x = D ∨ x ∈ F4) → w.heap.size + 4 ≤ x) := Lib.hid (fun x hx => by
    rcases hx with rfl | hx
    · exact HDg.out
    · exact HFg.out x hx)
  have HM6 := Lib.hid (HMk.out.trans hm6 (fun k hk e => by have := HX.out k e; omega))
  have HB06 := Lib.hid (HB05.out.mod hm6 (fun e => by have := HX.out _ e; omega))
  have HR6 := Lib.hid (HR5.out.mod hm6 (fun e => by have := HX.out _ e; omega))
  have HJ6 := Lib.hid (HJ5.out.mod hm6 (fun e => by have := HX.out _ e; omega))
  have Hgood := Lib.hid hgood
  clear hm6 hgood
  obtain ⟨rr, hrr⟩ : ∃ r, r = doP checkS s op := ⟨_, rfl⟩
  have Hrr := Lib.hid hrr
  rw [← hrr] at Hgood ⊢
  clear hrr
  go_upto_region 3 with fail
  have HID := Lib.hid (Blk.new w6 30 #[Value.int .i64 rr.2.1.1, Value.int .i64 rr.2.1.2])
  have hma := Gou.Mod.alloc0 w6 (.cells #[Value.int .i64 rr.2.1.1, Value.int .i64 rr.2.1.2] 30)
  have HM7 := Lib.hid (HM6.out.trans' hma)
  have HB07 := Lib.hid (HB06.out.up hma)
  have HR7 := Lib.hid (HR6.out.up hma)
  have HJ7 := Lib.hid (HJ6.out.up hma)
  have HG7 : Hid (rr.2.2 = 0 → ∃ vg vl cur F3, DoerL w.heap.size (w6.alloc (.cells #[Value.int .i64 rr.2.1.1, Value.int .i64 rr.2.1.2] 30)) D rr.1.arena rr.1.root F3 op vg vl (.slice pp op.look.content.pix.length cp) (.slice pf op.look.filt.nodes.length cf) (.slice pb op.look.back.nodes.length cb) cur) := Lib.hid (fun h => by
    obtain ⟨vg, vl, cur, F3, h⟩ := Hgood.out h
    exact ⟨vg, vl, cur, F3, h.up hma⟩)
  have HNid : Hid (w.heap.size + 4 ≤ w6.heap.size) := Lib.hid (by have := HM6.out.size; have := Blk.lt HJ6.out; omega)
  clear hma HM6 HB06 HR6 HJ6 Hgood
  generalize w6.alloc (.cells #[Value.int .i64 rr.2.1.1, Value.int .i64 rr.2.1.2] 30) = W7 at *
  generalize w6.heap.size = NI at *
  by_cases hz : rr.2.2 = 0
  · have ez : (rr.2.2 == 0) = true := beq_iff_eq.2 hz
    have Hz := Lib.hid hz
    obtain ⟨vg8, vl8, cur8, F8, hd8⟩ := HG7.out hz
    obtain ⟨up, uf, ub, uk, hrg, hly⟩ := DoerR.scene hd8
    have HD8 := Lib.hid hd8
    have Hly8 := Lib.hid hly
    obtain ⟨⟨pg8, cg8, rfl⟩, pl8, cl8, rfl⟩ := hd8.ar.forms
    have Hdr := Lib.hid hrg
    clear hz hd8 hrg hly HG7
    go_upto_region 5 with fail
    clear ez
    have HDn5 : Hid (¬ (D = w.heap.size + 1 + 1 ∨ D = w.heap.size + 1 + 1 + 1)) := Lib.hid (by have := HDg.out; omega)
    have HNn5 : Hid (¬ (NI = w.heap.size + 1 + 1 ∨ NI = w.heap.size + 1 + 1 + 1)) := Lib.hid (by have := HNid.out; omega)
    have HIr : Hid (W7.rangeAt NI 0 [.int .i64 rr.2.1.1, .int .i64 rr.2.1.2]) := Lib.hid (Blk.range (pre := []) (post := []) HID.out (by simp) rfl)
    have HSq : Hid (SnO w.heap.size W7.drew (.agg (scA (.slice pg8 rr.1.arena.gens.length cg8) (.slice pl8 rr.1.arena.live.length cl8) rr.1.root.id rr.1.root.look up uf ub uk)) rr.1) := Lib.hid (SnO.up ⟨_, _, _, _, _, _, F8, rfl, HD8.out.ar, Hly8.out⟩ (Gou.Mod.drew (fun _ => False) W7))
    have HRq := Lib.hid (HR7.out.up (Gou.Mod.drew (fun _ => False) W7))
    have HJq := Lib.hid (HJ7.out.up (Gou.Mod.drew (fun _ => False) W7))
    refine wp_region_held_drew (S := fun w' => Gou.Mod (fun x => x = w.heap.size + 1 + 1 ∨ x = w.heap.size + 1 + 1 + 1) W7 w') (by kernel_rfl) (Gou.Mod.drew _ _) (fun hHeld => ?_)
    refine wpAnyH_take (i := 0) (oi := ({ dst := some 26, op := Op.move (Operand.tmp 7), type := 64, pos := "scene.go:312", after := #[], guard := none } : Oper)) (v := .pointer (some ⟨D, 0, none⟩)) rfl (by kernel_rfl) (by kernel_rfl) (by kernel_rfl) (fun _ _ _ h => h) (Or.inl ⟨by rfl, ?_⟩) hHeld ?_
    · (intro w' hSw; (try dsimp only at hSw); clear hSw hHeld; go_simp; (try with_reducible rfl))
    try simp only [Act.put, List.setIfInBounds_toArray, List.set_cons_zero, List.set_cons_succ]
    refine wpAnyH_take (i := 1) (oi := ({ dst := some 27, op := Op.nilCheck (Operand.tmp 26), type := 0, pos := "scene.go:312", after := #[{ on := 0, ground := Ground.data }], guard := none } : Oper)) (v := .pointer (some ⟨D, 0, none⟩)) rfl (by kernel_rfl) (by kernel_rfl) (by kernel_rfl) (fun _ _ _ h => h) (Or.inl ⟨by rfl, ?_⟩) hHeld ?_
    · (intro w' hSw; (try dsimp only at hSw); clear hSw hHeld; go_simp; (try with_reducible rfl))
    try simp only [Act.put, List.setIfInBounds_toArray, List.set_cons_zero, List.set_cons_succ]
    refine wpAnyH_take (i := 2) (oi := ({ dst := some 28, op := Op.fieldAddr 67 (Operand.tmp 27) 0, type := 0, pos := "scene.go:312", after := #[{ on := 1, ground := Ground.data }], guard := none } : Oper)) (v := .pointer (some ⟨D, 0, none⟩)) rfl (by kernel_rfl) (by kernel_rfl) (by kernel_rfl) (fun _ _ _ h => h) (Or.inl ⟨by rfl, ?_⟩) hHeld ?_
    · (intro w' hSw; (try dsimp only at hSw); clear hSw hHeld; go_simp; (try with_reducible rfl))
    try simp only [Act.put, List.setIfInBounds_toArray, List.set_cons_zero, List.set_cons_succ]
    refine wpAnyH_take (i := 3) (oi := ({ dst := some 29, op := Op.load 47 (Operand.tmp 28), type := 47, pos := "scene.go:312", after := #[{ on := 2, ground := Ground.data }], guard := none } : Oper)) (v := .agg (scA (.slice pg8 rr.1.arena.gens.length cg8) (.slice pl8 rr.1.arena.live.length cl8) rr.1.root.id rr.1.root.look up uf ub uk)) rfl (by kernel_rfl) (by kernel_rfl) (by kernel_rfl) (fun _ _ _ h => h) (yieldsIf_load_mid (by rfl) 47 _ rfl D (0) rfl ((scA (.slice pg8 rr.1.arena.gens.length cg8) (.slice pl8 rr.1.arena.live.length cl8) rr.1.root.id rr.1.root.look up uf ub uk).toList) _ (fun w' hSw => range_up Hdr.out hSw HDn5.out) Try.underlying47 rfl size_scene) hHeld ?_
    try simp only [Act.put, List.setIfInBounds_toArray, List.set_cons_zero, List.set_cons_succ]
    refine wpAnyH_take (i := 4) (oi := ({ dst := some 30, op := Op.load 30 (Operand.tmp 8), type := 30, pos := "scene.go:312", after := #[{ on := 5, ground := Ground.gcOnly Departure.lateStores }], guard := none } : Oper)) (v := .agg #[.int .i64 rr.2.1.1, .int .i64 rr.2.1.2]) rfl (by kernel_rfl) (by kernel_rfl) (by kernel_rfl) (fun _ _ _ h => h) (yieldsIf_load_mid (by rfl) 30 _ rfl NI (0) rfl ([.int .i64 rr.2.1.1, .int .i64 rr.2.1.2]) _ (fun w' hSw => range_up HIr.out hSw HNn5.out) Try.underlying30 rfl size_id) hHeld ?_
    try simp only [Act.put, List.setIfInBounds_toArray, List.set_cons_zero, List.set_cons_succ]
    refine wpAnyH_ready (rs := [5]) (by kernel_rfl) (by simp) (AllReadyH.cons (o := ({ dst := none, op := Op.store 47 (Operand.tmp 4) (Operand.tmp 29), type := 0, pos := "scene.go:312", after := #[{ on := 3, ground := Ground.data }, { on := 0, ground := Ground.phase }, { on := 1, ground := Ground.phase }, { on := 2, ground := Ground.phase }, { on := 3, ground := Ground.phase }, { on := 4, ground := Ground.textOnly Departure.lateStores }], guard := none } : Oper)) rfl (fun K hK => ?_) AllReadyH.nil)
    rw [if_pos (by rfl)]
    refine wp_store_mid 47 _ _ rfl (w.heap.size + 1 + 1) 0 (scA (.slice pg8 rr.1.arena.gens.length cg8) (.slice pl8 rr.1.arena.live.length cl8) rr.1.root.id rr.1.root.look up uf ub uk) rfl rfl (HRq.out.there 0 33 (by simp [scA])) size_scene (scA_one rfl rfl (LyO.one Hly8.out)) ?_
    have HS9 := Lib.hid (Blk.setMod W7.drew (w.heap.size + 1 + 1) 0 (scA (.slice pg8 rr.1.arena.gens.length cg8) (.slice pl8 rr.1.arena.live.length cl8) rr.1.root.id rr.1.root.look up uf ub uk).toList)
    have HR9 := Lib.hid (HRq.out.setAll (scA (.slice pg8 rr.1.arena.gens.length cg8) (.slice pl8 rr.1.arena.live.length cl8) rr.1.root.id rr.1.root.look up uf ub uk) rfl)
    have HJ9 := Lib.hid (HJq.out.mod HS9.out (by omega))
    have HSN9 := Lib.hid (HSq.out.box HRq.out (by decide) HS9.out)
    have M := Lib.hid (hHeld.trans' (HS9.out.imp (fun _ _ h => .inl h)))
    clear hHeld
    generalize W7.drew.setCells (w.heap.size + 1 + 1) 0 (scA (.slice pg8 rr.1.arena.gens.length cg8) (.slice pl8 rr.1.arena.live.length cl8) rr.1.root.id rr.1.root.look up uf ub uk).toList = W9 at *
    refine hK _ _ M.out (fun hHeld => ?_)
    clear hK K M
    try simp only [Act.put, List.setIfInBounds_toArray, List.set_cons_zero, List.set_cons_succ]
    refine wpAnyH_ready (rs := [6]) (by kernel_rfl) (by simp) (AllReadyH.cons (o := ({ dst := none, op := Op.store 30 (Operand.tmp 5) (Operand.tmp 30), type := 0, pos := "scene.go:312", after := #[{ on := 4, ground := Ground.data }, { on := 5, ground := Ground.chain }, { on := 0, ground := Ground.phase }, { on := 1, ground := Ground.phase }, { on := 2, ground := Ground.phase }, { on := 3, ground := Ground.phase }, { on := 4, ground := Ground.phase }, { on := 5, ground := Ground.phase }], guard := none } : Oper)) rfl (fun K hK => ?_) AllReadyH.nil)
    rw [if_pos (by rfl)]
    refine wp_store_mid 30 _ _ rfl (w.heap.size + 1 + 1 + 1) 0 #[.int .i64 rr.2.1.1, .int .i64 rr.2.1.2] rfl rfl (HJ9.out.there 0 2 (by simp)) size_id (by simp [Value.oneCell']) ?_
    have HS10 := Lib.hid (Blk.setMod W9 (w.heap.size + 1 + 1 + 1) 0 (#[.int .i64 rr.2.1.1, .int .i64 rr.2.1.2] : Array Value).toList)
    have HR10 := Lib.hid (HR9.out.mod HS10.out (by omega))
    have HJ10 := Lib.hid (HJ9.out.setAll #[.int .i64 rr.2.1.1, .int .i64 rr.2.1.2] rfl)
    have HSN10 := Lib.hid (HSN9.out.box HJ9.out (by decide) HS10.out)
    have M := Lib.hid (hHeld.trans' (HS10.out.imp (fun _ _ h => .inr h)))
    clear hHeld
    generalize W9.setCells (w.heap.size + 1 + 1 + 1) 0 (#[.int .i64 rr.2.1.1, .int .i64 rr.2.1.2] : Array Value).toList = W10 at *
    refine hK _ _ M.out (fun hHeld => ?_)
    clear hK K M
    try simp only [Act.put, List.setIfInBounds_toArray, List.set_cons_zero, List.set_cons_succ]
    refine wpAnyH_take (i := 7) (oi := ({ dst := some 6, op := Op.assign (Operand.const (Value.int IntKind.i64 0)), type := 49, pos := "scene.go:312", after := #[{ on := 6, ground := Ground.chain }, { on := 0, ground := Ground.phase }, { on := 1, ground := Ground.phase }, { on := 2, ground := Ground.phase }, { on := 3, ground := Ground.phase }, { on := 4, ground := Ground.phase }, { on := 5, ground := Ground.phase }, { on := 6, ground := Ground.phase }], guard := none } : Oper)) (v := .int .i64 0) rfl (by kernel_rfl) (by kernel_rfl) (by kernel_rfl) (fun _ _ _ h => h) (Or.inl ⟨by rfl, ?_⟩) hHeld ?_
    · (intro w' hSw; (try dsimp only at hSw); clear hSw hHeld; go_simp; (try with_reducible rfl))
    try simp only [Act.put, List.setIfInBounds_toArray, List.set_cons_zero, List.set_cons_succ]
    have MS := Lib.hid hHeld
    refine wpAnyH_done (by kernel_rfl) ?_ _
    clear hHeld
    try simp only [Act.put]
    go_wp2_with fail
    refine bodyPost_ret (results_cct rfl (ResAt.of rfl HR10.out Try.underlying47 rfl size_scene) (ResAt.of rfl HJ10.out Try.underlying30 rfl size_id)) rfl ?_
    refine ⟨.agg (scA (.slice pg8 rr.1.arena.gens.length cg8) (.slice pl8 rr.1.arena.live.length cl8) rr.1.root.id rr.1.root.look up uf ub uk), ?_, ?_, HM7.out.trans MS.out (fun k hk e => by omega)⟩
    · rw [← Hrr.out, Hz.out]
      rfl
    · rw [← Hrr.out]
      exact HSN10.out
  · have ez : (rr.2.2 == 0) = false := beq_eq_false_iff_ne.2 hz
    have Hz := Lib.hid hz
    have Herr := Lib.hid (doP_err checkS s op (by rw [← Hrr.out]; exact hz))
    clear hz
    have HS7 : Hid (SnR (fun _ => True) W7 (.agg (scA (.slice pg s.arena.gens.length cg) (.slice pl s.arena.live.length cl) s.root.id s.root.look vp vf vb vk)) s) := Lib.hid ((HS0.out.up HM7.out).imp (fun _ _ _ => trivial))
    have HSr7 : Hid (W7.rangeAt w.heap.size 0 (scA (.slice pg s.arena.gens.length cg) (.slice pl s.arena.live.length cl) s.root.id s.root.look vp vf vb vk).toList) := Lib.hid (Blk.range (pre := []) (post := []) HB07.out (by rw [List.append_nil]; rfl) rfl)
    go_upto_region 4 with fail
    clear ez
    go_wp2_with (first | ((with_reducible refine wpList_load_mid ?g1_1 47 ?x1_1 ?o1_1 (w.heap.size) (0) ?h1_1 ((scA (.slice pg s.arena.gens.length cg) (.slice pl s.arena.live.length cl) s.root.id s.root.look vp vf vb vk).toList) ?d1_1 ?c1_1 ?u1_1 ?e1_1 ?i1_1 ?r1_1); (case g1_1 => exact rfl); (case o1_1 => exact rfl); (case h1_1 => exact rfl); (case c1_1 => exact HSr7.out); (case u1_1 => exact Try.underlying47); (case e1_1 => exact rfl); (case i1_1 => exact size_scene)) | fail)
    refine (whole_any _ _ s HS7.out Hf.out).mono ?_
    rintro e w8 ⟨v8, rfl, hs8, hm8⟩
    obtain ⟨vg8, vl8, up, uf, ub, uk, F8, rfl, ha8, hl8⟩ := hs8
    have Ha8 := Lib.hid ha8
    have Hl8 := Lib.hid hl8
    have HM8 := Lib.hid (HM7.out.trans' hm8)
    have HR8 := Lib.hid (HR7.out.up hm8)
    have HJ8 := Lib.hid (HJ7.out.up hm8)
    have Hz7 := Lib.hid HM7.out.size
    have j0 : w8.cell? ⟨w.heap.size + 1 + 1 + 1, 0, none⟩ = some (.int .i64 0) := HJ8.out.cell 0 rfl
    have j1 : w8.cell? ⟨w.heap.size + 1 + 1 + 1, 1, none⟩ = some (.int .i64 0) := HJ8.out.cell 1 rfl
    have k0 := HJ8.out.frozen 0
    have k1 := HJ8.out.frozen 1
    have hsn : SnO w.heap.size w8 (.agg (scA vg8 vl8 s.root.id s.root.look up uf ub uk)) s := ⟨_, _, _, _, _, _, F8, rfl, ⟨ownsRow_base ha8.g Hz7.out, ownsRow_base ha8.l Hz7.out⟩, hl8.low Hz7.out⟩
    have HSN := Lib.hid hsn
    clear hm8 ha8 hl8 hsn
    go_wp2_with (first | ((with_reducible show wpList _ _ _ (⟨none, Op.store 47 _ _, _, _, _, _⟩ :: _) _ _); refine halt ?_) | fail)
    show wpList _ _ _ _ _ _
    refine wpList_store_mid rfl 47 _ _ rfl (w.heap.size + 1 + 1) 0 (scA vg8 vl8 s.root.id s.root.look up uf ub uk) rfl rfl (HR8.out.there 0 33 (by simp [scA])) size_scene (scA_one (by obtain ⟨⟨_, _, rfl⟩, _⟩ := Ha8.out.forms; rfl) (by obtain ⟨_, _, _, rfl⟩ := Ha8.out.forms; rfl) (LyO.one Hl8.out)) ?_
    have HS9 := Lib.hid (Blk.setMod w8 (w.heap.size + 1 + 1) 0 (scA vg8 vl8 s.root.id s.root.look up uf ub uk).toList)
    have HR9 := Lib.hid (HR8.out.setAll (scA vg8 vl8 s.root.id s.root.look up uf ub uk) rfl)
    have HJ9 := Lib.hid (HJ8.out.mod HS9.out (by omega))
    have HM9 := Lib.hid (HM8.out.trans HS9.out (fun k hk e => by omega))
    have HSN9 := Lib.hid (HSN.out.box HR8.out (by decide) HS9.out)
    clear HSN j0 j1 k0 k1
    generalize w8.setCells (w.heap.size + 1 + 1) 0 (scA vg8 vl8 s.root.id s.root.look up uf ub uk).toList = W9 at *
    have j0 : W9.cell? ⟨w.heap.size + 1 + 1 + 1, 0, none⟩ = some (.int .i64 0) := HJ9.out.cell 0 rfl
    have j1 : W9.cell? ⟨w.heap.size + 1 + 1 + 1, 1, none⟩ = some (.int .i64 0) := HJ9.out.cell 1 rfl
    have k0 := HJ9.out.frozen 0
    have k1 := HJ9.out.frozen 1
    go_wp2_with fail
    have hR := (HJ9.out.set 0 (.int .i64 0)).set 1 (.int .i64 0)
    have hS := (Gou.Mod.set1 W9 (w.heap.size + 1 + 1 + 1) 0 (.int .i64 0)).trans' (Gou.Mod.set1 _ (w.heap.size + 1 + 1 + 1) 1 (.int .i64 0))
    have hRR := HR9.out.mod hS (by omega)
    have hSN := HSN9.out.box HJ9.out (by decide) hS
    refine bodyPost_ret (results_cct rfl (ResAt.of rfl hRR Try.underlying47 rfl size_scene) (ResAt.of rfl hR Try.underlying30 rfl size_id)) rfl ?_
    refine ⟨.agg (scA vg8 vl8 s.root.id s.root.look up uf ub uk), ?_, ?_, HM9.out.trans hS (fun k hk e => by omega)⟩
    · rw [Herr.out.2, ← Hrr.out]
      rfl
    · rw [Herr.out.1]
      exact hSN
end Go.Proofs.Ytpbmfalokongfaa

