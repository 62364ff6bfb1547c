/- Texts of the codec's proofs, laid together: Unl28. -/
import Derived.Test.YtnamnmipgpcjjaaZl
import Derived.Deep.RegionHeld
set_option linter.unusedSimpArgs false
set_option linter.unusedVariables false
set_option linter.unusedSectionVars false
set_option linter.constructorNameAsVariable false

/- Acts as bytes: unlike acts have unlike bytes: the law's walk. -/
namespace Go.Gou
open Go.RowKit

theorem putOf_fine {a : Ac} {es : List Nat} (hs : PxSmall a.op.look.content) (h : putOf a = some es) : Fine 1100001 es := by
  obtain ⟨e2, he2, hp⟩ := Option.bind_eq_some_iff.1 (show (encAct a).bind _ = some es from h)
  obtain ⟨_, _, hp⟩ := Option.bind_eq_some_iff.1 hp
  split at hp
  · simp only [Option.some.injEq] at hp
    subst hp
    exact encAct_fine he2 hs
  · cases hp

/-- None of the bytes begin another act's. -/
theorem unlike_bytes {a c : Ac} {x y : List Nat} (ha : PxSmall a.op.look.content) (hc : PxSmall c.op.look.content) (hx : putOf a = some x) (hy : putOf c = some y) (hl : x.length ≤ y.length) : decide (x = y.take x.length) = decide (a = c) := by
  have hb := (putOf_fine hc hy).2
  have e : x = y.take x.length ↔ a = c := by
    constructor
    · intro h
      have s : Sits x y 0 := ⟨y.drop x.length, by rw [List.drop_zero]; conv => rhs; rw [h]
                                                  rw [List.length_take, Nat.min_eq_left hl]; exact (List.take_append_drop _ _).symm⟩
      have h1 := act_of_putOf hb ha hx s
      have h2 := act_of_putOf hb hc hy (Sits.self y)
      rw [h1] at h2
      simp only [Option.some.injEq, Prod.mk.injEq] at h2
      exact h2.1
    · rintro rfl
      rw [hx] at hy
      simp only [Option.some.injEq] at hy
      subst hy
      simp
  simp only [e]

end Go.Gou
namespace Go.Proofs.Ytnamnmipgpcjjaa
open Go.RowKit Go.Gou

set_option linter.constructorNameAsVariable false
set_option maxRecDepth 100000

theorem range_of {w w' : World} {b : Nat} {T : TypeId} {cs : Array Value} (h : Blk w b T cs) (hm : Gou.Mod (fun _ => False) w w') : w'.rangeAt b 0 cs.toList :=
  Blk.range (pre := []) (post := []) (h.mod hm (fun h => h)) (by rw [List.append_nil]; rfl) rfl

set_option maxHeartbeats 4000000 in
theorem codecUnlike_law (w : World) (v1 : Value) (a : Ac) (h1 : ActV (fun _ => True) w v1 a) (f1 : ActWf a) (v2 : Value) (c : Ac) (h2 : ActV (fun _ => True) w v2 c) (f2 : ActWf c) :
    Calls Try.prog 7 #[v1, v2] w fun e w' => e = .returned (.bool true) ∧ Gou.Mod (fun _ => False) w w' := by
  obtain ⟨vp, vf, vb, rfl, l1⟩ := h1
  obtain ⟨up, uf, ub, rfl, l2⟩ := h2
  obtain ⟨p1, k1, rfl, _⟩ := RowG.form l1.pix
  obtain ⟨p2, k2, rfl⟩ := l1.filt.form
  obtain ⟨p3, k3, rfl⟩ := l1.back.form
  obtain ⟨q1, j1, rfl, _⟩ := RowG.form l2.pix
  obtain ⟨q2, j2, rfl⟩ := l2.filt.form
  obtain ⟨q3, j3, rfl⟩ := l2.back.form
  have Sa := Lib.hid f1.small
  have Sc := Lib.hid f2.small
  have HM0 : Hid (Gou.Mod (fun _ => False) w ((w.alloc (.cells (actC a (.slice p1 a.op.look.content.pix.length k1) (.slice p2 a.op.look.filt.nodes.length k2) (.slice p3 a.op.look.back.nodes.length k3)) 41)).alloc (.cells (actC c (.slice q1 c.op.look.content.pix.length j1) (.slice q2 c.op.look.filt.nodes.length j2) (.slice q3 c.op.look.back.nodes.length j3)) 41))) := Lib.hid ((Gou.Mod.alloc _ _ _).trans' (Gou.Mod.alloc _ _ _))
  have L1 := Lib.hid (l1.mod HM0.out (fun _ _ _ h => h))
  have L2 := Lib.hid (l2.mod HM0.out (fun _ _ _ h => h))
  have HA : Hid (Blk ((w.alloc (.cells (actC a (.slice p1 a.op.look.content.pix.length k1) (.slice p2 a.op.look.filt.nodes.length k2) (.slice p3 a.op.look.back.nodes.length k3)) 41)).alloc (.cells (actC c (.slice q1 c.op.look.content.pix.length j1) (.slice q2 c.op.look.filt.nodes.length j2) (.slice q3 c.op.look.back.nodes.length j3)) 41)) w.heap.size 41 (actC a (.slice p1 a.op.look.content.pix.length k1) (.slice p2 a.op.look.filt.nodes.length k2) (.slice p3 a.op.look.back.nodes.length k3))) := Lib.hid ((show Blk (w.alloc (.cells (actC a (.slice p1 a.op.look.content.pix.length k1) (.slice p2 a.op.look.filt.nodes.length k2) (.slice p3 a.op.look.back.nodes.length k3)) 41)) w.heap.size 41 _ from heap_alloc_new w _).mod (Gou.Mod.alloc (fun _ => False) _ _) (fun h => h))
  have HC : Hid (Blk ((w.alloc (.cells (actC a (.slice p1 a.op.look.content.pix.length k1) (.slice p2 a.op.look.filt.nodes.length k2) (.slice p3 a.op.look.back.nodes.length k3)) 41)).alloc (.cells (actC c (.slice q1 c.op.look.content.pix.length j1) (.slice q2 c.op.look.filt.nodes.length j2) (.slice q3 c.op.look.back.nodes.length j3)) 41)) (w.heap.size + 1) 41 (actC c (.slice q1 c.op.look.content.pix.length j1) (.slice q2 c.op.look.filt.nodes.length j2) (.slice q3 c.op.look.back.nodes.length j3))) := Lib.hid (by
    have := heap_alloc_new (w.alloc (.cells (actC a (.slice p1 a.op.look.content.pix.length k1) (.slice p2 a.op.look.filt.nodes.length k2) (.slice p3 a.op.look.back.nodes.length k3)) 41)) (.cells (actC c (.slice q1 c.op.look.content.pix.length j1) (.slice q2 c.op.look.filt.nodes.length j2) (.slice q3 c.op.look.back.nodes.length j3)) 41)
    rw [World.size_alloc] at this
    exact this)
  clear l1 l2 f1 f2
  go_enter Try.func7, Try.ntmps7
  go_wp2_with fail
  generalize hW0 : ((w.alloc (.cells (actC a (.slice p1 a.op.look.content.pix.length k1) (.slice p2 a.op.look.filt.nodes.length k2) (.slice p3 a.op.look.back.nodes.length k3)) 41)).alloc (.cells (actC c (.slice q1 c.op.look.content.pix.length j1) (.slice q2 c.op.look.filt.nodes.length j2) (.slice q3 c.op.look.back.nodes.length j3)) 41)) = w0 at *
  clear hW0
  refine (awake_any w0).mono ?_
  rintro e w1 ⟨rfl, m1⟩
  have M1 := Lib.hid m1
  have Ra1 := Lib.hid (range_of HA.out M1.out)
  have Rc1 := Lib.hid (range_of HC.out M1.out)
  clear m1
  go_wp2_with (first | ((with_reducible refine wpList_load_midG ?g1_1 41 ?x1_1 ?o1_1 w.heap.size 0 ?h1_1 (actC a (.slice p1 a.op.look.content.pix.length k1) (.slice p2 a.op.look.filt.nodes.length k2) (.slice p3 a.op.look.back.nodes.length k3)).toList ?d1_1 ?c1_1 ?u1_1 ?s1_1 ?i1_1 ?r1_1); (case g1_1 => exact rfl); (case o1_1 => exact rfl); (case h1_1 => exact rfl); (case c1_1 => exact Ra1.out); (case u1_1 => exact Try.underlying41); (case s1_1 => exact rfl); (case i1_1 => exact size_act.trans (by simp [actC]))) | ((with_reducible refine wpList_load_midG ?g1_2 41 ?x1_2 ?o1_2 (w.heap.size + 1) 0 ?h1_2 (actC c (.slice q1 c.op.look.content.pix.length j1) (.slice q2 c.op.look.filt.nodes.length j2) (.slice q3 c.op.look.back.nodes.length j3)).toList ?d1_2 ?c1_2 ?u1_2 ?s1_2 ?i1_2 ?r1_2); (case g1_2 => exact rfl); (case o1_2 => exact rfl); (case h1_2 => exact rfl); (case c1_2 => exact Rc1.out); (case u1_2 => exact Try.underlying41); (case s1_2 => exact rfl); (case i1_2 => exact size_act.trans (by simp [actC]))) | fail)
  refine (few_any w1 _ p1 p2 p3 k1 k2 k3 a (L1.out.mod M1.out (fun _ _ _ h => h))).mono ?_
  rintro e w2 ⟨⟨q, rfl, hq⟩, m2⟩
  have M2 := Lib.hid (M1.out.trans' m2)
  have Hq := Lib.hid hq
  clear hq m2 M1
  cases q with
  | false =>
    go_wp2_with fail
    refine (awake_any w2).mono ?_
    rintro e w3 ⟨rfl, m3⟩
    go_wp2_with fail
    go_ret
    exact ⟨rfl, HM0.out.trans' (M2.out.trans' m3)⟩
  | true =>
    have Ha : Hid (FewOk a) := Lib.hid (Hq.out rfl)
    have Ra2 := Lib.hid (range_of HA.out M2.out)
    have Rc2 := Lib.hid (range_of HC.out M2.out)
    go_wp2_with (first | ((with_reducible refine wpList_load_midG ?g1_3 41 ?x1_3 ?o1_3 w.heap.size 0 ?h1_3 (actC a (.slice p1 a.op.look.content.pix.length k1) (.slice p2 a.op.look.filt.nodes.length k2) (.slice p3 a.op.look.back.nodes.length k3)).toList ?d1_3 ?c1_3 ?u1_3 ?s1_3 ?i1_3 ?r1_3); (case g1_3 => exact rfl); (case o1_3 => exact rfl); (case h1_3 => exact rfl); (case c1_3 => exact Ra2.out); (case u1_3 => exact Try.underlying41); (case s1_3 => exact rfl); (case i1_3 => exact size_act.trans (by simp [actC]))) | ((with_reducible refine wpList_load_midG ?g1_4 41 ?x1_4 ?o1_4 (w.heap.size + 1) 0 ?h1_4 (actC c (.slice q1 c.op.look.content.pix.length j1) (.slice q2 c.op.look.filt.nodes.length j2) (.slice q3 c.op.look.back.nodes.length j3)).toList ?d1_4 ?c1_4 ?u1_4 ?s1_4 ?i1_4 ?r1_4); (case g1_4 => exact rfl); (case o1_4 => exact rfl); (case h1_4 => exact rfl); (case c1_4 => exact Rc2.out); (case u1_4 => exact Try.underlying41); (case s1_4 => exact rfl); (case i1_4 => exact size_act.trans (by simp [actC]))) | fail)
    refine (few_any w2 _ q1 q2 q3 j1 j2 j3 c (L2.out.mod M2.out (fun _ _ _ h => h))).mono ?_
    rintro e w3 ⟨⟨q, rfl, hq⟩, m3⟩
    have M3 := Lib.hid (M2.out.trans' m3)
    have Hq2 := Lib.hid hq
    clear hq m3 M2 Hq
    cases q with
    | false =>
      go_wp2_with fail
      refine (awake_any w3).mono ?_
      rintro e w4 ⟨rfl, m4⟩
      go_wp2_with fail
      go_ret
      exact ⟨rfl, HM0.out.trans' (M3.out.trans' m4)⟩
    | true =>
      have Hc : Hid (FewOk c) := Lib.hid (Hq2.out rfl)
      have Ra3 := Lib.hid (range_of HA.out M3.out)
      have Rc3 := Lib.hid (range_of HC.out M3.out)
      go_wp2_with (first | ((with_reducible refine wpList_load_midG ?g1_5 41 ?x1_5 ?o1_5 w.heap.size 0 ?h1_5 (actC a (.slice p1 a.op.look.content.pix.length k1) (.slice p2 a.op.look.filt.nodes.length k2) (.slice p3 a.op.look.back.nodes.length k3)).toList ?d1_5 ?c1_5 ?u1_5 ?s1_5 ?i1_5 ?r1_5); (case g1_5 => exact rfl); (case o1_5 => exact rfl); (case h1_5 => exact rfl); (case c1_5 => exact Ra3.out); (case u1_5 => exact Try.underlying41); (case s1_5 => exact rfl); (case i1_5 => exact size_act.trans (by simp [actC]))) | ((with_reducible refine wpList_load_midG ?g1_6 41 ?x1_6 ?o1_6 (w.heap.size + 1) 0 ?h1_6 (actC c (.slice q1 c.op.look.content.pix.length j1) (.slice q2 c.op.look.filt.nodes.length j2) (.slice q3 c.op.look.back.nodes.length j3)).toList ?d1_6 ?c1_6 ?u1_6 ?s1_6 ?i1_6 ?r1_6); (case g1_6 => exact rfl); (case o1_6 => exact rfl); (case h1_6 => exact rfl); (case c1_6 => exact Rc3.out); (case u1_6 => exact Try.underlying41); (case s1_6 => exact rfl); (case i1_6 => exact size_act.trans (by simp [actC]))) | fail)
      refine (put_any w3 p1 p2 p3 k1 k2 k3 a (L1.out.mod M3.out (fun _ _ _ h => h)) Ha.out.borne Sa.out).mono ?_
      rintro e w4 ⟨m4, hp⟩
      have M4 := Lib.hid (M3.out.trans' m4)
      have Ra4 := Lib.hid (range_of HA.out M4.out)
      have Rc4 := Lib.hid (range_of HC.out M4.out)
      clear m4
      rcases hx : putOf a with _ | x
      · rw [hx] at hp
        subst hp
        go_wp2_with (first | ((with_reducible refine wpList_load_midG ?g1_7 41 ?x1_7 ?o1_7 w.heap.size 0 ?h1_7 (actC a (.slice p1 a.op.look.content.pix.length k1) (.slice p2 a.op.look.filt.nodes.length k2) (.slice p3 a.op.look.back.nodes.length k3)).toList ?d1_7 ?c1_7 ?u1_7 ?s1_7 ?i1_7 ?r1_7); (case g1_7 => exact rfl); (case o1_7 => exact rfl); (case h1_7 => exact rfl); (case c1_7 => exact Ra4.out); (case u1_7 => exact Try.underlying41); (case s1_7 => exact rfl); (case i1_7 => exact size_act.trans (by simp [actC]))) | ((with_reducible refine wpList_load_midG ?g1_8 41 ?x1_8 ?o1_8 (w.heap.size + 1) 0 ?h1_8 (actC c (.slice q1 c.op.look.content.pix.length j1) (.slice q2 c.op.look.filt.nodes.length j2) (.slice q3 c.op.look.back.nodes.length j3)).toList ?d1_8 ?c1_8 ?u1_8 ?s1_8 ?i1_8 ?r1_8); (case g1_8 => exact rfl); (case o1_8 => exact rfl); (case h1_8 => exact rfl); (case c1_8 => exact Rc4.out); (case u1_8 => exact Try.underlying41); (case s1_8 => exact rfl); (case i1_8 => exact size_act.trans (by simp [actC]))) | fail)
        have hput := put_row w4 q1 q2 q3 _ _ _ j1 j2 j3 c rfl rfl rfl (L2.out.mod M4.out (fun _ _ _ h => h)) Hc.out.borne Sc.out
        refine hput.mono ?_
        clear hput
        rintro e w5 ⟨pc, nc, cc, cs5, z, -, rfl, -, m5⟩
        go_wp2_with fail
        go_ret
        exact ⟨rfl, HM0.out.trans' (M4.out.trans' m5)⟩
      rw [hx] at hp
      obtain ⟨vx, rfl, hown⟩ := hp
      obtain ⟨px, cx, rfl⟩ := Gou.ownsRow_form hown
      have Bx := Lib.hid (BytesAt.of_own hown)
      have Hx := Lib.hid hx
      clear hown hx
      go_wp2_with (first | ((with_reducible refine wpList_load_midG ?g1_9 41 ?x1_9 ?o1_9 w.heap.size 0 ?h1_9 (actC a (.slice p1 a.op.look.content.pix.length k1) (.slice p2 a.op.look.filt.nodes.length k2) (.slice p3 a.op.look.back.nodes.length k3)).toList ?d1_9 ?c1_9 ?u1_9 ?s1_9 ?i1_9 ?r1_9); (case g1_9 => exact rfl); (case o1_9 => exact rfl); (case h1_9 => exact rfl); (case c1_9 => exact Ra4.out); (case u1_9 => exact Try.underlying41); (case s1_9 => exact rfl); (case i1_9 => exact size_act.trans (by simp [actC]))) | ((with_reducible refine wpList_load_midG ?g1_10 41 ?x1_10 ?o1_10 (w.heap.size + 1) 0 ?h1_10 (actC c (.slice q1 c.op.look.content.pix.length j1) (.slice q2 c.op.look.filt.nodes.length j2) (.slice q3 c.op.look.back.nodes.length j3)).toList ?d1_10 ?c1_10 ?u1_10 ?s1_10 ?i1_10 ?r1_10); (case g1_10 => exact rfl); (case o1_10 => exact rfl); (case h1_10 => exact rfl); (case c1_10 => exact Rc4.out); (case u1_10 => exact Try.underlying41); (case s1_10 => exact rfl); (case i1_10 => exact size_act.trans (by simp [actC]))) | fail)
      refine (put_any w4 q1 q2 q3 j1 j2 j3 c (L2.out.mod M4.out (fun _ _ _ h => h)) Hc.out.borne Sc.out).mono ?_
      rintro e w5 ⟨m5, hp⟩
      have M5 := Lib.hid (M4.out.trans' m5)
      have Bx5 := Lib.hid (Bx.out.mod m5 (fun _ _ _ h => h))
      clear m5
      rcases hy : putOf c with _ | y
      · rw [hy] at hp
        subst hp
        go_wp2_with fail
        go_ret
        exact ⟨rfl, HM0.out.trans' M5.out⟩
      rw [hy] at hp
      obtain ⟨vy, rfl, hown⟩ := hp
      obtain ⟨py, cy, rfl⟩ := Gou.ownsRow_form hown
      have By := Lib.hid (BytesAt.of_own hown)
      have Hy := Lib.hid hy
      clear hown hy
      have Hxl := Lib.hid (putOf_fine Sa.out Hx.out).1
      have Hyl := Lib.hid (putOf_fine Sc.out Hy.out).1
      by_cases hl : x.length ≤ y.length
      case neg =>
        have e1 : decide ((y.length : Int) < (x.length : Int)) = true := decide_eq_true (by omega)
        have e1' : decide (y.length < x.length) = true := decide_eq_true (by omega)
        clear hl
        go_wp2_with fail
        go_ret
        exact ⟨rfl, HM0.out.trans' M5.out⟩
      have e1 : decide ((y.length : Int) < (x.length : Int)) = false := decide_eq_false (by omega)
      have e1' : decide (y.length < x.length) = false := decide_eq_false (by omega)
      have Hlaw := Lib.hid (unlike_bytes Sa.out Sc.out Hx.out Hy.out hl)
      have Hcy : Hid (y.length ≤ cy) := Lib.hid (by
        obtain ⟨_, _, e, h, _⟩ := By.out
        simp only [Value.slice.injEq] at e
        obtain ⟨_, _, rfl⟩ := e
        exact h)
      have hcy := Hcy.out
      have g1 : (x.length : Int) ≤ (cy : Int) := by omega
      have g0 : (0 : Int) ≤ (x.length : Int) := by omega
      go_wp2_with fail
      refine wp_region_held_drew (S := fun w' => Gou.Mod (fun _ => False) w5 w') (by kernel_rfl) (Gou.Mod.drew _ _) (fun hHeld => ?_)
      refine wpAnyH_take (i := 0) (oi := ({ dst := some 45, op := Op.move (Operand.tmp 5), type := 44, pos := "law.go:112", after := #[], guard := none } : Oper)) (v := .slice px x.length cx) rfl (by kernel_rfl) (by kernel_rfl) (by kernel_rfl) (fun _ _ _ h => h) (Or.inl ⟨by rfl, ?_⟩) hHeld ?_
      · (intro w' hSw; (try dsimp only at hSw); clear hSw; go_simp; (try with_reducible rfl))
      try simp only [Act.put, List.setIfInBounds_toArray, List.set_cons_zero, List.set_cons_succ]
      refine wpAnyH_take (i := 1) (oi := ({ dst := some 46, op := Op.move (Operand.tmp 7), type := 44, pos := "law.go:112", after := #[], guard := none } : Oper)) (v := .slice py y.length cy) rfl (by kernel_rfl) (by kernel_rfl) (by kernel_rfl) (fun _ _ _ h => h) (Or.inl ⟨by rfl, ?_⟩) hHeld ?_
      · (intro w' hSw; (try dsimp only at hSw); clear hSw; go_simp; (try with_reducible rfl))
      try simp only [Act.put, List.setIfInBounds_toArray, List.set_cons_zero, List.set_cons_succ]
      refine wpAnyH_take (i := 2) (oi := ({ dst := some 47, op := Op.move (Operand.tmp 5), type := 44, pos := "law.go:112", after := #[], guard := none } : Oper)) (v := .slice px x.length cx) rfl (by kernel_rfl) (by kernel_rfl) (by kernel_rfl) (fun _ _ _ h => h) (Or.inl ⟨by rfl, ?_⟩) hHeld ?_
      · (intro w' hSw; (try dsimp only at hSw); clear hSw; go_simp; (try with_reducible rfl))
      try simp only [Act.put, List.setIfInBounds_toArray, List.set_cons_zero, List.set_cons_succ]
      refine wpAnyH_take (i := 3) (oi := ({ dst := some 48, op := Op.call { callee := Callee.builtin Builtin.len, args := #[Operand.tmp 47], argTypes := #[44] }, type := 3, pos := "law.go:112", after := #[{ on := 2, ground := Ground.data }], guard := none } : Oper)) (v := .int .i64 (x.length : Nat)) rfl (by kernel_rfl) (by kernel_rfl) (by kernel_rfl) (fun _ _ _ h => h) (Or.inl ⟨by rfl, ?_⟩) hHeld ?_
      · (intro w' hSw; (try dsimp only at hSw); clear hSw; go_simp; (try with_reducible rfl))
      try simp only [Act.put, List.setIfInBounds_toArray, List.set_cons_zero, List.set_cons_succ]
      refine wpAnyH_take (i := 4) (oi := ({ dst := some 49, op := Op.slice 44 (Operand.tmp 46) none (some (Operand.tmp 48)) none, type := 44, pos := "law.go:112", after := #[{ on := 1, ground := Ground.data }, { on := 3, ground := Ground.data }], guard := none } : Oper)) (v := .slice py x.length cy) rfl (by kernel_rfl) (by kernel_rfl) (by kernel_rfl) (fun _ _ _ h => h) (Or.inl ⟨by rfl, ?_⟩) hHeld ?_
      · (intro w' hSw; (try dsimp only at hSw); clear hSw; go_simp; (try with_reducible rfl))
      try simp only [Act.put, List.setIfInBounds_toArray, List.set_cons_zero, List.set_cons_succ]
      refine wpAnyH_take (i := 6) (oi := ({ dst := some 51, op := Op.load 41 (Operand.tmp 2), type := 41, pos := "law.go:112", after := #[], guard := none } : Oper)) (v := .agg (actC a (.slice p1 a.op.look.content.pix.length k1) (.slice p2 a.op.look.filt.nodes.length k2) (.slice p3 a.op.look.back.nodes.length k3))) rfl (by kernel_rfl) (by kernel_rfl) (by kernel_rfl) (fun _ _ _ h => h) (yieldsIf_load_mid (by rfl) 41 _ rfl w.heap.size 0 rfl (actC a (.slice p1 a.op.look.content.pix.length k1) (.slice p2 a.op.look.filt.nodes.length k2) (.slice p3 a.op.look.back.nodes.length k3)).toList _ (fun w' hSw => range_of HA.out (M5.out.trans' hSw)) Try.underlying41 rfl (size_act.trans (by simp [actC]))) hHeld ?_
      try simp only [Act.put, List.setIfInBounds_toArray, List.set_cons_zero, List.set_cons_succ]
      refine wpAnyH_take (i := 7) (oi := ({ dst := some 52, op := Op.load 41 (Operand.tmp 3), type := 41, pos := "law.go:112", after := #[], guard := none } : Oper)) (v := .agg (actC c (.slice q1 c.op.look.content.pix.length j1) (.slice q2 c.op.look.filt.nodes.length j2) (.slice q3 c.op.look.back.nodes.length j3))) rfl (by kernel_rfl) (by kernel_rfl) (by kernel_rfl) (fun _ _ _ h => h) (yieldsIf_load_mid (by rfl) 41 _ rfl (w.heap.size + 1) 0 rfl (actC c (.slice q1 c.op.look.content.pix.length j1) (.slice q2 c.op.look.filt.nodes.length j2) (.slice q3 c.op.look.back.nodes.length j3)).toList _ (fun w' hSw => range_of HC.out (M5.out.trans' hSw)) Try.underlying41 rfl (size_act.trans (by simp [actC]))) hHeld ?_
      try simp only [Act.put, List.setIfInBounds_toArray, List.set_cons_zero, List.set_cons_succ]
      refine wpAnyH_ready (rs := [5]) (by kernel_rfl) (by simp) (AllReadyH.cons (o := ({ dst := some 50, op := Op.call { callee := Callee.value (Operand.func 13), args := #[Operand.tmp 45, Operand.tmp 49], argTypes := #[44, 44] }, type := 4, pos := "law.go:112", after := #[{ on := 0, ground := Ground.data }, { on := 4, ground := Ground.data }], guard := none } : Oper)) rfl (fun K hK => ?_) AllReadyH.nil)
      go_simp
      have By6 := Lib.hid ((By.out.take x.length hl).mod hHeld (fun _ _ _ h => h))
      have Hyt : Hid ((y.take x.length).length = x.length) := Lib.hid (by rw [List.length_take, Nat.min_eq_left hl])
      have hsame := sameB_any w5.drew _ _ px py cx cy x (y.take x.length) (Bx5.out.mod hHeld (fun _ _ _ h => h)) (by rw [Hyt.out]; exact By6.out) (by have := Hxl.out; omega) (by rw [Hyt.out]; have := Hxl.out; omega)
      rw [Hyt.out, Hlaw.out] at hsame
      refine hsame.mono ?_
      clear hsame
      rintro e w6 ⟨rfl, m6⟩
      have M6 : Hid (Gou.Mod (fun _ => False) w5 w6) := Lib.hid ((Gou.Mod.drew _ _).trans' m6)
      clear m6 hHeld
      refine hK _ _ M6.out (fun hHeld => ?_)
      clear hK K
      try simp only [Act.put, List.setIfInBounds_toArray, List.set_cons_zero, List.set_cons_succ]
      refine wpAnyH_ready (rs := [8]) (by kernel_rfl) (by simp) (AllReadyH.cons (o := ({ dst := some 53, op := Op.call { callee := Callee.value (Operand.func 17), args := #[Operand.tmp 51, Operand.tmp 52], argTypes := #[41, 41] }, type := 4, pos := "law.go:112", after := #[{ on := 6, ground := Ground.data }, { on := 7, ground := Ground.data }, { on := 5, ground := Ground.chain }], guard := none } : Oper)) rfl (fun K hK => ?_) AllReadyH.nil)
      go_simp
      refine (actR_any w6 _ _ p1 p2 p3 q1 q2 q3 k1 k2 k3 j1 j2 j3 a c (L1.out.mod (M5.out.trans' M6.out) (fun _ _ _ h => h)) (L2.out.mod (M5.out.trans' M6.out) (fun _ _ _ h => h)) Ha.out.borne Hc.out.borne).mono ?_
      rintro e w7 ⟨rfl, m7⟩
      have M7 : Hid (Gou.Mod (fun _ => False) w5 w7) := Lib.hid (M6.out.trans' m7)
      have Hend := Lib.hid (HM0.out.trans' (M5.out.trans' M7.out))
      clear m7 hHeld
      refine hK _ _ M7.out (fun hHeld => ?_)
      clear hK K
      try simp only [Act.put, List.setIfInBounds_toArray, List.set_cons_zero, List.set_cons_succ]
      generalize decide (a = c) = q at *
      cases q with
      | true =>
        refine wpAnyH_take (i := 9) (oi := ({ dst := some 54, op := Op.binOp BinOp.eql 4 (Operand.tmp 50) (Operand.tmp 53) 4, type := 4, pos := "law.go:112", after := #[{ on := 5, ground := Ground.data }, { on := 8, ground := Ground.data }], guard := none } : Oper)) (v := .bool true) rfl (by kernel_rfl) (by kernel_rfl) (by kernel_rfl) (fun _ _ _ h => h) (Or.inl ⟨by rfl, ?_⟩) hHeld ?_
        · (intro w' hSw; (try dsimp only at hSw); clear hSw; go_simp; (try with_reducible rfl))
        try simp only [Act.put, List.setIfInBounds_toArray, List.set_cons_zero, List.set_cons_succ]
        refine wpAnyH_take (i := 10) (oi := ({ dst := some 4, op := Op.assign (Operand.tmp 54), type := 4, pos := "law.go:112", after := #[{ on := 9, ground := Ground.data }, { on := 8, ground := Ground.chain }, { on := 0, ground := Ground.phase }, { on := 1, ground := Ground.phase }, { on := 2, ground := Ground.phase }, { on := 3, ground := Ground.phase }, { on := 4, ground := Ground.phase }, { on := 5, ground := Ground.phase }, { on := 6, ground := Ground.phase }, { on := 7, ground := Ground.phase }, { on := 8, ground := Ground.phase }, { on := 9, ground := Ground.phase }], guard := none } : Oper)) (v := .bool true) rfl (by kernel_rfl) (by kernel_rfl) (by kernel_rfl) (fun _ _ _ h => h) (Or.inl ⟨by rfl, ?_⟩) hHeld ?_
        · (intro w' hSw; (try dsimp only at hSw); clear hSw; go_simp; (try with_reducible rfl))
        try simp only [Act.put, List.setIfInBounds_toArray, List.set_cons_zero, List.set_cons_succ]
        refine wpAnyH_done (by kernel_rfl) ?_ _
        clear hHeld
        go_wp2_with fail
        go_ret
        exact ⟨rfl, Hend.out⟩
      | false =>
        refine wpAnyH_take (i := 9) (oi := ({ dst := some 54, op := Op.binOp BinOp.eql 4 (Operand.tmp 50) (Operand.tmp 53) 4, type := 4, pos := "law.go:112", after := #[{ on := 5, ground := Ground.data }, { on := 8, ground := Ground.data }], guard := none } : Oper)) (v := .bool true) rfl (by kernel_rfl) (by kernel_rfl) (by kernel_rfl) (fun _ _ _ h => h) (Or.inl ⟨by rfl, ?_⟩) hHeld ?_
        · (intro w' hSw; (try dsimp only at hSw); clear hSw; go_simp; (try with_reducible rfl))
        try simp only [Act.put, List.setIfInBounds_toArray, List.set_cons_zero, List.set_cons_succ]
        refine wpAnyH_take (i := 10) (oi := ({ dst := some 4, op := Op.assign (Operand.tmp 54), type := 4, pos := "law.go:112", after := #[{ on := 9, ground := Ground.data }, { on := 8, ground := Ground.chain }, { on := 0, ground := Ground.phase }, { on := 1, ground := Ground.phase }, { on := 2, ground := Ground.phase }, { on := 3, ground := Ground.phase }, { on := 4, ground := Ground.phase }, { on := 5, ground := Ground.phase }, { on := 6, ground := Ground.phase }, { on := 7, ground := Ground.phase }, { on := 8, ground := Ground.phase }, { on := 9, ground := Ground.phase }], guard := none } : Oper)) (v := .bool true) rfl (by kernel_rfl) (by kernel_rfl) (by kernel_rfl) (fun _ _ _ h => h) (Or.inl ⟨by rfl, ?_⟩) hHeld ?_
        · (intro w' hSw; (try dsimp only at hSw); clear hSw; go_simp; (try with_reducible rfl))
        try simp only [Act.put, List.setIfInBounds_toArray, List.set_cons_zero, List.set_cons_succ]
        refine wpAnyH_done (by kernel_rfl) ?_ _
        clear hHeld
        go_wp2_with fail
        go_ret
        exact ⟨rfl, Hend.out⟩

end Go.Proofs.Ytnamnmipgpcjjaa

