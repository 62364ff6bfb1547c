/- Texts of the codec's proofs, laid together: Puts28. -/
import Derived.Test.YtnamnmipgpcjjaaYRpD
import Derived.Test.YtnamnmipgpcjjaaZl
set_option linter.unusedSimpArgs false
set_option linter.unusedVariables false
set_option linter.unusedSectionVars false
set_option linter.constructorNameAsVariable false

/- Acts as bytes: whatever act there is: its bytes: the law's walk. -/
namespace Go.Proofs.Ytnamnmipgpcjjaa
open Go.RowKit Go.Gou

set_option linter.constructorNameAsVariable false
set_option maxRecDepth 100000

theorem range_ofP {w w' : World} {b : Nat} {T : TypeId} {cs : Array Value} (h : Blk w b T cs) (hm : Gou.Mod (fun _ => False) w w') : w'.rangeAt b 0 cs.toList :=
  Blk.range (pre := []) (post := []) (h.mod hm (fun h => h)) (by rw [List.append_nil]; rfl) rfl

theorem putOf_short {a : Ac} {es : List Nat} (hs : PxSmall a.op.look.content) (h : putOf a = some es) : es.length ≤ 1000000000 := by
  obtain ⟨e2, he2, hp⟩ := Option.bind_eq_some_iff.1 (show (encAct a).bind _ = some es from h)
  obtain ⟨_, _, hp⟩ := Option.bind_eq_some_iff.1 hp
  split at hp
  · simp only [Option.some.injEq] at hp
    subst hp
    have := (encAct_fine he2 hs).1
    omega
  · cases hp

set_option maxHeartbeats 4000000 in
theorem codecPuts_law (w : World) (v1 : Value) (a : Ac) (h1 : ActV (fun _ => True) w v1 a) (f1 : ActWf a) :
    Calls Try.prog 3 #[v1] w fun e w' => e = .returned (.bool true) ∧ Gou.Mod (fun _ => False) w w' := by
  obtain ⟨vp, vf, vb, rfl, l1⟩ := h1
  obtain ⟨p1, k1, rfl, _⟩ := RowG.form l1.pix
  obtain ⟨p2, k2, rfl⟩ := l1.filt.form
  obtain ⟨p3, k3, rfl⟩ := l1.back.form
  have Sa := Lib.hid f1.small
  have HM0 : Hid (Gou.Mod (fun _ => False) w (w.alloc (.cells (actC a (.slice p1 a.op.look.content.pix.length k1) (.slice p2 a.op.look.filt.nodes.length k2) (.slice p3 a.op.look.back.nodes.length k3)) 41))) := Lib.hid (Gou.Mod.alloc _ _ _)
  have L1 := Lib.hid (l1.mod HM0.out (fun _ _ _ h => h))
  have HA : Hid (Blk (w.alloc (.cells (actC a (.slice p1 a.op.look.content.pix.length k1) (.slice p2 a.op.look.filt.nodes.length k2) (.slice p3 a.op.look.back.nodes.length k3)) 41)) w.heap.size 41 (actC a (.slice p1 a.op.look.content.pix.length k1) (.slice p2 a.op.look.filt.nodes.length k2) (.slice p3 a.op.look.back.nodes.length k3))) := Lib.hid (heap_alloc_new w _)
  have Hpe := Lib.hid (refPut_eq f1.small (fun es h => refEnc_small f1.small h))
  clear l1 f1
  go_enter Try.func3, Try.ntmps3
  go_wp2_with fail
  generalize hW0 : (w.alloc (.cells (actC a (.slice p1 a.op.look.content.pix.length k1) (.slice p2 a.op.look.filt.nodes.length k2) (.slice p3 a.op.look.back.nodes.length k3)) 41)) = w0 at *
  clear hW0
  refine (awake_any w0).mono ?_
  rintro e w1 ⟨rfl, m1⟩
  have M1 := Lib.hid m1
  have Ra1 := Lib.hid (range_ofP HA.out M1.out)
  clear m1
  go_wp2_with (first | ((with_reducible show wpList _ _ _ (⟨_, Op.load 41 _, _, _, _, _⟩ :: _) _ _); (with_reducible refine wpList_load_midG ?g_1 41 ?x_1 ?o_1 w.heap.size 0 ?h_1 (actC a (.slice p1 a.op.look.content.pix.length k1) (.slice p2 a.op.look.filt.nodes.length k2) (.slice p3 a.op.look.back.nodes.length k3)).toList ?d_1 ?c_1 ?u_1 ?s_1 ?i_1 ?r_1); (case g_1 | o_1 | h_1 => exact rfl); (case c_1 => exact Ra1.out); (case u_1 => exact Try.underlying41); (case s_1 => exact rfl); (case i_1 => exact size_act.trans (by simp [actC]))) | fail)
  refine (few_any w1 _ p1 p2 p3 k1 k2 k3 a (L1.out.mod M1.out (fun _ _ _ h => h))).mono ?_
  rintro e w2 ⟨⟨q, rfl, hq⟩, m2⟩
  have M2 := Lib.hid (M1.out.trans' m2)
  have Hq := Lib.hid hq
  clear hq m2 M1
  cases q with
  | false =>
    go_wp2_with fail
    refine (awake_any w2).mono ?_
    rintro e w3 ⟨rfl, m3⟩
    go_wp2_with fail
    go_ret
    exact ⟨rfl, HM0.out.trans' (M2.out.trans' m3)⟩
  | true =>
    have Ha : Hid (FewOk a) := Lib.hid (Hq.out rfl)
    have Ra2 := Lib.hid (range_ofP HA.out M2.out)
    clear Hq
    go_wp2_with (first | ((with_reducible show wpList _ _ _ (⟨_, Op.load 41 _, _, _, _, _⟩ :: _) _ _); (with_reducible refine wpList_load_midG ?g_2 41 ?x_2 ?o_2 w.heap.size 0 ?h_2 (actC a (.slice p1 a.op.look.content.pix.length k1) (.slice p2 a.op.look.filt.nodes.length k2) (.slice p3 a.op.look.back.nodes.length k3)).toList ?d_2 ?c_2 ?u_2 ?s_2 ?i_2 ?r_2); (case g_2 | o_2 | h_2 => exact rfl); (case c_2 => exact Ra2.out); (case u_2 => exact Try.underlying41); (case s_2 => exact rfl); (case i_2 => exact size_act.trans (by simp [actC]))) | fail)
    refine (put_any w2 p1 p2 p3 k1 k2 k3 a (L1.out.mod M2.out (fun _ _ _ h => h)) Ha.out.borne Sa.out).mono ?_
    rintro e w3 ⟨m3, h3⟩
    have M3 := Lib.hid (M2.out.trans' m3)
    have Ra3 := Lib.hid (range_ofP HA.out M3.out)
    cases hp : putOf a with
    | none =>
      rw [hp] at h3
      subst h3
      have Hp := Lib.hid hp
      clear hp m3
      go_wp2_with (first | ((with_reducible show wpList _ _ _ (⟨_, Op.load 41 _, _, _, _, _⟩ :: _) _ _); (with_reducible refine wpList_load_midG ?g_3 41 ?x_3 ?o_3 w.heap.size 0 ?h_3 (actC a (.slice p1 a.op.look.content.pix.length k1) (.slice p2 a.op.look.filt.nodes.length k2) (.slice p3 a.op.look.back.nodes.length k3)).toList ?d_3 ?c_3 ?u_3 ?s_3 ?i_3 ?r_3); (case g_3 | o_3 | h_3 => exact rfl); (case c_3 => exact Ra3.out); (case u_3 => exact Try.underlying41); (case s_3 => exact rfl); (case i_3 => exact size_act.trans (by simp [actC]))) | fail)
      refine (putR_any w3 a p1 p2 p3 k1 k2 k3 (L1.out.mod M3.out (fun _ _ _ h => h)) Ha.out Sa.out).mono ?_
      rintro e w4 ⟨m4, h4⟩
      rw [Hpe.out, Hp.out] at h4
      subst h4
      have M4 := Lib.hid (M3.out.trans' m4)
      clear m4
      go_wp2_with fail
      refine (sameB_any w4 (fun _ => True) (fun _ => True) none none 0 0 [] [] ⟨none, 0, rfl, Nat.le_refl _, .inl rfl⟩ ⟨none, 0, rfl, Nat.le_refl _, .inl rfl⟩ (by simp) (by simp)).mono ?_
      rintro e w5 ⟨rfl, m5⟩
      rw [show decide (([] : List Nat) = []) = true from rfl]
      go_wp2_with fail
      go_ret
      exact ⟨rfl, HM0.out.trans' (M4.out.trans' m5)⟩
    | some bs =>
      rw [hp] at h3
      obtain ⟨v3, rfl, hown3⟩ := h3
      have hl := putOf_short Sa.out hp
      obtain ⟨r3, c3, rfl⟩ := Gou.ownsRow_form hown3
      have HB3 := Lib.hid (BytesAt.of_own hown3)
      have Hp := Lib.hid hp
      clear hp m3 hown3
      go_wp2_with (first | ((with_reducible show wpList _ _ _ (⟨_, Op.load 41 _, _, _, _, _⟩ :: _) _ _); (with_reducible refine wpList_load_midG ?g_4 41 ?x_4 ?o_4 w.heap.size 0 ?h_4 (actC a (.slice p1 a.op.look.content.pix.length k1) (.slice p2 a.op.look.filt.nodes.length k2) (.slice p3 a.op.look.back.nodes.length k3)).toList ?d_4 ?c_4 ?u_4 ?s_4 ?i_4 ?r_4); (case g_4 | o_4 | h_4 => exact rfl); (case c_4 => exact Ra3.out); (case u_4 => exact Try.underlying41); (case s_4 => exact rfl); (case i_4 => exact size_act.trans (by simp [actC]))) | fail)
      refine (putR_any w3 a p1 p2 p3 k1 k2 k3 (L1.out.mod M3.out (fun _ _ _ h => h)) Ha.out Sa.out).mono ?_
      rintro e w4 ⟨m4, h4⟩
      rw [Hpe.out, Hp.out] at h4
      obtain ⟨v4, rfl, hown4⟩ := h4
      obtain ⟨r4, c4, rfl⟩ := Gou.ownsRow_form hown4
      have HB4 := Lib.hid (BytesAt.of_own hown4)
      have HB3b := Lib.hid (HB3.out.mod m4 (fun _ _ _ h => h))
      have M4 := Lib.hid (M3.out.trans' m4)
      clear m4 hown4
      go_wp2_with fail
      refine (sameB_any w4 _ _ r3 r4 c3 c4 bs bs HB3b.out HB4.out (by omega) (by omega)).mono ?_
      rintro e w5 ⟨rfl, m5⟩
      rw [show decide (bs = bs) = true from decide_eq_true rfl]
      go_wp2_with fail
      go_ret
      exact ⟨rfl, HM0.out.trans' (M4.out.trans' m5)⟩

end Go.Proofs.Ytnamnmipgpcjjaa

