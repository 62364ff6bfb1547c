/- Texts of the codec's proofs, laid together: Back28. -/
import Derived.Test.YtnamnmipgpcjjaaZm
set_option linter.unusedSimpArgs false
set_option linter.unusedVariables false
set_option linter.unusedSectionVars false
set_option linter.constructorNameAsVariable false

/- Acts as bytes: acts that are written are read as they were: the law's walk. -/
namespace Go.Gou
open Go.RowKit

theorem take_sits {es bs : List Nat} {q : Nat} (h : Sits es bs q) : bs.take (q + es.length) = bs.take q ++ es := by
  obtain ⟨r, h⟩ := h
  rw [List.take_add, h, List.take_left]

theorem putOf_len {a : Ac} {es : List Nat} (hs : PxSmall a.op.look.content) (h : putOf a = some es) : es.length ≤ 1100001 := by
  obtain ⟨e2, he2, hp⟩ := Option.bind_eq_some_iff.1 (show (encAct a).bind _ = some es from h)
  obtain ⟨_, _, hp⟩ := Option.bind_eq_some_iff.1 hp
  split at hp
  · simp only [Option.some.injEq] at hp
    subst hp
    exact (encAct_fine he2 hs).1
  · cases hp

/-- On the way through the acts that are handed in. -/
structure BackAt (TA TB : TypeId) (w1 : World) (i : Nat) (va vw : Value) (bs : List Nat) (xs : List Ac) (cs : List Value) (wr : World) : Prop where
  mod : Mod (fun k => w1.heap.size ≤ k) w1 wr
  all : wr.ownsRow w1.heap.size TB 1 va bs.length (u8s bs)
  want : wr.ownsRow w1.heap.size TA 42 vw xs.length cs
  acts : WantIn (fun b => b < w1.heap.size) wr cs xs
  bytes : Written xs bs
  apart : ∀ k, va.ownBlock = some k → vw.ownBlock ≠ some k
  nx : xs.length ≤ i
  nb : bs.length ≤ i * 1100001

theorem BackAt.skip {TA TB : TypeId} {w1 : World} {i : Nat} {va vw : Value} {bs : List Nat} {xs : List Ac} {cs : List Value} {wr w2 : World} (h : BackAt TA TB w1 i va vw bs xs cs wr) (hm : Mod (fun _ => False) wr w2) (k : Nat) (hk : i ≤ k) : BackAt TA TB w1 k va vw bs xs cs w2 :=
  ⟨h.mod.trans hm fun _ _ h => h.elim, ownsRow_mod h.all hm fun _ _ h => h, ownsRow_mod h.want hm fun _ _ h => h, h.acts.mod hm fun _ _ _ h => h, h.bytes, h.apart, Nat.le_trans h.nx hk, Nat.le_trans h.nb (Nat.mul_le_mul_right _ hk)⟩

theorem BackAt.step {TA TB : TypeId} {w1 : World} {i : Nat} {va vw : Value} {bs : List Nat} {xs : List Ac} {cs : List Value} {wr w3 w4 w5 : World} (h : BackAt TA TB w1 i va vw bs xs cs wr) (hm : Mod (fun _ => False) wr w3) {a : Ac} {es : List Nat} (hp : putOf a = some es) (hs : PxSmall a.op.look.content) (hb : LookBorne a.op.look)
    {v' : Value} (h4 : w4.ownsRow w1.heap.size TB 1 v' (bs ++ es).length (u8s (bs ++ es))) (m4 : Mod (fun k => va.ownBlock = some k) w3 w4) (f4 : ∀ g, v'.ownBlock = some g → va.ownBlock = some g ∨ w3.heap.size ≤ g)
    {vp vf vb : Value} (hl : LookR (fun b => b < w1.heap.size) wr a.op.look vp vf vb) {o : Obj} {g cap : Nat} (h5 : w5.ownsRow w1.heap.size TA 42 (.slice (some ⟨g, 0, none⟩) (xs.length + 1) cap) (xs.length + 1) (cs ++ (actC a vp vf vb).toList)) (m5 : Mod (fun k => vw.ownBlock = some k) (w4.alloc o) w5) (f5 : vw.ownBlock = some g ∨ (w4.alloc o).heap.size ≤ g) :
    BackAt TA TB w1 (i + 1) v' (.slice (some ⟨g, 0, none⟩) (xs.length + 1) cap) (bs ++ es) (xs ++ [a]) (cs ++ (actC a vp vf vb).toList) w5 := by
  have hs1 := h.mod.size
  have hs3 := hm.size
  have hs4 := m4.size
  have ea := fun k hk => h.all.lt k hk
  have ew := fun k hk => h.want.lt k hk
  have m3 : Mod (fun k => w1.heap.size ≤ k) w1 w3 := h.mod.trans hm fun _ _ h => h.elim
  have m14 : Mod (fun k => w1.heap.size ≤ k) w1 w4 := m3.trans m4 fun k _ hk => (ea k hk).1
  have m4a : Mod (fun k => w1.heap.size ≤ k) w1 (w4.alloc o) := m14.trans (Mod.alloc (fun _ => False) _ _) fun _ _ h => h.elim
  have mr4 : Mod (fun k => va.ownBlock = some k) wr w4 := (hm.imp (S' := fun k => va.ownBlock = some k) fun _ _ h => h.elim).trans' m4
  have mr5 : Mod (fun k => va.ownBlock = some k ∨ vw.ownBlock = some k) wr w5 := ((mr4.imp fun _ _ h => .inl h).trans' (Mod.alloc _ _ _)).trans' (m5.imp fun _ _ h => .inr h)
  refine ⟨m4a.trans m5 fun k _ hk => (ew k hk).1, ?_, by rw [List.length_append]; exact h5, ?_, h.bytes.snoc hp hs hb, ?_, ?_, ?_⟩
  · refine ownsRow_mod (h4.alloc o) m5 fun k hk e => ?_
    rcases f4 k hk with f | f
    · exact h.apart k f e
    · have := (ew k e).2; omega
  · refine WantIn.snoc (h.acts.mod mr5 fun k _ hG e => ?_) (hl.mod mr5 fun k _ hG e => ?_)
    · rcases e with e | e
      · have := (ea k e).1; omega
      · have := (ew k e).1; omega
    · rcases e with e | e
      · have := (ea k e).1; omega
      · have := (ew k e).1; omega
  · intro k hk e
    have hk4 := (h4.lt k hk).2
    obtain rfl : g = k := by simpa [Value.ownBlock] using e
    rcases f5 with f | f
    · rcases f4 g hk with q | q
      · exact h.apart g q f
      · have := (ew g f).2; omega
    · rw [World.size_alloc] at f; omega
  · rw [List.length_append]; have := h.nx; simp; omega
  · rw [List.length_append]; have := h.nb; have := putOf_len hs hp; rw [Nat.add_mul]; omega

end Go.Gou
namespace Go.Proofs.Ytnamnmipgpcjjaa
open Go.RowKit Go.Gou

set_option linter.constructorNameAsVariable false
set_option maxRecDepth 100000

set_option maxHeartbeats 8000000 in
theorem codecBack_law (w : World) (v1 : Value) (ls : List Ac) (h1 : ActsR w v1 ls) (hw : ∀ a ∈ ls, ActWf a) (hlm : ls.length ≤ maxLen) (v2 : Value) (bs0 : List Nat) (h2 : BytesAt (fun _ => True) w v2 bs0) (hby : ∀ x ∈ bs0, x < 256) (hlen : bs0.length ≤ maxLen) :
    Calls Try.prog 5 #[v1, v2] w fun e w' => e = .returned (.bool true) ∧ Gou.Mod (fun _ => False) w w' := by
  obtain ⟨pl, cl, rfl, _⟩ := h1.form
  obtain ⟨pb, cb, rfl⟩ := h2.len
  have H1 := Lib.hid h1
  have H2 := Lib.hid h2
  have Hw := Lib.hid hw
  have Hby := Lib.hid hby
  clear h1 h2 hw hby
  go_enter Try.func5, Try.ntmps5
  go_wp2_with fail
  refine (awake_any w).mono ?_
  rintro e w1 ⟨rfl, hm1⟩
  have Hm1 := Lib.hid hm1
  clear hm1
  by_cases hl1 : ls.length ≤ 30
  case neg =>
    have e1 : decide ((30 : Int) < (ls.length : Int)) = true := decide_eq_true (by omega)
    clear hl1
    go_wp2_with fail
    refine (awake_any w1).mono ?_
    rintro e w2 ⟨rfl, hm2⟩
    go_wp2_with fail
    go_ret
    exact ⟨rfl, Hm1.out.trans' hm2⟩
  have e1 : decide ((30 : Int) < (ls.length : Int)) = false := decide_eq_false (by omega)
  by_cases hl2 : bs0.length ≤ 3000
  case neg =>
    have e2 : decide ((3000 : Int) < (bs0.length : Int)) = true := decide_eq_true (by omega)
    clear hl2
    go_wp2_with fail
    refine (awake_any w1).mono ?_
    rintro e w2 ⟨rfl, hm2⟩
    go_wp2_with fail
    go_ret
    exact ⟨rfl, Hm1.out.trans' hm2⟩
  have e2 : decide ((3000 : Int) < (bs0.length : Int)) = false := decide_eq_false (by omega)
  have HX := Lib.hid (H1.out.mod Hm1.out (fun _ _ h => h))
  have HB := Lib.hid ((H2.out.mod Hm1.out (fun _ _ _ h => h)).imp (G' := fun q => q < w1.heap.size) fun q hq _ => hq)
  clear H1 H2
  go_wp2_with fail
  go_loopw [5, 6, 7] (fun va vw c wr => ∃ (i : Nat) (bs : List Nat) (xs : List Ac) (cs : List Value), c = .int .i64 i ∧ i ≤ ls.length ∧ BackAt 41 5 w1 i va vw bs xs cs wr) (fun _ _ c _ => ls.length - (intOf c).toNat)
  case atStart => exact ⟨0, [], [], [], rfl, by omega, Gou.Mod.refl _ _, World.ownsRow_nil _ _ _ _, World.ownsRow_nil _ _ _ _, WantIn.nil _ _, rfl, by simp [Value.ownBlock], by simp, by simp⟩
  case round =>
    obtain ⟨i, bs, xs, cs, rfl, hi, hg⟩ := hrel
    obtain ⟨pa, ca, rfl⟩ := Gou.ownsRow_form hg.all
    obtain ⟨pw, cw, rfl⟩ := Gou.ownsRow_form hg.want
    have Hg := Lib.hid hg
    clear hg
    by_cases hil : i < ls.length
    · have e3 : decide ((i : Int) < (ls.length : Int)) = true := decide_eq_true (by omega)
      obtain ⟨-, b, o, rfl, hb, hc⟩ := HX.out.act (by omega)
      obtain ⟨p1, k1, p2, k2, p3, k3, hr, hlk⟩ := hc i hil
      have Hwf := Lib.hid (Hw.out _ (List.getElem_mem hil))
      clear hc
      generalize ls[i] = x at *
      have Hrg : Hid (∀ w' : World, Gou.Mod (fun k => w1.heap.size ≤ k) w1 w' → w'.rangeAt b (o + i * 42) (actC x (.slice p1 x.op.look.content.pix.length k1) (.slice p2 x.op.look.filt.nodes.length k2) (.slice p3 x.op.look.back.nodes.length k3)).toList) := Lib.hid (fun w' hm j v hv => (hm.cell (p := ⟨b, o + i * 42 + j, none⟩) hb (by simp; omega)).trans (hr j v hv))
      have Hlk := Lib.hid ((hlk.imp (G' := fun q => q < w1.heap.size) fun q hq _ => hq).mod Hg.out.mod (fun k _ hG h => by omega))
      have Hrr := Lib.hid (Hrg.out _ Hg.out.mod)
      have hiI : (i : Int) < (ls.length : Int) := by omega
      have hi0I : (0 : Int) ≤ (i : Int) := by omega
      clear hr hlk
      go_wp2_with (first | ((with_reducible refine wpList_load_mid ?g1_3 41 ?x1_3 ?o1_3 b (o + i * 42) ?h1_3 (actC x (.slice p1 x.op.look.content.pix.length k1) (.slice p2 x.op.look.filt.nodes.length k2) (.slice p3 x.op.look.back.nodes.length k3)).toList ?d1_3 ?c1_3 ?u1_3 ?s1_3 ?i1_3 ?r1_3); (case g1_3 => exact rfl); (case o1_3 => exact rfl); (case h1_3 => exact rfl); (case c1_3 => exact Hrr.out); (case u1_3 => exact Try.underlying41); (case s1_3 => exact rfl); (case i1_3 => exact size_act.trans (by simp [actC]))) | fail)
      refine (few_any wr _ p1 p2 p3 k1 k2 k3 x Hlk.out).mono ?_
      rintro e w2 ⟨⟨q, rfl, hq⟩, m2⟩
      have M2 := Lib.hid m2
      have Hq := Lib.hid hq
      clear hq m2
      cases q with
      | false =>
        go_wp2_with fail
        go_ret
        exact ⟨rfl, Hm1.out.trans (Hg.out.mod.trans M2.out (fun _ _ h => h.elim)) (fun k hk h => by have := Hm1.out.size; omega)⟩
      | true =>
        have Hfew : Hid (FewOk x) := Lib.hid (Hq.out rfl)
        have Hrr2 := Lib.hid (Hrg.out _ (Hg.out.mod.trans M2.out (fun _ _ h => h.elim)))
        clear Hq
        go_wp2_with (first | ((with_reducible refine wpList_load_mid ?g1_4 41 ?x1_4 ?o1_4 b (o + i * 42) ?h1_4 (actC x (.slice p1 x.op.look.content.pix.length k1) (.slice p2 x.op.look.filt.nodes.length k2) (.slice p3 x.op.look.back.nodes.length k3)).toList ?d1_4 ?c1_4 ?u1_4 ?s1_4 ?i1_4 ?r1_4); (case g1_4 => exact rfl); (case o1_4 => exact rfl); (case h1_4 => exact rfl); (case c1_4 => exact Hrr2.out); (case u1_4 => exact Try.underlying41); (case s1_4 => exact rfl); (case i1_4 => exact size_act.trans (by simp [actC]))) | fail)
        refine (put_any w2 p1 p2 p3 k1 k2 k3 x ((Hlk.out.mod M2.out (fun _ _ _ h => h)).imp fun _ _ _ => trivial) Hfew.out.borne Hwf.out.small).mono ?_
        rintro e w3 ⟨m3, hp⟩
        have M3 := Lib.hid (M2.out.trans' m3)
        clear m3
        rcases hpo : putOf x with _ | es
        · rw [hpo] at hp
          subst hp
          have Hnext := Lib.hid (Hg.out.skip M3.out (i + 1) (by omega))
          clear hpo
          go_wp2_with fail
          go_roundw
          case rel => exact ⟨i + 1, bs, xs, cs, by go_num, by omega, Hnext.out⟩
          case measure => simp [intOf]; omega
        rw [hpo] at hp
        obtain ⟨vc, rfl, howc⟩ := hp
        obtain ⟨pc, cc, rfl⟩ := Gou.ownsRow_form howc
        have Hc := Lib.hid (BytesAt.of_own howc)
        have Hpo := Lib.hid hpo
        have Hall := Lib.hid (ownsRow_mod Hg.out.all M3.out (fun _ _ h => h))
        have Hsz : Hid (w1.heap.size ≤ w3.heap.size) := Lib.hid (Nat.le_trans Hg.out.mod.size M3.out.size)
        have Hbase := Hsz
        have Hnb : Hid (bs.length + es.length ≤ 1000000000) := Lib.hid (by
          have h1 := Hg.out.nb
          have h2 := putOf_len Hwf.out.small hpo
          have h3 : i * 1100001 ≤ 30 * 1100001 := Nat.mul_le_mul_right _ (by omega)
          omega)
        clear howc hpo
        go_wp2_with (first | ((with_reducible refine wpList_append_bytes ?g1_7 ?s1_7 ?x1_7 ?o1_7 w1.heap.size (.slice pa bs.length ca) bs es (fun _ => True) (.slice pc es.length cc) ?a1_7 ?b1_7 ?c1_7 ?d1_7 ?e1_7 ?f1_7 ?r1_7); (case g1_7 => exact rfl); (case o1_7 => exact rfl); (case a1_7 => exact rfl); (case b1_7 => exact rfl); (case c1_7 => exact Hbase.out); (case d1_7 => exact Hall.out); (case e1_7 => exact Hc.out); (case f1_7 => exact Hnb.out); (intro v4 w4 hown4 m4 f4); (have Hown4 := Lib.hid hown4); (have M4 := Lib.hid m4); (have F4 := Lib.hid f4); (have M14 : Hid (Gou.Mod (fun k => w1.heap.size ≤ k) w1 w4) := Lib.hid ((Hg.out.mod.trans M3.out (fun _ _ h => h.elim)).trans M4.out (fun k _ hk => (Hg.out.all.lt k hk).1))); (have Hrr4 := Lib.hid (Hrg.out _ M14.out)); (have Hwant : Hid (w4.ownsRow w1.heap.size 41 42 (.slice pw xs.length cw) xs.length cs) := Lib.hid (ownsRow_mod (ownsRow_mod Hg.out.want M3.out (fun _ _ h => h)) M4.out (fun k hk e => Hg.out.apart k e hk))); (have Hnx : Hid (xs.length ≤ 100000000) := Lib.hid (by have := Hg.out.nx; omega)); (have Hbas2 : Hid (w1.heap.size ≤ (w4.alloc (.cells (actC x (.slice p1 x.op.look.content.pix.length k1) (.slice p2 x.op.look.filt.nodes.length k2) (.slice p3 x.op.look.back.nodes.length k3)) 41)).heap.size) := Lib.hid (by rw [World.size_alloc]; have := M14.out.size; omega)); (clear hown4 m4 f4)) | ((with_reducible refine wpList_load_mid ?g1_5 41 ?x1_5 ?o1_5 b (o + i * 42) ?h1_5 (actC x (.slice p1 x.op.look.content.pix.length k1) (.slice p2 x.op.look.filt.nodes.length k2) (.slice p3 x.op.look.back.nodes.length k3)).toList ?d1_5 ?c1_5 ?u1_5 ?s1_5 ?i1_5 ?r1_5); (case g1_5 => exact rfl); (case o1_5 => exact rfl); (case h1_5 => exact rfl); (case c1_5 => exact Hrr4.out); (case u1_5 => exact Try.underlying41); (case s1_5 => exact rfl); (case i1_5 => exact size_act.trans (by simp [actC]))) | ((with_reducible refine wpList_build_act ?g1_1 ?x1_1 ?o1_1 x p1 p2 p3 x.op.look.content.pix.length x.op.look.filt.nodes.length x.op.look.back.nodes.length k1 k2 k3 ?h1_1 ?r1_1); (case g1_1 => exact rfl); (case o1_1 => exact rfl); (case h1_1 => exact rfl)) | ((with_reducible refine wpList_append_act ?g1_2 ?s1_2 ?x1_2 ?o1_2 w1.heap.size (.slice pw xs.length cw) xs.length cs w4.heap.size x p1 p2 p3 x.op.look.content.pix.length x.op.look.filt.nodes.length x.op.look.back.nodes.length k1 k2 k3 ?a1_2 ?b1_2 ?d1_2 ?e1_2 ?f1_2 ?q1_2 ?r1_2); (case g1_2 => exact rfl); (case o1_2 => exact rfl); (case a1_2 => exact rfl); (case b1_2 => exact rfl); (case d1_2 => exact Hwant.out.alloc _); (case e1_2 => exact heap_alloc_new w4 _); (case f1_2 => exact Hnx.out); (case q1_2 => exact Hbas2.out); (intro gg cap w5 hown5 m5 f5)) | fail)
        have Hnext := Lib.hid (Hg.out.step M3.out Hpo.out Hwf.out.small Hfew.out.borne Hown4.out M4.out F4.out Hlk.out hown5 m5 f5)
        clear hown5 m5 f5
        go_wp2_with fail
        go_roundw
        case rel => exact ⟨i + 1, bs ++ es, xs ++ [x], _, by go_num, by omega, Hnext.out⟩
        case measure => simp [intOf]; omega
    · obtain rfl : i = ls.length := by omega
      have e3 : decide ((ls.length : Int) < (ls.length : Int)) = false := decide_eq_false (by omega)
      have Hbs : Hid (BytesAt (fun _ => True) wr (.slice pa bs.length ca) bs) := Lib.hid (BytesAt.of_own Hg.out.all)
      have Hbl : Hid (bs.length ≤ 33000030) := Lib.hid (by
        have h1 := Hg.out.nb
        have h3 : ls.length * 1100001 ≤ 30 * 1100001 := Nat.mul_le_mul_right _ (by omega)
        omega)
      go_wp2_with fail
      refine (get_big wr _ bs Hbs.out Hg.out.bytes.small (by have := Hbl.out; omega)).mono ?_
      rintro e w2 ⟨ys, m, v, hr, hm, hend, rfl, hav, hm2⟩
      obtain ⟨rfl, rfl⟩ := Reads.det hr (by
        by_cases h : m < bs.length
        · exact hend h
        · exact actAt_end h) (show Reads bs xs 0 bs.length from by simpa using Hg.out.bytes.reads [] (fun _ h => nomatch h)) (actAt_end (by omega))
      obtain ⟨py, cy, rfl, _⟩ := hav.toR.form
      have HY := Lib.hid hav.toR
      have HW2 := Lib.hid ((Hg.out.acts.toR Hg.out.want).mod hm2 (fun _ _ h => h))
      have M2 : Hid (Gou.Mod (fun k => w1.heap.size ≤ k) w1 w2) := Lib.hid (Hg.out.mod.trans hm2 (fun _ _ h => h.elim))
      have Hbor := Lib.hid Hg.out.bytes.borne
      have Hyl : Hid (ys.length ≤ 1000000000) := Lib.hid (by have := Hg.out.nx; omega)
      have eif : (if bs.length < bs.length then (2 : Int) else 0) = 0 := if_neg (by omega)
      rw [eif]
      have e4 : ((bs.length : Int) != (bs.length : Int)) = false := by simp
      clear eif hr hm hend hav hm2
      go_wp2_with fail
      refine (sameAll_any w2 py pw cy cw ys ys HY.out HW2.out Hbor.out Hbor.out Hyl.out Hyl.out).mono ?_
      rintro e w3 ⟨rfl, hm3⟩
      rw [show decide (ys = ys) = true from decide_eq_true rfl]
      have M3 : Hid (Gou.Mod (fun k => w1.heap.size ≤ k) w1 w3) := Lib.hid (M2.out.trans hm3 (fun _ _ h => h.elim))
      have HB3 := Lib.hid (HB.out.mod M3.out (fun k _ hG h => by omega))
      clear hm3
      go_wp2_with fail
      refine (get_any w3 _ bs0 (HB3.out.imp fun _ _ _ => trivial) Hby.out (by omega)).mono ?_
      rintro e w4 ⟨ms, n, v, hr, hn, hend, rfl, hav, hm4⟩
      obtain ⟨pm, cm, rfl, _⟩ := hav.toR.form
      have HMs := Lib.hid hav.toR
      have M4 : Hid (Gou.Mod (fun k => w1.heap.size ≤ k) w1 w4) := Lib.hid (M3.out.trans hm4 (fun _ _ h => h.elim))
      have HB4 := Lib.hid (HB.out.mod M4.out (fun k _ hG h => by omega))
      have Hr := Lib.hid hr
      have Hall := Lib.hid (readsAll Hby.out hr)
      have hml := readsLe hr
      have s4 := M4.out.size
      clear hend hav hm4 hr
      obtain ⟨code, hcode⟩ : ∃ code : Int, code = if n < bs0.length then (2 : Int) else 0 := ⟨_, rfl⟩
      rw [← hcode]
      have Hcode := Lib.hid hcode
      clear hcode
      go_wp2_with fail
      go_loopw [16, 17] (fun vk c wq => ∃ (i q : Nat) (bk : List Nat), c = .int .i64 i ∧ i ≤ ms.length ∧ Reads bs0 (ms.drop i) q n ∧ bk = bs0.take q ∧ wq.ownsRow w4.heap.size 5 1 vk bk.length (u8s bk) ∧ Gou.Mod (fun k => w4.heap.size ≤ k) w4 wq) (fun _ c _ => ms.length - (intOf c).toNat)
      case atStart => exact ⟨0, 0, [], rfl, by omega, by simpa using Hr.out, by simp, World.ownsRow_nil _ _ _ _, Gou.Mod.refl _ _⟩
      case round =>
        obtain ⟨i, q, bk, rfl, hi2, hrd, hbk, hown, hmq⟩ := hrel
        have Hbk := Lib.hid hbk
        obtain ⟨pk, ck, rfl⟩ := Gou.ownsRow_form hown
        have Hown := Lib.hid hown
        have Hmq := Lib.hid hmq
        have HMs2 := Lib.hid (HMs.out.mod hmq (fun k hk h => by omega))
        have hbl : bk.length ≤ 3000 := by rw [hbk, List.length_take]; omega
        clear hown hmq hbk
        by_cases hil : i < ms.length
        · have f3 : decide ((i : Int) < (ms.length : Int)) = true := decide_eq_true (by omega)
          rw [List.drop_eq_getElem_cons hil] at hrd
          obtain ⟨q2, hq2, hrd⟩ := hrd
          obtain ⟨es, hpo, hsit, rfl, hbo, hsm⟩ := putOf_of_act Hby.out hq2
          obtain ⟨-, b, o, rfl, hb, hc⟩ := HMs2.out.act (by omega)
          obtain ⟨p1, k1, p2, k2, p3, k3, hrg, hlk⟩ := hc i hil
          have Hrd := Lib.hid hrd
          have hqle := readsLe hrd
          have Htk := Lib.hid (take_sits hsit)
          clear hc hq2 hrd hsit
          generalize ms[i] = x at *
          have Hrg := Lib.hid hrg
          have Hlk := Lib.hid hlk
          have Hpo := Lib.hid hpo
          have hiI : (i : Int) < (ms.length : Int) := by omega
          have hi0I : (0 : Int) ≤ (i : Int) := by omega
          clear hrg hlk hpo
          go_wp2_with (first | ((with_reducible refine wpList_load_mid ?g1_6 41 ?x1_6 ?o1_6 b (o + i * 42) ?h1_6 (actC x (.slice p1 x.op.look.content.pix.length k1) (.slice p2 x.op.look.filt.nodes.length k2) (.slice p3 x.op.look.back.nodes.length k3)).toList ?d1_6 ?c1_6 ?u1_6 ?s1_6 ?i1_6 ?r1_6); (case g1_6 => exact rfl); (case o1_6 => exact rfl); (case h1_6 => exact rfl); (case c1_6 => exact Hrg.out); (case u1_6 => exact Try.underlying41); (case s1_6 => exact rfl); (case i1_6 => exact size_act.trans (by simp [actC]))) | fail)
          refine (put_any wr p1 p2 p3 k1 k2 k3 x Hlk.out hbo hsm).mono ?_
          rintro e w5 ⟨m5, hp⟩
          rw [Hpo.out] at hp
          obtain ⟨vc, rfl, howc⟩ := hp
          obtain ⟨pc, cc, rfl⟩ := Gou.ownsRow_form howc
          have Hc := Lib.hid (BytesAt.of_own howc)
          have Hown5 := Lib.hid (ownsRow_mod Hown.out m5 (fun _ _ h => h))
          have M5 : Hid (Gou.Mod (fun k => w4.heap.size ≤ k) w4 w5) := Lib.hid (Hmq.out.trans m5 (fun _ _ h => h.elim))
          have Hbase : Hid (w4.heap.size ≤ w5.heap.size) := Lib.hid M5.out.size
          have Hnb : Hid (bk.length + es.length ≤ 1000000000) := Lib.hid (by
            have h2 := putOf_len hsm Hpo.out
            omega)
          clear howc m5
          go_wp2_with (first | ((with_reducible refine wpList_append_bytes ?g1_8 ?s1_8 ?x1_8 ?o1_8 w4.heap.size (.slice pk bk.length ck) bk es (fun _ => True) (.slice pc es.length cc) ?a1_8 ?b1_8 ?c1_8 ?d1_8 ?e1_8 ?f1_8 ?r1_8); (case g1_8 => exact rfl); (case o1_8 => exact rfl); (case a1_8 => exact rfl); (case b1_8 => exact rfl); (case c1_8 => exact Hbase.out); (case d1_8 => exact Hown5.out); (case e1_8 => exact Hc.out); (case f1_8 => exact Hnb.out); (intro v6 w6 hown6 m6 f6)) | fail)
          have Hown6 := Lib.hid hown6
          have Hbk6 : Hid (bk ++ es = bs0.take (q + es.length)) := Lib.hid (by rw [Htk.out, Hbk.out])
          have M6 : Hid (Gou.Mod (fun k => w4.heap.size ≤ k) w4 w6) := Lib.hid (M5.out.trans m6 (fun k _ hk => (Hown5.out.lt k hk).1))
          clear hown6 m6 f6
          go_wp2_with fail
          go_roundw
          case rel => exact ⟨i + 1, q + es.length, bk ++ es, by go_num, by omega, Hrd.out, Hbk6.out, Hown6.out, M6.out⟩
          case measure => simp [intOf]; omega
        · obtain rfl : i = ms.length := by omega
          have f3 : decide ((ms.length : Int) < (ms.length : Int)) = false := decide_eq_false (by omega)
          rw [List.drop_length] at hrd
          obtain rfl : q = n := hrd
          have htl : bk.length = q := by rw [Hbk.out, List.length_take, Nat.min_eq_left hn]
          have Hk := Lib.hid (BytesAt.of_own Hown.out)
          have HBq := Lib.hid ((HB4.out.mod Hmq.out (fun k _ hG h => by omega)).take q hn)
          have Hend : Hid (Gou.Mod (fun _ => False) w wr) := Lib.hid (Hm1.out.trans (M4.out.trans Hmq.out (fun k hk h => by omega)) (fun k hk h => by have := Hm1.out.size; omega))
          have Hcap : Hid (bs0.length ≤ cb) := Lib.hid (by
            obtain ⟨_, _, e, h, _⟩ := HB4.out
            simp only [Value.slice.injEq] at e
            obtain ⟨_, _, rfl⟩ := e
            exact h)
          have hcap := Hcap.out
          have g1 : (q : Int) ≤ (cb : Int) := by omega
          have g0 : (0 : Int) ≤ (q : Int) := by omega
          have f4 : decide ((q : Int) ≤ (bs0.length : Int)) = true := decide_eq_true (by omega)
          have f4' : decide (q ≤ bs0.length) = true := decide_eq_true (by omega)
          have hBq := HBq.out
          rw [← Hbk.out] at hBq
          have HBk := Lib.hid hBq
          clear hBq
          subst htl
          go_wp2_with fail
          refine (sameB_any wr _ _ pk pb ck cb bk bk Hk.out HBk.out (by omega) (by omega)).mono ?_
          rintro e w7 ⟨rfl, hm7⟩
          rw [show decide (bk = bk) = true from decide_eq_true rfl]
          have Hend7 := Lib.hid (Hend.out.trans' hm7)
          clear hm7
          by_cases hqn : bk.length = bs0.length
          · have f5 : (code == 0) = true := by rw [Hcode.out, if_neg (by omega)]; rfl
            have f6 : ((bk.length : Int) == (bs0.length : Int)) = true := by simp [hqn]
            clear hqn
            go_wp2_with fail
            go_ret
            exact ⟨rfl, Hend7.out⟩
          · have f5 : (code == 0) = false := by rw [Hcode.out, if_pos (by omega)]; rfl
            have f6 : ((bk.length : Int) == (bs0.length : Int)) = false := by simp; omega
            clear hqn
            go_wp2_with fail
            go_ret
            exact ⟨rfl, Hend7.out⟩

end Go.Proofs.Ytnamnmipgpcjjaa

