/- Texts of the scenes' proofs, laid together: SdJ. -/
import Derived.Test.YtpbmfalokongfaaZai
set_option linter.unusedSimpArgs false
set_option linter.unusedVariables false
set_option linter.unusedSectionVars false
set_option linter.constructorNameAsVariable false

/- Scenes: what is set in a look, in the code. -/
namespace Go.Gou
open Go.RowKit
set_option linter.constructorNameAsVariable false
theorem setMany_get (vs : List Value) : ∀ (cs : Array Value) (o k : Nat), (setMany cs o vs)[k]? = if o ≤ k ∧ k < o + vs.length ∧ k < cs.size then vs[k - o]? else cs[k]? := by
  induction vs with
  | nil => intro cs o k; rw [if_neg (by simp; omega)]; rfl
  | cons v r ih =>
    intro cs o k
    rw [setMany, ih]
    simp only [Array.size_setIfInBounds, List.length_cons]
    by_cases h1 : o + 1 ≤ k ∧ k < o + 1 + r.length ∧ k < cs.size
    · rw [if_pos h1, if_pos (by omega), show k - o = (k - (o + 1)) + 1 by omega, List.getElem?_cons_succ]
    · rw [if_neg h1]
      by_cases h2 : k = o ∧ k < cs.size
      · obtain ⟨rfl, h2⟩ := h2
        rw [if_pos (by omega), Nat.sub_self, Array.getElem?_setIfInBounds_self_of_lt h2]
        rfl
      · rw [if_neg (by omega)]
        by_cases h3 : k = o
        · subst h3
          rw [Array.getElem?_eq_none (by simp; omega), Array.getElem?_eq_none (by omega)]
        · rw [Array.getElem?_setIfInBounds_ne (by omega)]
variable {TL TD : TypeId} {base : Nat}
/-- A layer's place may be written. -/
theorem TreeAt.place {w : World} {b o : Nat} {T : Ly} {F : List Nat} (h : TreeAt TL TD base w b o T F) : ∃ TT cur, Blk w b TT cur ∧ ∀ k, k < 31 → ∃ u, w.cell? ⟨b, o + k, none⟩ = some u ∧ w.frozen? ⟨b, o + k, none⟩ = false := by
  obtain ⟨⟨c, cur, TT, h1, h2, h3, h4⟩, h5, h6⟩ := h
  refine ⟨TT, cur, h2, fun k hk => ?_⟩
  have hl := h1.len
  have hc : c[k]? = some c[k] := List.getElem?_eq_getElem (by omega)
  exact ⟨c[k], h2.cell (o + k) ((h4 k hk).trans hc), h2.frozen (o + k)⟩
theorem TreeAt.thereAt {w : World} {b o : Nat} {T : Ly} {F : List Nat} (h : TreeAt TL TD base w b o T F) (k n : Nat) (hk : k + n ≤ 31) : w.there b (o + k) n := fun j hj => by
  obtain ⟨_, _, _, hp⟩ := h.place
  obtain ⟨u, h1, h2⟩ := hp (k + j) (by omega)
  rw [← Nat.add_assoc] at h1 h2
  exact ⟨by rw [h1]; rfl, h2⟩
theorem Frm.trans {w w2 w3 : World} {b o : Nat} {F : List Nat} {N : Nat → Prop} (h : Frm w w2 b o F N) (k : Frm w2 w3 b o F N) : Frm w w3 b o F N := by
  obtain ⟨m1, cA, cB, TT, a1, a2, a3, a4⟩ := h
  obtain ⟨m2, dA, dB, UU, b1, b2, b3, b4⟩ := k
  unfold Blk at a2 b1
  rw [a2] at b1
  simp only [Option.some.injEq, Obj.cells.injEq] at b1
  obtain ⟨rfl, rfl, -⟩ := b1
  exact ⟨m1.trans' m2, cA, dB, TT, a1, b2, b3.trans a3, fun j hj => (b4 j hj).trans (a4 j hj)⟩
/-- Another look is laid into a layer. -/
theorem TreeAt.relook {w : World} {b o : Nat} {T : Ly} {F : List Nat} (h : TreeAt TL TD base w b o T F) : ∃ vp vf vb, LookR (LookG TL TD base w) w T.look vp vf vb ∧
    ∀ (o2 : Nat) (vs : List Value) (lk2 : Lk) (vp2 vf2 vb2 : Value), 2 ≤ o2 → o2 + vs.length ≤ 30 → (∀ vk, setMany (lyA T.id T.look vp vf vb vk) o2 vs = lyA T.id lk2 vp2 vf2 vb2 vk) → LookR (LookG TL TD base w) w lk2 vp2 vf2 vb2 →
      TreeAt TL TD base (w.setCells b (o + o2) vs) b o (.mk T.id lk2 T.kids) F ∧ Frm w (w.setCells b (o + o2) vs) b o F (fun _ => False) := by
  obtain ⟨vp, vf, vb, vk, css, fs, cur, TT, hd⟩ := h.open
  refine ⟨vp, vf, vb, hd.h4, fun o2 vs lk2 vp2 vf2 vb2 ho hl hc hr => ?_⟩
  have hnl := h.notLook
  have hm := Blk.setMod w b (o + o2) vs
  have hl' : ∀ k, base ≤ k → LookBlk TL TD w k → ¬ k = b := fun k _ hk e => hnl (e ▸ hk)
  have hF : ∀ k ∈ F, ¬ k = b := fun k hk e => h.out (e ▸ hk)
  have hb2 := hd.h1.sets (o + o2) vs
  have hsz := setMany_size vs cur (o + o2)
  have hv : vk.ownBlock.toList ++ fs.flatten = F := hd.h9.symm
  refine ⟨TreeD.tree (vp := vp2) (vf := vf2) (vb := vb2) (vk := vk) (css := css) (fs := fs) (cur := setMany cur (o + o2) vs) (TT := TT) ⟨hb2, hd.h2, fun j hj => ?_, hr.look_mod hm hl', ownsRow_mod hd.h5 hm (fun k hk => hF k (by rw [← hv, hk]; simp)), hd.h6, hd.h7, fun j c k f a1 a2 a3 => (hd.h8 j c k f a1 a2 a3).mod hm (fun x hx => hF x (by rw [← hv]; exact List.mem_append_right _ (List.mem_flatten.2 ⟨f, List.mem_of_getElem? a3, hx⟩))) hl', hd.h9, hd.h10, hd.ge, hd.out⟩, hm.imp (fun _ _ e => .inl e), cur, _, TT, hd.h1, hb2, hsz, fun j hj => ?_⟩
  · have h3 := hd.h3 j hj
    rw [Ly.id_mk, Ly.look_mk, ← hc vk, setMany_get, setMany_get]
    have hs : (lyA T.id T.look vp vf vb vk).size = 31 := rfl
    have hcur : o + j < cur.size := by
      rcases Nat.lt_or_ge (o + j) cur.size with hh | hh
      · exact hh
      · rw [Array.getElem?_eq_none hh, Array.getElem?_eq_getElem (by omega)] at h3
        cases h3
    by_cases hin : o2 ≤ j ∧ j < o2 + vs.length
    · rw [if_pos (by omega), if_pos (by omega), show o + j - (o + o2) = j - o2 by omega]
    · rw [if_neg (by omega), if_neg (by omega), h3]
  · rw [setMany_get, if_neg (by omega)]
theorem set_content (i : Idt) (l : Lk) (vp vf vb vk : Value) (c : Ct) (v : Value) : setMany (lyA i l vp vf vb vk) 11 (contC c v).toList = lyA i { l with content := c } v vf vb vk := by
  simp only [contC, setMany, lyA, List.setIfInBounds_toArray, List.set_cons_succ, List.set_cons_zero]
theorem Frm.of_up {w w' w2 : World} {b o : Nat} {T : Ly} {F : List Nat} {N : Nat → Prop} (h : TreeAt TL TD base w b o T F) (hm : Mod (fun _ => False) w w') (fr : Frm w' w2 b o F N) : Frm w w2 b o F N := by
  obtain ⟨⟨c, cur, TT, h1, h2, h3, h4⟩, h5, h6⟩ := h
  obtain ⟨m1, cA, cB, UU, a1, a2, a3, a4⟩ := fr
  have h2' := h2.mod hm (fun h => h)
  unfold Blk at h2' a1
  rw [h2'] at a1
  simp only [Option.some.injEq, Obj.cells.injEq] at a1
  obtain ⟨rfl, rfl, -⟩ := a1
  exact ⟨(hm.imp (fun _ _ h => h.elim)).trans' m1, cur, cB, TT, h2, a2, a3, a4⟩
theorem Zoom.up {w w' : World} {b o : Nat} {T : Ly} {F : List Nat} {π : List Nat} {s : Ly} {b' o' : Nat} {F' : List Nat} (h : Zoom TL TD base w b o T F π s b' o' F') (hm : Mod (fun _ => False) w w') : Zoom TL TD base w' b o T F π s b' o' F' :=
  ⟨h.sub.up hm, h.blk, h.rows, fun w2 s2 F2 N t2 fr hF2 hN => h.put w2 s2 F2 N t2 (Frm.of_up h.sub hm fr) hF2 (fun x hx => ⟨(hN x hx).1, (hN x hx).2.1, fun hb hl => (hN x hx).2.2 hb (hl.mod hm (fun h => h))⟩), h.get, fun w2 N fr hN => h.at2 w2 N (Frm.of_up h.sub hm fr) hN⟩
end Go.Gou
namespace Go.Proofs.Ytpbmfalokongfaa
open Go.RowKit Go.Gou Go.Lib
set_option maxRecDepth 100000
set_option linter.constructorNameAsVariable false

/-- What set and picture leave. -/
def SetP (base : Nat) (a : Ar) (T : Ly) (F : List Nat) (op : Opr) (vp vf vb : Value) (s : Ly) (π : List Nat) (w : World) (D : Nat) (e : Ending) (w' : World) : Prop := Gou.Mod (fun x => x = D ∨ x ∈ F) w w' ∧
  e = .returned (.int .i64 (lookP checkS s.look op).2) ∧ ((lookP checkS s.look op).2 = 0 → ∃ vg vl cur F3, DoerL base w' D a (T.put π (.mk s.id (lookP checkS s.look op).1 s.kids)) F3 op vg vl vp vf vb cur)

theorem DoerR.opr {base : Nat} {w : World} {D : Nat} {a : Ar} {T : Ly} {F : List Nat} {op : Opr} {vg vl vp vf vb : Value} {cur : Array Value} (h : DoerL base w D a T F op vg vl vp vf vb cur) : w.rangeAt D 39 (lookC op.look vp vf vb).toList := fun j v hv => by
  have hj := (List.getElem?_eq_some_iff.1 hv).1
  have hj28 : j < 28 := hj
  refine h.blk.cell (39 + j) ?_
  have := h.ops (6 + j) (by omega)
  rw [show 33 + (6 + j) = 39 + j by omega] at this
  rw [this]
  have e : (oprC op vp vf vb).toList = [.int .i64 op.kind, .int .i64 op.id.1, .int .i64 op.id.2, .int .i64 op.to.1, .int .i64 op.to.2, .int .i64 op.at_] ++ (lookC op.look vp vf vb).toList := rfl
  rw [← Array.getElem?_toList, e, List.getElem?_append_right (by simp)]
  simpa using hv
theorem look_one {l : Lk} {p1 p2 p3 : Option Addr} {n1 n2 n3 c1 c2 c3 : Nat} : (lookC l (.slice p1 n1 c1) (.slice p2 n2 c2) (.slice p3 n3 c3)).all (·.oneCell') = true := by
  simp [lookC, Value.oneCell']

set_option maxHeartbeats 8000000 in
theorem picture_any (base : Nat) (w : World) (D : Nat) (a : Ar) (T : Ly) (F : List Nat) (op : Opr) (vg vl vp vf vb : Value) (cur : Array Value) (hD : DoerL base w D a T F op vg vl vp vf vb cur) (π : List Nat) (s : Ly) (b' o' : Nat) (F' : List Nat) (hz : ZoomL base w D 2 T F π s b' o' F') (hfit : LkFit op.look) (hwf : GrWf op.look.filt) (hwb : GrWf op.look.back) (hk5 : 9 ≤ op.kind) (hk11 : op.kind ≤ 11) :
    Calls Try.prog 37 #[.pointer (some ⟨D, 0, none⟩), .pointer (some ⟨b', o' + 2, none⟩)] w (SetP base a T F op vp vf vb s π w D) := by
  obtain ⟨⟨pp, cp, rfl⟩, ⟨pf, cf, rfl⟩, ⟨pb, cb, rfl⟩⟩ := hD.look.forms
  have HD := Lib.hid hD
  have Hz := Lib.hid hz
  have Hfit := Lib.hid hfit
  have Hwf := Lib.hid hwf
  have Hwb := Lib.hid hwb
  have HDlt := Lib.hid (Blk.lt hD.blk)
  have Hblt := Lib.hid hz.sub.lt
  have Hrg : Hid (w.rangeAt D 39 (lookC op.look (.slice pp op.look.content.pix.length cp) (.slice pf op.look.filt.nodes.length cf) (.slice pb op.look.back.nodes.length cb)).toList) := Lib.hid (DoerR.opr hD)
  obtain ⟨q, hq⟩ : ∃ q, q = o' + 2 := ⟨_, rfl⟩
  have Hq := Lib.hid hq
  rw [← hq]
  clear hD hz hfit hwf hwb hq
  go_enter Try.func37, Try.ntmps37
  go_upto_region 2 with (first | ((with_reducible refine wpList_load_mid ?g1_1 42 ?x1_1 ?o1_1 (D) (39) ?h1_1 ((lookC op.look (.slice pp op.look.content.pix.length cp) (.slice pf op.look.filt.nodes.length cf) (.slice pb op.look.back.nodes.length cb)).toList) ?d1_1 ?c1_1 ?u1_1 ?e1_1 ?i1_1 ?r1_1); (case g1_1 => exact rfl); (case o1_1 => exact rfl); (case h1_1 => exact rfl); (case c1_1 => exact Hrg.out); (case u1_1 => exact Try.underlying42); (case e1_1 => exact rfl); (case i1_1 => exact size_look)) | ((with_reducible refine wpList_store_mid ?g1_2 42 ?x1_2 ?y1_2 ?o1_2 (w.heap.size) (0) (lookC op.look (.slice pp op.look.content.pix.length cp) (.slice pf op.look.filt.nodes.length cf) (.slice pb op.look.back.nodes.length cb)) ?h1_2 ?j1_2 ?t1_2 ?i1_2 ?s1_2 ?r1_2); (case g1_2 => exact rfl); (case o1_2 => exact rfl); (case h1_2 => exact rfl); (case j1_2 => exact rfl); (case t1_2 => exact (Blk.new w 42 (lookC Lk.zero (.slice none 0 0) (.slice none 0 0) (.slice none 0 0))).there 0 28 (by simp [lookC])); (case i1_2 => exact size_look); (case s1_2 => exact look_one)) | fail)
  have HB := Lib.hid ((Blk.new w 42 (lookC Lk.zero (.slice none 0 0) (.slice none 0 0) (.slice none 0 0))).setAll (lookC op.look (.slice pp op.look.content.pix.length cp) (.slice pf op.look.filt.nodes.length cf) (.slice pb op.look.back.nodes.length cb)) rfl)
  have HM : Hid (Gou.Mod (fun _ => False) w ((w.alloc (.cells (lookC Lk.zero (.slice none 0 0) (.slice none 0 0) (.slice none 0 0)) 42)).setCells w.heap.size 0 (lookC op.look (.slice pp op.look.content.pix.length cp) (.slice pf op.look.filt.nodes.length cf) (.slice pb op.look.back.nodes.length cb)).toList)) := Lib.hid (Gou.Mod.allocSet _ _ _)
  show Code.wp _ _ _ _ ((w.alloc (.cells (lookC Lk.zero (.slice none 0 0) (.slice none 0 0) (.slice none 0 0)) 42)).setCells w.heap.size 0 (lookC op.look (.slice pp op.look.content.pix.length cp) (.slice pf op.look.filt.nodes.length cf) (.slice pb op.look.back.nodes.length cb)).toList)
  generalize (w.alloc (.cells (lookC Lk.zero (.slice none 0 0) (.slice none 0 0) (.slice none 0 0)) 42)).setCells w.heap.size 0 (lookC op.look (.slice pp op.look.content.pix.length cp) (.slice pf op.look.filt.nodes.length cf) (.slice pb op.look.back.nodes.length cb)).toList = W1 at *
  have HD1 := Lib.hid (HD.out.up HM.out)
  have Hz1 := Lib.hid (Hz.out.up HM.out)
  have HNb : Hid (w.heap.size ≠ b') := Lib.hid (by have := Hblt.out; omega)
  have HND : Hid (w.heap.size ≠ D) := Lib.hid (by have := HDlt.out; omega)
  obtain ⟨N, hN⟩ : ∃ N, N = w.heap.size := ⟨_, rfl⟩
  rw [← hN] at HB HNb HND ⊢
  have HN := Lib.hid hN
  clear hN
  have HbD : Hid (b' = D ∨ b' ∈ F) := Lib.hid (Hz1.out.blk.imp (fun h => h.1) id)
  have Hpl : Hid (∀ wx s, TreeAt 45 67 base wx b' o' s F' → ∀ k, k < 28 → ∃ u, wx.cell? ⟨b', q + k, none⟩ = some u ∧ wx.frozen? ⟨b', q + k, none⟩ = false) := Lib.hid (fun wx s hx k hk => by
    obtain ⟨_, _, _, h⟩ := hx.place
    have := h (k + 2) (by omega)
    rw [show o' + (k + 2) = q + k by have := Hq.out; omega] at this
    exact this)
  obtain ⟨vp1, vf1, vb1, hlr, hset⟩ := Hz1.out.sub.relook
  have Hlr := Lib.hid hlr
  have Hset := Lib.hid hset
  have Hq2 : Hid (∀ k, o' + (k + 2) = q + k) := Lib.hid (fun k => by have := Hq.out; omega)
  clear hlr hset
  have c33 := HD1.out.cell.2.2.1
  have HMS : Hid (Gou.Mod (fun x => x = D ∨ x ∈ F) w W1) := Lib.hid (HM.out.imp (fun _ _ h => h.elim))
  by_cases k9 : op.kind = 9
  · rw [k9] at c33
    have Hk := Lib.hid k9
    clear k9
    try clear k5
    try clear k6
    try clear k7
    try clear k8
    try clear k9
    try clear k10
    clear hk5 hk11
    have n9 : W1.cell? ⟨N, 9, none⟩ = some (.int .i64 op.look.content.kind) := HB.out.cell 9 rfl
    by_cases h1 : op.look.content.kind < 0
    · have e1 : decide (op.look.content.kind < 0) = true := decide_eq_true h1
      have Hl : Hid (lookP checkS s.look op = (s.look, 1)) := Lib.hid (by simp [lookP, Hk.out, h1])
      go_wp2_with fail
      go_ret
      exact ⟨HMS.out, by rw [Hl.out]; rfl, fun h => absurd h (by rw [Hl.out]; show ¬ ((1 : Int) = 0); decide)⟩
    · have e1 : decide (op.look.content.kind < 0) = false := decide_eq_false h1
      by_cases h2 : 2 < op.look.content.kind
      · have e2 : decide (2 < op.look.content.kind) = true := decide_eq_true h2
        have Hl : Hid (lookP checkS s.look op = (s.look, 1)) := Lib.hid (by simp [lookP, Hk.out, h2])
        go_wp2_with fail
        go_ret
        exact ⟨HMS.out, by rw [Hl.out]; rfl, fun h => absurd h (by rw [Hl.out]; show ¬ ((1 : Int) = 0); decide)⟩
      · have e2 : decide (2 < op.look.content.kind) = false := decide_eq_false h2
        have Hk02 : Hid (0 ≤ op.look.content.kind ∧ op.look.content.kind ≤ 2) := Lib.hid ⟨by omega, by omega⟩
        have Hl0 : Hid (lookP checkS s.look op = if op.look.content.rightB then ({ s.look with content := op.look.content.own }, 0) else (s.look, 3)) := Lib.hid (by simp [lookP, Hk.out, h1, h2])
        have n10 : W1.cell? ⟨N, 10, none⟩ = some (.int .i64 op.look.content.box.x0) := HB.out.cell 10 rfl
        have n11 : W1.cell? ⟨N, 11, none⟩ = some (.int .i64 op.look.content.box.y0) := HB.out.cell 11 rfl
        have n12 : W1.cell? ⟨N, 12, none⟩ = some (.int .i64 op.look.content.box.x1) := HB.out.cell 12 rfl
        have n13 : W1.cell? ⟨N, 13, none⟩ = some (.int .i64 op.look.content.box.y1) := HB.out.cell 13 rfl
        have n14 : W1.cell? ⟨N, 14, none⟩ = some (.int .u8 ((op.look.content.px.p0 : Nat) : Int)) := HB.out.cell 14 rfl
        have n15 : W1.cell? ⟨N, 15, none⟩ = some (.int .u8 ((op.look.content.px.p1 : Nat) : Int)) := HB.out.cell 15 rfl
        have n16 : W1.cell? ⟨N, 16, none⟩ = some (.int .u8 ((op.look.content.px.p2 : Nat) : Int)) := HB.out.cell 16 rfl
        have n17 : W1.cell? ⟨N, 17, none⟩ = some (.int .u8 ((op.look.content.px.p3 : Nat) : Int)) := HB.out.cell 17 rfl
        have n18 : W1.cell? ⟨N, 18, none⟩ = some (.int .i64 op.look.content.w) := HB.out.cell 18 rfl
        have n19 : W1.cell? ⟨N, 19, none⟩ = some (.int .i64 op.look.content.h) := HB.out.cell 19 rfl
        have n20 : W1.cell? ⟨N, 20, none⟩ = some (.int .i64 op.look.content.turn) := HB.out.cell 20 rfl
        have n21 : W1.cell? ⟨N, 21, none⟩ = some (.slice pp op.look.content.pix.length cp) := HB.out.cell 21 rfl
        go_upto_region 6 with fail
        clear h1 h2 e1 e2
        go_wp2_with fail
        refine (content_any _ op.look.content (.slice pp op.look.content.pix.length cp) (HD1.out.look.pix.imp (fun _ _ _ => trivial)) Hfit.out.pix Hk02.out.1 Hk02.out.2).mono ?_
        rintro e w2 ⟨rfl, hm2⟩
        have HM2 := Lib.hid (HM.out.trans' hm2)
        have HB2 := Lib.hid (HB.out.up hm2)
        have HD2 := Lib.hid (HD1.out.up hm2)
        have Hz2 := Lib.hid (Hz1.out.up hm2)
        clear hm2 c33 HMS Hset Hlr HD1 Hz1 n9 n10 n11 n12 n13 n14 n15 n16 n17 n18 n19 n20 n21
        cases hx : op.look.content.rightB
        · have Hl : Hid (lookP checkS s.look op = (s.look, 3)) := Lib.hid (by rw [Hl0.out, hx]; rfl)
          clear hx
          have HMS : Hid (Gou.Mod (fun x => x = D ∨ x ∈ F) w w2) := Lib.hid (HM2.out.imp (fun _ _ h => h.elim))
          go_wp2_with fail
          go_ret
          exact ⟨HMS.out, by rw [Hl.out]; rfl, fun h => absurd h (by rw [Hl.out]; show ¬ ((3 : Int) = 0); decide)⟩
        · have Hl : Hid (lookP checkS s.look op = ({ s.look with content := op.look.content.own }, 0)) := Lib.hid (by rw [Hl0.out, hx]; rfl)
          clear hx
          have n9 : w2.cell? ⟨N, 9, none⟩ = some (.int .i64 op.look.content.kind) := HB2.out.cell 9 rfl
          have n10 : w2.cell? ⟨N, 10, none⟩ = some (.int .i64 op.look.content.box.x0) := HB2.out.cell 10 rfl
          have n11 : w2.cell? ⟨N, 11, none⟩ = some (.int .i64 op.look.content.box.y0) := HB2.out.cell 11 rfl
          have n12 : w2.cell? ⟨N, 12, none⟩ = some (.int .i64 op.look.content.box.x1) := HB2.out.cell 12 rfl
          have n13 : w2.cell? ⟨N, 13, none⟩ = some (.int .i64 op.look.content.box.y1) := HB2.out.cell 13 rfl
          have n14 : w2.cell? ⟨N, 14, none⟩ = some (.int .u8 ((op.look.content.px.p0 : Nat) : Int)) := HB2.out.cell 14 rfl
          have n15 : w2.cell? ⟨N, 15, none⟩ = some (.int .u8 ((op.look.content.px.p1 : Nat) : Int)) := HB2.out.cell 15 rfl
          have n16 : w2.cell? ⟨N, 16, none⟩ = some (.int .u8 ((op.look.content.px.p2 : Nat) : Int)) := HB2.out.cell 16 rfl
          have n17 : w2.cell? ⟨N, 17, none⟩ = some (.int .u8 ((op.look.content.px.p3 : Nat) : Int)) := HB2.out.cell 17 rfl
          have n18 : w2.cell? ⟨N, 18, none⟩ = some (.int .i64 op.look.content.w) := HB2.out.cell 18 rfl
          have n19 : w2.cell? ⟨N, 19, none⟩ = some (.int .i64 op.look.content.h) := HB2.out.cell 19 rfl
          have n20 : w2.cell? ⟨N, 20, none⟩ = some (.int .i64 op.look.content.turn) := HB2.out.cell 20 rfl
          have n21 : w2.cell? ⟨N, 21, none⟩ = some (.slice pp op.look.content.pix.length cp) := HB2.out.cell 21 rfl
          go_upto_region 8 with fail
          go_wp2_with fail
          refine (own_any _ op.look.content (.slice pp op.look.content.pix.length cp) (HD2.out.look.pix.imp (fun _ _ _ => trivial)) Hfit.out.pix Hk02.out.1 Hk02.out.2).mono ?_
          rintro e w3 ⟨p3, k3, rfl, ho3, hm3⟩
          have HM3 := Lib.hid (HM2.out.trans' hm3)
          have HB3 := Lib.hid (HB2.out.up hm3)
          have HD3 := Lib.hid (HD2.out.up hm3)
          have Hz3 := Lib.hid (Hz2.out.up hm3)
          have HMS : Hid (Gou.Mod (fun x => x = D ∨ x ∈ F) w w3) := Lib.hid (HM3.out.imp (fun _ _ h => h.elim))
          obtain ⟨vp1, vf1, vb1, hlr, hset⟩ := Hz3.out.sub.relook
          have hge : base ≤ w2.heap.size := by have := HD2.out.tree.ge; have := HD2.out.tree.lt; omega
          obtain ⟨t2, fr2⟩ := hset 11 (contC op.look.content.own (.slice p3 op.look.content.own.pix.length k3)).toList ({ s.look with content := op.look.content.own }) (.slice p3 op.look.content.own.pix.length k3) vf1 vb1 (by omega) (by simp [contC]) (fun _ => set_content _ _ _ _ _ _ _ _) ⟨RowG.imp ho3 (fun k _ hk => ⟨Nat.le_trans hge hk.1, hk.2⟩), hlr.filt, hlr.back⟩
          rw [Hq2.out 9] at t2 fr2
          obtain ⟨F3, cur3, h3, _⟩ := HD3.out.step tI tB Hz3.out t2 fr2 (fun x hx => .inl hx)
          have Hth : Hid (w3.there b' (q + 9) 13) := Lib.hid (by have := Hz3.out.sub.thereAt 11 13 (by omega); rw [Hq2.out 9] at this; exact this)
          have H3 := Lib.hid h3
          have Hfr2 := Lib.hid fr2
          clear hm3 ho3 hlr hset t2 fr2 h3 hge n9 n10 n11 n12 n13 n14 n15 n16 n17 n18 n19 n20 n21
          go_wp2_with (first | ((with_reducible refine wpList_store_mid ?g1_3 37 ?x1_3 ?y1_3 ?o1_3 (b') (q + 9) (contC op.look.content.own (.slice p3 op.look.content.own.pix.length k3)) ?h1_3 ?j1_3 ?t1_3 ?i1_3 ?s1_3 ?r1_3); (case g1_3 => exact rfl); (case o1_3 => exact rfl); (case h1_3 => exact rfl); (case j1_3 => exact rfl); (case t1_3 => exact Hth.out); (case i1_3 => exact size_content); (case s1_3 => exact by simp [contC, Value.oneCell'])) | fail)
          have fr2 := Hfr2.out
          have h3 := H3.out
          go_ret
          exact ⟨HMS.out.trans' (fr2.mod.imp (S' := fun x => x = D ∨ x ∈ F) (fun x _ hx => by
            rcases hx with rfl | hx | hx
            · exact HbD.out
            · exact .inr (Hz3.out.rows x hx)
            · exact hx.elim)), by rw [Hl.out]; exact rfl, fun _ => by rw [Hl.out]; exact ⟨_, _, _, _, h3⟩⟩
  by_cases k10 : op.kind = 10
  · rw [k10] at c33
    have Hk := Lib.hid k10
    clear k10
    try clear k5
    try clear k6
    try clear k7
    try clear k8
    try clear k9
    try clear k10
    clear hk5 hk11
    have n22 : W1.cell? ⟨N, 22, none⟩ = some (.bool op.look.hasFilt) := HB.out.cell 22 rfl
    have n23 : W1.cell? ⟨N, 23, none⟩ = some (.slice pf op.look.filt.nodes.length cf) := HB.out.cell 23 rfl
    have n24 : W1.cell? ⟨N, 24, none⟩ = some (.int .i64 op.look.filt.out) := HB.out.cell 24 rfl
    go_upto_region 10 with fail
    go_wp2_with fail
    refine (filtered_any _ op.look.hasFilt op.look.filt (.slice pf op.look.filt.nodes.length cf) (HD1.out.look.filt.imp (fun _ _ _ => trivial)) Hwf.out Hfit.out.filt.1 Hfit.out.filt.2).mono ?_
    rintro e w3 ⟨p3, k3, g2, hg2, rfl, hn3, hm3⟩
    obtain ⟨ev, hev⟩ : ∃ ev : Int, ev = if op.look.hasFilt then checkS op.look.filt else 0 := ⟨_, rfl⟩
    rw [← hev]
    have Hl : Hid (lookP checkS s.look op = ({ s.look with hasFilt := op.look.hasFilt, filt := g2 }, ev)) := Lib.hid (by rw [hg2, hev]; cases hh : op.look.hasFilt <;> simp [lookP, Hk.out, hh])
    have Hn3 := Lib.hid hn3
    have HM3 := Lib.hid (HM.out.trans' hm3)
    have HB3 := Lib.hid (HB.out.up hm3)
    have HD3 := Lib.hid (HD1.out.up hm3)
    have Hz3 := Lib.hid (Hz1.out.up hm3)
    have Hge0 : Hid (base ≤ W1.heap.size) := Lib.hid (by have := HD1.out.tree.ge; have := HD1.out.tree.lt; omega)
    clear hm3 hn3 hg2 hev n22 n23 n24 HMS Hset Hlr c33 HD1 Hz1
    go_upto_region 11 with fail
    have HG := Lib.hid (Blk.new w3 40 #[Value.slice p3 g2.nodes.length k3, Value.int .i64 g2.out])
    have HMa := Gou.Mod.alloc0 w3 (.cells #[Value.slice p3 g2.nodes.length k3, Value.int .i64 g2.out] 40)
    have HM4 := Lib.hid (HM3.out.trans' HMa)
    have HB4 := Lib.hid (HB3.out.up HMa)
    have HD4 := Lib.hid (HD3.out.up HMa)
    have Hz4 := Lib.hid (Hz3.out.up HMa)
    have Hn4 := Lib.hid (Hn3.out.fam HMa (fun _ _ h => h) (fun k hk => LookG.of_mod HMa k hk))
    have Hge := Hge0
    have HGb : Hid (w3.heap.size ≠ b') := Lib.hid (by have := Hz3.out.sub.lt; omega)
    clear HMa Hn3
    generalize w3.alloc (.cells #[Value.slice p3 g2.nodes.length k3, Value.int .i64 g2.out] 40) = W4 at *
    have HMS : Hid (Gou.Mod (fun x => x = D ∨ x ∈ F) w W4) := Lib.hid (HM4.out.imp (fun _ _ h => h.elim))
    have n22 : W4.cell? ⟨N, 22, none⟩ = some (.bool op.look.hasFilt) := HB4.out.cell 22 rfl
    by_cases hz0 : ev = 0
    · have e1 : (ev == 0) = true := beq_iff_eq.2 hz0
      have Hev := Lib.hid hz0
      clear hz0
      go_upto_region 13 with fail
      have HGr : Hid (W4.rangeAt w3.heap.size 0 [.slice p3 g2.nodes.length k3, .int .i64 g2.out]) := Lib.hid (Blk.range (pre := []) (post := []) HG.out (by simp) rfl)
      have Hz5 := Lib.hid (Hz4.out.up (Gou.Mod.drew (fun _ => False) W4))
      have HD5 := Lib.hid (HD4.out.up (Gou.Mod.drew (fun _ => False) W4))
      obtain ⟨u22, x22, y22⟩ := Hpl.out W4 _ Hz4.out.sub 22 (by omega)
      change W4.cell? ⟨b', q + 22, none⟩ = _ at x22
      change W4.frozen? ⟨b', q + 22, none⟩ = _ at y22
      have Hth2 : Hid ((((W4.setCell ⟨b', q + 22, none⟩ (.bool op.look.hasFilt)).drew).there b' (q + 23) 2)) := Lib.hid (fun j hj => by
        have h0 := Hz4.out.sub.thereAt 25 2 (by omega)
        rw [Hq2.out 23] at h0
        obtain ⟨g1, g2⟩ := h0 j hj
        refine ⟨?_, (World.frozen?_setCell _ _ _ _).trans g2⟩
        have := World.cell?_setCells_out b' [.bool op.look.hasFilt] (q + 22) W4 ⟨b', q + 23 + j, none⟩ (fun _ _ => .inr (by simp only [List.length_cons, List.length_nil]; omega))
        exact (congrArg Option.isSome this).trans g1)
      refine wp_region_held_drew (S := fun w' => Gou.Mod (fun x => x = b') W4 w') (by kernel_rfl) (Gou.Mod.drew _ _) (fun hHeld => ?_)
      refine wpAnyH_take (i := 0) (oi := ({ dst := some 55, op := Op.move (Operand.tmp 1), type := 81, pos := "scene.go:252", after := #[], guard := none } : Oper)) (v := .pointer (some ⟨b', q, none⟩)) rfl (by kernel_rfl) (by kernel_rfl) (by kernel_rfl) (fun _ _ _ h => h) (Or.inl ⟨by rfl, ?_⟩) hHeld ?_
      · (intro w' hSw; (try dsimp only at hSw); clear hSw hHeld; go_simp; (try with_reducible rfl))
      try simp only [Act.put, List.setIfInBounds_toArray, List.set_cons_zero, List.set_cons_succ]
      refine wpAnyH_take (i := 1) (oi := ({ dst := some 56, op := Op.move (Operand.tmp 1), type := 81, pos := "scene.go:252", after := #[{ on := 7, ground := Ground.gcOnly Departure.lateStores }], guard := none } : Oper)) (v := .pointer (some ⟨b', q, none⟩)) rfl (by kernel_rfl) (by kernel_rfl) (by kernel_rfl) (fun _ _ _ h => h) (Or.inl ⟨by rfl, ?_⟩) hHeld ?_
      · (intro w' hSw; (try dsimp only at hSw); clear hSw hHeld; go_simp; (try with_reducible rfl))
      try simp only [Act.put, List.setIfInBounds_toArray, List.set_cons_zero, List.set_cons_succ]
      refine wpAnyH_take (i := 2) (oi := ({ dst := some 57, op := Op.fieldAddr 42 (Operand.tmp 5) 7, type := 0, pos := "scene.go:252", after := #[], guard := none } : Oper)) (v := .pointer (some ⟨N, 22, none⟩)) rfl (by kernel_rfl) (by kernel_rfl) (by kernel_rfl) (fun _ _ _ h => h) (Or.inl ⟨by rfl, ?_⟩) hHeld ?_
      · (intro w' hSw; (try dsimp only at hSw); clear hSw hHeld; go_simp; (try with_reducible rfl))
      try simp only [Act.put, List.setIfInBounds_toArray, List.set_cons_zero, List.set_cons_succ]
      refine wpAnyH_take (i := 3) (oi := ({ dst := some 58, op := Op.load 4 (Operand.tmp 57), type := 4, pos := "scene.go:252", after := #[{ on := 2, ground := Ground.data }], guard := none } : Oper)) (v := .bool op.look.hasFilt) rfl (by kernel_rfl) (by kernel_rfl) (by kernel_rfl) (fun _ _ _ h => h) (Or.inl ⟨by rfl, ?_⟩) hHeld ?_
      · (intro w' hSw; (try dsimp only at hSw); have g := (hSw.cell (p := ⟨N, 22, none⟩) (World.block_lt_of_cell? _ _ n22) HNb.out).trans n22; clear hSw hHeld; go_simp; (try with_reducible rfl))
      try simp only [Act.put, List.setIfInBounds_toArray, List.set_cons_zero, List.set_cons_succ]
      refine wpAnyH_take (i := 4) (oi := ({ dst := some 59, op := Op.load 40 (Operand.tmp 6), type := 40, pos := "scene.go:252", after := #[{ on := 7, ground := Ground.gcOnly Departure.lateStores }], guard := none } : Oper)) (v := .agg #[Value.slice p3 g2.nodes.length k3, Value.int .i64 g2.out]) rfl (by kernel_rfl) (by kernel_rfl) (by kernel_rfl) (fun _ _ _ h => h) (yieldsIf_load_mid (by rfl) 40 _ rfl w3.heap.size (0) rfl ([.slice p3 g2.nodes.length k3, .int .i64 g2.out]) _ (fun w' hSw => range_up HGr.out hSw HGb.out) Try.underlying40 rfl size_graph) hHeld ?_
      try simp only [Act.put, List.setIfInBounds_toArray, List.set_cons_zero, List.set_cons_succ]
      refine wpAnyH_take (i := 5) (oi := ({ dst := some 60, op := Op.nilCheck (Operand.tmp 55), type := 0, pos := "scene.go:252", after := #[{ on := 0, ground := Ground.data }, { on := 0, ground := Ground.phase }, { on := 1, ground := Ground.textOnly Departure.lateStores }, { on := 2, ground := Ground.phase }, { on := 3, ground := Ground.phase }, { on := 4, ground := Ground.textOnly Departure.lateStores }], guard := none } : Oper)) (v := .pointer (some ⟨b', q, none⟩)) rfl (by kernel_rfl) (by kernel_rfl) (by kernel_rfl) (fun _ _ _ h => h) (Or.inl ⟨by rfl, ?_⟩) hHeld ?_
      · (intro w' hSw; (try dsimp only at hSw); clear hSw hHeld; go_simp; (try with_reducible rfl))
      try simp only [Act.put, List.setIfInBounds_toArray, List.set_cons_zero, List.set_cons_succ]
      refine wpAnyH_take (i := 6) (oi := ({ dst := some 61, op := Op.fieldAddr 42 (Operand.tmp 60) 7, type := 0, pos := "scene.go:252", after := #[{ on := 5, ground := Ground.data }, { on := 0, ground := Ground.phase }, { on := 1, ground := Ground.textOnly Departure.lateStores }, { on := 2, ground := Ground.phase }, { on := 3, ground := Ground.phase }, { on := 4, ground := Ground.textOnly Departure.lateStores }], guard := none } : Oper)) (v := .pointer (some ⟨b', q + 22, none⟩)) rfl (by kernel_rfl) (by kernel_rfl) (by kernel_rfl) (fun _ _ _ h => h) (Or.inl ⟨by rfl, ?_⟩) hHeld ?_
      · (intro w' hSw; (try dsimp only at hSw); clear hSw hHeld; go_simp; (try with_reducible rfl))
      try simp only [Act.put, List.setIfInBounds_toArray, List.set_cons_zero, List.set_cons_succ]
      refine wpAnyH_ready (rs := [7]) (by kernel_rfl) (by simp) (AllReadyH.cons (o := ({ dst := none, op := Op.store 4 (Operand.tmp 61) (Operand.tmp 58), type := 0, pos := "scene.go:252", after := #[{ on := 6, ground := Ground.data }, { on := 3, ground := Ground.data }, { on := 0, ground := Ground.phase }, { on := 1, ground := Ground.textOnly Departure.lateStores }, { on := 2, ground := Ground.phase }, { on := 3, ground := Ground.phase }, { on := 4, ground := Ground.textOnly Departure.lateStores }], guard := none } : Oper)) rfl (fun K hK => ?_) AllReadyH.nil)
      go_simp
      have hq := Gou.Mod.set1 W4.drew b' (q + 22) (.bool op.look.hasFilt)
      have M := Lib.hid (hHeld.trans' hq)
      clear hq hHeld
      refine hK _ _ M.out (fun hHeld => ?_)
      clear hK K M
      try simp only [Act.put, List.setIfInBounds_toArray, List.set_cons_zero, List.set_cons_succ]
      refine wpAnyH_take (i := 8) (oi := ({ dst := some 62, op := Op.nilCheck (Operand.tmp 56), type := 0, pos := "scene.go:252", after := #[{ on := 1, ground := Ground.data }, { on := 0, ground := Ground.phase }, { on := 1, ground := Ground.phase }, { on := 2, ground := Ground.phase }, { on := 3, ground := Ground.phase }, { on := 4, ground := Ground.phase }, { on := 5, ground := Ground.phase }, { on := 6, ground := Ground.phase }, { on := 7, ground := Ground.phase }], guard := none } : Oper)) (v := .pointer (some ⟨b', q, none⟩)) rfl (by kernel_rfl) (by kernel_rfl) (by kernel_rfl) (fun _ _ _ h => h) (Or.inl ⟨by rfl, ?_⟩) hHeld ?_
      · (intro w' hSw; (try dsimp only at hSw); clear hSw hHeld; go_simp; (try with_reducible rfl))
      try simp only [Act.put, List.setIfInBounds_toArray, List.set_cons_zero, List.set_cons_succ]
      refine wpAnyH_take (i := 9) (oi := ({ dst := some 63, op := Op.fieldAddr 42 (Operand.tmp 62) 8, type := 0, pos := "scene.go:252", after := #[{ on := 8, ground := Ground.data }, { on := 0, ground := Ground.phase }, { on := 1, ground := Ground.phase }, { on := 2, ground := Ground.phase }, { on := 3, ground := Ground.phase }, { on := 4, ground := Ground.phase }, { on := 5, ground := Ground.phase }, { on := 6, ground := Ground.phase }, { on := 7, ground := Ground.phase }], guard := none } : Oper)) (v := .pointer (some ⟨b', q + 23, none⟩)) rfl (by kernel_rfl) (by kernel_rfl) (by kernel_rfl) (fun _ _ _ h => h) (Or.inl ⟨by rfl, ?_⟩) hHeld ?_
      · (intro w' hSw; (try dsimp only at hSw); clear hSw hHeld; go_simp; (try with_reducible rfl))
      try simp only [Act.put, List.setIfInBounds_toArray, List.set_cons_zero, List.set_cons_succ]
      refine wpAnyH_ready (rs := [10]) (by kernel_rfl) (by simp) (AllReadyH.cons (o := ({ dst := none, op := Op.store 40 (Operand.tmp 63) (Operand.tmp 59), type := 0, pos := "scene.go:252", after := #[{ on := 9, ground := Ground.data }, { on := 4, ground := Ground.data }, { on := 7, ground := Ground.chain }, { on := 0, ground := Ground.phase }, { on := 1, ground := Ground.phase }, { on := 2, ground := Ground.phase }, { on := 3, ground := Ground.phase }, { on := 4, ground := Ground.phase }, { on := 5, ground := Ground.phase }, { on := 6, ground := Ground.phase }, { on := 7, ground := Ground.phase }], guard := none } : Oper)) rfl (fun K hK => ?_) AllReadyH.nil)
      rw [if_pos (by rfl)]
      refine wp_store_mid 40 _ _ rfl b' (q + 23) #[Value.slice p3 g2.nodes.length k3, Value.int .i64 g2.out] rfl rfl Hth2.out size_graph (by simp [Value.oneCell']) ?_
      have M : Hid (Gou.Mod (fun x => x = b') W4 (((W4.setCell ⟨b', q + 22, none⟩ (.bool op.look.hasFilt)).drew).setCells b' (q + 23) [.slice p3 g2.nodes.length k3, .int .i64 g2.out])) := Lib.hid (hHeld.trans' (Blk.setMod _ b' (q + 23) [.slice p3 g2.nodes.length k3, .int .i64 g2.out]))
      clear hHeld
      refine hK _ _ M.out (fun hHeld => ?_)
      clear hK K M
      try simp only [Act.put, List.setIfInBounds_toArray, List.set_cons_zero, List.set_cons_succ]
      have MS := Lib.hid hHeld
      refine wpAnyH_done (by kernel_rfl) ?_ _
      clear hHeld
      clear MS
      try simp only [Act.put]
      go_wp2_with fail
      obtain ⟨vp1, vf1, vb1, hlr, hset⟩ := Hz5.out.sub.relook
      obtain ⟨t2, fr2⟩ := hset 24 [.bool op.look.hasFilt, .slice p3 g2.nodes.length k3, .int .i64 g2.out] ({ s.look with hasFilt := op.look.hasFilt, filt := g2 }) vp1 (.slice p3 g2.nodes.length k3) vb1 (by omega) (by simp) (fun _ => rfl) ⟨hlr.pix, (Hn4.out.fam (Gou.Mod.drew (fun _ => False) W4) (fun _ _ h => h) (fun k hk => LookG.of_mod (Gou.Mod.drew (fun _ => False) W4) k hk)).imp (fun k _ hk => ⟨Nat.le_trans Hge.out hk.1, hk.2⟩), hlr.back⟩
      rw [Hq2.out 22] at t2 fr2
      obtain ⟨F3, cur3, h3, _⟩ := HD5.out.step tI tB Hz5.out t2 fr2 (fun x hx => .inl hx)
      replace HMS := Lib.hid (HMS.out.trans' (Gou.Mod.drew _ W4))
      go_ret
      exact ⟨HMS.out.trans' (fr2.mod.imp (S' := fun x => x = D ∨ x ∈ F) (fun x _ hx => by
        rcases hx with rfl | hx | hx
        · exact HbD.out
        · exact .inr (Hz5.out.rows x hx)
        · exact hx.elim)), by rw [Hl.out]; exact (by rw [Hev.out]; rfl), fun _ => by rw [Hl.out]; exact ⟨_, _, _, _, h3⟩⟩
    · have e1 : (ev == 0) = false := beq_eq_false_iff_ne.2 hz0
      have Hev := Lib.hid hz0
      clear hz0
      go_wp2_with fail
      go_ret
      exact ⟨HMS.out, by rw [Hl.out]; rfl, fun h => absurd h (by rw [Hl.out]; exact Hev.out)⟩
  by_cases k11 : op.kind = 11
  · rw [k11] at c33
    have Hk := Lib.hid k11
    clear k11
    try clear k5
    try clear k6
    try clear k7
    try clear k8
    try clear k9
    try clear k10
    clear hk5 hk11
    have n25 : W1.cell? ⟨N, 25, none⟩ = some (.bool op.look.hasBack) := HB.out.cell 25 rfl
    have n26 : W1.cell? ⟨N, 26, none⟩ = some (.slice pb op.look.back.nodes.length cb) := HB.out.cell 26 rfl
    have n27 : W1.cell? ⟨N, 27, none⟩ = some (.int .i64 op.look.back.out) := HB.out.cell 27 rfl
    go_upto_region 15 with fail
    go_wp2_with fail
    refine (filtered_any _ op.look.hasBack op.look.back (.slice pb op.look.back.nodes.length cb) (HD1.out.look.back.imp (fun _ _ _ => trivial)) Hwb.out Hfit.out.back.1 Hfit.out.back.2).mono ?_
    rintro e w3 ⟨p3, k3, g2, hg2, rfl, hn3, hm3⟩
    obtain ⟨ev, hev⟩ : ∃ ev : Int, ev = if op.look.hasBack then checkS op.look.back else 0 := ⟨_, rfl⟩
    rw [← hev]
    have Hl : Hid (lookP checkS s.look op = ({ s.look with hasBack := op.look.hasBack, back := g2 }, ev)) := Lib.hid (by rw [hg2, hev]; cases hh : op.look.hasBack <;> simp [lookP, Hk.out, hh])
    have Hn3 := Lib.hid hn3
    have HM3 := Lib.hid (HM.out.trans' hm3)
    have HB3 := Lib.hid (HB.out.up hm3)
    have HD3 := Lib.hid (HD1.out.up hm3)
    have Hz3 := Lib.hid (Hz1.out.up hm3)
    have Hge0 : Hid (base ≤ W1.heap.size) := Lib.hid (by have := HD1.out.tree.ge; have := HD1.out.tree.lt; omega)
    clear hm3 hn3 hg2 hev n25 n26 n27 HMS Hset Hlr c33 HD1 Hz1
    go_upto_region 16 with fail
    have HG := Lib.hid (Blk.new w3 40 #[Value.slice p3 g2.nodes.length k3, Value.int .i64 g2.out])
    have HMa := Gou.Mod.alloc0 w3 (.cells #[Value.slice p3 g2.nodes.length k3, Value.int .i64 g2.out] 40)
    have HM4 := Lib.hid (HM3.out.trans' HMa)
    have HB4 := Lib.hid (HB3.out.up HMa)
    have HD4 := Lib.hid (HD3.out.up HMa)
    have Hz4 := Lib.hid (Hz3.out.up HMa)
    have Hn4 := Lib.hid (Hn3.out.fam HMa (fun _ _ h => h) (fun k hk => LookG.of_mod HMa k hk))
    have Hge := Hge0
    have HGb : Hid (w3.heap.size ≠ b') := Lib.hid (by have := Hz3.out.sub.lt; omega)
    clear HMa Hn3
    generalize w3.alloc (.cells #[Value.slice p3 g2.nodes.length k3, Value.int .i64 g2.out] 40) = W4 at *
    have HMS : Hid (Gou.Mod (fun x => x = D ∨ x ∈ F) w W4) := Lib.hid (HM4.out.imp (fun _ _ h => h.elim))
    have n25 : W4.cell? ⟨N, 25, none⟩ = some (.bool op.look.hasBack) := HB4.out.cell 25 rfl
    by_cases hz0 : ev = 0
    · have e1 : (ev == 0) = true := beq_iff_eq.2 hz0
      have Hev := Lib.hid hz0
      clear hz0
      go_upto_region 18 with fail
      have HGr : Hid (W4.rangeAt w3.heap.size 0 [.slice p3 g2.nodes.length k3, .int .i64 g2.out]) := Lib.hid (Blk.range (pre := []) (post := []) HG.out (by simp) rfl)
      have Hz5 := Lib.hid (Hz4.out.up (Gou.Mod.drew (fun _ => False) W4))
      have HD5 := Lib.hid (HD4.out.up (Gou.Mod.drew (fun _ => False) W4))
      obtain ⟨u25, x25, y25⟩ := Hpl.out W4 _ Hz4.out.sub 25 (by omega)
      change W4.cell? ⟨b', q + 25, none⟩ = _ at x25
      change W4.frozen? ⟨b', q + 25, none⟩ = _ at y25
      have Hth2 : Hid ((((W4.setCell ⟨b', q + 25, none⟩ (.bool op.look.hasBack)).drew).there b' (q + 26) 2)) := Lib.hid (fun j hj => by
        have h0 := Hz4.out.sub.thereAt 28 2 (by omega)
        rw [Hq2.out 26] at h0
        obtain ⟨g1, g2⟩ := h0 j hj
        refine ⟨?_, (World.frozen?_setCell _ _ _ _).trans g2⟩
        have := World.cell?_setCells_out b' [.bool op.look.hasBack] (q + 25) W4 ⟨b', q + 26 + j, none⟩ (fun _ _ => .inr (by simp only [List.length_cons, List.length_nil]; omega))
        exact (congrArg Option.isSome this).trans g1)
      refine wp_region_held_drew (S := fun w' => Gou.Mod (fun x => x = b') W4 w') (by kernel_rfl) (Gou.Mod.drew _ _) (fun hHeld => ?_)
      refine wpAnyH_take (i := 0) (oi := ({ dst := some 77, op := Op.move (Operand.tmp 1), type := 81, pos := "scene.go:258", after := #[], guard := none } : Oper)) (v := .pointer (some ⟨b', q, none⟩)) rfl (by kernel_rfl) (by kernel_rfl) (by kernel_rfl) (fun _ _ _ h => h) (Or.inl ⟨by rfl, ?_⟩) hHeld ?_
      · (intro w' hSw; (try dsimp only at hSw); clear hSw hHeld; go_simp; (try with_reducible rfl))
      try simp only [Act.put, List.setIfInBounds_toArray, List.set_cons_zero, List.set_cons_succ]
      refine wpAnyH_take (i := 1) (oi := ({ dst := some 78, op := Op.move (Operand.tmp 1), type := 81, pos := "scene.go:258", after := #[{ on := 7, ground := Ground.gcOnly Departure.lateStores }], guard := none } : Oper)) (v := .pointer (some ⟨b', q, none⟩)) rfl (by kernel_rfl) (by kernel_rfl) (by kernel_rfl) (fun _ _ _ h => h) (Or.inl ⟨by rfl, ?_⟩) hHeld ?_
      · (intro w' hSw; (try dsimp only at hSw); clear hSw hHeld; go_simp; (try with_reducible rfl))
      try simp only [Act.put, List.setIfInBounds_toArray, List.set_cons_zero, List.set_cons_succ]
      refine wpAnyH_take (i := 2) (oi := ({ dst := some 79, op := Op.fieldAddr 42 (Operand.tmp 5) 9, type := 0, pos := "scene.go:258", after := #[], guard := none } : Oper)) (v := .pointer (some ⟨N, 25, none⟩)) rfl (by kernel_rfl) (by kernel_rfl) (by kernel_rfl) (fun _ _ _ h => h) (Or.inl ⟨by rfl, ?_⟩) hHeld ?_
      · (intro w' hSw; (try dsimp only at hSw); clear hSw hHeld; go_simp; (try with_reducible rfl))
      try simp only [Act.put, List.setIfInBounds_toArray, List.set_cons_zero, List.set_cons_succ]
      refine wpAnyH_take (i := 3) (oi := ({ dst := some 80, op := Op.load 4 (Operand.tmp 79), type := 4, pos := "scene.go:258", after := #[{ on := 2, ground := Ground.data }], guard := none } : Oper)) (v := .bool op.look.hasBack) rfl (by kernel_rfl) (by kernel_rfl) (by kernel_rfl) (fun _ _ _ h => h) (Or.inl ⟨by rfl, ?_⟩) hHeld ?_
      · (intro w' hSw; (try dsimp only at hSw); have g := (hSw.cell (p := ⟨N, 25, none⟩) (World.block_lt_of_cell? _ _ n25) HNb.out).trans n25; clear hSw hHeld; go_simp; (try with_reducible rfl))
      try simp only [Act.put, List.setIfInBounds_toArray, List.set_cons_zero, List.set_cons_succ]
      refine wpAnyH_take (i := 4) (oi := ({ dst := some 81, op := Op.load 40 (Operand.tmp 8), type := 40, pos := "scene.go:258", after := #[{ on := 7, ground := Ground.gcOnly Departure.lateStores }], guard := none } : Oper)) (v := .agg #[Value.slice p3 g2.nodes.length k3, Value.int .i64 g2.out]) rfl (by kernel_rfl) (by kernel_rfl) (by kernel_rfl) (fun _ _ _ h => h) (yieldsIf_load_mid (by rfl) 40 _ rfl w3.heap.size (0) rfl ([.slice p3 g2.nodes.length k3, .int .i64 g2.out]) _ (fun w' hSw => range_up HGr.out hSw HGb.out) Try.underlying40 rfl size_graph) hHeld ?_
      try simp only [Act.put, List.setIfInBounds_toArray, List.set_cons_zero, List.set_cons_succ]
      refine wpAnyH_take (i := 5) (oi := ({ dst := some 82, op := Op.nilCheck (Operand.tmp 77), type := 0, pos := "scene.go:258", after := #[{ on := 0, ground := Ground.data }, { on := 0, ground := Ground.phase }, { on := 1, ground := Ground.textOnly Departure.lateStores }, { on := 2, ground := Ground.phase }, { on := 3, ground := Ground.phase }, { on := 4, ground := Ground.textOnly Departure.lateStores }], guard := none } : Oper)) (v := .pointer (some ⟨b', q, none⟩)) rfl (by kernel_rfl) (by kernel_rfl) (by kernel_rfl) (fun _ _ _ h => h) (Or.inl ⟨by rfl, ?_⟩) hHeld ?_
      · (intro w' hSw; (try dsimp only at hSw); clear hSw hHeld; go_simp; (try with_reducible rfl))
      try simp only [Act.put, List.setIfInBounds_toArray, List.set_cons_zero, List.set_cons_succ]
      refine wpAnyH_take (i := 6) (oi := ({ dst := some 83, op := Op.fieldAddr 42 (Operand.tmp 82) 9, type := 0, pos := "scene.go:258", after := #[{ on := 5, ground := Ground.data }, { on := 0, ground := Ground.phase }, { on := 1, ground := Ground.textOnly Departure.lateStores }, { on := 2, ground := Ground.phase }, { on := 3, ground := Ground.phase }, { on := 4, ground := Ground.textOnly Departure.lateStores }], guard := none } : Oper)) (v := .pointer (some ⟨b', q + 25, none⟩)) rfl (by kernel_rfl) (by kernel_rfl) (by kernel_rfl) (fun _ _ _ h => h) (Or.inl ⟨by rfl, ?_⟩) hHeld ?_
      · (intro w' hSw; (try dsimp only at hSw); clear hSw hHeld; go_simp; (try with_reducible rfl))
      try simp only [Act.put, List.setIfInBounds_toArray, List.set_cons_zero, List.set_cons_succ]
      refine wpAnyH_ready (rs := [7]) (by kernel_rfl) (by simp) (AllReadyH.cons (o := ({ dst := none, op := Op.store 4 (Operand.tmp 83) (Operand.tmp 80), type := 0, pos := "scene.go:258", after := #[{ on := 6, ground := Ground.data }, { on := 3, ground := Ground.data }, { on := 0, ground := Ground.phase }, { on := 1, ground := Ground.textOnly Departure.lateStores }, { on := 2, ground := Ground.phase }, { on := 3, ground := Ground.phase }, { on := 4, ground := Ground.textOnly Departure.lateStores }], guard := none } : Oper)) rfl (fun K hK => ?_) AllReadyH.nil)
      go_simp
      have hq := Gou.Mod.set1 W4.drew b' (q + 25) (.bool op.look.hasBack)
      have M := Lib.hid (hHeld.trans' hq)
      clear hq hHeld
      refine hK _ _ M.out (fun hHeld => ?_)
      clear hK K M
      try simp only [Act.put, List.setIfInBounds_toArray, List.set_cons_zero, List.set_cons_succ]
      refine wpAnyH_take (i := 8) (oi := ({ dst := some 84, op := Op.nilCheck (Operand.tmp 78), type := 0, pos := "scene.go:258", after := #[{ on := 1, ground := Ground.data }, { on := 0, ground := Ground.phase }, { on := 1, ground := Ground.phase }, { on := 2, ground := Ground.phase }, { on := 3, ground := Ground.phase }, { on := 4, ground := Ground.phase }, { on := 5, ground := Ground.phase }, { on := 6, ground := Ground.phase }, { on := 7, ground := Ground.phase }], guard := none } : Oper)) (v := .pointer (some ⟨b', q, none⟩)) rfl (by kernel_rfl) (by kernel_rfl) (by kernel_rfl) (fun _ _ _ h => h) (Or.inl ⟨by rfl, ?_⟩) hHeld ?_
      · (intro w' hSw; (try dsimp only at hSw); clear hSw hHeld; go_simp; (try with_reducible rfl))
      try simp only [Act.put, List.setIfInBounds_toArray, List.set_cons_zero, List.set_cons_succ]
      refine wpAnyH_take (i := 9) (oi := ({ dst := some 85, op := Op.fieldAddr 42 (Operand.tmp 84) 10, type := 0, pos := "scene.go:258", after := #[{ on := 8, ground := Ground.data }, { on := 0, ground := Ground.phase }, { on := 1, ground := Ground.phase }, { on := 2, ground := Ground.phase }, { on := 3, ground := Ground.phase }, { on := 4, ground := Ground.phase }, { on := 5, ground := Ground.phase }, { on := 6, ground := Ground.phase }, { on := 7, ground := Ground.phase }], guard := none } : Oper)) (v := .pointer (some ⟨b', q + 26, none⟩)) rfl (by kernel_rfl) (by kernel_rfl) (by kernel_rfl) (fun _ _ _ h => h) (Or.inl ⟨by rfl, ?_⟩) hHeld ?_
      · (intro w' hSw; (try dsimp only at hSw); clear hSw hHeld; go_simp; (try with_reducible rfl))
      try simp only [Act.put, List.setIfInBounds_toArray, List.set_cons_zero, List.set_cons_succ]
      refine wpAnyH_ready (rs := [10]) (by kernel_rfl) (by simp) (AllReadyH.cons (o := ({ dst := none, op := Op.store 40 (Operand.tmp 85) (Operand.tmp 81), type := 0, pos := "scene.go:258", after := #[{ on := 9, ground := Ground.data }, { on := 4, ground := Ground.data }, { on := 7, ground := Ground.chain }, { on := 0, ground := Ground.phase }, { on := 1, ground := Ground.phase }, { on := 2, ground := Ground.phase }, { on := 3, ground := Ground.phase }, { on := 4, ground := Ground.phase }, { on := 5, ground := Ground.phase }, { on := 6, ground := Ground.phase }, { on := 7, ground := Ground.phase }], guard := none } : Oper)) rfl (fun K hK => ?_) AllReadyH.nil)
      rw [if_pos (by rfl)]
      refine wp_store_mid 40 _ _ rfl b' (q + 26) #[Value.slice p3 g2.nodes.length k3, Value.int .i64 g2.out] rfl rfl Hth2.out size_graph (by simp [Value.oneCell']) ?_
      have M : Hid (Gou.Mod (fun x => x = b') W4 (((W4.setCell ⟨b', q + 25, none⟩ (.bool op.look.hasBack)).drew).setCells b' (q + 26) [.slice p3 g2.nodes.length k3, .int .i64 g2.out])) := Lib.hid (hHeld.trans' (Blk.setMod _ b' (q + 26) [.slice p3 g2.nodes.length k3, .int .i64 g2.out]))
      clear hHeld
      refine hK _ _ M.out (fun hHeld => ?_)
      clear hK K M
      try simp only [Act.put, List.setIfInBounds_toArray, List.set_cons_zero, List.set_cons_succ]
      have MS := Lib.hid hHeld
      refine wpAnyH_done (by kernel_rfl) ?_ _
      clear hHeld
      clear MS
      try simp only [Act.put]
      go_wp2_with fail
      obtain ⟨vp1, vf1, vb1, hlr, hset⟩ := Hz5.out.sub.relook
      obtain ⟨t2, fr2⟩ := hset 27 [.bool op.look.hasBack, .slice p3 g2.nodes.length k3, .int .i64 g2.out] ({ s.look with hasBack := op.look.hasBack, back := g2 }) vp1 vf1 (.slice p3 g2.nodes.length k3) (by omega) (by simp) (fun _ => rfl) ⟨hlr.pix, hlr.filt, (Hn4.out.fam (Gou.Mod.drew (fun _ => False) W4) (fun _ _ h => h) (fun k hk => LookG.of_mod (Gou.Mod.drew (fun _ => False) W4) k hk)).imp (fun k _ hk => ⟨Nat.le_trans Hge.out hk.1, hk.2⟩)⟩
      rw [Hq2.out 25] at t2 fr2
      obtain ⟨F3, cur3, h3, _⟩ := HD5.out.step tI tB Hz5.out t2 fr2 (fun x hx => .inl hx)
      replace HMS := Lib.hid (HMS.out.trans' (Gou.Mod.drew _ W4))
      go_ret
      exact ⟨HMS.out.trans' (fr2.mod.imp (S' := fun x => x = D ∨ x ∈ F) (fun x _ hx => by
        rcases hx with rfl | hx | hx
        · exact HbD.out
        · exact .inr (Hz5.out.rows x hx)
        · exact hx.elim)), by rw [Hl.out]; exact (by rw [Hev.out]; rfl), fun _ => by rw [Hl.out]; exact ⟨_, _, _, _, h3⟩⟩
    · have e1 : (ev == 0) = false := beq_eq_false_iff_ne.2 hz0
      have Hev := Lib.hid hz0
      clear hz0
      go_wp2_with fail
      go_ret
      exact ⟨HMS.out, by rw [Hl.out]; rfl, fun h => absurd h (by rw [Hl.out]; exact Hev.out)⟩
  exfalso; omega

set_option maxHeartbeats 8000000 in
theorem set_any (base : Nat) (w : World) (D : Nat) (a : Ar) (T : Ly) (F : List Nat) (op : Opr) (vg vl vp vf vb : Value) (cur : Array Value) (hD : DoerL base w D a T F op vg vl vp vf vb cur) (π : List Nat) (s : Ly) (b' o' : Nat) (F' : List Nat) (hz : ZoomL base w D 2 T F π s b' o' F') (hfit : LkFit op.look) (hwf : GrWf op.look.filt) (hwb : GrWf op.look.back) (hk5 : 5 ≤ op.kind) (hk11 : op.kind ≤ 11) :
    Calls Try.prog 28 #[.pointer (some ⟨D, 0, none⟩), .pointer (some ⟨b', o' + 2, none⟩)] w (SetP base a T F op vp vf vb s π w D) := by
  obtain ⟨⟨pp, cp, rfl⟩, ⟨pf, cf, rfl⟩, ⟨pb, cb, rfl⟩⟩ := hD.look.forms
  have HD := Lib.hid hD
  have Hz := Lib.hid hz
  have Hfit := Lib.hid hfit
  have Hwf := Lib.hid hwf
  have Hwb := Lib.hid hwb
  have HDlt := Lib.hid (Blk.lt hD.blk)
  have Hblt := Lib.hid hz.sub.lt
  have Hrg : Hid (w.rangeAt D 39 (lookC op.look (.slice pp op.look.content.pix.length cp) (.slice pf op.look.filt.nodes.length cf) (.slice pb op.look.back.nodes.length cb)).toList) := Lib.hid (DoerR.opr hD)
  obtain ⟨q, hq⟩ : ∃ q, q = o' + 2 := ⟨_, rfl⟩
  have Hq := Lib.hid hq
  rw [← hq]
  clear hD hz hfit hwf hwb hq
  go_enter Try.func28, Try.ntmps28
  go_upto_region 2 with (first | ((with_reducible refine wpList_load_mid ?g1_1 42 ?x1_1 ?o1_1 (D) (39) ?h1_1 ((lookC op.look (.slice pp op.look.content.pix.length cp) (.slice pf op.look.filt.nodes.length cf) (.slice pb op.look.back.nodes.length cb)).toList) ?d1_1 ?c1_1 ?u1_1 ?e1_1 ?i1_1 ?r1_1); (case g1_1 => exact rfl); (case o1_1 => exact rfl); (case h1_1 => exact rfl); (case c1_1 => exact Hrg.out); (case u1_1 => exact Try.underlying42); (case e1_1 => exact rfl); (case i1_1 => exact size_look)) | ((with_reducible refine wpList_store_mid ?g1_2 42 ?x1_2 ?y1_2 ?o1_2 (w.heap.size) (0) (lookC op.look (.slice pp op.look.content.pix.length cp) (.slice pf op.look.filt.nodes.length cf) (.slice pb op.look.back.nodes.length cb)) ?h1_2 ?j1_2 ?t1_2 ?i1_2 ?s1_2 ?r1_2); (case g1_2 => exact rfl); (case o1_2 => exact rfl); (case h1_2 => exact rfl); (case j1_2 => exact rfl); (case t1_2 => exact (Blk.new w 42 (lookC Lk.zero (.slice none 0 0) (.slice none 0 0) (.slice none 0 0))).there 0 28 (by simp [lookC])); (case i1_2 => exact size_look); (case s1_2 => exact look_one)) | fail)
  have HB := Lib.hid ((Blk.new w 42 (lookC Lk.zero (.slice none 0 0) (.slice none 0 0) (.slice none 0 0))).setAll (lookC op.look (.slice pp op.look.content.pix.length cp) (.slice pf op.look.filt.nodes.length cf) (.slice pb op.look.back.nodes.length cb)) rfl)
  have HM : Hid (Gou.Mod (fun _ => False) w ((w.alloc (.cells (lookC Lk.zero (.slice none 0 0) (.slice none 0 0) (.slice none 0 0)) 42)).setCells w.heap.size 0 (lookC op.look (.slice pp op.look.content.pix.length cp) (.slice pf op.look.filt.nodes.length cf) (.slice pb op.look.back.nodes.length cb)).toList)) := Lib.hid (Gou.Mod.allocSet _ _ _)
  show Code.wp _ _ _ _ ((w.alloc (.cells (lookC Lk.zero (.slice none 0 0) (.slice none 0 0) (.slice none 0 0)) 42)).setCells w.heap.size 0 (lookC op.look (.slice pp op.look.content.pix.length cp) (.slice pf op.look.filt.nodes.length cf) (.slice pb op.look.back.nodes.length cb)).toList)
  generalize (w.alloc (.cells (lookC Lk.zero (.slice none 0 0) (.slice none 0 0) (.slice none 0 0)) 42)).setCells w.heap.size 0 (lookC op.look (.slice pp op.look.content.pix.length cp) (.slice pf op.look.filt.nodes.length cf) (.slice pb op.look.back.nodes.length cb)).toList = W1 at *
  have HD1 := Lib.hid (HD.out.up HM.out)
  have Hz1 := Lib.hid (Hz.out.up HM.out)
  have HNb : Hid (w.heap.size ≠ b') := Lib.hid (by have := Hblt.out; omega)
  have HND : Hid (w.heap.size ≠ D) := Lib.hid (by have := HDlt.out; omega)
  obtain ⟨N, hN⟩ : ∃ N, N = w.heap.size := ⟨_, rfl⟩
  rw [← hN] at HB HNb HND ⊢
  have HN := Lib.hid hN
  clear hN
  have HbD : Hid (b' = D ∨ b' ∈ F) := Lib.hid (Hz1.out.blk.imp (fun h => h.1) id)
  have Hpl : Hid (∀ wx s, TreeAt 45 67 base wx b' o' s F' → ∀ k, k < 28 → ∃ u, wx.cell? ⟨b', q + k, none⟩ = some u ∧ wx.frozen? ⟨b', q + k, none⟩ = false) := Lib.hid (fun wx s hx k hk => by
    obtain ⟨_, _, _, h⟩ := hx.place
    have := h (k + 2) (by omega)
    rw [show o' + (k + 2) = q + k by have := Hq.out; omega] at this
    exact this)
  obtain ⟨vp1, vf1, vb1, hlr, hset⟩ := Hz1.out.sub.relook
  have Hlr := Lib.hid hlr
  have Hset := Lib.hid hset
  have Hq2 : Hid (∀ k, o' + (k + 2) = q + k) := Lib.hid (fun k => by have := Hq.out; omega)
  clear hlr hset
  have c33 := HD1.out.cell.2.2.1
  have HMS : Hid (Gou.Mod (fun x => x = D ∨ x ∈ F) w W1) := Lib.hid (HM.out.imp (fun _ _ h => h.elim))
  by_cases k7 : op.kind = 7
  · rw [k7] at c33
    have Hk := Lib.hid k7
    clear k7
    try clear k5
    try clear k6
    try clear k7
    try clear k8
    try clear k9
    try clear k10
    clear hk5 hk11
    have n7 : W1.cell? ⟨N, 7, none⟩ = some (.int .i64 op.look.opacity) := HB.out.cell 7 rfl
    obtain ⟨u7, x7, y7⟩ := Hpl.out W1 _ Hz1.out.sub 7 (by omega)
    change W1.cell? ⟨b', q + 7, none⟩ = _ at x7
    change W1.frozen? ⟨b', q + 7, none⟩ = _ at y7
    by_cases h1 : op.look.opacity < 0
    · have e1 : decide (op.look.opacity < 0) = true := decide_eq_true h1
      have Hl : Hid (lookP checkS s.look op = (s.look, 3)) := Lib.hid (by simp [lookP, Hk.out, h1])
      go_wp2_with fail
      go_ret
      exact ⟨HMS.out, by rw [Hl.out]; rfl, fun h => absurd h (by rw [Hl.out]; show ¬ ((3 : Int) = 0); decide)⟩
    · have e1 : decide (op.look.opacity < 0) = false := decide_eq_false h1
      by_cases h2 : 255 < op.look.opacity
      · have e2 : decide (255 < op.look.opacity) = true := decide_eq_true h2
        have Hl : Hid (lookP checkS s.look op = (s.look, 3)) := Lib.hid (by simp [lookP, Hk.out, h2])
        go_wp2_with fail
        go_ret
        exact ⟨HMS.out, by rw [Hl.out]; rfl, fun h => absurd h (by rw [Hl.out]; show ¬ ((3 : Int) = 0); decide)⟩
      · have e2 : decide (255 < op.look.opacity) = false := decide_eq_false h2
        have Hl : Hid (lookP checkS s.look op = ({ s.look with opacity := op.look.opacity }, 0)) := Lib.hid (by simp [lookP, Hk.out, h1, h2])
        go_wp2_with fail
        obtain ⟨t2, fr2⟩ := Hset.out 9 [.int .i64 op.look.opacity] ({ s.look with opacity := op.look.opacity }) vp1 vf1 vb1 (by omega) (by simp) (fun _ => rfl) ⟨Hlr.out.pix, Hlr.out.filt, Hlr.out.back⟩
        rw [Hq2.out] at t2 fr2
        obtain ⟨F3, cur3, h3, _⟩ := HD1.out.step tI tB Hz1.out t2 fr2 (fun x hx => .inl hx)
        go_ret
        exact ⟨HMS.out.trans' (fr2.mod.imp (S' := fun x => x = D ∨ x ∈ F) (fun x _ hx => by
          rcases hx with rfl | hx | hx
          · exact HbD.out
          · exact .inr (Hz1.out.rows x hx)
          · exact hx.elim)), by rw [Hl.out]; rfl, fun _ => by rw [Hl.out]; exact ⟨_, _, _, _, h3⟩⟩
  by_cases k8 : op.kind = 8
  · rw [k8] at c33
    have Hk := Lib.hid k8
    clear k8
    try clear k5
    try clear k6
    try clear k7
    try clear k8
    try clear k9
    try clear k10
    clear hk5 hk11
    have n8 : W1.cell? ⟨N, 8, none⟩ = some (.int .i64 op.look.mode) := HB.out.cell 8 rfl
    obtain ⟨u8, x8, y8⟩ := Hpl.out W1 _ Hz1.out.sub 8 (by omega)
    change W1.cell? ⟨b', q + 8, none⟩ = _ at x8
    change W1.frozen? ⟨b', q + 8, none⟩ = _ at y8
    by_cases h1 : op.look.mode < 0
    · have e1 : decide (op.look.mode < 0) = true := decide_eq_true h1
      have Hl : Hid (lookP checkS s.look op = (s.look, 3)) := Lib.hid (by simp [lookP, Hk.out, h1])
      go_wp2_with fail
      go_ret
      exact ⟨HMS.out, by rw [Hl.out]; rfl, fun h => absurd h (by rw [Hl.out]; show ¬ ((3 : Int) = 0); decide)⟩
    · have e1 : decide (op.look.mode < 0) = false := decide_eq_false h1
      by_cases h2 : 6 < op.look.mode
      · have e2 : decide (6 < op.look.mode) = true := decide_eq_true h2
        have Hl : Hid (lookP checkS s.look op = (s.look, 3)) := Lib.hid (by simp [lookP, Hk.out, h2])
        go_wp2_with fail
        go_ret
        exact ⟨HMS.out, by rw [Hl.out]; rfl, fun h => absurd h (by rw [Hl.out]; show ¬ ((3 : Int) = 0); decide)⟩
      · have e2 : decide (6 < op.look.mode) = false := decide_eq_false h2
        have Hl : Hid (lookP checkS s.look op = ({ s.look with mode := op.look.mode }, 0)) := Lib.hid (by simp [lookP, Hk.out, h1, h2])
        go_wp2_with fail
        obtain ⟨t2, fr2⟩ := Hset.out 10 [.int .i64 op.look.mode] ({ s.look with mode := op.look.mode }) vp1 vf1 vb1 (by omega) (by simp) (fun _ => rfl) ⟨Hlr.out.pix, Hlr.out.filt, Hlr.out.back⟩
        rw [Hq2.out] at t2 fr2
        obtain ⟨F3, cur3, h3, _⟩ := HD1.out.step tI tB Hz1.out t2 fr2 (fun x hx => .inl hx)
        go_ret
        exact ⟨HMS.out.trans' (fr2.mod.imp (S' := fun x => x = D ∨ x ∈ F) (fun x _ hx => by
          rcases hx with rfl | hx | hx
          · exact HbD.out
          · exact .inr (Hz1.out.rows x hx)
          · exact hx.elim)), by rw [Hl.out]; rfl, fun _ => by rw [Hl.out]; exact ⟨_, _, _, _, h3⟩⟩
  by_cases k5 : op.kind = 5
  · rw [k5] at c33
    have Hk := Lib.hid k5
    clear k5
    try clear k5
    try clear k6
    try clear k7
    try clear k8
    try clear k9
    try clear k10
    clear hk5 hk11
    have n0 : W1.cell? ⟨N, 0, none⟩ = some (.int .i64 op.look.dx) := HB.out.cell 0 rfl
    have n1 : W1.cell? ⟨N, 1, none⟩ = some (.int .i64 op.look.dy) := HB.out.cell 1 rfl
    go_upto_region 5 with fail
    go_wp2_with fail
    have HNW := Lib.hid (Blk.new W1 3 #[Value.int .i64 op.look.dx, Value.int .i64 op.look.dy])
    refine (nearL_any _ W1.heap.size 2 2 [op.look.dx, op.look.dy] rfl (by omega) (fun j hj => ?_)).mono ?_
    · match j, hj with
      | 0, _ => exact HNW.out.cell 0 rfl
      | 1, _ => exact HNW.out.cell 1 rfl
    rintro e w2 ⟨rfl, hm2⟩
    have hmm := (Gou.Mod.alloc0 W1 _).trans' hm2
    have HM2 := Lib.hid (HM.out.trans' hmm)
    have HB2 := Lib.hid (HB.out.up hmm)
    have HD2 := Lib.hid (HD1.out.up hmm)
    have Hz2 := Lib.hid (Hz1.out.up hmm)
    clear hm2 hmm n0 n1 HNW c33 HMS Hset Hlr HD1 Hz1
    have n0 : w2.cell? ⟨N, 0, none⟩ = some (.int .i64 op.look.dx) := HB2.out.cell 0 rfl
    have n1 : w2.cell? ⟨N, 1, none⟩ = some (.int .i64 op.look.dy) := HB2.out.cell 1 rfl
    have HMS : Hid (Gou.Mod (fun x => x = D ∨ x ∈ F) w w2) := Lib.hid (HM2.out.imp (fun _ _ h => h.elim))
    have Hnn : Hid ([op.look.dx, op.look.dy].all nearB = (nearB op.look.dx && nearB op.look.dy)) := Lib.hid (by simp [List.all])
    cases hx : [op.look.dx, op.look.dy].all nearB
    · have Hl : Hid (lookP checkS s.look op = (s.look, 3)) := Lib.hid (by rw [Hnn.out] at hx; simp only [lookP, Hk.out, hx]; rfl)
      clear hx
      go_wp2_with fail
      go_ret
      exact ⟨HMS.out, by rw [Hl.out]; rfl, fun h => absurd h (by rw [Hl.out]; show ¬ ((3 : Int) = 0); decide)⟩
    · have Hl : Hid (lookP checkS s.look op = ({ s.look with dx := op.look.dx, dy := op.look.dy }, 0)) := Lib.hid (by rw [Hnn.out] at hx; simp only [lookP, Hk.out, hx]; rfl)
      clear hx
      have Hz3 := Lib.hid (Hz2.out.up (Gou.Mod.drew (fun _ => False) w2))
      have HD3 := Lib.hid (HD2.out.up (Gou.Mod.drew (fun _ => False) w2))
      have HMS3 := Lib.hid (HMS.out.trans' (Gou.Mod.drew _ w2))
      obtain ⟨vp1, vf1, vb1, hlr, hset⟩ := Hz3.out.sub.relook
      have Hlr := Lib.hid hlr
      have Hset := Lib.hid hset
      clear hlr hset
      obtain ⟨u0, x0, y0⟩ := Hpl.out w2 _ Hz2.out.sub 0 (by omega)
      change w2.cell? ⟨b', q, none⟩ = _ at x0
      change w2.frozen? ⟨b', q, none⟩ = _ at y0
      obtain ⟨u1, x1, y1⟩ := Hpl.out w2 _ Hz2.out.sub 1 (by omega)
      change w2.cell? ⟨b', q + 1, none⟩ = _ at x1
      change w2.frozen? ⟨b', q + 1, none⟩ = _ at y1
      go_upto_region 7 with fail
      refine wp_region_held_drew (S := fun w' => Gou.Mod (fun x => x = b') w2 w') (by kernel_rfl) (Gou.Mod.drew _ _) (fun hHeld => ?_)
      refine wpAnyH_take (i := 0) (oi := ({ dst := some 28, op := Op.move (Operand.tmp 1), type := 81, pos := "scene.go:202", after := #[], guard := none } : Oper)) (v := .pointer (some ⟨b', q, none⟩)) rfl (by kernel_rfl) (by kernel_rfl) (by kernel_rfl) (fun _ _ _ h => h) (Or.inl ⟨by rfl, ?_⟩) hHeld ?_
      · (intro w' hSw; (try dsimp only at hSw); clear hSw hHeld; go_simp; (try with_reducible rfl))
      try simp only [Act.put, List.setIfInBounds_toArray, List.set_cons_zero, List.set_cons_succ]
      refine wpAnyH_take (i := 1) (oi := ({ dst := some 29, op := Op.move (Operand.tmp 1), type := 81, pos := "scene.go:202", after := #[{ on := 8, ground := Ground.gcOnly Departure.lateStores }], guard := none } : Oper)) (v := .pointer (some ⟨b', q, none⟩)) rfl (by kernel_rfl) (by kernel_rfl) (by kernel_rfl) (fun _ _ _ h => h) (Or.inl ⟨by rfl, ?_⟩) hHeld ?_
      · (intro w' hSw; (try dsimp only at hSw); clear hSw hHeld; go_simp; (try with_reducible rfl))
      try simp only [Act.put, List.setIfInBounds_toArray, List.set_cons_zero, List.set_cons_succ]
      refine wpAnyH_take (i := 2) (oi := ({ dst := some 30, op := Op.fieldAddr 42 (Operand.tmp 5) 0, type := 0, pos := "scene.go:202", after := #[], guard := none } : Oper)) (v := .pointer (some ⟨N, 0, none⟩)) rfl (by kernel_rfl) (by kernel_rfl) (by kernel_rfl) (fun _ _ _ h => h) (Or.inl ⟨by rfl, ?_⟩) hHeld ?_
      · (intro w' hSw; (try dsimp only at hSw); clear hSw hHeld; go_simp; (try with_reducible rfl))
      try simp only [Act.put, List.setIfInBounds_toArray, List.set_cons_zero, List.set_cons_succ]
      refine wpAnyH_take (i := 3) (oi := ({ dst := some 31, op := Op.load 3 (Operand.tmp 30), type := 3, pos := "scene.go:202", after := #[{ on := 2, ground := Ground.data }], guard := none } : Oper)) (v := .int .i64 op.look.dx) rfl (by kernel_rfl) (by kernel_rfl) (by kernel_rfl) (fun _ _ _ h => h) (Or.inl ⟨by rfl, ?_⟩) hHeld ?_
      · (intro w' hSw; (try dsimp only at hSw); have g := (hSw.cell (p := ⟨N, 0, none⟩) (World.block_lt_of_cell? _ _ n0) HNb.out).trans n0; clear hSw hHeld; go_simp; (try with_reducible rfl))
      try simp only [Act.put, List.setIfInBounds_toArray, List.set_cons_zero, List.set_cons_succ]
      refine wpAnyH_take (i := 4) (oi := ({ dst := some 32, op := Op.fieldAddr 42 (Operand.tmp 5) 1, type := 0, pos := "scene.go:202", after := #[{ on := 8, ground := Ground.gcOnly Departure.lateStores }], guard := none } : Oper)) (v := .pointer (some ⟨N, 1, none⟩)) rfl (by kernel_rfl) (by kernel_rfl) (by kernel_rfl) (fun _ _ _ h => h) (Or.inl ⟨by rfl, ?_⟩) hHeld ?_
      · (intro w' hSw; (try dsimp only at hSw); clear hSw hHeld; go_simp; (try with_reducible rfl))
      try simp only [Act.put, List.setIfInBounds_toArray, List.set_cons_zero, List.set_cons_succ]
      refine wpAnyH_take (i := 5) (oi := ({ dst := some 33, op := Op.load 3 (Operand.tmp 32), type := 3, pos := "scene.go:202", after := #[{ on := 4, ground := Ground.data }, { on := 8, ground := Ground.gcOnly Departure.lateStores }], guard := none } : Oper)) (v := .int .i64 op.look.dy) rfl (by kernel_rfl) (by kernel_rfl) (by kernel_rfl) (fun _ _ _ h => h) (Or.inl ⟨by rfl, ?_⟩) hHeld ?_
      · (intro w' hSw; (try dsimp only at hSw); have g := (hSw.cell (p := ⟨N, 1, none⟩) (World.block_lt_of_cell? _ _ n1) HNb.out).trans n1; clear hSw hHeld; go_simp; (try with_reducible rfl))
      try simp only [Act.put, List.setIfInBounds_toArray, List.set_cons_zero, List.set_cons_succ]
      refine wpAnyH_take (i := 6) (oi := ({ dst := some 34, op := Op.nilCheck (Operand.tmp 28), type := 0, pos := "scene.go:202", after := #[{ on := 0, ground := Ground.data }, { on := 0, ground := Ground.phase }, { on := 1, ground := Ground.textOnly Departure.lateStores }, { on := 2, ground := Ground.phase }, { on := 3, ground := Ground.phase }, { on := 4, ground := Ground.textOnly Departure.lateStores }, { on := 5, ground := Ground.textOnly Departure.lateStores }], guard := none } : Oper)) (v := .pointer (some ⟨b', q, none⟩)) rfl (by kernel_rfl) (by kernel_rfl) (by kernel_rfl) (fun _ _ _ h => h) (Or.inl ⟨by rfl, ?_⟩) hHeld ?_
      · (intro w' hSw; (try dsimp only at hSw); clear hSw hHeld; go_simp; (try with_reducible rfl))
      try simp only [Act.put, List.setIfInBounds_toArray, List.set_cons_zero, List.set_cons_succ]
      refine wpAnyH_take (i := 7) (oi := ({ dst := some 35, op := Op.fieldAddr 42 (Operand.tmp 34) 0, type := 0, pos := "scene.go:202", after := #[{ on := 6, ground := Ground.data }, { on := 0, ground := Ground.phase }, { on := 1, ground := Ground.textOnly Departure.lateStores }, { on := 2, ground := Ground.phase }, { on := 3, ground := Ground.phase }, { on := 4, ground := Ground.textOnly Departure.lateStores }, { on := 5, ground := Ground.textOnly Departure.lateStores }], guard := none } : Oper)) (v := .pointer (some ⟨b', q, none⟩)) rfl (by kernel_rfl) (by kernel_rfl) (by kernel_rfl) (fun _ _ _ h => h) (Or.inl ⟨by rfl, ?_⟩) hHeld ?_
      · (intro w' hSw; (try dsimp only at hSw); clear hSw hHeld; go_simp; (try with_reducible rfl))
      try simp only [Act.put, List.setIfInBounds_toArray, List.set_cons_zero, List.set_cons_succ]
      refine wpAnyH_ready (rs := [8]) (by kernel_rfl) (by simp) (AllReadyH.cons (o := ({ dst := none, op := Op.store 3 (Operand.tmp 35) (Operand.tmp 31), type := 0, pos := "scene.go:202", after := #[{ on := 7, ground := Ground.data }, { on := 3, ground := Ground.data }, { on := 0, ground := Ground.phase }, { on := 1, ground := Ground.textOnly Departure.lateStores }, { on := 2, ground := Ground.phase }, { on := 3, ground := Ground.phase }, { on := 4, ground := Ground.textOnly Departure.lateStores }, { on := 5, ground := Ground.textOnly Departure.lateStores }], guard := none } : Oper)) rfl (fun K hK => ?_) AllReadyH.nil)
      go_simp
      have hq := Gou.Mod.set1 w2.drew b' q (.int .i64 op.look.dx)
      have M := Lib.hid (hHeld.trans' hq)
      clear hq hHeld
      refine hK _ _ M.out (fun hHeld => ?_)
      clear hK K M
      try simp only [Act.put, List.setIfInBounds_toArray, List.set_cons_zero, List.set_cons_succ]
      refine wpAnyH_take (i := 9) (oi := ({ dst := some 36, op := Op.nilCheck (Operand.tmp 29), type := 0, pos := "scene.go:202", after := #[{ on := 1, ground := Ground.data }, { on := 0, ground := Ground.phase }, { on := 1, ground := Ground.phase }, { on := 2, ground := Ground.phase }, { on := 3, ground := Ground.phase }, { on := 4, ground := Ground.phase }, { on := 5, ground := Ground.phase }, { on := 6, ground := Ground.phase }, { on := 7, ground := Ground.phase }, { on := 8, ground := Ground.phase }], guard := none } : Oper)) (v := .pointer (some ⟨b', q, none⟩)) rfl (by kernel_rfl) (by kernel_rfl) (by kernel_rfl) (fun _ _ _ h => h) (Or.inl ⟨by rfl, ?_⟩) hHeld ?_
      · (intro w' hSw; (try dsimp only at hSw); clear hSw hHeld; go_simp; (try with_reducible rfl))
      try simp only [Act.put, List.setIfInBounds_toArray, List.set_cons_zero, List.set_cons_succ]
      refine wpAnyH_take (i := 10) (oi := ({ dst := some 37, op := Op.fieldAddr 42 (Operand.tmp 36) 1, type := 0, pos := "scene.go:202", after := #[{ on := 9, ground := Ground.data }, { on := 0, ground := Ground.phase }, { on := 1, ground := Ground.phase }, { on := 2, ground := Ground.phase }, { on := 3, ground := Ground.phase }, { on := 4, ground := Ground.phase }, { on := 5, ground := Ground.phase }, { on := 6, ground := Ground.phase }, { on := 7, ground := Ground.phase }, { on := 8, ground := Ground.phase }], guard := none } : Oper)) (v := .pointer (some ⟨b', q + 1, none⟩)) rfl (by kernel_rfl) (by kernel_rfl) (by kernel_rfl) (fun _ _ _ h => h) (Or.inl ⟨by rfl, ?_⟩) hHeld ?_
      · (intro w' hSw; (try dsimp only at hSw); clear hSw hHeld; go_simp; (try with_reducible rfl))
      try simp only [Act.put, List.setIfInBounds_toArray, List.set_cons_zero, List.set_cons_succ]
      refine wpAnyH_ready (rs := [11]) (by kernel_rfl) (by simp) (AllReadyH.cons (o := ({ dst := none, op := Op.store 3 (Operand.tmp 37) (Operand.tmp 33), type := 0, pos := "scene.go:202", after := #[{ on := 10, ground := Ground.data }, { on := 5, ground := Ground.data }, { on := 8, ground := Ground.chain }, { on := 0, ground := Ground.phase }, { on := 1, ground := Ground.phase }, { on := 2, ground := Ground.phase }, { on := 3, ground := Ground.phase }, { on := 4, ground := Ground.phase }, { on := 5, ground := Ground.phase }, { on := 6, ground := Ground.phase }, { on := 7, ground := Ground.phase }, { on := 8, ground := Ground.phase }], guard := none } : Oper)) rfl (fun K hK => ?_) AllReadyH.nil)
      go_simp
      have M : Hid (Gou.Mod (fun x => x = b') w2 ((w2.setCell ⟨b', q, none⟩ (.int .i64 op.look.dx)).setCell ⟨b', q + 1, none⟩ (.int .i64 op.look.dy)).drew) := Lib.hid (hHeld.trans' (Gou.Mod.set1 (w2.drew.setCell ⟨b', q, none⟩ (.int .i64 op.look.dx)) b' (q + 1) (.int .i64 op.look.dy)))
      clear hHeld
      refine hK _ _ M.out (fun hHeld => ?_)
      clear hK K M
      try simp only [Act.put, List.setIfInBounds_toArray, List.set_cons_zero, List.set_cons_succ]
      have MS := Lib.hid hHeld
      refine wpAnyH_done (by kernel_rfl) ?_ _
      clear hHeld
      clear MS x0 y0 x1 y1
      try simp only [Act.put]
      go_wp2_with fail
      obtain ⟨t2, fr2⟩ := Hset.out 2 [.int .i64 op.look.dx, .int .i64 op.look.dy] ({ s.look with dx := op.look.dx, dy := op.look.dy }) vp1 vf1 vb1 (by omega) (by simp) (fun _ => rfl) ⟨Hlr.out.pix, Hlr.out.filt, Hlr.out.back⟩
      rw [Hq2.out] at t2 fr2
      obtain ⟨F3, cur3, h3, _⟩ := HD3.out.step tI tB Hz3.out t2 fr2 (fun x hx => .inl hx)
      go_ret
      exact ⟨HMS3.out.trans' (fr2.mod.imp (S' := fun x => x = D ∨ x ∈ F) (fun x _ hx => by
        rcases hx with rfl | hx | hx
        · exact HbD.out
        · exact .inr (Hz3.out.rows x hx)
        · exact hx.elim)), by rw [Hl.out]; rfl, fun _ => by rw [Hl.out]; exact ⟨_, _, _, _, h3⟩⟩
  by_cases k6 : op.kind = 6
  · rw [k6] at c33
    have Hk := Lib.hid k6
    clear k6
    try clear k5
    try clear k6
    try clear k7
    try clear k8
    try clear k9
    try clear k10
    clear hk5 hk11
    have n2 : W1.cell? ⟨N, 2, none⟩ = some (.bool op.look.hasClip) := HB.out.cell 2 rfl
    have n3 : W1.cell? ⟨N, 3, none⟩ = some (.int .i64 op.look.clip.x0) := HB.out.cell 3 rfl
    have n4 : W1.cell? ⟨N, 4, none⟩ = some (.int .i64 op.look.clip.y0) := HB.out.cell 4 rfl
    have n5 : W1.cell? ⟨N, 5, none⟩ = some (.int .i64 op.look.clip.x1) := HB.out.cell 5 rfl
    have n6 : W1.cell? ⟨N, 6, none⟩ = some (.int .i64 op.look.clip.y1) := HB.out.cell 6 rfl
    cases hhc : op.look.hasClip
    · rw [hhc] at n2
      have Hl : Hid (lookP checkS s.look op = ({ s.look with hasClip := false, clip := Rc.zero }, 0)) := Lib.hid (by simp [lookP, Hk.out, hhc])
      have Hhc := Lib.hid hhc
      clear hhc
      obtain ⟨u2, x2, y2⟩ := Hpl.out W1 _ Hz1.out.sub 2 (by omega)
      change W1.cell? ⟨b', q + 2, none⟩ = _ at x2
      change W1.frozen? ⟨b', q + 2, none⟩ = _ at y2
      obtain ⟨u3, x3, y3⟩ := Hpl.out W1 _ Hz1.out.sub 3 (by omega)
      change W1.cell? ⟨b', q + 3, none⟩ = _ at x3
      change W1.frozen? ⟨b', q + 3, none⟩ = _ at y3
      obtain ⟨u4, x4, y4⟩ := Hpl.out W1 _ Hz1.out.sub 4 (by omega)
      change W1.cell? ⟨b', q + 4, none⟩ = _ at x4
      change W1.frozen? ⟨b', q + 4, none⟩ = _ at y4
      obtain ⟨u5, x5, y5⟩ := Hpl.out W1 _ Hz1.out.sub 5 (by omega)
      change W1.cell? ⟨b', q + 5, none⟩ = _ at x5
      change W1.frozen? ⟨b', q + 5, none⟩ = _ at y5
      obtain ⟨u6, x6, y6⟩ := Hpl.out W1 _ Hz1.out.sub 6 (by omega)
      change W1.cell? ⟨b', q + 6, none⟩ = _ at x6
      change W1.frozen? ⟨b', q + 6, none⟩ = _ at y6
      go_upto_region 12 with fail
      show Code.wp _ _ _ _ (W1.setCells b' (q + 2) [.bool false, .int .i64 0, .int .i64 0, .int .i64 0, .int .i64 0])
      have HB3 := Lib.hid (HB.out.mod (Blk.setMod W1 b' (q + 2) [.bool false, .int .i64 0, .int .i64 0, .int .i64 0, .int .i64 0]) HNb.out)
      obtain ⟨t2, fr2⟩ := Hset.out 4 [.bool false, .int .i64 0, .int .i64 0, .int .i64 0, .int .i64 0] ({ s.look with hasClip := false, clip := Rc.zero }) vp1 vf1 vb1 (by omega) (by simp) (fun _ => rfl) ⟨Hlr.out.pix, Hlr.out.filt, Hlr.out.back⟩
      rw [Hq2.out 2] at t2 fr2
      have Ht2 := Lib.hid t2
      have Hfr2 := Lib.hid fr2
      clear n2 n3 n4 n5 n6 x2 x3 x4 x5 x6 y2 y3 y4 y5 y6 t2 fr2
      generalize W1.setCells b' (q + 2) [.bool false, .int .i64 0, .int .i64 0, .int .i64 0, .int .i64 0] = w3 at *
      have n2 : w3.cell? ⟨N, 2, none⟩ = some (.bool false) := (HB3.out.cell 2 rfl).trans (congrArg (fun b => some (Value.bool b)) Hhc.out)
      go_wp2_with fail
      obtain ⟨F3, cur3, h3, _⟩ := HD1.out.step tI tB Hz1.out Ht2.out Hfr2.out (fun x hx => .inl hx)
      go_ret
      exact ⟨HMS.out.trans' (Hfr2.out.mod.imp (S' := fun x => x = D ∨ x ∈ F) (fun x _ hx => by
        rcases hx with rfl | hx | hx
        · exact HbD.out
        · exact .inr (Hz1.out.rows x hx)
        · exact hx.elim)), by rw [Hl.out]; rfl, fun _ => by rw [Hl.out]; exact ⟨_, _, _, _, h3⟩⟩
    · rw [hhc] at n2
      have Hhc := Lib.hid hhc
      clear hhc
      go_upto_region 9 with fail
      go_wp2_with fail
      refine (corners_any op.look.clip _).mono ?_
      rintro e w2 ⟨rfl, hm2⟩
      have HM2 := Lib.hid (HM.out.trans' hm2)
      have HB2 := Lib.hid (HB.out.up hm2)
      have HD2 := Lib.hid (HD1.out.up hm2)
      have Hz2 := Lib.hid (Hz1.out.up hm2)
      clear hm2 n2 n3 n4 n5 n6 c33 HMS Hset Hlr HD1 Hz1
      have n2 : w2.cell? ⟨N, 2, none⟩ = some (.bool true) := (HB2.out.cell 2 rfl).trans (congrArg (fun b => some (Value.bool b)) Hhc.out)
      have n3 : w2.cell? ⟨N, 3, none⟩ = some (.int .i64 op.look.clip.x0) := HB2.out.cell 3 rfl
      have n4 : w2.cell? ⟨N, 4, none⟩ = some (.int .i64 op.look.clip.y0) := HB2.out.cell 4 rfl
      have n5 : w2.cell? ⟨N, 5, none⟩ = some (.int .i64 op.look.clip.x1) := HB2.out.cell 5 rfl
      have n6 : w2.cell? ⟨N, 6, none⟩ = some (.int .i64 op.look.clip.y1) := HB2.out.cell 6 rfl
      have HMS : Hid (Gou.Mod (fun x => x = D ∨ x ∈ F) w w2) := Lib.hid (HM2.out.imp (fun _ _ h => h.elim))
      cases hx : op.look.clip.nearB
      · have Hl : Hid (lookP checkS s.look op = (s.look, 3)) := Lib.hid (by simp [lookP, Hk.out, Hhc.out, hx])
        clear hx
        go_wp2_with fail
        go_ret
        exact ⟨HMS.out, by rw [Hl.out]; rfl, fun h => absurd h (by rw [Hl.out]; show ¬ ((3 : Int) = 0); decide)⟩
      · have Hl : Hid (lookP checkS s.look op = ({ s.look with hasClip := true, clip := op.look.clip }, 0)) := Lib.hid (by simp [lookP, Hk.out, Hhc.out, hx])
        clear hx
        obtain ⟨vp1, vf1, vb1, hlr, hset⟩ := Hz2.out.sub.relook
        obtain ⟨t2, fr2⟩ := hset 4 [.bool true, .int .i64 0, .int .i64 0, .int .i64 0, .int .i64 0] ({ s.look with hasClip := true, clip := Rc.zero }) vp1 vf1 vb1 (by omega) (by simp) (fun _ => rfl) ⟨hlr.pix, hlr.filt, hlr.back⟩
        rw [Hq2.out 2] at t2 fr2
        obtain ⟨vp3, vf3, vb3, hlr3, hset3⟩ := t2.relook
        obtain ⟨t3, fr3⟩ := hset3 5 [.int .i64 op.look.clip.x0, .int .i64 op.look.clip.y0, .int .i64 op.look.clip.x1, .int .i64 op.look.clip.y1] ({ s.look with hasClip := true, clip := op.look.clip }) vp3 vf3 vb3 (by omega) (by simp) (fun _ => rfl) ⟨hlr3.pix, hlr3.filt, hlr3.back⟩
        rw [Hq2.out 3] at t3 fr3
        have Ht2 := Lib.hid t2
        have Hfr2 := Lib.hid fr2
        have Ht3 := Lib.hid t3
        have Hfr3 := Lib.hid (fr2.trans fr3)
        clear hlr hset t2 fr2 hlr3 hset3 t3 fr3
        obtain ⟨u2, x2, y2⟩ := Hpl.out w2 _ Hz2.out.sub 2 (by omega)
        change w2.cell? ⟨b', q + 2, none⟩ = _ at x2
        change w2.frozen? ⟨b', q + 2, none⟩ = _ at y2
        obtain ⟨u3, x3, y3⟩ := Hpl.out w2 _ Hz2.out.sub 3 (by omega)
        change w2.cell? ⟨b', q + 3, none⟩ = _ at x3
        change w2.frozen? ⟨b', q + 3, none⟩ = _ at y3
        obtain ⟨u4, x4, y4⟩ := Hpl.out w2 _ Hz2.out.sub 4 (by omega)
        change w2.cell? ⟨b', q + 4, none⟩ = _ at x4
        change w2.frozen? ⟨b', q + 4, none⟩ = _ at y4
        obtain ⟨u5, x5, y5⟩ := Hpl.out w2 _ Hz2.out.sub 5 (by omega)
        change w2.cell? ⟨b', q + 5, none⟩ = _ at x5
        change w2.frozen? ⟨b', q + 5, none⟩ = _ at y5
        obtain ⟨u6, x6, y6⟩ := Hpl.out w2 _ Hz2.out.sub 6 (by omega)
        change w2.cell? ⟨b', q + 6, none⟩ = _ at x6
        change w2.frozen? ⟨b', q + 6, none⟩ = _ at y6
        go_upto_region 12 with fail
        show Code.wp _ _ _ _ (w2.setCells b' (q + 2) [.bool true, .int .i64 0, .int .i64 0, .int .i64 0, .int .i64 0])
        have HB3 := Lib.hid (HB2.out.mod (Blk.setMod w2 b' (q + 2) [.bool true, .int .i64 0, .int .i64 0, .int .i64 0, .int .i64 0]) HNb.out)
        clear n2 n3 n4 n5 n6 x2 x3 x4 x5 x6 y2 y3 y4 y5 y6
        generalize w2.setCells b' (q + 2) [.bool true, .int .i64 0, .int .i64 0, .int .i64 0, .int .i64 0] = w3 at *
        have n2 : w3.cell? ⟨N, 2, none⟩ = some (.bool true) := (HB3.out.cell 2 rfl).trans (congrArg (fun b => some (Value.bool b)) Hhc.out)
        have n3 : w3.cell? ⟨N, 3, none⟩ = some (.int .i64 op.look.clip.x0) := HB3.out.cell 3 rfl
        have n4 : w3.cell? ⟨N, 4, none⟩ = some (.int .i64 op.look.clip.y0) := HB3.out.cell 4 rfl
        have n5 : w3.cell? ⟨N, 5, none⟩ = some (.int .i64 op.look.clip.x1) := HB3.out.cell 5 rfl
        have n6 : w3.cell? ⟨N, 6, none⟩ = some (.int .i64 op.look.clip.y1) := HB3.out.cell 6 rfl
        obtain ⟨u3, x3, y3⟩ := Hpl.out w3 _ Ht2.out 3 (by omega)
        change w3.cell? ⟨b', q + 3, none⟩ = _ at x3
        change w3.frozen? ⟨b', q + 3, none⟩ = _ at y3
        obtain ⟨u4, x4, y4⟩ := Hpl.out w3 _ Ht2.out 4 (by omega)
        change w3.cell? ⟨b', q + 4, none⟩ = _ at x4
        change w3.frozen? ⟨b', q + 4, none⟩ = _ at y4
        obtain ⟨u5, x5, y5⟩ := Hpl.out w3 _ Ht2.out 5 (by omega)
        change w3.cell? ⟨b', q + 5, none⟩ = _ at x5
        change w3.frozen? ⟨b', q + 5, none⟩ = _ at y5
        obtain ⟨u6, x6, y6⟩ := Hpl.out w3 _ Ht2.out 6 (by omega)
        change w3.cell? ⟨b', q + 6, none⟩ = _ at x6
        change w3.frozen? ⟨b', q + 6, none⟩ = _ at y6
        go_wp2_with fail
        obtain ⟨F3, cur3, h3, _⟩ := HD2.out.step tI tB Hz2.out Ht3.out Hfr3.out (fun x hx => .inl hx)
        go_ret
        exact ⟨HMS.out.trans' (Hfr3.out.mod.imp (S' := fun x => x = D ∨ x ∈ F) (fun x _ hx => by
          rcases hx with rfl | hx | hx
          · exact HbD.out
          · exact .inr (Hz2.out.rows x hx)
          · exact hx.elim)), by rw [Hl.out]; rfl, fun _ => by rw [Hl.out]; exact ⟨_, _, _, _, h3⟩⟩
  have e5 : (op.kind == 5) = false := beq_eq_false_iff_ne.2 k5
  have e6 : (op.kind == 6) = false := beq_eq_false_iff_ne.2 k6
  have e7 : (op.kind == 7) = false := beq_eq_false_iff_ne.2 k7
  have e8 : (op.kind == 8) = false := beq_eq_false_iff_ne.2 k8
  have Hk9 : Hid (9 ≤ op.kind ∧ op.kind ≤ 11) := Lib.hid (by omega)
  clear k5 k6 k7 k8 hk5 hk11
  have hp := picture_any base W1 D a T F op _ _ _ _ _ cur HD1.out π s b' o' F' Hz1.out Hfit.out Hwf.out Hwb.out Hk9.out.1 Hk9.out.2
  rw [← Hq.out] at hp
  have Hp := Lib.hid hp
  clear hp
  go_wp2_with fail
  refine Hp.out.mono ?_
  rintro e w2 ⟨hm2, rfl, hs2⟩
  have Hm2 := Lib.hid hm2
  have Hs2 := Lib.hid hs2
  clear hm2 hs2
  go_wp2_with fail
  go_ret
  exact ⟨HMS.out.trans' Hm2.out, rfl, Hs2.out⟩

end Go.Proofs.Ytpbmfalokongfaa

