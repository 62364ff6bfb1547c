/- Texts of the scenes' proofs, laid together: SdJ, SdK, SdL. -/
import Derived.Test.YtpbmfalokongfaaGreatDoorZag
import Derived.Test.YtpbmfalokongfaaGreatDoorZab
set_option maxHeartbeats 64000000
set_option linter.unusedSimpArgs false
set_option linter.unusedVariables false
set_option linter.unusedSectionVars false
set_option linter.constructorNameAsVariable false
namespace Go.Gou
open Go.RowKit
theorem ucq (vs : List Value) : ∀ (cs : Array Value) (o k : Nat), (uao cs o vs)[k]? = if o ≤ k ∧ k < o + vs.length ∧ k < cs.size then vs[k - o]? else cs[k]? := by
 induction vs with
 | nil => intro cs o k; rw [if_neg (by simp; omega)]; rfl
 | cons v r ih =>
  intro cs o k
  rw [uao, ih]
  simp only [Array.size_setIfInBounds, List.length_cons]
  by_cases h1 : o + 1 ≤ k ∧ k < o + 1 + r.length ∧ k < cs.size
  ·rw [if_pos h1, if_pos (by omega), show k - o = (k - (o + 1)) + 1 by omega, List.getElem?_cons_succ]
  ·rw [if_neg h1]
   by_cases h2 : k = o ∧ k < cs.size
   ·obtain ⟨rfl, h2⟩ := h2
    rw [if_pos (by omega), Nat.sub_self, Array.getElem?_setIfInBounds_self_of_lt h2]
    rfl
   ·rw [if_neg (by omega)]
    by_cases h3 : k = o
    ·subst h3
     rw [Array.getElem?_eq_none (by simp; omega), Array.getElem?_eq_none (by omega)]
    ·rw [Array.getElem?_setIfInBounds_ne (by omega)]
variable {TL TD : TypeId} {base : Nat}
theorem TreeAt.place {w : World} {b o : Nat} {T : Ly} {F : List Nat} (h : TreeAt TL TD base w b o T F) : ∃ TT cur, Blk w b TT cur ∧ ∀ k, k < 31 → ∃ u, w.cell? ⟨b, o + k, none⟩ = some u ∧ w.frozen? ⟨b, o + k, none⟩ = false := by
 obtain ⟨⟨c, cur, TT, h1, h2, h3, h4⟩, h5, h6⟩ := h
 refine ⟨TT, cur, h2, fun k hk => ?_⟩
 have hl := h1.len
 have hc : c[k]? = some c[k] := lgE (by omega)
 exact ⟨c[k], h2.cell (o + k) ((h4 k hk).trans hc), h2.frozen (o + k)⟩
theorem TreeAt.thereAt {w : World} {b o : Nat} {T : Ly} {F : List Nat} (h : TreeAt TL TD base w b o T F) (k n : Nat) (hk : k + n ≤ 31) : w.there b (o + k) n := fun j hj => by
 obtain ⟨_, _, _, hp⟩ := h.place
 obtain ⟨u, h1, h2⟩ := hp (k + j) (by omega)
 rw [← Nat.add_assoc] at h1 h2
 exact ⟨by rw [h1]; rfl, h2⟩
theorem Frm.trans {w w2 w3 : World} {b o : Nat} {F : List Nat} {N : Nat → Prop} (h : Frm w w2 b o F N) (k : Frm w2 w3 b o F N) : Frm w w3 b o F N := by
 obtain ⟨m1, cA, cB, TT, a1, a2, a3, a4⟩ := h
 obtain ⟨m2, dA, dB, UU, b1, b2, b3, b4⟩ := k
 unfold Blk at a2 b1
 rw [a2] at b1
 simp only [Option.some.injEq, Obj.cells.injEq] at b1
 obtain ⟨rfl, rfl, -⟩ := b1
 exact ⟨m1.trans' m2, cA, dB, TT, a1, b2, b3.trans a3, fun j hj => (b4 j hj).trans (a4 j hj)⟩
theorem TreeAt.relook {w : World} {b o : Nat} {T : Ly} {F : List Nat} (h : TreeAt TL TD base w b o T F) : ∃ vp vf vb, LookR (LookG TL TD base w) w T.look vp vf vb ∧
 ∀ (o2 : Nat) (vs : List Value) (lk2 : Lk) (vp2 vf2 vb2 : Value), 2 ≤ o2 → o2 + vs.length ≤ 30 → (∀ vk, uao (lyA T.id T.look vp vf vb vk) o2 vs = lyA T.id lk2 vp2 vf2 vb2 vk) → LookR (LookG TL TD base w) w lk2 vp2 vf2 vb2 →
     TreeAt TL TD base (w.setCells b (o + o2) vs) b o (.mk T.id lk2 T.kids) F ∧ Frm w (w.setCells b (o + o2) vs) b o F (fun _ => False) := by
 obtain ⟨vp, vf, vb, vk, css, fs, cur, TT, hd⟩ := h.open
 refine ⟨vp, vf, vb, hd.h4, fun o2 vs lk2 vp2 vf2 vb2 ho hl hc hr => ?_⟩
 have hnl := h.notLook
 have hm := Blk.setMod w b (o + o2) vs
 have hl' : ∀ k, base ≤ k → LookBlk TL TD w k → ¬ k = b := fun k _ hk e => hnl (e ▸ hk)
 have hF : ∀ k ∈ F, ¬ k = b := fun k hk e => h.out (e ▸ hk)
 have hb2 := hd.h1.sets (o + o2) vs
 have hsz := ua7 vs cur (o + o2)
 have hv : vk.ownBlock.toList ++ fs.flatten = F := hd.h9.symm
 refine ⟨TreeD.tree (vp := vp2) (vf := vf2) (vb := vb2) (vk := vk) (css := css) (fs := fs) (cur := uao cur (o + o2) vs) (TT := TT) ⟨hb2, hd.h2, fun j hj => ?_, hr.look_mod hm hl', uac hd.h5 hm (fun k hk => hF k (by rw [← hv, hk]; simp)), hd.h6, hd.h7, fun j c k f a1 a2 a3 => (hd.h8 j c k f a1 a2 a3).mod hm (fun x hx => hF x (by rw [← hv]; exact List.mem_append_right _ (List.mem_flatten.2 ⟨f, lmG a3, hx⟩))) hl', hd.h9, hd.h10, hd.ge, hd.out⟩, hm.imp (fun _ _ e => .inl e), cur, _, TT, hd.h1, hb2, hsz, fun j hj => ?_⟩
 ·have h3 := hd.h3 j hj
  rw [Ly.id_mk, Ly.look_mk, ← hc vk, ucq, ucq]
  have hs : (lyA T.id T.look vp vf vb vk).size = 31 := rfl
  have hcur : o + j < cur.size := by
   rcases Nat.lt_or_ge (o + j) cur.size with hh | hh
   ·exact hh
   ·rw [Array.getElem?_eq_none hh, Array.getElem?_eq_getElem (by omega)] at h3
    cases h3
  by_cases hin : o2 ≤ j ∧ j < o2 + vs.length
  ·rw [if_pos (by omega), if_pos (by omega), show o + j - (o + o2) = j - o2 by omega]
  ·rw [if_neg (by omega), if_neg (by omega), h3]
 ·rw [ucq, if_neg (by omega)]
theorem uhr (i : Idt) (l : Lk) (vp vf vb vk : Value) (c : Ct) (v : Value) : uao (lyA i l vp vf vb vk) 11 (uak c v).toList = lyA i { l with content := c } v vf vb vk := by
 simp only [uak, uao, lyA, List.setIfInBounds_toArray, List.set_cons_succ, List.set_cons_zero]
theorem Frm.of_up {w w' w2 : World} {b o : Nat} {T : Ly} {F : List Nat} {N : Nat → Prop} (h : TreeAt TL TD base w b o T F) (hm : Mod (fun _ => False) w w') (fr : Frm w' w2 b o F N) : Frm w w2 b o F N := by
 obtain ⟨⟨c, cur, TT, h1, h2, h3, h4⟩, h5, h6⟩ := h
 obtain ⟨m1, cA, cB, UU, a1, a2, a3, a4⟩ := fr
 have h2' := h2.mod hm (fun h => h)
 unfold Blk at h2' a1
 rw [h2'] at a1
 simp only [Option.some.injEq, Obj.cells.injEq] at a1
 obtain ⟨rfl, rfl, -⟩ := a1
 exact ⟨(hm.imp (fun _ _ h => h.elim)).trans' m1, cur, cB, TT, h2, a2, a3, a4⟩
theorem Zoom.up {w w' : World} {b o : Nat} {T : Ly} {F : List Nat} {π : List Nat} {s : Ly} {b' o' : Nat} {F' : List Nat} (h : Zoom TL TD base w b o T F π s b' o' F') (hm : Mod (fun _ => False) w w') : Zoom TL TD base w' b o T F π s b' o' F' :=
 ⟨h.sub.up hm, h.blk, h.rows, fun w2 s2 F2 N t2 fr hF2 hN => h.put w2 s2 F2 N t2 (Frm.of_up h.sub hm fr) hF2 (fun x hx => ⟨(hN x hx).1, (hN x hx).2.1, fun hb hl => (hN x hx).2.2 hb (hl.mod hm (fun h => h))⟩), h.get, fun w2 N fr hN => h.at2 w2 N (Frm.of_up h.sub hm fr) hN⟩
end Go.Gou
namespace Go.Proofs.YtpbmfalokongfaaGreatDoor
open Go.RowKit Go.Gou Go.Lib
set_option maxRecDepth 100000
def SetP (base : Nat) (a : Ar) (T : Ly) (F : List Nat) (op : Opr) (vp vf vb : Value) (s : Ly) (π : List Nat) (w : World) (D : Nat) (e : Ending) (w' : World) : Prop := Gou.Mod (fun x => x = D ∨ x ∈ F) w w' ∧
 e = .returned (iV (uas checkS s.look op).2) ∧ ((uas checkS s.look op).2 = 0 → ∃ vg vl cur F3, ubi base w' D a (T.put π (.mk s.id (uas checkS s.look op).1 s.kids)) F3 op vg vl vp vf vb cur)
theorem DoerR.opr {base : Nat} {w : World} {D : Nat} {a : Ar} {T : Ly} {F : List Nat} {op : Opr} {vg vl vp vf vb : Value} {cur : Array Value} (h : ubi base w D a T F op vg vl vp vf vb cur) : w.rangeAt D 39 (uai op.look vp vf vb).toList := fun j v hv => by
 have hj := (lgS.1 hv).1
 have hj28 : j < 28 := hj
 refine h.blk.cell (39 + j) ?_
 have := h.ops (6 + j) (by omega)
 rw [show 33 + (6 + j) = 39 + j by omega] at this
 rw [this]
 have e : (oprC op vp vf vb).toList = [iV op.kind, iV op.id.1, iV op.id.2, iV op.to.1, iV op.to.2, iV op.at_] ++ (uai op.look vp vf vb).toList := rfl
 rw [← agT, e, lgR (by simp)]
 simpa using hv
theorem uay {l : Lk} {p1 p2 p3 : Option Addr} {n1 n2 n3 c1 c2 c3 : Nat} : (uai l (.slice p1 n1 c1) (.slice p2 n2 c2) (.slice p3 n3 c3)).all (·.oneCell') = true := by
 simp [uai, Value.oneCell']
theorem uh4 (base : Nat) (w : World) (D : Nat) (a : Ar) (T : Ly) (F : List Nat) (op : Opr) (vg vl vp vf vb : Value) (cur : Array Value) (hD : ubi base w D a T F op vg vl vp vf vb cur) (π : List Nat) (s : Ly) (b' o' : Nat) (F' : List Nat) (hz : ZoomL base w D 2 T F π s b' o' F') (hfit : LkFit op.look) (hwf : GrWf op.look.filt) (hwb : GrWf op.look.back) (hk5 : 9 ≤ op.kind) (hk11 : op.kind ≤ 11) :
 Calls Tryz.prog 63 #[.pointer (some ⟨D, 0, none⟩), .pointer (some ⟨b', o' + 2, none⟩)] w (SetP base a T F op vp vf vb s π w D) := by
 obtain ⟨⟨pp, cp, rfl⟩, ⟨pf, cf, rfl⟩, ⟨pb, cb, rfl⟩⟩ := hD.look.forms
 have HD := hd' hD
 have Hz := hd' hz
 have Hfit := hd' hfit
 have Hwf := hd' hwf
 have Hwb := hd' hwb
 have HDlt := hd' (Blk.lt hD.blk)
 have Hblt := hd' hz.sub.lt
 have Hrg : Hid (w.rangeAt D 39 (lkS op.look pp cp pf cf pb cb).toList) := hd' (DoerR.opr hD)
 obtain ⟨q, hq⟩ : ∃ q, q = o' + 2 := ⟨_, rfl⟩
 have Hq := hd' hq
 rw [← hq]
 clear hD hz hfit hwf hwb hq
 go_enter Tryz.func63, Tryz.ntmps63
 go_upto_region 2 with (first | ((with_reducible refine lT 42 ?_); refine ldA Hrg.o Tryz.underlying42 uad (h := ?_)) | ((with_reducible refine sT 42 ?_); refine stA (lkS op.look pp cp pf cf pb cb) ((Blk.new w 42 lkZz).there 0 28 (by simp [uai])) uad uay (h := ?_)) | fail)
 have HB := hd' ((Blk.new w 42 lkZz).setAll (lkS op.look pp cp pf cf pb cb) rfl)
 have HM : Hid (Gou.Mod (fun _ => False) w ((w.alloc (.cells lkZz 42)).setCells w.heap.size 0 (lkS op.look pp cp pf cf pb cb).toList)) := hd' (Gou.Mod.allocSet _ _ _)
 show Code.wp _ _ _ _ ((w.alloc (.cells lkZz 42)).setCells w.heap.size 0 (lkS op.look pp cp pf cf pb cb).toList)
 generalize (w.alloc (.cells lkZz 42)).setCells w.heap.size 0 (lkS op.look pp cp pf cf pb cb).toList = W1 at *
 have HD1 := hd' (HD.o.up HM.o)
 have Hz1 := hd' (Hz.o.up HM.o)
 have HNb : Hid (w.heap.size ≠ b') := hd' (by have := Hblt.o; omega)
 have HND : Hid (w.heap.size ≠ D) := hd' (by have := HDlt.o; omega)
 obtain ⟨N, hN⟩ : ∃ N, N = w.heap.size := ⟨_, rfl⟩
 rw [← hN] at HB HNb HND ⊢
 have HN := hd' hN
 clear hN
 have HbD : Hid (b' = D ∨ b' ∈ F) := hd' (Hz1.o.blk.imp (fun h => h.1) id)
 have Hpl : Hid (∀ wx s, TreeAt 45 77 base wx b' o' s F' → ∀ k, k < 28 → ∃ u, wx.cell? ⟨b', q + k, none⟩ = some u ∧ wx.frozen? ⟨b', q + k, none⟩ = false) := hd' (fun wx s hx k hk => by
  obtain ⟨_, _, _, h⟩ := hx.place
  have := h (k + 2) (by omega)
  rw [show o' + (k + 2) = q + k by have := Hq.o; omega] at this
  exact this)
 obtain ⟨vp1, vf1, vb1, hlr, hset⟩ := Hz1.o.sub.relook
 have Hlr := hd' hlr
 have Hset := hd' hset
 have Hq2 : Hid (∀ k, o' + (k + 2) = q + k) := hd' (fun k => by have := Hq.o; omega)
 clear hlr hset
 have c33 := HD1.o.cell.2.2.1
 have HMS : Hid (Gou.Mod (fun x => x = D ∨ x ∈ F) w W1) := hd' (HM.o.imp (fun _ _ h => h.elim))
 by_cases k9 : op.kind = 9
 ·rw [k9] at c33
  have Hk := hd' k9
  clear k9
  try clear k5
  try clear k6
  try clear k7
  try clear k8
  try clear k9
  try clear k10
  clear hk5 hk11
  have n9 : W1.cell? ⟨N, 9, none⟩ = some (iV op.look.content.kind) := HB.o.cell 9 rfl
  by_cases h1 : op.look.content.kind < 0
  ·have e1 : decide (op.look.content.kind < 0) = true := dqt h1
   have Hl : Hid (uas checkS s.look op = (s.look, 1)) := hd' (by simp [uas, Hk.o, h1])
   go_wp2_with fail
   go_ret
   exact ⟨HMS.o, by rw [Hl.o]; rfl, fun h => absurd h (by rw [Hl.o]; show ¬ ((1 : Int) = 0); decide)⟩
  ·have e1 : decide (op.look.content.kind < 0) = false := dqf h1
   by_cases h2 : 2 < op.look.content.kind
   ·have e2 : decide (2 < op.look.content.kind) = true := dqt h2
    have Hl : Hid (uas checkS s.look op = (s.look, 1)) := hd' (by simp [uas, Hk.o, h2])
    go_wp2_with fail
    go_ret
    exact ⟨HMS.o, by rw [Hl.o]; rfl, fun h => absurd h (by rw [Hl.o]; show ¬ ((1 : Int) = 0); decide)⟩
   ·have e2 : decide (2 < op.look.content.kind) = false := dqf h2
    have Hk02 : Hid (0 ≤ op.look.content.kind ∧ op.look.content.kind ≤ 2) := hd' ⟨by omega, by omega⟩
    have Hl0 : Hid (uas checkS s.look op = if op.look.content.rightB then ({ s.look with content := op.look.content.own }, 0) else (s.look, 3)) := hd' (by simp [uas, Hk.o, h1, h2])
    have n10 : W1.cell? ⟨N, 10, none⟩ = some (iV op.look.content.box.x0) := HB.o.cell 10 rfl
    have n11 : W1.cell? ⟨N, 11, none⟩ = some (iV op.look.content.box.y0) := HB.o.cell 11 rfl
    have n12 : W1.cell? ⟨N, 12, none⟩ = some (iV op.look.content.box.x1) := HB.o.cell 12 rfl
    have n13 : W1.cell? ⟨N, 13, none⟩ = some (iV op.look.content.box.y1) := HB.o.cell 13 rfl
    have n14 : W1.cell? ⟨N, 14, none⟩ = some (.int .u8 ((op.look.content.px.p0 : Nat) : Int)) := HB.o.cell 14 rfl
    have n15 : W1.cell? ⟨N, 15, none⟩ = some (.int .u8 ((op.look.content.px.p1 : Nat) : Int)) := HB.o.cell 15 rfl
    have n16 : W1.cell? ⟨N, 16, none⟩ = some (.int .u8 ((op.look.content.px.p2 : Nat) : Int)) := HB.o.cell 16 rfl
    have n17 : W1.cell? ⟨N, 17, none⟩ = some (.int .u8 ((op.look.content.px.p3 : Nat) : Int)) := HB.o.cell 17 rfl
    have n18 : W1.cell? ⟨N, 18, none⟩ = some (iV op.look.content.w) := HB.o.cell 18 rfl
    have n19 : W1.cell? ⟨N, 19, none⟩ = some (iV op.look.content.h) := HB.o.cell 19 rfl
    have n20 : W1.cell? ⟨N, 20, none⟩ = some (iV op.look.content.turn) := HB.o.cell 20 rfl
    have n21 : W1.cell? ⟨N, 21, none⟩ = some (.slice pp op.look.content.pix.length cp) := HB.o.cell 21 rfl
    go_upto_region 6 with fail
    clear h1 h2 e1 e2
    go_wp2_with fail
    refine (uig _ op.look.content (.slice pp op.look.content.pix.length cp) (HD1.o.look.pix.imp (fun _ _ _ => trivial)) Hfit.o.pix Hk02.o.1 Hk02.o.2).mono ?_
    rintro e w2 ⟨rfl, hm2⟩
    have HM2 := hd' (HM.o.trans' hm2)
    have HB2 := hd' (HB.o.up hm2)
    have HD2 := hd' (HD1.o.up hm2)
    have Hz2 := hd' (Hz1.o.up hm2)
    clear hm2 c33 HMS Hset Hlr HD1 Hz1 n9 n10 n11 n12 n13 n14 n15 n16 n17 n18 n19 n20 n21
    cases hx : op.look.content.rightB
    ·have Hl : Hid (uas checkS s.look op = (s.look, 3)) := hd' (by rw [Hl0.o, hx]; rfl)
     clear hx
     have HMS : Hid (Gou.Mod (fun x => x = D ∨ x ∈ F) w w2) := hd' (HM2.o.imp (fun _ _ h => h.elim))
     go_wp2_with fail
     go_ret
     exact ⟨HMS.o, by rw [Hl.o]; rfl, fun h => absurd h (by rw [Hl.o]; show ¬ ((3 : Int) = 0); decide)⟩
    ·have Hl : Hid (uas checkS s.look op = ({ s.look with content := op.look.content.own }, 0)) := hd' (by rw [Hl0.o, hx]; rfl)
     clear hx
     have n9 : w2.cell? ⟨N, 9, none⟩ = some (iV op.look.content.kind) := HB2.o.cell 9 rfl
     have n10 : w2.cell? ⟨N, 10, none⟩ = some (iV op.look.content.box.x0) := HB2.o.cell 10 rfl
     have n11 : w2.cell? ⟨N, 11, none⟩ = some (iV op.look.content.box.y0) := HB2.o.cell 11 rfl
     have n12 : w2.cell? ⟨N, 12, none⟩ = some (iV op.look.content.box.x1) := HB2.o.cell 12 rfl
     have n13 : w2.cell? ⟨N, 13, none⟩ = some (iV op.look.content.box.y1) := HB2.o.cell 13 rfl
     have n14 : w2.cell? ⟨N, 14, none⟩ = some (.int .u8 ((op.look.content.px.p0 : Nat) : Int)) := HB2.o.cell 14 rfl
     have n15 : w2.cell? ⟨N, 15, none⟩ = some (.int .u8 ((op.look.content.px.p1 : Nat) : Int)) := HB2.o.cell 15 rfl
     have n16 : w2.cell? ⟨N, 16, none⟩ = some (.int .u8 ((op.look.content.px.p2 : Nat) : Int)) := HB2.o.cell 16 rfl
     have n17 : w2.cell? ⟨N, 17, none⟩ = some (.int .u8 ((op.look.content.px.p3 : Nat) : Int)) := HB2.o.cell 17 rfl
     have n18 : w2.cell? ⟨N, 18, none⟩ = some (iV op.look.content.w) := HB2.o.cell 18 rfl
     have n19 : w2.cell? ⟨N, 19, none⟩ = some (iV op.look.content.h) := HB2.o.cell 19 rfl
     have n20 : w2.cell? ⟨N, 20, none⟩ = some (iV op.look.content.turn) := HB2.o.cell 20 rfl
     have n21 : w2.cell? ⟨N, 21, none⟩ = some (.slice pp op.look.content.pix.length cp) := HB2.o.cell 21 rfl
     go_upto_region 8 with fail
     go_wp2_with fail
     refine (own_any _ op.look.content (.slice pp op.look.content.pix.length cp) (HD2.o.look.pix.imp (fun _ _ _ => trivial)) Hfit.o.pix Hk02.o.1 Hk02.o.2).mono ?_
     rintro e w3 ⟨p3, k3, rfl, ho3, hm3⟩
     have HM3 := hd' (HM2.o.trans' hm3)
     have HB3 := hd' (HB2.o.up hm3)
     have HD3 := hd' (HD2.o.up hm3)
     have Hz3 := hd' (Hz2.o.up hm3)
     have HMS : Hid (Gou.Mod (fun x => x = D ∨ x ∈ F) w w3) := hd' (HM3.o.imp (fun _ _ h => h.elim))
     obtain ⟨vp1, vf1, vb1, hlr, hset⟩ := Hz3.o.sub.relook
     have hge : base ≤ w2.heap.size := by have := HD2.o.tree.ge; have := HD2.o.tree.lt; omega
     obtain ⟨t2, fr2⟩ := hset 11 (uak op.look.content.own (.slice p3 op.look.content.own.pix.length k3)).toList ({ s.look with content := op.look.content.own }) (.slice p3 op.look.content.own.pix.length k3) vf1 vb1 (by omega) (by simp [uak]) (fun _ => uhr _ _ _ _ _ _ _ _) ⟨RowG.imp ho3 (fun k _ hk => ⟨Nat.le_trans hge hk.1, hk.2⟩), hlr.filt, hlr.back⟩
     rw [Hq2.o 9] at t2 fr2
     obtain ⟨F3, cur3, h3, _⟩ := HD3.o.step tI tB Hz3.o t2 fr2 (fun x hx => .inl hx)
     have Hth : Hid (w3.there b' (q + 9) 13) := hd' (by have := Hz3.o.sub.thereAt 11 13 (by omega); rw [Hq2.o 9] at this; exact this)
     have H3 := hd' h3
     have Hfr2 := hd' fr2
     clear hm3 ho3 hlr hset t2 fr2 h3 hge n9 n10 n11 n12 n13 n14 n15 n16 n17 n18 n19 n20 n21
     go_wp2_with (first | ((with_reducible refine sT 37 ?_); refine stA (uak op.look.content.own (.slice p3 op.look.content.own.pix.length k3)) Hth.o size_content (by simp [uak, Value.oneCell']) (h := ?_)) | fail)
     have fr2 := Hfr2.o
     have h3 := H3.o
     go_ret
     exact ⟨HMS.o.trans' (fr2.mod.imp (S' := fun x => x = D ∨ x ∈ F) (fun x _ hx => by
      rcases hx with rfl | hx | hx
      ·exact HbD.o
      ·exact .inr (Hz3.o.rows x hx)
      ·exact hx.elim)), by rw [Hl.o]; exact rfl, fun _ => by rw [Hl.o]; exact ⟨_, _, _, _, h3⟩⟩
 by_cases k10 : op.kind = 10
 ·rw [k10] at c33
  have Hk := hd' k10
  clear k10
  try clear k5
  try clear k6
  try clear k7
  try clear k8
  try clear k9
  try clear k10
  clear hk5 hk11
  have n22 : W1.cell? ⟨N, 22, none⟩ = some (.bool op.look.hasFilt) := HB.o.cell 22 rfl
  have n23 : W1.cell? ⟨N, 23, none⟩ = some (.slice pf op.look.filt.nodes.length cf) := HB.o.cell 23 rfl
  have n24 : W1.cell? ⟨N, 24, none⟩ = some (iV op.look.filt.out) := HB.o.cell 24 rfl
  go_upto_region 10 with fail
  go_wp2_with fail
  refine (udt _ op.look.hasFilt op.look.filt (.slice pf op.look.filt.nodes.length cf) (HD1.o.look.filt.imp (fun _ _ _ => trivial)) Hwf.o Hfit.o.filt.1 Hfit.o.filt.2).mono ?_
  rintro e w3 ⟨p3, k3, g2, hg2, rfl, hn3, hm3⟩
  obtain ⟨ev, hev⟩ : ∃ ev : Int, ev = if op.look.hasFilt then checkS op.look.filt else 0 := ⟨_, rfl⟩
  rw [← hev]
  have Hl : Hid (uas checkS s.look op = ({ s.look with hasFilt := op.look.hasFilt, filt := g2 }, ev)) := hd' (by rw [hg2, hev]; cases hh : op.look.hasFilt <;> simp [uas, Hk.o, hh])
  have Hn3 := hd' hn3
  have HM3 := hd' (HM.o.trans' hm3)
  have HB3 := hd' (HB.o.up hm3)
  have HD3 := hd' (HD1.o.up hm3)
  have Hz3 := hd' (Hz1.o.up hm3)
  have Hge0 : Hid (base ≤ W1.heap.size) := hd' (by have := HD1.o.tree.ge; have := HD1.o.tree.lt; omega)
  clear hm3 hn3 hg2 hev n22 n23 n24 HMS Hset Hlr c33 HD1 Hz1
  go_upto_region 11 with fail
  have HG := hd' (Blk.new w3 40 #[Value.slice p3 g2.nodes.length k3, iV g2.out])
  have HMa := Gou.Mod.alloc0 w3 (.cells #[Value.slice p3 g2.nodes.length k3, iV g2.out] 40)
  have HM4 := hd' (HM3.o.trans' HMa)
  have HB4 := hd' (HB3.o.up HMa)
  have HD4 := hd' (HD3.o.up HMa)
  have Hz4 := hd' (Hz3.o.up HMa)
  have Hn4 := hd' (Hn3.o.fam HMa (fun _ _ h => h) (fun k hk => LookG.of_mod HMa k hk))
  have Hge := Hge0
  have HGb : Hid (w3.heap.size ≠ b') := hd' (by have := Hz3.o.sub.lt; omega)
  clear HMa Hn3
  generalize w3.alloc (.cells #[Value.slice p3 g2.nodes.length k3, iV g2.out] 40) = W4 at *
  have HMS : Hid (Gou.Mod (fun x => x = D ∨ x ∈ F) w W4) := hd' (HM4.o.imp (fun _ _ h => h.elim))
  have n22 : W4.cell? ⟨N, 22, none⟩ = some (.bool op.look.hasFilt) := HB4.o.cell 22 rfl
  by_cases hz0 : ev = 0
  ·have e1 : (ev == 0) = true := beq_iff_eq.2 hz0
   have Hev := hd' hz0
   clear hz0
   go_upto_region 13 with fail
   have HGr : Hid (W4.rangeAt w3.heap.size 0 [.slice p3 g2.nodes.length k3, iV g2.out]) := hd' (Blk.range (pre := []) (post := []) HG.o (by simp) rfl)
   have Hz5 := hd' (Hz4.o.up (Gou.Mod.drew (fun _ => False) W4))
   have HD5 := hd' (HD4.o.up (Gou.Mod.drew (fun _ => False) W4))
   obtain ⟨u22, x22, y22⟩ := Hpl.o W4 _ Hz4.o.sub 22 (by omega)
   change W4.cell? ⟨b', q + 22, none⟩ = _ at x22
   change W4.frozen? ⟨b', q + 22, none⟩ = _ at y22
   have Hth2 : Hid ((((W4.setCell ⟨b', q + 22, none⟩ (.bool op.look.hasFilt)).drew).there b' (q + 23) 2)) := hd' (fun j hj => by
    have h0 := Hz4.o.sub.thereAt 25 2 (by omega)
    rw [Hq2.o 23] at h0
    obtain ⟨g1, g2⟩ := h0 j hj
    refine ⟨?_, (World.frozen?_setCell _ _ _ _).trans g2⟩
    have := World.cell?_setCells_out b' [.bool op.look.hasFilt] (q + 22) W4 ⟨b', q + 23 + j, none⟩ (fun _ _ => .inr (by simp only [List.length_cons, List.length_nil]; omega))
    exact (congrArg Option.isSome this).trans g1)
   refine wp_region_held_drew (S := fun w' => Gou.Mod (fun x => x = b') W4 w') (by kernel_rfl) (Gou.Mod.drew _ _) (fun hH => ?_)
   refine tk 0 (.pointer (some ⟨b', q, none⟩)) hH (h := ?_)
   refine tk 1 (.pointer (some ⟨b', q, none⟩)) hH (h := ?_)
   refine tk 2 (.pointer (some ⟨N, 22, none⟩)) hH (h := ?_)
   refine tkC 3 n22 HNb.o hH (h := ?_)
   refine tkR 4 (.agg #[Value.slice p3 g2.nodes.length k3, iV g2.out]) HGr.o HGb.o Tryz.underlying40 ua6 hH (h := ?_)
   refine tk 5 (.pointer (some ⟨b', q, none⟩)) hH (h := ?_)
   refine tk 6 (.pointer (some ⟨b', q + 22, none⟩)) hH (h := ?_)
   refine rd 7 (h := fun K hK => ?_)
   go_simp
   have hq := Gou.Mod.set1 W4.drew b' (q + 22) (.bool op.look.hasFilt)
   have M := hd' (hH.trans' hq)
   clear hq hH
   refine hK _ _ M.o (fun hH => ?_)
   clear hK K M
   refine tk 8 (.pointer (some ⟨b', q, none⟩)) hH (h := ?_)
   refine tk 9 (.pointer (some ⟨b', q + 23, none⟩)) hH (h := ?_)
   refine rd 10 (h := fun K hK => ?_)
   refine wp_store_mid 40 _ _ rfl b' (q + 23) #[Value.slice p3 g2.nodes.length k3, iV g2.out] rfl rfl Hth2.o ua6 (by simp [Value.oneCell']) ?_
   have M : Hid (Gou.Mod (fun x => x = b') W4 (((W4.setCell ⟨b', q + 22, none⟩ (.bool op.look.hasFilt)).drew).setCells b' (q + 23) [.slice p3 g2.nodes.length k3, iV g2.out])) := hd' (hH.trans' (Blk.setMod _ b' (q + 23) [.slice p3 g2.nodes.length k3, iV g2.out]))
   clear hH
   refine hK _ _ M.o (fun hH => ?_)
   clear hK K M
   have MS := hd' hH
   refine wpAnyH_done (by kernel_rfl) ?_ _
   clear hH
   clear MS
   try simp only [Act.put]
   go_wp2_with fail
   obtain ⟨vp1, vf1, vb1, hlr, hset⟩ := Hz5.o.sub.relook
   obtain ⟨t2, fr2⟩ := hset 24 [.bool op.look.hasFilt, .slice p3 g2.nodes.length k3, iV g2.out] ({ s.look with hasFilt := op.look.hasFilt, filt := g2 }) vp1 (.slice p3 g2.nodes.length k3) vb1 (by omega) (by simp) (fun _ => rfl) ⟨hlr.pix, (Hn4.o.fam (Gou.Mod.drew (fun _ => False) W4) (fun _ _ h => h) (fun k hk => LookG.of_mod (Gou.Mod.drew (fun _ => False) W4) k hk)).imp (fun k _ hk => ⟨Nat.le_trans Hge.o hk.1, hk.2⟩), hlr.back⟩
   rw [Hq2.o 22] at t2 fr2
   obtain ⟨F3, cur3, h3, _⟩ := HD5.o.step tI tB Hz5.o t2 fr2 (fun x hx => .inl hx)
   replace HMS := hd' (HMS.o.trans' (Gou.Mod.drew _ W4))
   go_ret
   exact ⟨HMS.o.trans' (fr2.mod.imp (S' := fun x => x = D ∨ x ∈ F) (fun x _ hx => by
    rcases hx with rfl | hx | hx
    ·exact HbD.o
    ·exact .inr (Hz5.o.rows x hx)
    ·exact hx.elim)), by rw [Hl.o]; exact (by rw [Hev.o]; rfl), fun _ => by rw [Hl.o]; exact ⟨_, _, _, _, h3⟩⟩
  ·have e1 : (ev == 0) = false := bqf.2 hz0
   have Hev := hd' hz0
   clear hz0
   go_wp2_with fail
   go_ret
   exact ⟨HMS.o, by rw [Hl.o]; rfl, fun h => absurd h (by rw [Hl.o]; exact Hev.o)⟩
 by_cases k11 : op.kind = 11
 ·rw [k11] at c33
  have Hk := hd' k11
  clear k11
  try clear k5
  try clear k6
  try clear k7
  try clear k8
  try clear k9
  try clear k10
  clear hk5 hk11
  have n25 : W1.cell? ⟨N, 25, none⟩ = some (.bool op.look.hasBack) := HB.o.cell 25 rfl
  have n26 : W1.cell? ⟨N, 26, none⟩ = some (.slice pb op.look.back.nodes.length cb) := HB.o.cell 26 rfl
  have n27 : W1.cell? ⟨N, 27, none⟩ = some (iV op.look.back.out) := HB.o.cell 27 rfl
  go_upto_region 15 with fail
  go_wp2_with fail
  refine (udt _ op.look.hasBack op.look.back (.slice pb op.look.back.nodes.length cb) (HD1.o.look.back.imp (fun _ _ _ => trivial)) Hwb.o Hfit.o.back.1 Hfit.o.back.2).mono ?_
  rintro e w3 ⟨p3, k3, g2, hg2, rfl, hn3, hm3⟩
  obtain ⟨ev, hev⟩ : ∃ ev : Int, ev = if op.look.hasBack then checkS op.look.back else 0 := ⟨_, rfl⟩
  rw [← hev]
  have Hl : Hid (uas checkS s.look op = ({ s.look with hasBack := op.look.hasBack, back := g2 }, ev)) := hd' (by rw [hg2, hev]; cases hh : op.look.hasBack <;> simp [uas, Hk.o, hh])
  have Hn3 := hd' hn3
  have HM3 := hd' (HM.o.trans' hm3)
  have HB3 := hd' (HB.o.up hm3)
  have HD3 := hd' (HD1.o.up hm3)
  have Hz3 := hd' (Hz1.o.up hm3)
  have Hge0 : Hid (base ≤ W1.heap.size) := hd' (by have := HD1.o.tree.ge; have := HD1.o.tree.lt; omega)
  clear hm3 hn3 hg2 hev n25 n26 n27 HMS Hset Hlr c33 HD1 Hz1
  go_upto_region 16 with fail
  have HG := hd' (Blk.new w3 40 #[Value.slice p3 g2.nodes.length k3, iV g2.out])
  have HMa := Gou.Mod.alloc0 w3 (.cells #[Value.slice p3 g2.nodes.length k3, iV g2.out] 40)
  have HM4 := hd' (HM3.o.trans' HMa)
  have HB4 := hd' (HB3.o.up HMa)
  have HD4 := hd' (HD3.o.up HMa)
  have Hz4 := hd' (Hz3.o.up HMa)
  have Hn4 := hd' (Hn3.o.fam HMa (fun _ _ h => h) (fun k hk => LookG.of_mod HMa k hk))
  have Hge := Hge0
  have HGb : Hid (w3.heap.size ≠ b') := hd' (by have := Hz3.o.sub.lt; omega)
  clear HMa Hn3
  generalize w3.alloc (.cells #[Value.slice p3 g2.nodes.length k3, iV g2.out] 40) = W4 at *
  have HMS : Hid (Gou.Mod (fun x => x = D ∨ x ∈ F) w W4) := hd' (HM4.o.imp (fun _ _ h => h.elim))
  have n25 : W4.cell? ⟨N, 25, none⟩ = some (.bool op.look.hasBack) := HB4.o.cell 25 rfl
  by_cases hz0 : ev = 0
  ·have e1 : (ev == 0) = true := beq_iff_eq.2 hz0
   have Hev := hd' hz0
   clear hz0
   go_upto_region 18 with fail
   have HGr : Hid (W4.rangeAt w3.heap.size 0 [.slice p3 g2.nodes.length k3, iV g2.out]) := hd' (Blk.range (pre := []) (post := []) HG.o (by simp) rfl)
   have Hz5 := hd' (Hz4.o.up (Gou.Mod.drew (fun _ => False) W4))
   have HD5 := hd' (HD4.o.up (Gou.Mod.drew (fun _ => False) W4))
   obtain ⟨u25, x25, y25⟩ := Hpl.o W4 _ Hz4.o.sub 25 (by omega)
   change W4.cell? ⟨b', q + 25, none⟩ = _ at x25
   change W4.frozen? ⟨b', q + 25, none⟩ = _ at y25
   have Hth2 : Hid ((((W4.setCell ⟨b', q + 25, none⟩ (.bool op.look.hasBack)).drew).there b' (q + 26) 2)) := hd' (fun j hj => by
    have h0 := Hz4.o.sub.thereAt 28 2 (by omega)
    rw [Hq2.o 26] at h0
    obtain ⟨g1, g2⟩ := h0 j hj
    refine ⟨?_, (World.frozen?_setCell _ _ _ _).trans g2⟩
    have := World.cell?_setCells_out b' [.bool op.look.hasBack] (q + 25) W4 ⟨b', q + 26 + j, none⟩ (fun _ _ => .inr (by simp only [List.length_cons, List.length_nil]; omega))
    exact (congrArg Option.isSome this).trans g1)
   refine wp_region_held_drew (S := fun w' => Gou.Mod (fun x => x = b') W4 w') (by kernel_rfl) (Gou.Mod.drew _ _) (fun hH => ?_)
   refine tk 0 (.pointer (some ⟨b', q, none⟩)) hH (h := ?_)
   refine tk 1 (.pointer (some ⟨b', q, none⟩)) hH (h := ?_)
   refine tk 2 (.pointer (some ⟨N, 25, none⟩)) hH (h := ?_)
   refine tkC 3 n25 HNb.o hH (h := ?_)
   refine tkR 4 (.agg #[Value.slice p3 g2.nodes.length k3, iV g2.out]) HGr.o HGb.o Tryz.underlying40 ua6 hH (h := ?_)
   refine tk 5 (.pointer (some ⟨b', q, none⟩)) hH (h := ?_)
   refine tk 6 (.pointer (some ⟨b', q + 25, none⟩)) hH (h := ?_)
   refine rd 7 (h := fun K hK => ?_)
   go_simp
   have hq := Gou.Mod.set1 W4.drew b' (q + 25) (.bool op.look.hasBack)
   have M := hd' (hH.trans' hq)
   clear hq hH
   refine hK _ _ M.o (fun hH => ?_)
   clear hK K M
   refine tk 8 (.pointer (some ⟨b', q, none⟩)) hH (h := ?_)
   refine tk 9 (.pointer (some ⟨b', q + 26, none⟩)) hH (h := ?_)
   refine rd 10 (h := fun K hK => ?_)
   refine wp_store_mid 40 _ _ rfl b' (q + 26) #[Value.slice p3 g2.nodes.length k3, iV g2.out] rfl rfl Hth2.o ua6 (by simp [Value.oneCell']) ?_
   have M : Hid (Gou.Mod (fun x => x = b') W4 (((W4.setCell ⟨b', q + 25, none⟩ (.bool op.look.hasBack)).drew).setCells b' (q + 26) [.slice p3 g2.nodes.length k3, iV g2.out])) := hd' (hH.trans' (Blk.setMod _ b' (q + 26) [.slice p3 g2.nodes.length k3, iV g2.out]))
   clear hH
   refine hK _ _ M.o (fun hH => ?_)
   clear hK K M
   have MS := hd' hH
   refine wpAnyH_done (by kernel_rfl) ?_ _
   clear hH
   clear MS
   try simp only [Act.put]
   go_wp2_with fail
   obtain ⟨vp1, vf1, vb1, hlr, hset⟩ := Hz5.o.sub.relook
   obtain ⟨t2, fr2⟩ := hset 27 [.bool op.look.hasBack, .slice p3 g2.nodes.length k3, iV g2.out] ({ s.look with hasBack := op.look.hasBack, back := g2 }) vp1 vf1 (.slice p3 g2.nodes.length k3) (by omega) (by simp) (fun _ => rfl) ⟨hlr.pix, hlr.filt, (Hn4.o.fam (Gou.Mod.drew (fun _ => False) W4) (fun _ _ h => h) (fun k hk => LookG.of_mod (Gou.Mod.drew (fun _ => False) W4) k hk)).imp (fun k _ hk => ⟨Nat.le_trans Hge.o hk.1, hk.2⟩)⟩
   rw [Hq2.o 25] at t2 fr2
   obtain ⟨F3, cur3, h3, _⟩ := HD5.o.step tI tB Hz5.o t2 fr2 (fun x hx => .inl hx)
   replace HMS := hd' (HMS.o.trans' (Gou.Mod.drew _ W4))
   go_ret
   exact ⟨HMS.o.trans' (fr2.mod.imp (S' := fun x => x = D ∨ x ∈ F) (fun x _ hx => by
    rcases hx with rfl | hx | hx
    ·exact HbD.o
    ·exact .inr (Hz5.o.rows x hx)
    ·exact hx.elim)), by rw [Hl.o]; exact (by rw [Hev.o]; rfl), fun _ => by rw [Hl.o]; exact ⟨_, _, _, _, h3⟩⟩
  ·have e1 : (ev == 0) = false := bqf.2 hz0
   have Hev := hd' hz0
   clear hz0
   go_wp2_with fail
   go_ret
   exact ⟨HMS.o, by rw [Hl.o]; rfl, fun h => absurd h (by rw [Hl.o]; exact Hev.o)⟩
 exfalso; omega
theorem set_any (base : Nat) (w : World) (D : Nat) (a : Ar) (T : Ly) (F : List Nat) (op : Opr) (vg vl vp vf vb : Value) (cur : Array Value) (hD : ubi base w D a T F op vg vl vp vf vb cur) (π : List Nat) (s : Ly) (b' o' : Nat) (F' : List Nat) (hz : ZoomL base w D 2 T F π s b' o' F') (hfit : LkFit op.look) (hwf : GrWf op.look.filt) (hwb : GrWf op.look.back) (hk5 : 5 ≤ op.kind) (hk11 : op.kind ≤ 11) :
 Calls Tryz.prog 45 #[.pointer (some ⟨D, 0, none⟩), .pointer (some ⟨b', o' + 2, none⟩)] w (SetP base a T F op vp vf vb s π w D) := by
 obtain ⟨⟨pp, cp, rfl⟩, ⟨pf, cf, rfl⟩, ⟨pb, cb, rfl⟩⟩ := hD.look.forms
 have HD := hd' hD
 have Hz := hd' hz
 have Hfit := hd' hfit
 have Hwf := hd' hwf
 have Hwb := hd' hwb
 have HDlt := hd' (Blk.lt hD.blk)
 have Hblt := hd' hz.sub.lt
 have Hrg : Hid (w.rangeAt D 39 (lkS op.look pp cp pf cf pb cb).toList) := hd' (DoerR.opr hD)
 obtain ⟨q, hq⟩ : ∃ q, q = o' + 2 := ⟨_, rfl⟩
 have Hq := hd' hq
 rw [← hq]
 clear hD hz hfit hwf hwb hq
 go_enter Tryz.func45, Tryz.ntmps45
 go_upto_region 2 with (first | ((with_reducible refine lT 42 ?_); refine ldA Hrg.o Tryz.underlying42 uad (h := ?_)) | ((with_reducible refine sT 42 ?_); refine stA (lkS op.look pp cp pf cf pb cb) ((Blk.new w 42 lkZz).there 0 28 (by simp [uai])) uad uay (h := ?_)) | fail)
 have HB := hd' ((Blk.new w 42 lkZz).setAll (lkS op.look pp cp pf cf pb cb) rfl)
 have HM : Hid (Gou.Mod (fun _ => False) w ((w.alloc (.cells lkZz 42)).setCells w.heap.size 0 (lkS op.look pp cp pf cf pb cb).toList)) := hd' (Gou.Mod.allocSet _ _ _)
 show Code.wp _ _ _ _ ((w.alloc (.cells lkZz 42)).setCells w.heap.size 0 (lkS op.look pp cp pf cf pb cb).toList)
 generalize (w.alloc (.cells lkZz 42)).setCells w.heap.size 0 (lkS op.look pp cp pf cf pb cb).toList = W1 at *
 have HD1 := hd' (HD.o.up HM.o)
 have Hz1 := hd' (Hz.o.up HM.o)
 have HNb : Hid (w.heap.size ≠ b') := hd' (by have := Hblt.o; omega)
 have HND : Hid (w.heap.size ≠ D) := hd' (by have := HDlt.o; omega)
 obtain ⟨N, hN⟩ : ∃ N, N = w.heap.size := ⟨_, rfl⟩
 rw [← hN] at HB HNb HND ⊢
 have HN := hd' hN
 clear hN
 have HbD : Hid (b' = D ∨ b' ∈ F) := hd' (Hz1.o.blk.imp (fun h => h.1) id)
 have Hpl : Hid (∀ wx s, TreeAt 45 77 base wx b' o' s F' → ∀ k, k < 28 → ∃ u, wx.cell? ⟨b', q + k, none⟩ = some u ∧ wx.frozen? ⟨b', q + k, none⟩ = false) := hd' (fun wx s hx k hk => by
  obtain ⟨_, _, _, h⟩ := hx.place
  have := h (k + 2) (by omega)
  rw [show o' + (k + 2) = q + k by have := Hq.o; omega] at this
  exact this)
 obtain ⟨vp1, vf1, vb1, hlr, hset⟩ := Hz1.o.sub.relook
 have Hlr := hd' hlr
 have Hset := hd' hset
 have Hq2 : Hid (∀ k, o' + (k + 2) = q + k) := hd' (fun k => by have := Hq.o; omega)
 clear hlr hset
 have c33 := HD1.o.cell.2.2.1
 have HMS : Hid (Gou.Mod (fun x => x = D ∨ x ∈ F) w W1) := hd' (HM.o.imp (fun _ _ h => h.elim))
 by_cases k7 : op.kind = 7
 ·rw [k7] at c33
  have Hk := hd' k7
  clear k7
  try clear k5
  try clear k6
  try clear k7
  try clear k8
  try clear k9
  try clear k10
  clear hk5 hk11
  have n7 : W1.cell? ⟨N, 7, none⟩ = some (iV op.look.opacity) := HB.o.cell 7 rfl
  obtain ⟨u7, x7, y7⟩ := Hpl.o W1 _ Hz1.o.sub 7 (by omega)
  change W1.cell? ⟨b', q + 7, none⟩ = _ at x7
  change W1.frozen? ⟨b', q + 7, none⟩ = _ at y7
  by_cases h1 : op.look.opacity < 0
  ·have e1 : decide (op.look.opacity < 0) = true := dqt h1
   have Hl : Hid (uas checkS s.look op = (s.look, 3)) := hd' (by simp [uas, Hk.o, h1])
   go_wp2_with fail
   go_ret
   exact ⟨HMS.o, by rw [Hl.o]; rfl, fun h => absurd h (by rw [Hl.o]; show ¬ ((3 : Int) = 0); decide)⟩
  ·have e1 : decide (op.look.opacity < 0) = false := dqf h1
   by_cases h2 : 255 < op.look.opacity
   ·have e2 : decide (255 < op.look.opacity) = true := dqt h2
    have Hl : Hid (uas checkS s.look op = (s.look, 3)) := hd' (by simp [uas, Hk.o, h2])
    go_wp2_with fail
    go_ret
    exact ⟨HMS.o, by rw [Hl.o]; rfl, fun h => absurd h (by rw [Hl.o]; show ¬ ((3 : Int) = 0); decide)⟩
   ·have e2 : decide (255 < op.look.opacity) = false := dqf h2
    have Hl : Hid (uas checkS s.look op = ({ s.look with opacity := op.look.opacity }, 0)) := hd' (by simp [uas, Hk.o, h1, h2])
    go_wp2_with fail
    obtain ⟨t2, fr2⟩ := Hset.o 9 [iV op.look.opacity] ({ s.look with opacity := op.look.opacity }) vp1 vf1 vb1 (by omega) (by simp) (fun _ => rfl) ⟨Hlr.o.pix, Hlr.o.filt, Hlr.o.back⟩
    rw [Hq2.o] at t2 fr2
    obtain ⟨F3, cur3, h3, _⟩ := HD1.o.step tI tB Hz1.o t2 fr2 (fun x hx => .inl hx)
    go_ret
    exact ⟨HMS.o.trans' (fr2.mod.imp (S' := fun x => x = D ∨ x ∈ F) (fun x _ hx => by
     rcases hx with rfl | hx | hx
     ·exact HbD.o
     ·exact .inr (Hz1.o.rows x hx)
     ·exact hx.elim)), by rw [Hl.o]; rfl, fun _ => by rw [Hl.o]; exact ⟨_, _, _, _, h3⟩⟩
 by_cases k8 : op.kind = 8
 ·rw [k8] at c33
  have Hk := hd' k8
  clear k8
  try clear k5
  try clear k6
  try clear k7
  try clear k8
  try clear k9
  try clear k10
  clear hk5 hk11
  have n8 : W1.cell? ⟨N, 8, none⟩ = some (iV op.look.mode) := HB.o.cell 8 rfl
  obtain ⟨u8, x8, y8⟩ := Hpl.o W1 _ Hz1.o.sub 8 (by omega)
  change W1.cell? ⟨b', q + 8, none⟩ = _ at x8
  change W1.frozen? ⟨b', q + 8, none⟩ = _ at y8
  by_cases h1 : op.look.mode < 0
  ·have e1 : decide (op.look.mode < 0) = true := dqt h1
   have Hl : Hid (uas checkS s.look op = (s.look, 3)) := hd' (by simp [uas, Hk.o, h1])
   go_wp2_with fail
   go_ret
   exact ⟨HMS.o, by rw [Hl.o]; rfl, fun h => absurd h (by rw [Hl.o]; show ¬ ((3 : Int) = 0); decide)⟩
  ·have e1 : decide (op.look.mode < 0) = false := dqf h1
   by_cases h2 : 6 < op.look.mode
   ·have e2 : decide (6 < op.look.mode) = true := dqt h2
    have Hl : Hid (uas checkS s.look op = (s.look, 3)) := hd' (by simp [uas, Hk.o, h2])
    go_wp2_with fail
    go_ret
    exact ⟨HMS.o, by rw [Hl.o]; rfl, fun h => absurd h (by rw [Hl.o]; show ¬ ((3 : Int) = 0); decide)⟩
   ·have e2 : decide (6 < op.look.mode) = false := dqf h2
    have Hl : Hid (uas checkS s.look op = ({ s.look with mode := op.look.mode }, 0)) := hd' (by simp [uas, Hk.o, h1, h2])
    go_wp2_with fail
    obtain ⟨t2, fr2⟩ := Hset.o 10 [iV op.look.mode] ({ s.look with mode := op.look.mode }) vp1 vf1 vb1 (by omega) (by simp) (fun _ => rfl) ⟨Hlr.o.pix, Hlr.o.filt, Hlr.o.back⟩
    rw [Hq2.o] at t2 fr2
    obtain ⟨F3, cur3, h3, _⟩ := HD1.o.step tI tB Hz1.o t2 fr2 (fun x hx => .inl hx)
    go_ret
    exact ⟨HMS.o.trans' (fr2.mod.imp (S' := fun x => x = D ∨ x ∈ F) (fun x _ hx => by
     rcases hx with rfl | hx | hx
     ·exact HbD.o
     ·exact .inr (Hz1.o.rows x hx)
     ·exact hx.elim)), by rw [Hl.o]; rfl, fun _ => by rw [Hl.o]; exact ⟨_, _, _, _, h3⟩⟩
 by_cases k5 : op.kind = 5
 ·rw [k5] at c33
  have Hk := hd' k5
  clear k5
  try clear k5
  try clear k6
  try clear k7
  try clear k8
  try clear k9
  try clear k10
  clear hk5 hk11
  have n0 : W1.cell? ⟨N, 0, none⟩ = some (iV op.look.dx) := HB.o.cell 0 rfl
  have n1 : W1.cell? ⟨N, 1, none⟩ = some (iV op.look.dy) := HB.o.cell 1 rfl
  go_upto_region 5 with fail
  go_wp2_with fail
  have HNW := hd' (Blk.new W1 3 #[iV op.look.dx, iV op.look.dy])
  refine (ues _ W1.heap.size 2 2 [op.look.dx, op.look.dy] rfl (by omega) (fun j hj => ?_)).mono ?_
  ·match j, hj with
   | 0, _ => exact HNW.o.cell 0 rfl
   | 1, _ => exact HNW.o.cell 1 rfl
  rintro e w2 ⟨rfl, hm2⟩
  have hmm := (Gou.Mod.alloc0 W1 _).trans' hm2
  have HM2 := hd' (HM.o.trans' hmm)
  have HB2 := hd' (HB.o.up hmm)
  have HD2 := hd' (HD1.o.up hmm)
  have Hz2 := hd' (Hz1.o.up hmm)
  clear hm2 hmm n0 n1 HNW c33 HMS Hset Hlr HD1 Hz1
  have n0 : w2.cell? ⟨N, 0, none⟩ = some (iV op.look.dx) := HB2.o.cell 0 rfl
  have n1 : w2.cell? ⟨N, 1, none⟩ = some (iV op.look.dy) := HB2.o.cell 1 rfl
  have HMS : Hid (Gou.Mod (fun x => x = D ∨ x ∈ F) w w2) := hd' (HM2.o.imp (fun _ _ h => h.elim))
  have Hnn : Hid ([op.look.dx, op.look.dy].all nearB = (nearB op.look.dx && nearB op.look.dy)) := hd' (by simp [List.all])
  cases hx : [op.look.dx, op.look.dy].all nearB
  ·have Hl : Hid (uas checkS s.look op = (s.look, 3)) := hd' (by rw [Hnn.o] at hx; simp only [uas, Hk.o, hx]; rfl)
   clear hx
   go_wp2_with fail
   go_ret
   exact ⟨HMS.o, by rw [Hl.o]; rfl, fun h => absurd h (by rw [Hl.o]; show ¬ ((3 : Int) = 0); decide)⟩
  ·have Hl : Hid (uas checkS s.look op = ({ s.look with dx := op.look.dx, dy := op.look.dy }, 0)) := hd' (by rw [Hnn.o] at hx; simp only [uas, Hk.o, hx]; rfl)
   clear hx
   have Hz3 := hd' (Hz2.o.up (Gou.Mod.drew (fun _ => False) w2))
   have HD3 := hd' (HD2.o.up (Gou.Mod.drew (fun _ => False) w2))
   have HMS3 := hd' (HMS.o.trans' (Gou.Mod.drew _ w2))
   obtain ⟨vp1, vf1, vb1, hlr, hset⟩ := Hz3.o.sub.relook
   have Hlr := hd' hlr
   have Hset := hd' hset
   clear hlr hset
   obtain ⟨u0, x0, y0⟩ := Hpl.o w2 _ Hz2.o.sub 0 (by omega)
   change w2.cell? ⟨b', q, none⟩ = _ at x0
   change w2.frozen? ⟨b', q, none⟩ = _ at y0
   obtain ⟨u1, x1, y1⟩ := Hpl.o w2 _ Hz2.o.sub 1 (by omega)
   change w2.cell? ⟨b', q + 1, none⟩ = _ at x1
   change w2.frozen? ⟨b', q + 1, none⟩ = _ at y1
   go_upto_region 7 with fail
   refine wp_region_held_drew (S := fun w' => Gou.Mod (fun x => x = b') w2 w') (by kernel_rfl) (Gou.Mod.drew _ _) (fun hH => ?_)
   refine tk 0 (.pointer (some ⟨b', q, none⟩)) hH (h := ?_)
   refine tk 1 (.pointer (some ⟨b', q, none⟩)) hH (h := ?_)
   refine tk 2 (.pointer (some ⟨N, 0, none⟩)) hH (h := ?_)
   refine tkC 3 n0 HNb.o hH (h := ?_)
   refine tk 4 (.pointer (some ⟨N, 1, none⟩)) hH (h := ?_)
   refine tkC 5 n1 HNb.o hH (h := ?_)
   refine tk 6 (.pointer (some ⟨b', q, none⟩)) hH (h := ?_)
   refine tk 7 (.pointer (some ⟨b', q, none⟩)) hH (h := ?_)
   refine rd 8 (h := fun K hK => ?_)
   go_simp
   have hq := Gou.Mod.set1 w2.drew b' q (iV op.look.dx)
   have M := hd' (hH.trans' hq)
   clear hq hH
   refine hK _ _ M.o (fun hH => ?_)
   clear hK K M
   refine tk 9 (.pointer (some ⟨b', q, none⟩)) hH (h := ?_)
   refine tk 10 (.pointer (some ⟨b', q + 1, none⟩)) hH (h := ?_)
   refine rd 11 (h := fun K hK => ?_)
   go_simp
   have M : Hid (Gou.Mod (fun x => x = b') w2 ((w2.setCell ⟨b', q, none⟩ (iV op.look.dx)).setCell ⟨b', q + 1, none⟩ (iV op.look.dy)).drew) := hd' (hH.trans' (Gou.Mod.set1 (w2.drew.setCell ⟨b', q, none⟩ (iV op.look.dx)) b' (q + 1) (iV op.look.dy)))
   clear hH
   refine hK _ _ M.o (fun hH => ?_)
   clear hK K M
   have MS := hd' hH
   refine wpAnyH_done (by kernel_rfl) ?_ _
   clear hH
   clear MS x0 y0 x1 y1
   try simp only [Act.put]
   go_wp2_with fail
   obtain ⟨t2, fr2⟩ := Hset.o 2 [iV op.look.dx, iV op.look.dy] ({ s.look with dx := op.look.dx, dy := op.look.dy }) vp1 vf1 vb1 (by omega) (by simp) (fun _ => rfl) ⟨Hlr.o.pix, Hlr.o.filt, Hlr.o.back⟩
   rw [Hq2.o] at t2 fr2
   obtain ⟨F3, cur3, h3, _⟩ := HD3.o.step tI tB Hz3.o t2 fr2 (fun x hx => .inl hx)
   go_ret
   exact ⟨HMS3.o.trans' (fr2.mod.imp (S' := fun x => x = D ∨ x ∈ F) (fun x _ hx => by
    rcases hx with rfl | hx | hx
    ·exact HbD.o
    ·exact .inr (Hz3.o.rows x hx)
    ·exact hx.elim)), by rw [Hl.o]; rfl, fun _ => by rw [Hl.o]; exact ⟨_, _, _, _, h3⟩⟩
 by_cases k6 : op.kind = 6
 ·rw [k6] at c33
  have Hk := hd' k6
  clear k6
  try clear k5
  try clear k6
  try clear k7
  try clear k8
  try clear k9
  try clear k10
  clear hk5 hk11
  have n2 : W1.cell? ⟨N, 2, none⟩ = some (.bool op.look.hasClip) := HB.o.cell 2 rfl
  have n3 : W1.cell? ⟨N, 3, none⟩ = some (iV op.look.clip.x0) := HB.o.cell 3 rfl
  have n4 : W1.cell? ⟨N, 4, none⟩ = some (iV op.look.clip.y0) := HB.o.cell 4 rfl
  have n5 : W1.cell? ⟨N, 5, none⟩ = some (iV op.look.clip.x1) := HB.o.cell 5 rfl
  have n6 : W1.cell? ⟨N, 6, none⟩ = some (iV op.look.clip.y1) := HB.o.cell 6 rfl
  cases hhc : op.look.hasClip
  ·rw [hhc] at n2
   have Hl : Hid (uas checkS s.look op = ({ s.look with hasClip := false, clip := Rc.zero }, 0)) := hd' (by simp [uas, Hk.o, hhc])
   have Hhc := hd' hhc
   clear hhc
   obtain ⟨u2, x2, y2⟩ := Hpl.o W1 _ Hz1.o.sub 2 (by omega)
   change W1.cell? ⟨b', q + 2, none⟩ = _ at x2
   change W1.frozen? ⟨b', q + 2, none⟩ = _ at y2
   obtain ⟨u3, x3, y3⟩ := Hpl.o W1 _ Hz1.o.sub 3 (by omega)
   change W1.cell? ⟨b', q + 3, none⟩ = _ at x3
   change W1.frozen? ⟨b', q + 3, none⟩ = _ at y3
   obtain ⟨u4, x4, y4⟩ := Hpl.o W1 _ Hz1.o.sub 4 (by omega)
   change W1.cell? ⟨b', q + 4, none⟩ = _ at x4
   change W1.frozen? ⟨b', q + 4, none⟩ = _ at y4
   obtain ⟨u5, x5, y5⟩ := Hpl.o W1 _ Hz1.o.sub 5 (by omega)
   change W1.cell? ⟨b', q + 5, none⟩ = _ at x5
   change W1.frozen? ⟨b', q + 5, none⟩ = _ at y5
   obtain ⟨u6, x6, y6⟩ := Hpl.o W1 _ Hz1.o.sub 6 (by omega)
   change W1.cell? ⟨b', q + 6, none⟩ = _ at x6
   change W1.frozen? ⟨b', q + 6, none⟩ = _ at y6
   go_upto_region 12 with fail
   show Code.wp _ _ _ _ (W1.setCells b' (q + 2) [.bool false, iV 0, iV 0, iV 0, iV 0])
   have HB3 := hd' (HB.o.mod (Blk.setMod W1 b' (q + 2) [.bool false, iV 0, iV 0, iV 0, iV 0]) HNb.o)
   obtain ⟨t2, fr2⟩ := Hset.o 4 [.bool false, iV 0, iV 0, iV 0, iV 0] ({ s.look with hasClip := false, clip := Rc.zero }) vp1 vf1 vb1 (by omega) (by simp) (fun _ => rfl) ⟨Hlr.o.pix, Hlr.o.filt, Hlr.o.back⟩
   rw [Hq2.o 2] at t2 fr2
   have Ht2 := hd' t2
   have Hfr2 := hd' fr2
   clear n2 n3 n4 n5 n6 x2 x3 x4 x5 x6 y2 y3 y4 y5 y6 t2 fr2
   generalize W1.setCells b' (q + 2) [.bool false, iV 0, iV 0, iV 0, iV 0] = w3 at *
   have n2 : w3.cell? ⟨N, 2, none⟩ = some (.bool false) := (HB3.o.cell 2 rfl).trans (congrArg (fun b => some (Value.bool b)) Hhc.o)
   go_wp2_with fail
   obtain ⟨F3, cur3, h3, _⟩ := HD1.o.step tI tB Hz1.o Ht2.o Hfr2.o (fun x hx => .inl hx)
   go_ret
   exact ⟨HMS.o.trans' (Hfr2.o.mod.imp (S' := fun x => x = D ∨ x ∈ F) (fun x _ hx => by
    rcases hx with rfl | hx | hx
    ·exact HbD.o
    ·exact .inr (Hz1.o.rows x hx)
    ·exact hx.elim)), by rw [Hl.o]; rfl, fun _ => by rw [Hl.o]; exact ⟨_, _, _, _, h3⟩⟩
  ·rw [hhc] at n2
   have Hhc := hd' hhc
   clear hhc
   go_upto_region 9 with fail
   go_wp2_with fail
   refine (ue7 op.look.clip _).mono ?_
   rintro e w2 ⟨rfl, hm2⟩
   have HM2 := hd' (HM.o.trans' hm2)
   have HB2 := hd' (HB.o.up hm2)
   have HD2 := hd' (HD1.o.up hm2)
   have Hz2 := hd' (Hz1.o.up hm2)
   clear hm2 n2 n3 n4 n5 n6 c33 HMS Hset Hlr HD1 Hz1
   have n2 : w2.cell? ⟨N, 2, none⟩ = some (.bool true) := (HB2.o.cell 2 rfl).trans (congrArg (fun b => some (Value.bool b)) Hhc.o)
   have n3 : w2.cell? ⟨N, 3, none⟩ = some (iV op.look.clip.x0) := HB2.o.cell 3 rfl
   have n4 : w2.cell? ⟨N, 4, none⟩ = some (iV op.look.clip.y0) := HB2.o.cell 4 rfl
   have n5 : w2.cell? ⟨N, 5, none⟩ = some (iV op.look.clip.x1) := HB2.o.cell 5 rfl
   have n6 : w2.cell? ⟨N, 6, none⟩ = some (iV op.look.clip.y1) := HB2.o.cell 6 rfl
   have HMS : Hid (Gou.Mod (fun x => x = D ∨ x ∈ F) w w2) := hd' (HM2.o.imp (fun _ _ h => h.elim))
   cases hx : op.look.clip.nearB
   ·have Hl : Hid (uas checkS s.look op = (s.look, 3)) := hd' (by simp [uas, Hk.o, Hhc.o, hx])
    clear hx
    go_wp2_with fail
    go_ret
    exact ⟨HMS.o, by rw [Hl.o]; rfl, fun h => absurd h (by rw [Hl.o]; show ¬ ((3 : Int) = 0); decide)⟩
   ·have Hl : Hid (uas checkS s.look op = ({ s.look with hasClip := true, clip := op.look.clip }, 0)) := hd' (by simp [uas, Hk.o, Hhc.o, hx])
    clear hx
    obtain ⟨vp1, vf1, vb1, hlr, hset⟩ := Hz2.o.sub.relook
    obtain ⟨t2, fr2⟩ := hset 4 [.bool true, iV 0, iV 0, iV 0, iV 0] ({ s.look with hasClip := true, clip := Rc.zero }) vp1 vf1 vb1 (by omega) (by simp) (fun _ => rfl) ⟨hlr.pix, hlr.filt, hlr.back⟩
    rw [Hq2.o 2] at t2 fr2
    obtain ⟨vp3, vf3, vb3, hlr3, hset3⟩ := t2.relook
    obtain ⟨t3, fr3⟩ := hset3 5 [iV op.look.clip.x0, iV op.look.clip.y0, iV op.look.clip.x1, iV op.look.clip.y1] ({ s.look with hasClip := true, clip := op.look.clip }) vp3 vf3 vb3 (by omega) (by simp) (fun _ => rfl) ⟨hlr3.pix, hlr3.filt, hlr3.back⟩
    rw [Hq2.o 3] at t3 fr3
    have Ht2 := hd' t2
    have Hfr2 := hd' fr2
    have Ht3 := hd' t3
    have Hfr3 := hd' (fr2.trans fr3)
    clear hlr hset t2 fr2 hlr3 hset3 t3 fr3
    obtain ⟨u2, x2, y2⟩ := Hpl.o w2 _ Hz2.o.sub 2 (by omega)
    change w2.cell? ⟨b', q + 2, none⟩ = _ at x2
    change w2.frozen? ⟨b', q + 2, none⟩ = _ at y2
    obtain ⟨u3, x3, y3⟩ := Hpl.o w2 _ Hz2.o.sub 3 (by omega)
    change w2.cell? ⟨b', q + 3, none⟩ = _ at x3
    change w2.frozen? ⟨b', q + 3, none⟩ = _ at y3
    obtain ⟨u4, x4, y4⟩ := Hpl.o w2 _ Hz2.o.sub 4 (by omega)
    change w2.cell? ⟨b', q + 4, none⟩ = _ at x4
    change w2.frozen? ⟨b', q + 4, none⟩ = _ at y4
    obtain ⟨u5, x5, y5⟩ := Hpl.o w2 _ Hz2.o.sub 5 (by omega)
    change w2.cell? ⟨b', q + 5, none⟩ = _ at x5
    change w2.frozen? ⟨b', q + 5, none⟩ = _ at y5
    obtain ⟨u6, x6, y6⟩ := Hpl.o w2 _ Hz2.o.sub 6 (by omega)
    change w2.cell? ⟨b', q + 6, none⟩ = _ at x6
    change w2.frozen? ⟨b', q + 6, none⟩ = _ at y6
    go_upto_region 12 with fail
    show Code.wp _ _ _ _ (w2.setCells b' (q + 2) [.bool true, iV 0, iV 0, iV 0, iV 0])
    have HB3 := hd' (HB2.o.mod (Blk.setMod w2 b' (q + 2) [.bool true, iV 0, iV 0, iV 0, iV 0]) HNb.o)
    clear n2 n3 n4 n5 n6 x2 x3 x4 x5 x6 y2 y3 y4 y5 y6
    generalize w2.setCells b' (q + 2) [.bool true, iV 0, iV 0, iV 0, iV 0] = w3 at *
    have n2 : w3.cell? ⟨N, 2, none⟩ = some (.bool true) := (HB3.o.cell 2 rfl).trans (congrArg (fun b => some (Value.bool b)) Hhc.o)
    have n3 : w3.cell? ⟨N, 3, none⟩ = some (iV op.look.clip.x0) := HB3.o.cell 3 rfl
    have n4 : w3.cell? ⟨N, 4, none⟩ = some (iV op.look.clip.y0) := HB3.o.cell 4 rfl
    have n5 : w3.cell? ⟨N, 5, none⟩ = some (iV op.look.clip.x1) := HB3.o.cell 5 rfl
    have n6 : w3.cell? ⟨N, 6, none⟩ = some (iV op.look.clip.y1) := HB3.o.cell 6 rfl
    obtain ⟨u3, x3, y3⟩ := Hpl.o w3 _ Ht2.o 3 (by omega)
    change w3.cell? ⟨b', q + 3, none⟩ = _ at x3
    change w3.frozen? ⟨b', q + 3, none⟩ = _ at y3
    obtain ⟨u4, x4, y4⟩ := Hpl.o w3 _ Ht2.o 4 (by omega)
    change w3.cell? ⟨b', q + 4, none⟩ = _ at x4
    change w3.frozen? ⟨b', q + 4, none⟩ = _ at y4
    obtain ⟨u5, x5, y5⟩ := Hpl.o w3 _ Ht2.o 5 (by omega)
    change w3.cell? ⟨b', q + 5, none⟩ = _ at x5
    change w3.frozen? ⟨b', q + 5, none⟩ = _ at y5
    obtain ⟨u6, x6, y6⟩ := Hpl.o w3 _ Ht2.o 6 (by omega)
    change w3.cell? ⟨b', q + 6, none⟩ = _ at x6
    change w3.frozen? ⟨b', q + 6, none⟩ = _ at y6
    go_wp2_with fail
    obtain ⟨F3, cur3, h3, _⟩ := HD2.o.step tI tB Hz2.o Ht3.o Hfr3.o (fun x hx => .inl hx)
    go_ret
    exact ⟨HMS.o.trans' (Hfr3.o.mod.imp (S' := fun x => x = D ∨ x ∈ F) (fun x _ hx => by
     rcases hx with rfl | hx | hx
     ·exact HbD.o
     ·exact .inr (Hz2.o.rows x hx)
     ·exact hx.elim)), by rw [Hl.o]; rfl, fun _ => by rw [Hl.o]; exact ⟨_, _, _, _, h3⟩⟩
 have e5 : (op.kind == 5) = false := bqf.2 k5
 have e6 : (op.kind == 6) = false := bqf.2 k6
 have e7 : (op.kind == 7) = false := bqf.2 k7
 have e8 : (op.kind == 8) = false := bqf.2 k8
 have Hk9 : Hid (9 ≤ op.kind ∧ op.kind ≤ 11) := hd' (by omega)
 clear k5 k6 k7 k8 hk5 hk11
 have hp := uh4 base W1 D a T F op _ _ _ _ _ cur HD1.o π s b' o' F' Hz1.o Hfit.o Hwf.o Hwb.o Hk9.o.1 Hk9.o.2
 rw [← Hq.o] at hp
 have Hp := hd' hp
 clear hp
 go_wp2_with fail
 refine Hp.o.mono ?_
 rintro e w2 ⟨hm2, rfl, hs2⟩
 have Hm2 := hd' hm2
 have Hs2 := hd' hs2
 clear hm2 hs2
 go_wp2_with fail
 go_ret
 exact ⟨HMS.o.trans' Hm2.o, rfl, Hs2.o⟩
open Go.RowKit Go.Gou
def ReparentP (base : Nat) (a : Ar) (F : List Nat) (op : Opr) (vp vf vb : Value) (k T2 x : Ly) (σ : List Nat) (w : World) (D : Nat) (e : Ending) (w' : World) : Prop := Gou.Mod (fun x => x = D ∨ x ∈ F) w w' ∧
 (k.pathOf op.to ≠ none → e = .returned (iV 5)) ∧
 (k.pathOf op.to = none → ((op.at_ < 0 ∨ (x.kids.length : Int) < op.at_ ∨ 64 < σ.length + 1 + k.height) → e = .returned (iV 3)) ∧
     (∀ n : Nat, op.at_ = n → n ≤ x.kids.length → σ.length + 1 + k.height ≤ 64 → e = .returned (iV 0) ∧ ∃ vg vl cur F3, ubi base w' D a (T2.put σ (.mk x.id x.look (x.kids.take n ++ k :: x.kids.drop n))) F3 op vg vl vp vf vb cur))
theorem ugr (base : Nat) (w : World) (D : Nat) (a : Ar) (T : Ly) (F : List Nat) (op : Opr) (vg vl vp vf vb : Value) (cur : Array Value) (hD : ubi base w D a T F op vg vl vp vf vb cur) (ρ π σ : List Nat) (i : Nat) (s k x T2 : Ly) (hT2 : T.put π (.mk s.id s.look (s.kids.eraseIdx i)) = T2)
 (hρ : T.pathOf op.id = some ρ) (hρk : T.get? ρ = some k) (hp : T.parPath op.id = some (π, i)) (hs : T.get? π = some s) (hk : s.kids[i]? = some k) (hn : s.kids.length ≤ 1000000) (hh : T.height ≤ 1000) (hkh : k.height ≤ 1000) (hh2 : T2.height ≤ 1000) (hft : TFit k)
 (hσ : k.pathOf op.to = none → T2.pathOf op.to = some σ ∧ T2.get? σ = some x ∧ x.kids.length ≤ 1000000 ∧ σ.length ≤ 1000) :
 Calls Tryz.prog 47 #[.pointer (some ⟨D, 0, none⟩)] w (ReparentP base a F op vp vf vb k T2 x σ w D) := by
 have HD := hd' hD
 have Hρ := hd' hρ
 have Hρk := hd' hρk
 have Hp := hd' hp
 have Hs := hd' hs
 have Hk := hd' hk
 have Hn := hd' hn
 have Hh := hd' hh
 have Hkh := hd' hkh
 have Hh2 := hd' hh2
 have Hft := hd' hft
 have Hσ := hd' hσ
 have HT2 := hd' hT2
 have HDlt := hd' (Blk.lt hD.blk)
 have HDF : Hid (D ∉ F) := hd' hD.tree.out
 go_enter Tryz.func47, Tryz.ntmps47
 go_wp2_with fail
 have HIr : Hid (w.rangeAt D 34 [iV op.id.1, iV op.id.2]) := hd' (fun j v hv => by
  obtain ⟨_, _, _, c34, c35, _⟩ := HD.o.cell
  match j, hv with
  | 0, hv => simp at hv; rw [← hv]; exact c34
  | 1, hv => simp at hv; rw [← hv]; exact c35)
 refine wp_region_held_drew (S := fun w' => Gou.Mod (fun _ => False) w w') (by kernel_rfl) (Gou.Mod.drew _ _) (fun hH => ?_)
 refine tk 0 (.pointer (some ⟨D, 0, none⟩)) hH (h := ?_)
 refine tk 1 (.pointer (some ⟨D, 0, none⟩)) hH (h := ?_)
 refine tk 2 (.pointer (some ⟨D, 0, none⟩)) hH (h := ?_)
 refine tk 3 (.pointer (some ⟨D, 2, none⟩)) hH (h := ?_)
 refine tk 4 (.pointer (some ⟨D, 0, none⟩)) hH (h := ?_)
 refine tk 5 (.pointer (some ⟨D, 0, none⟩)) hH (h := ?_)
 refine tk 6 (.pointer (some ⟨D, 33, none⟩)) hH (h := ?_)
 refine tk 7 (.pointer (some ⟨D, 34, none⟩)) hH (h := ?_)
 refine tkR 8 (.agg #[iV op.id.1, iV op.id.2]) HIr.o (fun h => h) Tryz.underlying30 uaf hH (h := ?_)
 refine rd 9 (h := fun K hK => ?_)
 go_simp
 refine (udd base op.id T _ D 2 F 0 (HD.o.up hH).tree (by have := Hh.o; omega)).mono ?_
 rintro e w4 ⟨hm4, _, hs4⟩
 obtain ⟨b', o', F', s', rfl, hz4⟩ := hs4 _ Hρ.o
 have hss : s' = k := by
  have := hz4.get
  rw [Hρk.o] at this
  exact (Option.some.inj this).symm
 subst hss
 have M := hd' (hH.trans' hm4)
 have Hz4 := hd' hz4
 obtain ⟨dd, hdd⟩ : ∃ dd, dd = 0 + ρ.length := ⟨_, rfl⟩
 rw [← hdd]
 refine hK _ _ M.o (fun hH => ?_)
 refine tk 10 (.tuple #[.pointer (some ⟨b', o', none⟩), iV ((dd : Nat) : Int)]) hH (h := ?_)
 refine tk 11 (.pointer (some ⟨b', o', none⟩)) hH (h := ?_)
 refine tk 12 (iV ((dd : Nat) : Int)) hH (h := ?_)
 refine tk 13 (.pointer (some ⟨b', o', none⟩)) hH (h := ?_)
 refine tk 14 (iV ((dd : Nat) : Int)) hH (h := ?_)
 have MS := hd' hH
 refine wpAnyH_done (by kernel_rfl) ?_ _
 try simp only [Act.put]
 have HD4 := hd' (HD.o.up MS.o)
 have HM4 := hd' MS.o
 have HTr4 : Hid (w4.rangeAt D 36 [iV op.to.1, iV op.to.2]) := hd' (fun j v hv => by
  obtain ⟨_, _, _, _, _, c36, c37, _⟩ := HD4.o.cell
  match j, hv with
  | 0, hv => simp at hv; rw [← hv]; exact c36
  | 1, hv => simp at hv; rw [← hv]; exact c37)
 have c36 := HD4.o.cell.2.2.2.2.2.1
 have c37 := HD4.o.cell.2.2.2.2.2.2.1
 go_wp2_with fail
 refine (udd base op.to s' _ b' o' F' 0 Hz4.o.sub (by have := Hkh.o; omega)).mono ?_
 rintro e w5 ⟨hm5, hno5, hs5⟩
 have HM5 := hd' (HM4.o.trans' hm5)
 have HD5 := hd' (HD4.o.up hm5)
 cases hto : s'.pathOf op.to with
 | some τ =>
  obtain ⟨b5, o5, F5, s5, rfl, hz5⟩ := hs5 τ hto
  have Hto := hd' hto
  go_wp2_with fail
  go_ret
  exact ⟨HM5.o.imp (fun _ _ h => h.elim), fun _ => rfl, fun h => by rw [Hto.o] at h; cases h⟩
 | none =>
  obtain rfl := hno5 hto
  have Hno := hd' hto
  have Hxl : Hid (x.kids.length ≤ 1000000) := hd' (Hσ.o Hno.o).2.2.1
  have Hsl : Hid (σ.length ≤ 1000) := hd' (Hσ.o Hno.o).2.2.2
  go_upto_region 5 with fail
  go_wp2_with fail
  refine (ugf base _ D a T F op vg vl vp vf vb cur HD5.o π i s s' Hp.o Hs.o Hk.o Hn.o).mono ?_
  rintro e w9 ⟨kp, kf, kb, kk, f, F3, cur3, rfl, hd9, hk9, hx9, hy9, hm9, _⟩
  rw [HT2.o] at hd9
  have HM9 := hd' ((HM5.o.imp (S' := fun x => x = D ∨ x ∈ F) (fun _ _ h => h.elim)).trans' hm9)
  have HD9 := hd' hd9
  have HK9 := hd' hk9
  have HX := hd' hx9
  have HY := hd' hy9
  have Hone := hd' (LyO.one hk9)
  clear hd9 hk9 hx9 hy9 hm9 HD5 HD4 HM4 HM5 Hz4
  go_upto_region 6 with (first | ((with_reducible refine sT 45 ?_); refine stA (lyA s'.id s'.look kp kf kb kk) ((Blk.new w9 45 lyL).there 0 31 (by simp)) uaa (uat Hone.o) (h := ?_)) | fail)
  have HB5 := hd' ((Blk.new w9 45 lyL).setAll (lyA s'.id s'.look kp kf kb kk) rfl)
  have hm5 : Gou.Mod (fun _ => False) w9 ((w9.alloc (.cells lyL 45)).setCells w9.heap.size 0 (lyA s'.id s'.look kp kf kb kk).toList) := Gou.Mod.allocSet _ _ _
  have HM5 := hd' (HM9.o.trans' (hm5.imp (fun _ _ h => h.elim)))
  have HD5 := hd' (HD9.o.up hm5)
  have HK5 := hd' (HK9.o.up hm5)
  clear hm5
  generalize (w9.alloc (.cells lyL 45)).setCells w9.heap.size 0 (lyA s'.id s'.look kp kf kb kk).toList = W5 at *
  generalize w9.heap.size = N5 at *
  have HrgN0 : Hid (∀ wx, Gou.Mod (fun _ => False) W5 wx → wx.rangeAt N5 0 (lyA s'.id s'.look kp kf kb kk).toList) := hd' (fun wx hx => Blk.range (pre := []) (mid := (lyA s'.id s'.look kp kf kb kk).toList) (post := []) (HB5.o.up hx) (by simp) rfl)
  have HTr : Hid (W5.rangeAt D 36 [iV op.to.1, iV op.to.2]) := hd' (fun j v hv => by
   obtain ⟨_, _, _, _, _, c36, c37, _⟩ := HD5.o.cell
   match j, hv with
   | 0, hv => simp at hv; rw [← hv]; exact c36
   | 1, hv => simp at hv; rw [← hv]; exact c37)
  refine wp_region_held_drew (S := fun w' => Gou.Mod (fun _ => False) W5 w') (by kernel_rfl) (Gou.Mod.drew _ _) (fun hH => ?_)
  refine tk 0 (.pointer (some ⟨D, 0, none⟩)) hH (h := ?_)
  refine tk 1 (.pointer (some ⟨D, 0, none⟩)) hH (h := ?_)
  refine tk 2 (.pointer (some ⟨D, 0, none⟩)) hH (h := ?_)
  refine tk 3 (.pointer (some ⟨D, 2, none⟩)) hH (h := ?_)
  refine tk 4 (.pointer (some ⟨D, 0, none⟩)) hH (h := ?_)
  refine tk 5 (.pointer (some ⟨D, 0, none⟩)) hH (h := ?_)
  refine tk 6 (.pointer (some ⟨D, 33, none⟩)) hH (h := ?_)
  refine tk 7 (.pointer (some ⟨D, 36, none⟩)) hH (h := ?_)
  refine tkR 8 (.agg #[iV op.to.1, iV op.to.2]) HTr.o (fun h => h) Tryz.underlying30 uaf hH (h := ?_)
  refine rd 9 (h := fun K hK => ?_)
  go_simp
  refine (udd base op.to T2 _ D 2 _ 0 (HD5.o.up hH).tree (by have := Hh2.o; omega)).mono ?_
  rintro e w6 ⟨hm6, _, hs6⟩
  obtain ⟨b2, o2, F2', x', rfl, hz6⟩ := hs6 _ (Hσ.o Hno.o).1
  have hxx : x' = x := by
   have := hz6.get
   rw [(Hσ.o Hno.o).2.1] at this
   exact (Option.some.inj this).symm
  subst hxx
  have M := hd' (hH.trans' hm6)
  have Hz6 := hd' hz6
  obtain ⟨dd2, hdd2⟩ : ∃ dd, dd = 0 + σ.length := ⟨_, rfl⟩
  rw [← hdd2]
  have Hdd := hd' hdd2
  clear hH hm6 hs6 hz6 hdd2
  refine hK _ _ M.o (fun hH => ?_)
  clear hK K M
  refine tk 10 (.tuple #[.pointer (some ⟨b2, o2, none⟩), iV ((dd2 : Nat) : Int)]) hH (h := ?_)
  refine tk 11 (.pointer (some ⟨b2, o2, none⟩)) hH (h := ?_)
  refine tk 12 (iV ((dd2 : Nat) : Int)) hH (h := ?_)
  refine tk 13 (.pointer (some ⟨b2, o2, none⟩)) hH (h := ?_)
  refine tk 14 (iV ((dd2 : Nat) : Int)) hH (h := ?_)
  have MS := hd' hH
  refine wpAnyH_done (by kernel_rfl) ?_ _
  clear hH
  try simp only [Act.put]
  have HD6 := hd' (HD5.o.up MS.o)
  have HK6 := hd' (HK5.o.up MS.o)
  have HM6 := hd' (HM5.o.trans' (MS.o.imp (fun _ _ h => h.elim)))
  have HM56 := hd' MS.o
  obtain ⟨p, cap, c30, _, _, hcap, hcap2, _⟩ := Hz6.o.sub.kids
  obtain ⟨_, _, _, _, _, _, _, c38⟩ := HD6.o.cell
  have HrgN := hd' (HrgN0.o w6 MS.o)
  have HkR : Hid (LyR (fun _ => True) w6 (lyA s'.id s'.look kp kf kb kk).toList s') := hd' (HK6.o.reads.imp (fun _ _ _ => trivial))
  clear MS hcap hcap2 HTr
  go_upto_region 7 with fail
  rcases Int.lt_or_le op.at_ 0 with hneg | hpos
  ·have e1 : decide (op.at_ < 0) = true := dqt hneg
   go_quiet (fail)
   go_wp2_with fail
   go_ret
   exact ⟨HM6.o.trans' (Gou.Mod.drewN _ w6 nq), fun h => absurd Hno.o h, fun _ => ⟨fun _ => rfl, fun n e _ => by omega⟩⟩
  ·have e1 : decide (op.at_ < 0) = false := dqf (by omega)
   rcases Int.lt_or_le (x'.kids.length : Int) op.at_ with hgt | hle
   ·have e2 : decide ((x'.kids.length : Int) < op.at_) = true := dqt hgt
    go_quiet (fail)
    go_wp2_with fail
    go_ret
    exact ⟨HM6.o.trans' (Gou.Mod.drewN _ w6 nq), fun h => absurd Hno.o h, fun _ => ⟨fun _ => rfl, fun n e hn => by omega⟩⟩
   ·have e2 : decide ((x'.kids.length : Int) < op.at_) = false := dqf (by omega)
    have hw1 : IntKind.i64.wrap ((dd2 : Int) + 1) = (dd2 : Int) + 1 := by rw [IntKind.wrap_i64]; have := Hdd.o; have := Hsl.o; omega
    have hw2 : IntKind.i64.wrap ((dd2 : Int) + 1 + (s'.height : Int)) = (dd2 : Int) + 1 + (s'.height : Int) := by rw [IntKind.wrap_i64]; have := Hdd.o; have := Hsl.o; have := Hkh.o; omega
    obtain ⟨q64, e3⟩ : ∃ q, decide ((64 : Int) < (dd2 : Int) + 1 + (s'.height : Int)) = q := ⟨_, rfl⟩
    refine wp_region_held_drew (S := fun w' => Gou.Mod (fun _ => False) w6 w') (by kernel_rfl) (Gou.Mod.drew _ _) (fun hH => ?_)
    refine tk 0 (.pointer (some ⟨D, 0, none⟩)) hH (h := ?_)
    refine tk 1 (.pointer (some ⟨D, 0, none⟩)) hH (h := ?_)
    refine tk 2 (.pointer (some ⟨D, 33, none⟩)) hH (h := ?_)
    refine tk 3 (.pointer (some ⟨D, 38, none⟩)) hH (h := ?_)
    refine tkC 4 c38 (fun h => h) hH (h := ?_)
    refine tk 5 (.bool false) hH (h := ?_)
    refine tk 6 (.bool false) hH (h := ?_)
    refine tk 7 (.pointer (some ⟨D, 0, none⟩)) hH (h := ?_)
    refine tk 8 (.pointer (some ⟨D, 0, none⟩)) hH (h := ?_)
    refine tk 9 (.pointer (some ⟨D, 33, none⟩)) hH (h := ?_)
    refine tk 10 (.pointer (some ⟨D, 38, none⟩)) hH (h := ?_)
    refine tkC 11 c38 (fun h => h) hH (h := ?_)
    refine tk 12 (.pointer (some ⟨b2, o2, none⟩)) hH (h := ?_)
    refine tk 13 (.pointer (some ⟨b2, o2, none⟩)) hH (h := ?_)
    refine tk 14 (.pointer (some ⟨b2, o2 + 30, none⟩)) hH (h := ?_)
    refine tkC 15 c30 (fun h => h) hH (h := ?_)
    refine tk 16 (iV ((x'.kids.length : Nat) : Int)) hH (h := ?_)
    refine tk 17 (.bool false) hH (h := ?_)
    refine tk 18 (.bool false) hH (h := ?_)
    refine tk 19 (.bool false) hH (h := ?_)
    refine tk 20 (iV ((dd2 : Nat) : Int)) hH (h := ?_)
    refine tk 21 (iV ((dd2 : Int) + 1)) hH (h := ?_)
    refine tkR 22 (.agg (lyA s'.id s'.look kp kf kb kk)) HrgN.o (fun h => h) Tryz.underlying45 uaa hH (h := ?_)
    refine rd 23 (h := fun K hK => ?_)
    go_simp
    refine (ujv s' _ kp kf kb kk ((HkR.o.mod hH (fun _ _ _ h => h))) Hkh.o Hft.o).mono ?_
    rintro e w7 ⟨rfl, hm7⟩
    have M := hd' (hH.trans' hm7)
    clear hH
    refine hK _ _ M.o (fun hH => ?_)
    clear hK K M
    refine tk 24 (iV ((dd2 : Int) + 1 + (s'.height : Int))) hH (h := ?_)
    refine tk 25 (.bool q64) hH (h := ?_)
    refine tk 26 (.bool q64) hH (h := ?_)
    have MS := hd' hH
    refine wpAnyH_done (by kernel_rfl) ?_ _
    clear hH
    try simp only [Act.put]
    have HD8 := hd' (HD6.o.up MS.o)
    have Hz8 := hd' (Hz6.o.up MS.o)
    have HK8 := hd' (HK6.o.up MS.o)
    have HM8 := hd' (HM6.o.trans' (MS.o.imp (fun _ _ h => h.elim)))
    have HrgN8 := hd' (HrgN0.o _ (HM56.o.trans' MS.o))
    obtain ⟨m, hm⟩ : ∃ m : Nat, op.at_ = m := ⟨op.at_.toNat, by omega⟩
    have Hm := hd' hm
    have Hml : Hid (m ≤ x'.kids.length) := hd' (by omega)
    have He3 := hd' e3
    clear MS e1 e2 e3 hw1 hw2 hle hpos hm c38 c30 HD6 Hz6 HK6 HM6 HrgN HkR HM56 HrgN0
    cases q64
    ·have c38 := HD8.o.cell.2.2.2.2.2.2.2
     rw [Hm.o] at c38
     have H64 : Hid (¬ (64 : Int) < (dd2 : Int) + 1 + (s'.height : Int)) := hd' (of_decide_eq_false He3.o)
     go_upto_region 9 with fail
     have HD8q := hd' (HD8.o.up (Gou.Mod.drew (fun _ => False) w7))
     have Hz8q := hd' (Hz8.o.up (Gou.Mod.drew (fun _ => False) w7))
     have HK8q := hd' (HK8.o.up (Gou.Mod.drew (fun _ => False) w7))
     have HrgD := hd' (uax HrgN8.o (Gou.Mod.drew (fun _ => False) w7) (fun h => h))
     clear c38
     refine wp_region_held_drew (S := fun w' => Gou.Mod (fun x => x = D ∨ x ∈ F3) w7 w') (by kernel_rfl) (Gou.Mod.drew _ _) (fun hH => ?_)
     refine tk 0 (.pointer (some ⟨b2, o2, none⟩)) hH (h := ?_)
     refine tk 1 (.pointer (some ⟨D, 0, none⟩)) hH (h := ?_)
     refine tk 2 (.pointer (some ⟨D, 0, none⟩)) hH (h := ?_)
     refine tk 3 (.pointer (some ⟨D, 33, none⟩)) hH (h := ?_)
     refine tk 4 (.pointer (some ⟨D, 38, none⟩)) hH (h := ?_)
     refine rd2 5 6 (h := fun K11 hK => ?_) (g := fun K11 hK => ?_)
     ·skip
      have g0 := HD8q.o.cell.2.2.2.2.2.2.2
      rw [Hm.o] at g0
      go_simp
      clear g0
      have M := hd' hH
      clear hH
      refine hK _ _ M.o (fun hH => ?_)
      clear hK K11 M
      refine rd 6 (h := fun K hK => ?_)
      refine wp_load_mid 45 _ rfl N5 (0) rfl ((lyA s'.id s'.look kp kf kb kk).toList) _ (HrgD.o) Tryz.underlying45 rfl uaa ?_
      have M := hd' hH
      clear hH
      refine hK _ _ M.o (fun hH => ?_)
      clear hK K M
      refine rd 7 (h := fun K hK => ?_)
      go_simp
      refine (uck base _ D a T2 F3 op vg vl vp vf vb cur3 HD8q.o Hz8q.o s' f kp kf kb kk HK8q.o (fun x hx => ⟨fun h => (HX.o x h).2 hx, fun e => HDF.o (e ▸ HY.o x hx)⟩) m Hml.o Hxl.o).mono ?_
      rintro e w10 ⟨rfl, ⟨F4, cur4, hd10⟩, hm10⟩
      have M := hd' (hH.trans' hm10)
      have HDZ := hd' hd10
      clear hH hd10 hm10
      refine hK _ _ M.o (fun hH => ?_)
      clear hK K M
      have MS := hd' hH
      refine wpAnyH_done (by kernel_rfl) ?_ _
      clear hH
      try simp only [Act.put]
      go_wp2_with fail
      go_ret
      refine ⟨HM8.o.trans' (MS.o.imp (fun x _ hx => hx.imp id (fun h => (HX.o x h).1))), fun h => absurd Hno.o h, fun _ => ⟨fun h => ?_, fun n e hn _ => ?_⟩⟩
      ·have := H64.o; have := Hm.o; have := Hml.o; have := Hdd.o; omega
      ·obtain rfl : n = m := by have := Hm.o; omega
       exact ⟨rfl, _, _, _, _, HDZ.o⟩
     ·skip
      skip
      refine wp_load_mid 45 _ rfl N5 (0) rfl ((lyA s'.id s'.look kp kf kb kk).toList) _ (HrgD.o) Tryz.underlying45 rfl uaa ?_
      have M := hd' hH
      clear hH
      refine hK _ _ M.o (fun hH => ?_)
      clear hK K11 M
      refine rd 5 (h := fun K hK => ?_)
      have g0 := HD8q.o.cell.2.2.2.2.2.2.2
      rw [Hm.o] at g0
      go_simp
      clear g0
      have M := hd' hH
      clear hH
      refine hK _ _ M.o (fun hH => ?_)
      clear hK K M
      refine rd 7 (h := fun K hK => ?_)
      go_simp
      refine (uck base _ D a T2 F3 op vg vl vp vf vb cur3 HD8q.o Hz8q.o s' f kp kf kb kk HK8q.o (fun x hx => ⟨fun h => (HX.o x h).2 hx, fun e => HDF.o (e ▸ HY.o x hx)⟩) m Hml.o Hxl.o).mono ?_
      rintro e w10 ⟨rfl, ⟨F4, cur4, hd10⟩, hm10⟩
      have M := hd' (hH.trans' hm10)
      have HDZ := hd' hd10
      clear hH hd10 hm10
      refine hK _ _ M.o (fun hH => ?_)
      clear hK K M
      have MS := hd' hH
      refine wpAnyH_done (by kernel_rfl) ?_ _
      clear hH
      try simp only [Act.put]
      go_wp2_with fail
      go_ret
      refine ⟨HM8.o.trans' (MS.o.imp (fun x _ hx => hx.imp id (fun h => (HX.o x h).1))), fun h => absurd Hno.o h, fun _ => ⟨fun h => ?_, fun n e hn _ => ?_⟩⟩
      ·have := H64.o; have := Hm.o; have := Hml.o; have := Hdd.o; omega
      ·obtain rfl : n = m := by have := Hm.o; omega
       exact ⟨rfl, _, _, _, _, HDZ.o⟩
    ·have H64 : Hid ((64 : Int) < (dd2 : Int) + 1 + (s'.height : Int)) := hd' (of_decide_eq_true He3.o)
     go_wp2_with fail
     go_ret
     exact ⟨HM8.o, fun h => absurd Hno.o h, fun _ => ⟨fun _ => rfl, fun n e hn h => by have := H64.o; have := Hdd.o; omega⟩⟩
end Go.Proofs.YtpbmfalokongfaaGreatDoor
namespace Go.Gou
namespace Ly
theorem ufl {x : Idt} : ∀ {ks : List Ly} (n : Nat), (∀ k ∈ ks, k.parent x = (k.parPath x).bind fun p => k.get? p.1) →
 ∀ l : Ly, (∀ i, l.kids[n + i]? = ks[i]?) → ub0 x l ks = (parL x n ks).bind fun p => l.get? p.1
 | [], n, _, l, _ => by simp [ub0, parL]
 | k :: ks, n, h, l, hl => by
  have h0 := hl 0
  rw [ub0, parL]
  by_cases hk : k.id = x
  ·rw [if_pos hk, if_pos hk]
   cases l
   rfl
  ·rw [if_neg hk, if_neg hk, h k (by simp)]
   cases hq : k.parPath x with
   | none =>
    simp only [Option.bind_none]
    exact ufl (n + 1) (fun k' hk' => h k' (by simp [hk'])) l (fun i => by have := hl (i + 1); rw [show n + 1 + i = n + (i + 1) by omega, this]; rfl)
   | some p =>
    obtain ⟨s, k', h1, h2, h3⟩ := uem hq
    simp only [Option.bind_some, h1]
    rw [get?]
    simp only [Nat.add_zero] at h0
    simp only [h0, List.getElem?_cons_zero, h1]
theorem parent_eq {x : Idt} : ∀ l : Ly, l.parent x = (l.parPath x).bind fun p => l.get? p.1 := by
 intro l
 induction l using ind with
 | h i lk ks ih =>
  rw [parent, parPath]
  exact ufl 0 ih _ (fun i => by simp [kids])
theorem findable {l : Ly} {x : Idt} (h : x ∈ l.ids) : ∃ π s, l.pathOf x = some π ∧ l.get? π = some s ∧ l.find x = some (s, π.length) ∧ s.id = x := by
 cases hf : l.find x with
 | none => exact absurd h (find_none.1 hf)
 | some p =>
  obtain ⟨s, d⟩ := p
  obtain ⟨π, h1, h2, rfl, h4⟩ := find_some hf
  exact ⟨π, s, h1, h2, rfl, h4⟩
theorem insAt_nat {n : Int} {m : Nat} (h : n = m) (k : Ly) (l : List Ly) (hm : m ≤ l.length) : insAt n k l = l.take m ++ k :: l.drop m := by
 subst h
 unfold insAt
 rw [if_pos (by omega)]
 rfl
end Ly
theorem uc1 {a : Ar} {o : Opr} (h : ubo a o = false) (hk : o.kind ≠ 1) : a.has o.id = true := by
 unfold ubo at h
 rw [if_neg hk] at h
 split at h
 ·rw [Bool.or_eq_false_iff] at h
  simpa using h.1
 ·simpa using h
theorem ud1 {a : Ar} {o : Opr} (h : ubo a o = false) (hk : o.kind = 1 ∨ o.kind = 3) : a.has o.to = true := by
 unfold ubo at h
 rcases hk with hk | hk
 ·rw [if_pos hk] at h
  simpa using h
 ·rw [if_neg (by omega), if_pos hk, Bool.or_eq_false_iff] at h
  simpa using h.2
theorem ue5 (check : Gr → Int) (s : Sn) (o : Opr) (h : o.kind < 1 ∨ 11 < o.kind) : doP check s o = (s, (0, 0), 1) := by
 unfold doP
 rw [if_pos h]
theorem ub3 (check : Gr → Int) (s : Sn) (o : Opr) (h1 : 1 ≤ o.kind) (h2 : o.kind ≤ 11) (h : ubo s.arena o = true) : doP check s o = (s, (0, 0), 4) := by
 unfold doP
 rw [if_neg (by omega), if_pos h]
theorem doP_set {n : Nat} {s : Sn} (hI : Inv n s) (check : Gr → Int) (o : Opr) (h1 : 5 ≤ o.kind) (h2 : o.kind ≤ 11) (h : ubo s.arena o = false) : ∃ π x, s.root.pathOf o.id = some π ∧ s.root.get? π = some x ∧
 doP check s o = if (uas check x.look o).2 ≠ 0 then (s, (0, 0), (uas check x.look o).2) else (⟨s.arena, s.root.put π (.mk x.id (uas check x.look o).1 x.kids)⟩, (0, 0), 0) := by
 obtain ⟨π, x, p1, p2, p3, p4⟩ := Ly.findable ((hI.iff o.id).2 (uc1 h (by omega)))
 refine ⟨π, x, p1, p2, ?_⟩
 unfold doP
 rw [if_neg (by omega), if_neg (by rw [h]; simp), if_pos (by omega), p3]
 simp only
 rw [Ly.looks_put hI.nd p1 p2]
theorem ufr {n : Nat} {s : Sn} (hI : Inv n s) (check : Gr → Int) (o : Opr) (h1 : o.kind = 1) (h : ubo s.arena o = false) : ∃ π x, s.root.pathOf o.to = some π ∧ s.root.get? π = some x ∧
 doP check s o = if o.at_ < 0 ∨ (x.kids.length : Int) < o.at_ ∨ 64 ≤ π.length then (s, (0, 0), 3) else match s.arena.take with
  | none => (s, (0, 0), (9 : Int))
  | some (a, y) => (⟨a, s.root.put π (.mk x.id x.look (Ly.insAt o.at_ (.mk y Lk.plain []) x.kids))⟩, y, (0 : Int)) := by
 obtain ⟨π, x, p1, p2, p3, p4⟩ := Ly.findable ((hI.iff o.to).2 (ud1 h (.inl h1)))
 refine ⟨π, x, p1, p2, ?_⟩
 unfold doP
 rw [if_neg (by omega), if_neg (by rw [h]; simp), if_neg (by omega), if_pos h1, p3]
 simp only
 split
 ·rfl
 ·cases s.arena.take with
  | none => rfl
  | some p =>
   simp only [Ly.with_]
   rw [Ly.updK_put hI.nd p1 p2]
theorem ude (check : Gr → Int) (s : Sn) (o : Opr) (h1 : 2 ≤ o.kind) (h2 : o.kind ≤ 4) (h : ubo s.arena o = false) (hid : o.id = (0, 0)) : doP check s o = (s, (0, 0), 1) := by
 unfold doP
 rw [if_neg (by omega), if_neg (by rw [h]; simp), if_neg (by omega), if_neg (by omega), if_pos hid]
structure OutAt (s : Sn) (o : Opr) (π : List Nat) (i : Nat) (q k T2 : Ly) : Prop where
 par : s.root.parPath o.id = some (π, i)
 get : s.root.get? π = some q
 kid : q.kids[i]? = some k
 id : k.id = o.id
 path : s.root.pathOf o.id = some (π ++ [i])
 geti : s.root.get? (π ++ [i]) = some k
 out : s.root.put π (.mk q.id q.look (q.kids.eraseIdx i)) = T2
 rest : s.root.without o.id = T2
 perm : s.root.ids.Perm (k.ids ++ T2.ids)
 nd : T2.ids.Nodup
 deep : T2.height ≤ 64
 kdeep : π.length + 1 + k.height ≤ 64
 found : s.root.find o.id = some (k, π.length + 1)
theorem outAt {n : Nat} {s : Sn} (hI : Inv n s) (o : Opr) (hk : o.kind ≠ 1) (h : ubo s.arena o = false) (hid : o.id ≠ (0, 0)) : ∃ π i q k T2, OutAt s o π i q k T2 := by
 have hx := (hI.iff o.id).2 (uc1 h hk)
 obtain ⟨p, q, k, h1, h2, h3, h4, h5, h6, h7, h8, h9, h10⟩ := Ly.without_facts hI.nd hx (fun e => hid (by rw [← e, hI.root]))
 have hg := Ly.get_snoc h2 h3
 have hh := Ly.get_height hg
 have hd := hI.deep
 simp only [List.length_append, List.length_singleton] at hh
 refine ⟨p.1, p.2, q, k, _, h1, h2, h3, h4, Ly.get_path hI.nd hg h4, hg, rfl, h6, ?_, ?_, ?_, by omega, h5⟩
 ·rw [← h6]; exact h7
 ·have := h7.nodup_iff.1 hI.nd
  rw [← h6]
  exact (List.nodup_append.1 this).2.1
 ·rw [← h6]; omega
theorem ucl {s : Sn} (check : Gr → Int) (o : Opr) {π : List Nat} {i : Nat} {q k T2 : Ly} (hO : OutAt s o π i q k T2) (hk : o.kind = 2) (h : ubo s.arena o = false) (hid : o.id ≠ (0, 0)) :
 doP check s o = (⟨k.ids.foldl Ar.free s.arena, T2⟩, (0, 0), 0) := by
 unfold doP
 rw [if_neg (by omega), if_neg (by rw [h]; simp), if_neg (by omega), if_neg (by omega), if_neg hid, hO.found]
 simp only
 rw [if_pos hk, hO.rest]
theorem ue4 {n : Nat} {s : Sn} (hI : Inv n s) (check : Gr → Int) (o : Opr) {π : List Nat} {i : Nat} {q k T2 : Ly} (hO : OutAt s o π i q k T2) (hk : o.kind = 4) (h : ubo s.arena o = false) (hid : o.id ≠ (0, 0)) :
 doP check s o = if o.at_ < 0 ∨ (q.kids.length : Int) ≤ o.at_ then (s, (0, 0), 3) else (⟨s.arena, T2.put π (.mk q.id q.look (Ly.insAt o.at_ k (q.kids.eraseIdx i)))⟩, (0, 0), 0) := by
 have hi := (lgS.1 hO.kid).1
 have hg : T2.get? π = some (.mk q.id q.look (q.kids.eraseIdx i)) := by
  obtain ⟨p', q', k', g1, g2, g3, g4, g5, g6, g7, g8, g9, g10⟩ := Ly.without_facts hI.nd ((hI.iff o.id).2 (uc1 h (by omega))) (fun e => hid (by rw [← e, hI.root]))
  rw [hO.par] at g1
  cases g1
  rw [hO.get] at g2
  cases g2
  rw [hO.rest] at g10
  exact g10
 have hp := Ly.find_of_get (x := q.id) hO.nd hg rfl
 have hpp := Ly.get_path (x := q.id) hO.nd hg rfl
 have hlen : (q.kids.eraseIdx i).length = q.kids.length - 1 := by rw [List.length_eraseIdx, if_pos hi]
 unfold doP
 rw [if_neg (by omega), if_neg (by rw [h]; simp), if_neg (by omega), if_neg (by omega), if_neg hid, hO.found]
 simp only
 rw [if_neg (by omega), if_neg (by omega), Ly.parent_eq, hO.par]
 simp only [Option.bind_some, hO.get]
 rw [hO.rest, hp]
 simp only [Ly.kids_mk, hlen]
 have := hO.kdeep
 by_cases hb : o.at_ < 0 ∨ (q.kids.length : Int) ≤ o.at_
 ·rw [if_pos hb, if_pos (by omega)]
 ·rw [if_neg hb, if_neg (by omega)]
  simp only [Ly.with_]
  rw [Ly.updK_put hO.nd hpp hg]
  rfl
theorem uhb {s : Sn} (check : Gr → Int) (o : Opr) {π : List Nat} {i : Nat} {q k T2 : Ly} (hO : OutAt s o π i q k T2) (hk : o.kind = 3) (h : ubo s.arena o = false) (hid : o.id ≠ (0, 0)) (hto : k.pathOf o.to ≠ none) :
 doP check s o = (s, (0, 0), 5) := by
 have hf : (k.find o.to).isSome = true := by
  cases hf : k.find o.to with
  | none => exact absurd ((Ly.pathOf_none k).2 (Ly.find_none.1 hf)) hto
  | some _ => rfl
 unfold doP
 rw [if_neg (by omega), if_neg (by rw [h]; simp), if_neg (by omega), if_neg (by omega), if_neg hid, hO.found]
 simp only
 rw [if_neg (by omega), if_pos hk, if_pos hf]
theorem udu {n : Nat} {s : Sn} (hI : Inv n s) (check : Gr → Int) (o : Opr) {π : List Nat} {i : Nat} {q k T2 : Ly} (hO : OutAt s o π i q k T2) (hk : o.kind = 3) (h : ubo s.arena o = false) (hid : o.id ≠ (0, 0)) (hto : k.pathOf o.to = none) :
 ∃ σ x, T2.pathOf o.to = some σ ∧ T2.get? σ = some x ∧ σ.length ≤ 64 ∧
 doP check s o = if o.at_ < 0 ∨ (x.kids.length : Int) < o.at_ ∨ 64 < σ.length + 1 + k.height then (s, (0, 0), 3) else (⟨s.arena, T2.put σ (.mk x.id x.look (Ly.insAt o.at_ k x.kids))⟩, (0, 0), 0) := by
 have hni : o.to ∉ k.ids := (Ly.pathOf_none k).1 hto
 have hf : (k.find o.to).isSome = false := by rw [Ly.find_none.2 hni]; rfl
 have hin := (hI.iff o.to).2 (ud1 h (.inr hk))
 have hin2 : o.to ∈ T2.ids := by
  rcases List.mem_append.1 (hO.perm.mem_iff.1 hin) with hh | hh
  ·exact absurd hh hni
  ·exact hh
 obtain ⟨σ, x, p1, p2, p3, p4⟩ := Ly.findable hin2
 have hl := Ly.get_height p2
 have hd := hO.deep
 refine ⟨σ, x, p1, p2, by omega, ?_⟩
 unfold doP
 rw [if_neg (by omega), if_neg (by rw [h]; simp), if_neg (by omega), if_neg (by omega), if_neg hid, hO.found]
 simp only
 rw [if_neg (by omega), if_pos hk, if_neg (by rw [hf]; simp), hO.rest, p3]
 simp only [Ly.with_]
 rw [Ly.updK_put hO.nd p1 p2]
end Go.Gou
