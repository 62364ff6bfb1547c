/- Texts of the scenes' proofs, laid together: SeL, SeM, SeN, SeO, SeP. -/
import Derived.Test.YtpbmfalokongfaaGreatDoorZal
import Derived.Test.YtpbmfalokongfaaGreatDoorZab
set_option maxHeartbeats 64000000
set_option linter.unusedSimpArgs false
set_option linter.unusedVariables false
set_option linter.unusedSectionVars false
set_option linter.constructorNameAsVariable false
namespace Go.Gou
open Go.RowKit
variable (check : Gr → Int) (l : Lk) (o : Opr)
theorem lookP5 (h : o.kind = 5) : uas check l o = if (nearB o.look.dx && nearB o.look.dy) = true then ({ l with dx := o.look.dx, dy := o.look.dy }, 0) else (l, 3) := by simp [uas, h]
theorem lookP6t (h : o.kind = 6) (hc : o.look.hasClip = true) : uas check l o = if o.look.clip.nearB = true then ({ l with hasClip := true, clip := o.look.clip }, 0) else (l, 3) := by simp [uas, h, hc]
theorem lookP6f (h : o.kind = 6) (hc : o.look.hasClip = false) : uas check l o = ({ l with hasClip := false, clip := Rc.zero }, 0) := by simp [uas, h, hc]
theorem lookP7 (h : o.kind = 7) : uas check l o = if o.look.opacity < 0 ∨ 255 < o.look.opacity then (l, 3) else ({ l with opacity := o.look.opacity }, 0) := by simp [uas, h]
theorem lookP8 (h : o.kind = 8) : uas check l o = if o.look.mode < 0 ∨ 6 < o.look.mode then (l, 3) else ({ l with mode := o.look.mode }, 0) := by simp [uas, h]
theorem ui0 (h : o.kind = 9) : uas check l o = if o.look.content.kind < 0 ∨ 2 < o.look.content.kind then (l, 1) else if o.look.content.rightB = true then ({ l with content := o.look.content.own }, 0) else (l, 3) := by simp [uas, h]
theorem lookP10t (h : o.kind = 10) (hc : o.look.hasFilt = true) : uas check l o = ({ l with hasFilt := true, filt := o.look.filt }, check o.look.filt) := by simp [uas, h, hc]
theorem lookP10f (h : o.kind = 10) (hc : o.look.hasFilt = false) : uas check l o = ({ l with hasFilt := false, filt := Gr.zero }, 0) := by simp [uas, h, hc]
theorem lookP11t (h : o.kind = 11) (hc : o.look.hasBack = true) : uas check l o = ({ l with hasBack := true, back := o.look.back }, check o.look.back) := by simp [uas, h, hc]
theorem lookP11f (h : o.kind = 11) (hc : o.look.hasBack = false) : uas check l o = ({ l with hasBack := false, back := Gr.zero }, 0) := by simp [uas, h, hc]
theorem lookP0 (h : o.kind ≠ 5 ∧ o.kind ≠ 6 ∧ o.kind ≠ 7 ∧ o.kind ≠ 8 ∧ o.kind ≠ 9 ∧ o.kind ≠ 10 ∧ o.kind ≠ 11) : uas check l o = (l, 0) := by
 obtain ⟨h1, h2, h3, h4, h5, h6, h7⟩ := h
 simp [uas, h1, h2, h3, h4, h5, h6, h7]
variable (l : Lk) (vp vf vb : Value)
theorem set_lk0 (x : Int) : (uai l vp vf vb).setIfInBounds 0 (iV x) = uai { l with dx := x } vp vf vb := by
 simp only [uai, uak, uao, List.setIfInBounds_toArray, List.set_cons_succ, List.set_cons_zero]
theorem set_lk1 (x : Int) : (uai l vp vf vb).setIfInBounds 1 (iV x) = uai { l with dy := x } vp vf vb := by
 simp only [uai, uak, uao, List.setIfInBounds_toArray, List.set_cons_succ, List.set_cons_zero]
theorem set_lk2 (x : Bool) : (uai l vp vf vb).setIfInBounds 2 (.bool x) = uai { l with hasClip := x } vp vf vb := by
 simp only [uai, uak, uao, List.setIfInBounds_toArray, List.set_cons_succ, List.set_cons_zero]
theorem set_lk7 (x : Int) : (uai l vp vf vb).setIfInBounds 7 (iV x) = uai { l with opacity := x } vp vf vb := by
 simp only [uai, uak, uao, List.setIfInBounds_toArray, List.set_cons_succ, List.set_cons_zero]
theorem set_lk8 (x : Int) : (uai l vp vf vb).setIfInBounds 8 (iV x) = uai { l with mode := x } vp vf vb := by
 simp only [uai, uak, uao, List.setIfInBounds_toArray, List.set_cons_succ, List.set_cons_zero]
theorem uio (x : Bool) : (uai l vp vf vb).setIfInBounds 22 (.bool x) = uai { l with hasFilt := x } vp vf vb := by
 simp only [uai, uak, uao, List.setIfInBounds_toArray, List.set_cons_succ, List.set_cons_zero]
theorem uim (x : Bool) : (uai l vp vf vb).setIfInBounds 25 (.bool x) = uai { l with hasBack := x } vp vf vb := by
 simp only [uai, uak, uao, List.setIfInBounds_toArray, List.set_cons_succ, List.set_cons_zero]
theorem set_lk3 (r : Rc) : uao (uai l vp vf vb) 3 #[iV r.x0, iV r.y0, iV r.x1, iV r.y1].toList = uai { l with clip := r } vp vf vb := by
 simp only [uai, uak, uao, List.setIfInBounds_toArray, List.set_cons_succ, List.set_cons_zero]
theorem set_lk9 (c : Ct) (v : Value) : uao (uai l vp vf vb) 9 (uak c v).toList = uai { l with content := c } v vf vb := by
 simp only [uai, uak, uao, List.setIfInBounds_toArray, List.set_cons_succ, List.set_cons_zero]
theorem uin (g : Gr) (v : Value) : uao (uai l vp vf vb) 23 #[v, iV g.out].toList = uai { l with filt := g } vp v vb := by
 simp only [uai, uak, uao, List.setIfInBounds_toArray, List.set_cons_succ, List.set_cons_zero]
theorem uil (g : Gr) (v : Value) : uao (uai l vp vf vb) 26 #[v, iV g.out].toList = uai { l with back := g } vp vf v := by
 simp only [uai, uak, uao, List.setIfInBounds_toArray, List.set_cons_succ, List.set_cons_zero]
theorem uik : uao (uai l vp vf vb) 3 #[iV 0, iV 0, iV 0, iV 0].toList = uai { l with clip := Rc.zero } vp vf vb := set_lk3 l vp vf vb Rc.zero
theorem ugq (v : Value) : uao (uai l vp vf vb) 23 #[v, iV 0].toList = uai { l with filt := Gr.zero } vp v vb := uin l vp vf vb Gr.zero v
theorem ugp (v : Value) : uao (uai l vp vf vb) 26 #[v, iV 0].toList = uai { l with back := Gr.zero } vp vf v := uil l vp vf vb Gr.zero v
end Go.Gou
namespace Go.Proofs.YtpbmfalokongfaaGreatDoor
open Go.RowKit Go.Gou
set_option maxRecDepth 100000
def LookQ (G : Nat → Prop) (w : World) (r : Lk × Int) (e : Ending) (w' : World) : Prop := ∃ l' up uf ub, e = .returned (.tuple #[.agg (uai l' up uf ub), iV r.2]) ∧ (r.2 = 0 → l' = r.1) ∧ LookR G w' l' up uf ub ∧ Gou.Mod (fun _ => False) w w'
structure LkB (G : Nat → Prop) (w W : World) (N : Nat) (L U : Array Value) : Prop where
 L : Blk W w.heap.size 42 L
 R : Blk W (w.heap.size + 1 + 1) 42 lkZz
 V : Blk W N 42 U
 m : Gou.Mod (fun _ => False) w W
 nz : w.heap.size + 1 + 1 < N
 g : ∀ b, G b → b < w.heap.size
section
variable {G : Nat → Prop} {w W W' : World} {N : Nat} {L L' U : Array Value}
theorem LkB.up (h : LkB G w W N L U) (hm : Gou.Mod (fun _ => False) W W') : LkB G w W' N L U := ⟨h.L.up hm, h.R.up hm, h.V.up hm, h.m.trans' hm, h.nz, h.g⟩
theorem LkB.one (h : LkB G w W N L U) {off : Nat} {v : Value} (e : L.setIfInBounds off v = L') {P : Program} {c : Code} {Q : Exit → Act → World → Prop} {a : Act} (K : ∀ W', LkB G w W' N L' U → Code.wp P c Q a W') : Code.wp P c Q a (W.setCell ⟨w.heap.size, off, none⟩ v) :=
 have hS := Gou.Mod.set1 W w.heap.size off v
 K _ ⟨e ▸ h.L.set off v, h.R.mod hS (by omega), h.V.mod hS (by have := h.nz; omega), h.m.trans hS (fun k hk e => by omega), h.nz, h.g⟩
theorem LkB.many (h : LkB G w W N L U) {off : Nat} {vs : List Value} (e : uao L off vs = L') {P : Program} {c : Code} {Q : Exit → Act → World → Prop} {a : Act} (K : ∀ W', LkB G w W' N L' U → Gou.Mod (fun k => k = w.heap.size) W W' → Code.wp P c Q a W') : Code.wp P c Q a (W.setCells w.heap.size off vs) :=
 have hS := Blk.setMod W w.heap.size off vs
 K _ ⟨e ▸ h.L.sets off vs, h.R.mod hS (by omega), h.V.mod hS (by have := h.nz; omega), h.m.trans hS (fun k hk e => by omega), h.nz, h.g⟩ hS
theorem LkB.fin {LT : Lk} {p q r : Option Addr} {c d e : Nat} {fn : Func} {a : Act} {pT u : Tmp} {x : Lk × Int} (h : LkB G w W N (lkS LT p c q d r e) U) (hr : fn.results = #[.cell pT 42, .tmp u]) (hp : a.tmps.getD pT undef = .pointer (some ⟨w.heap.size + 1 + 1, 0, none⟩)) (hd : a.defers = []) (hu : a.tmps.getD u undef = iV x.2) (hx : x.2 = 0 → LT = x.1)
 (hq : LookR G W LT (.slice p LT.content.pix.length c) (.slice q LT.filt.nodes.length d) (.slice r LT.back.nodes.length e)) : bodyPost Tryz.prog fn (LookQ G w x) .ret a (W.setCells (w.heap.size + 1 + 1) 0 (lkS LT p c q d r e).toList) := by
 have hS := Blk.setMod W (w.heap.size + 1 + 1) 0 (lkS LT p c q d r e).toList
 have h9 := h.R.setAll (lkS LT p c q d r e) rfl
 refine bpr (uam hr (ResAt.of hp h9 Tryz.underlying42 rfl uad)) hd ?_
 exact ⟨_, _, _, _, by rw [hu], hx, hq.mod hS (fun k hk hg e => by have := h.g k hg; omega), h.m.trans hS (fun k hk e => by omega)⟩
end
theorem uhz (G : Nat → Prop) (w : World) (l : Lk) (o : Opr) (vp vf vb wp wf wb : Value) (hG : ∀ b, G b → b < w.heap.size) (hl : LookR G w l vp vf vb) (hv : LookR G w o.look wp wf wb) (hnp : o.look.content.pix.length ≤ 1000000)
 (hwf : GrWf o.look.filt) (hwb : GrWf o.look.back) (hff : fewB o.look.filt 300 = true) (hfb : fewB o.look.back 300 = true) (ht : Tabs w) :
 Calls Tryz.prog 30 #[.agg (uai l vp vf vb), .agg (oprC o wp wf wb)] w (LookQ G w (uas checkS l o)) := by
 obtain ⟨⟨pp, cp, rfl⟩, ⟨pf, cf, rfl⟩, ⟨pb, cb, rfl⟩⟩ := hl.forms
 obtain ⟨⟨qp, dp, rfl⟩, ⟨qf, df, rfl⟩, ⟨qb, db, rfl⟩⟩ := hv.forms
 have HG := hd' hG
 have Hl := hd' hl
 have Hv := hd' hv
 have Hnp := hd' hnp
 have Hwffilt := hd' hwf
 have Hwfback := hd' hwb
 have Hfewfilt := hd' hff
 have Hfewback := hd' hfb
 have Ht := hd' ht
 obtain ⟨b0, b1, b2, bm⟩ := ubd w 42 53 42 (lkS l pp cp pf cf pb cb) (opS o qp dp qf df qb db) lkZz
 have HO := hd' b1
 have HB0 := hd' (And.intro b0 (And.intro b2 bm))
 go_enter Tryz.func30, Tryz.ntmps30
 go_upto_region 1 with fail
 show Code.wp _ _ _ _ (((w.alloc (.cells (lkS l pp cp pf cf pb cb) 42)).alloc (.cells (opS o qp dp qf df qb db) 53)).alloc (.cells lkZz 42))
 generalize (((w.alloc (.cells (lkS l pp cp pf cf pb cb) 42)).alloc (.cells (opS o qp dp qf df qb db) 53)).alloc (.cells lkZz 42)) = W1 at *
 have HOr : Hid (W1.rangeAt (w.heap.size + 1) 6 (lkS o.look qp dp qf df qb db).toList) := hd' (Blk.range (pre := [iV o.kind, iV o.id.1, iV o.id.2, iV o.to.1, iV o.to.2, iV o.at_]) (post := []) HO.o (by simp [oprC, uai]) rfl)
 go_upto_region 2 with (first | ((with_reducible refine lT 42 ?_); refine ldA HOr.o Tryz.underlying42 uad (h := ?_)) | ((with_reducible refine sT 42 ?_); refine stA (lkS o.look qp dp qf df qb db) ((Blk.new W1 42 lkZz).there 0 28 (by simp [uai])) uad uay (h := ?_)) | fail)
 have HNz : Hid (w.heap.size + 1 + 1 < W1.heap.size) := hd' (Blk.lt HB0.o.2.1)
 refine newB rfl (fun W2 hb hm => ?_)
 have HB : Hid (LkB G w W2 W1.heap.size (lkS l pp cp pf cf pb cb) (lkS o.look qp dp qf df qb db)) := hd' ⟨HB0.o.1.up hm, HB0.o.2.1.up hm, hb, HB0.o.2.2.trans' hm, HNz.o, HG.o⟩
 replace HO := hd' (HO.o.up hm)
 generalize W1.heap.size = N at *
 have c0 : W2.cell? ⟨w.heap.size + 1, 0, none⟩ = some (iV o.kind) := HO.o.cell 0 rfl
 by_cases k5 : o.kind = 5
 ·have Hk := hd' k5
  rw [k5] at c0
  go_upto_region 4 with fail
  have n0 : W2.cell? ⟨N, 0, none⟩ = some (iV o.look.dx) := HB.o.V.cell 0 rfl
  go_wp2_with fail
  refine (ubk o.look.dx _).mono ?_
  rintro e w3 ⟨rfl, hm⟩
  replace HB := hd' (HB.o.up hm)
  cases hxw3 : nearB o.look.dx
  ·skip
   have Hr := hd' ((lookP5 checkS l o Hk.o).trans (if_neg (by simp [*])))
   go_wp2_with (first | ((with_reducible refine lT 42 ?_); refine ldA HB.o.L.whole Tryz.underlying42 uad (h := ?_)) | ((with_reducible refine sT 42 ?_); refine stA (lkS l pp cp pf cf pb cb) (HB.o.R.there 0 28 (by simp [uai])) uad uay (h := ?_)) | fail)
   rw [Hr.o]
   exact HB.o.fin rfl rfl rfl rfl (fun h => by simp at h) (Hl.o.mod HB.o.m (fun _ _ _ h => h))
  ·skip
   have n1 : w3.cell? ⟨N, 1, none⟩ = some (iV o.look.dy) := HB.o.V.cell 1 rfl
   go_wp2_with fail
   refine (ubk o.look.dy _).mono ?_
   rintro e w4 ⟨rfl, hm⟩
   replace HB := hd' (HB.o.up hm)
   cases hxw4 : nearB o.look.dy
   ·skip
    have Hr := hd' ((lookP5 checkS l o Hk.o).trans (if_neg (by simp [*])))
    go_wp2_with (first | ((with_reducible refine lT 42 ?_); refine ldA HB.o.L.whole Tryz.underlying42 uad (h := ?_)) | ((with_reducible refine sT 42 ?_); refine stA (lkS l pp cp pf cf pb cb) (HB.o.R.there 0 28 (by simp [uai])) uad uay (h := ?_)) | fail)
    rw [Hr.o]
    exact HB.o.fin rfl rfl rfl rfl (fun h => by simp at h) (Hl.o.mod HB.o.m (fun _ _ _ h => h))
   ·skip
    have Hr := hd' ((lookP5 checkS l o Hk.o).trans (if_pos (by simp [*])))
    have n0 : w4.cell? ⟨N, 0, none⟩ = some (iV o.look.dx) := HB.o.V.cell 0 rfl
    go_upto_region 6 with fail
    have n0 : w4.cell? ⟨N, 0, none⟩ = some (iV o.look.dx) := HB.o.V.cell 0 rfl
    have o1 : w4.cell? ⟨w.heap.size, 0, none⟩ = some (iV l.dx) := HB.o.L.cell 0 rfl
    have f1 := HB.o.L.frozen 0
    go_upto_region 7 with fail
    refine HB.o.one (set_lk0 ..) (fun w5 hb => ?_)
    replace HB := hd' hb
    have n1 : w5.cell? ⟨N, 1, none⟩ = some (iV o.look.dy) := HB.o.V.cell 1 rfl
    have o1 : w5.cell? ⟨w.heap.size, 1, none⟩ = some (iV l.dy) := HB.o.L.cell 1 rfl
    have f1 := HB.o.L.frozen 1
    go_upto_region 41 with fail
    refine HB.o.one (set_lk1 ..) (fun w6 hb => ?_)
    replace HB := hd' hb
    go_wp2_with (first | ((with_reducible refine lT 42 ?_); refine ldA HB.o.L.whole Tryz.underlying42 uad (h := ?_)) | ((with_reducible refine sT 42 ?_); refine stA (uai { l with dx := o.look.dx, dy := o.look.dy } (.slice pp l.content.pix.length cp) (.slice pf l.filt.nodes.length cf) (.slice pb l.back.nodes.length cb)) (HB.o.R.there 0 28 (by simp [uai])) uad uay (h := ?_)) | fail)
    rw [Hr.o]
    exact HB.o.fin rfl rfl rfl rfl (fun _ => rfl) (⟨(Hl.o.mod HB.o.m (fun _ _ _ h => h)).pix, (Hl.o.mod HB.o.m (fun _ _ _ h => h)).filt, (Hl.o.mod HB.o.m (fun _ _ _ h => h)).back⟩)
 ·have e5 : (o.kind == 5) = false := bqf.2 k5
  by_cases k6 : o.kind = 6
  ·have Hk := hd' k6
   rw [k6] at c0
   go_upto_region 9 with fail
   cases hc : o.look.hasClip
   ·skip
    have Hr := hd' (lookP6f checkS l o Hk.o hc)
    have HVc : Hid (∀ W, Blk W N 42 (lkS o.look qp dp qf df qb db) → W.cell? ⟨N, 2, none⟩ = some (.bool false)) := hd' (fun W h => by have g : W.cell? ⟨N, 2, none⟩ = some (.bool o.look.hasClip) := h.cell 2 rfl; rw [hc] at g; exact g)
    have n2 : W2.cell? ⟨N, 2, none⟩ = some (.bool false) := HVc.o _ HB.o.V
    have o1 : W2.cell? ⟨w.heap.size, 2, none⟩ = some (.bool l.hasClip) := HB.o.L.cell 2 rfl
    have f1 := HB.o.L.frozen 2
    go_upto_region 10 with fail
    refine HB.o.one (set_lk2 ..) (fun w5 hb => ?_)
    replace HB := hd' hb
    go_upto_region 11 with (first | ((with_reducible refine sT 32 ?_); refine stA (#[iV 0, iV 0, iV 0, iV 0]) (HB.o.L.there 3 4 (by simp [uai])) uec (by simp [Value.oneCell']) (h := ?_)) | fail)
    refine HB.o.many (uik ..) (fun w6 hb _ => ?_)
    replace HB := hd' hb
    have n2 : w6.cell? ⟨N, 2, none⟩ = some (.bool false) := HVc.o _ HB.o.V
    go_upto_region 41 with fail
    go_wp2_with (first | ((with_reducible refine lT 42 ?_); refine ldA HB.o.L.whole Tryz.underlying42 uad (h := ?_)) | ((with_reducible refine sT 42 ?_); refine stA (uai { l with hasClip := false, clip := Rc.zero } (.slice pp l.content.pix.length cp) (.slice pf l.filt.nodes.length cf) (.slice pb l.back.nodes.length cb)) (HB.o.R.there 0 28 (by simp [uai])) uad uay (h := ?_)) | fail)
    rw [Hr.o]
    exact HB.o.fin rfl rfl rfl rfl (fun _ => rfl) (⟨(Hl.o.mod HB.o.m (fun _ _ _ h => h)).pix, (Hl.o.mod HB.o.m (fun _ _ _ h => h)).filt, (Hl.o.mod HB.o.m (fun _ _ _ h => h)).back⟩)
   ·skip
    have HVc : Hid (∀ W, Blk W N 42 (lkS o.look qp dp qf df qb db) → W.cell? ⟨N, 2, none⟩ = some (.bool true)) := hd' (fun W h => by have g : W.cell? ⟨N, 2, none⟩ = some (.bool o.look.hasClip) := h.cell 2 rfl; rw [hc] at g; exact g)
    have n2 : W2.cell? ⟨N, 2, none⟩ = some (.bool true) := HVc.o _ HB.o.V
    have o1 : W2.cell? ⟨w.heap.size, 2, none⟩ = some (.bool l.hasClip) := HB.o.L.cell 2 rfl
    have f1 := HB.o.L.frozen 2
    go_upto_region 10 with fail
    refine HB.o.one (set_lk2 ..) (fun w5 hb => ?_)
    replace HB := hd' hb
    go_upto_region 11 with (first | ((with_reducible refine sT 32 ?_); refine stA (#[iV 0, iV 0, iV 0, iV 0]) (HB.o.L.there 3 4 (by simp [uai])) uec (by simp [Value.oneCell']) (h := ?_)) | fail)
    refine HB.o.many (uik ..) (fun w6 hb _ => ?_)
    replace HB := hd' hb
    have n2 : w6.cell? ⟨N, 2, none⟩ = some (.bool true) := HVc.o _ HB.o.V
    have n3 : w6.cell? ⟨N, 3, none⟩ = some (iV o.look.clip.x0) := HB.o.V.cell 3 rfl
    have n4 : w6.cell? ⟨N, 4, none⟩ = some (iV o.look.clip.y0) := HB.o.V.cell 4 rfl
    have n5 : w6.cell? ⟨N, 5, none⟩ = some (iV o.look.clip.x1) := HB.o.V.cell 5 rfl
    have n6 : w6.cell? ⟨N, 6, none⟩ = some (iV o.look.clip.y1) := HB.o.V.cell 6 rfl
    go_upto_region 12 with fail
    go_wp2_with fail
    refine (uei o.look.clip _).mono ?_
    rintro e w7 ⟨rfl, hm⟩
    replace HB := hd' (HB.o.up hm)
    cases hx : o.look.clip.nearB
    ·skip
     have Hr := hd' ((lookP6t checkS l o Hk.o hc).trans (if_neg (by simp [hx])))
     go_wp2_with (first | ((with_reducible refine lT 42 ?_); refine ldA HB.o.L.whole Tryz.underlying42 uad (h := ?_)) | ((with_reducible refine sT 42 ?_); refine stA (uai { l with hasClip := true, clip := Rc.zero } (.slice pp l.content.pix.length cp) (.slice pf l.filt.nodes.length cf) (.slice pb l.back.nodes.length cb)) (HB.o.R.there 0 28 (by simp [uai])) uad uay (h := ?_)) | fail)
     rw [Hr.o]
     exact HB.o.fin rfl rfl rfl rfl (fun h => by simp at h) (⟨(Hl.o.mod HB.o.m (fun _ _ _ h => h)).pix, (Hl.o.mod HB.o.m (fun _ _ _ h => h)).filt, (Hl.o.mod HB.o.m (fun _ _ _ h => h)).back⟩)
    ·skip
     have Hr := hd' ((lookP6t checkS l o Hk.o hc).trans (if_pos hx))
     go_upto_region 14 with fail
     have n3 : w7.cell? ⟨N, 3, none⟩ = some (iV o.look.clip.x0) := HB.o.V.cell 3 rfl
     have n4 : w7.cell? ⟨N, 4, none⟩ = some (iV o.look.clip.y0) := HB.o.V.cell 4 rfl
     have n5 : w7.cell? ⟨N, 5, none⟩ = some (iV o.look.clip.x1) := HB.o.V.cell 5 rfl
     have n6 : w7.cell? ⟨N, 6, none⟩ = some (iV o.look.clip.y1) := HB.o.V.cell 6 rfl
     go_upto_region 41 with (first | ((with_reducible refine sT 32 ?_); refine stA (#[iV o.look.clip.x0, iV o.look.clip.y0, iV o.look.clip.x1, iV o.look.clip.y1]) (HB.o.L.there 3 4 (by simp [uai])) uec (by simp [Value.oneCell']) (h := ?_)) | fail)
     refine HB.o.many (set_lk3 ..) (fun w8 hb _ => ?_)
     replace HB := hd' hb
     go_wp2_with (first | ((with_reducible refine lT 42 ?_); refine ldA HB.o.L.whole Tryz.underlying42 uad (h := ?_)) | ((with_reducible refine sT 42 ?_); refine stA (uai { l with hasClip := true, clip := o.look.clip } (.slice pp l.content.pix.length cp) (.slice pf l.filt.nodes.length cf) (.slice pb l.back.nodes.length cb)) (HB.o.R.there 0 28 (by simp [uai])) uad uay (h := ?_)) | fail)
     rw [Hr.o]
     exact HB.o.fin rfl rfl rfl rfl (fun _ => rfl) (⟨(Hl.o.mod HB.o.m (fun _ _ _ h => h)).pix, (Hl.o.mod HB.o.m (fun _ _ _ h => h)).filt, (Hl.o.mod HB.o.m (fun _ _ _ h => h)).back⟩)
  ·have e6 : (o.kind == 6) = false := bqf.2 k6
   by_cases k7 : o.kind = 7
   ·have Hk := hd' k7
    rw [k7] at c0
    go_upto_region 16 with fail
    by_cases h1 : o.look.opacity < 0
    ·have e1 : decide (o.look.opacity < 0) = true := dqt h1
     have Hr := hd' ((lookP7 checkS l o Hk.o).trans (if_pos (by omega)))
     have n7 : W2.cell? ⟨N, 7, none⟩ = some (iV o.look.opacity) := HB.o.V.cell 7 rfl
     go_wp2_with (first | ((with_reducible refine lT 42 ?_); refine ldA HB.o.L.whole Tryz.underlying42 uad (h := ?_)) | ((with_reducible refine sT 42 ?_); refine stA (lkS l pp cp pf cf pb cb) (HB.o.R.there 0 28 (by simp [uai])) uad uay (h := ?_)) | fail)
     rw [Hr.o]
     exact HB.o.fin rfl rfl rfl rfl (fun h => by simp at h) (Hl.o.mod HB.o.m (fun _ _ _ h => h))
    ·have e1 : decide (o.look.opacity < 0) = false := dqf h1
     by_cases h2 : 255 < o.look.opacity
     ·have e2 : decide (255 < o.look.opacity) = true := dqt h2
      have Hr := hd' ((lookP7 checkS l o Hk.o).trans (if_pos (by omega)))
      have n7 : W2.cell? ⟨N, 7, none⟩ = some (iV o.look.opacity) := HB.o.V.cell 7 rfl
      go_wp2_with (first | ((with_reducible refine lT 42 ?_); refine ldA HB.o.L.whole Tryz.underlying42 uad (h := ?_)) | ((with_reducible refine sT 42 ?_); refine stA (lkS l pp cp pf cf pb cb) (HB.o.R.there 0 28 (by simp [uai])) uad uay (h := ?_)) | fail)
      rw [Hr.o]
      exact HB.o.fin rfl rfl rfl rfl (fun h => by simp at h) (Hl.o.mod HB.o.m (fun _ _ _ h => h))
     ·have e2 : decide (255 < o.look.opacity) = false := dqf h2
      have Hr := hd' ((lookP7 checkS l o Hk.o).trans (if_neg (by omega)))
      have n7 : W2.cell? ⟨N, 7, none⟩ = some (iV o.look.opacity) := HB.o.V.cell 7 rfl
      go_upto_region 18 with fail
      have n7 : W2.cell? ⟨N, 7, none⟩ = some (iV o.look.opacity) := HB.o.V.cell 7 rfl
      have o1 : W2.cell? ⟨w.heap.size, 7, none⟩ = some (iV l.opacity) := HB.o.L.cell 7 rfl
      have f1 := HB.o.L.frozen 7
      go_upto_region 41 with fail
      refine HB.o.one (set_lk7 ..) (fun w5 hb => ?_)
      replace HB := hd' hb
      go_wp2_with (first | ((with_reducible refine lT 42 ?_); refine ldA HB.o.L.whole Tryz.underlying42 uad (h := ?_)) | ((with_reducible refine sT 42 ?_); refine stA (uai { l with opacity := o.look.opacity } (.slice pp l.content.pix.length cp) (.slice pf l.filt.nodes.length cf) (.slice pb l.back.nodes.length cb)) (HB.o.R.there 0 28 (by simp [uai])) uad uay (h := ?_)) | fail)
      rw [Hr.o]
      exact HB.o.fin rfl rfl rfl rfl (fun _ => rfl) (⟨(Hl.o.mod HB.o.m (fun _ _ _ h => h)).pix, (Hl.o.mod HB.o.m (fun _ _ _ h => h)).filt, (Hl.o.mod HB.o.m (fun _ _ _ h => h)).back⟩)
   ·have e7 : (o.kind == 7) = false := bqf.2 k7
    by_cases k8 : o.kind = 8
    ·have Hk := hd' k8
     rw [k8] at c0
     go_upto_region 20 with fail
     by_cases h1 : o.look.mode < 0
     ·have e1 : decide (o.look.mode < 0) = true := dqt h1
      have Hr := hd' ((lookP8 checkS l o Hk.o).trans (if_pos (by omega)))
      have n8 : W2.cell? ⟨N, 8, none⟩ = some (iV o.look.mode) := HB.o.V.cell 8 rfl
      go_wp2_with (first | ((with_reducible refine lT 42 ?_); refine ldA HB.o.L.whole Tryz.underlying42 uad (h := ?_)) | ((with_reducible refine sT 42 ?_); refine stA (lkS l pp cp pf cf pb cb) (HB.o.R.there 0 28 (by simp [uai])) uad uay (h := ?_)) | fail)
      rw [Hr.o]
      exact HB.o.fin rfl rfl rfl rfl (fun h => by simp at h) (Hl.o.mod HB.o.m (fun _ _ _ h => h))
     ·have e1 : decide (o.look.mode < 0) = false := dqf h1
      by_cases h2 : 6 < o.look.mode
      ·have e2 : decide (6 < o.look.mode) = true := dqt h2
       have Hr := hd' ((lookP8 checkS l o Hk.o).trans (if_pos (by omega)))
       have n8 : W2.cell? ⟨N, 8, none⟩ = some (iV o.look.mode) := HB.o.V.cell 8 rfl
       go_wp2_with (first | ((with_reducible refine lT 42 ?_); refine ldA HB.o.L.whole Tryz.underlying42 uad (h := ?_)) | ((with_reducible refine sT 42 ?_); refine stA (lkS l pp cp pf cf pb cb) (HB.o.R.there 0 28 (by simp [uai])) uad uay (h := ?_)) | fail)
       rw [Hr.o]
       exact HB.o.fin rfl rfl rfl rfl (fun h => by simp at h) (Hl.o.mod HB.o.m (fun _ _ _ h => h))
      ·have e2 : decide (6 < o.look.mode) = false := dqf h2
       have Hr := hd' ((lookP8 checkS l o Hk.o).trans (if_neg (by omega)))
       have n8 : W2.cell? ⟨N, 8, none⟩ = some (iV o.look.mode) := HB.o.V.cell 8 rfl
       go_upto_region 22 with fail
       have n8 : W2.cell? ⟨N, 8, none⟩ = some (iV o.look.mode) := HB.o.V.cell 8 rfl
       have o1 : W2.cell? ⟨w.heap.size, 8, none⟩ = some (iV l.mode) := HB.o.L.cell 8 rfl
       have f1 := HB.o.L.frozen 8
       go_upto_region 41 with fail
       refine HB.o.one (set_lk8 ..) (fun w5 hb => ?_)
       replace HB := hd' hb
       go_wp2_with (first | ((with_reducible refine lT 42 ?_); refine ldA HB.o.L.whole Tryz.underlying42 uad (h := ?_)) | ((with_reducible refine sT 42 ?_); refine stA (uai { l with mode := o.look.mode } (.slice pp l.content.pix.length cp) (.slice pf l.filt.nodes.length cf) (.slice pb l.back.nodes.length cb)) (HB.o.R.there 0 28 (by simp [uai])) uad uay (h := ?_)) | fail)
       rw [Hr.o]
       exact HB.o.fin rfl rfl rfl rfl (fun _ => rfl) (⟨(Hl.o.mod HB.o.m (fun _ _ _ h => h)).pix, (Hl.o.mod HB.o.m (fun _ _ _ h => h)).filt, (Hl.o.mod HB.o.m (fun _ _ _ h => h)).back⟩)
    ·have e8 : (o.kind == 8) = false := bqf.2 k8
     by_cases k9 : o.kind = 9
     ·have Hk := hd' k9
      rw [k9] at c0
      go_upto_region 24 with fail
      by_cases h1 : o.look.content.kind < 0
      ·have e1 : decide (o.look.content.kind < 0) = true := dqt h1
       have Hr := hd' ((ui0 checkS l o Hk.o).trans (if_pos (by omega)))
       have n9 : W2.cell? ⟨N, 9, none⟩ = some (iV o.look.content.kind) := HB.o.V.cell 9 rfl
       go_wp2_with (first | ((with_reducible refine lT 42 ?_); refine ldA HB.o.L.whole Tryz.underlying42 uad (h := ?_)) | ((with_reducible refine sT 42 ?_); refine stA (lkS l pp cp pf cf pb cb) (HB.o.R.there 0 28 (by simp [uai])) uad uay (h := ?_)) | fail)
       rw [Hr.o]
       exact HB.o.fin rfl rfl rfl rfl (fun h => by simp at h) (Hl.o.mod HB.o.m (fun _ _ _ h => h))
      ·have e1 : decide (o.look.content.kind < 0) = false := dqf h1
       by_cases h2 : 2 < o.look.content.kind
       ·have e2 : decide (2 < o.look.content.kind) = true := dqt h2
        have Hr := hd' ((ui0 checkS l o Hk.o).trans (if_pos (by omega)))
        have n9 : W2.cell? ⟨N, 9, none⟩ = some (iV o.look.content.kind) := HB.o.V.cell 9 rfl
        go_wp2_with (first | ((with_reducible refine lT 42 ?_); refine ldA HB.o.L.whole Tryz.underlying42 uad (h := ?_)) | ((with_reducible refine sT 42 ?_); refine stA (lkS l pp cp pf cf pb cb) (HB.o.R.there 0 28 (by simp [uai])) uad uay (h := ?_)) | fail)
        rw [Hr.o]
        exact HB.o.fin rfl rfl rfl rfl (fun h => by simp at h) (Hl.o.mod HB.o.m (fun _ _ _ h => h))
       ·have e2 : decide (2 < o.look.content.kind) = false := dqf h2
        have n9 : W2.cell? ⟨N, 9, none⟩ = some (iV o.look.content.kind) := HB.o.V.cell 9 rfl
        go_upto_region 26 with fail
        have HC : Hid (W2.rangeAt N 9 (uak o.look.content (.slice qp o.look.content.pix.length dp)).toList) := hd' (Blk.range (pre := [iV o.look.dx, iV o.look.dy, Value.bool o.look.hasClip, iV o.look.clip.x0, iV o.look.clip.y0, iV o.look.clip.x1, iV o.look.clip.y1, iV o.look.opacity, iV o.look.mode]) (post := [Value.bool o.look.hasFilt, Value.slice qf o.look.filt.nodes.length df, iV o.look.filt.out, Value.bool o.look.hasBack, Value.slice qb o.look.back.nodes.length db, iV o.look.back.out]) HB.o.V rfl rfl)
        go_wp2_with (first | ((with_reducible refine lT 37 ?_); refine ldA HC.o Tryz.underlying37 size_content (h := ?_)) | fail)
        refine (ufe _ o.look.content (.slice qp o.look.content.pix.length dp) ((Hv.o.mod HB.o.m (fun _ _ _ h => h)).pix.imp (fun _ _ _ => trivial)) Hnp.o (by omega) (by omega)).mono ?_
        rintro e w3 ⟨rfl, hm⟩
        replace HB := hd' (HB.o.up hm)
        cases hx : o.look.content.rightB
        ·skip
         have Hr := hd' (((ui0 checkS l o Hk.o).trans (if_neg (by omega))).trans (if_neg (by simp [hx])))
         go_wp2_with (first | ((with_reducible refine lT 42 ?_); refine ldA HB.o.L.whole Tryz.underlying42 uad (h := ?_)) | ((with_reducible refine sT 42 ?_); refine stA (lkS l pp cp pf cf pb cb) (HB.o.R.there 0 28 (by simp [uai])) uad uay (h := ?_)) | fail)
         rw [Hr.o]
         exact HB.o.fin rfl rfl rfl rfl (fun h => by simp at h) (Hl.o.mod HB.o.m (fun _ _ _ h => h))
        ·skip
         have Hr := hd' (((ui0 checkS l o Hk.o).trans (if_neg (by omega))).trans (if_pos hx))
         go_upto_region 28 with fail
         have HC : Hid (w3.rangeAt N 9 (uak o.look.content (.slice qp o.look.content.pix.length dp)).toList) := hd' (Blk.range (pre := [iV o.look.dx, iV o.look.dy, Value.bool o.look.hasClip, iV o.look.clip.x0, iV o.look.clip.y0, iV o.look.clip.x1, iV o.look.clip.y1, iV o.look.opacity, iV o.look.mode]) (post := [Value.bool o.look.hasFilt, Value.slice qf o.look.filt.nodes.length df, iV o.look.filt.out, Value.bool o.look.hasBack, Value.slice qb o.look.back.nodes.length db, iV o.look.back.out]) HB.o.V rfl rfl)
         go_wp2_with (first | ((with_reducible refine lT 37 ?_); refine ldA HC.o Tryz.underlying37 size_content (h := ?_)) | fail)
         refine (ujh G _ o.look.content (.slice qp o.look.content.pix.length dp) (fun b hb => Nat.lt_of_lt_of_le (HB.o.g b hb) HB.o.m.size) (Hv.o.mod HB.o.m (fun _ _ _ h => h)).pix (by omega) (by omega)).mono ?_
         rintro e w4 ⟨vo, rfl, hpo, hm⟩
         obtain ⟨ro, co, rfl⟩ := RowG.slice hpo
         have Hpo := hd' hpo
         replace HB := hd' (HB.o.up hm)
         go_upto_region 41 with (first | ((with_reducible refine sT 37 ?_); refine stA (uak o.look.content.own (.slice ro o.look.content.own.pix.length co)) (HB.o.L.there 9 13 (by simp [uai])) size_content (by simp [uak, Value.oneCell']) (h := ?_)) | fail)
         refine HB.o.many (set_lk9 ..) (fun w5 hb hS => ?_)
         have Hpo5 := hd' (RowG.mod Hpo.o hS (fun k hk hg e => by have := HB.o.g k hg; omega))
         replace HB := hd' hb
         go_wp2_with (first | ((with_reducible refine lT 42 ?_); refine ldA HB.o.L.whole Tryz.underlying42 uad (h := ?_)) | ((with_reducible refine sT 42 ?_); refine stA (uai { l with content := o.look.content.own } (.slice ro o.look.content.own.pix.length co) (.slice pf l.filt.nodes.length cf) (.slice pb l.back.nodes.length cb)) (HB.o.R.there 0 28 (by simp [uai])) uad uay (h := ?_)) | fail)
         rw [Hr.o]
         exact HB.o.fin rfl rfl rfl rfl (fun _ => rfl) (⟨Hpo5.o, (Hl.o.mod HB.o.m (fun _ _ _ h => h)).filt, (Hl.o.mod HB.o.m (fun _ _ _ h => h)).back⟩)
     ·have e9 : (o.kind == 9) = false := bqf.2 k9
      by_cases k10 : o.kind = 10
      ·have Hk := hd' k10
       rw [k10] at c0
       go_upto_region 30 with fail
       cases hc : o.look.hasFilt
       ·skip
        have Hr := hd' (lookP10f checkS l o Hk.o hc)
        have HVc : Hid (∀ W, Blk W N 42 (lkS o.look qp dp qf df qb db) → W.cell? ⟨N, 22, none⟩ = some (.bool false)) := hd' (fun W h => by have g : W.cell? ⟨N, 22, none⟩ = some (.bool o.look.hasFilt) := h.cell 22 rfl; rw [hc] at g; exact g)
        have n22 : W2.cell? ⟨N, 22, none⟩ = some (.bool false) := HVc.o _ HB.o.V
        have o1 : W2.cell? ⟨w.heap.size, 22, none⟩ = some (.bool l.hasFilt) := HB.o.L.cell 22 rfl
        have f1 := HB.o.L.frozen 22
        go_upto_region 31 with fail
        refine HB.o.one (uio ..) (fun w5 hb => ?_)
        replace HB := hd' hb
        go_upto_region 32 with (first | ((with_reducible refine sT 40 ?_); refine stA (#[Value.slice none 0 0, iV 0]) (HB.o.L.there 23 2 (by simp [uai])) (show (Tryz.prog.info? 40).map (·.size) = some 2 by kernel_rfl) (by simp [Value.oneCell']) (h := ?_)) | fail)
        refine HB.o.many (ugq ..) (fun w6 hb _ => ?_)
        replace HB := hd' hb
        have n22 : w6.cell? ⟨N, 22, none⟩ = some (.bool false) := HVc.o _ HB.o.V
        go_upto_region 41 with fail
        go_wp2_with (first | ((with_reducible refine lT 42 ?_); refine ldA HB.o.L.whole Tryz.underlying42 uad (h := ?_)) | ((with_reducible refine sT 42 ?_); refine stA (uai { l with hasFilt := false, filt := Gr.zero } (.slice pp l.content.pix.length cp) nlS (.slice pb l.back.nodes.length cb)) (HB.o.R.there 0 28 (by simp [uai])) uad uay (h := ?_)) | fail)
        rw [Hr.o]
        exact HB.o.fin rfl rfl rfl rfl (fun _ => rfl) (⟨(Hl.o.mod HB.o.m (fun _ _ _ h => h)).pix, NodesR.nil _ _, (Hl.o.mod HB.o.m (fun _ _ _ h => h)).back⟩)
       ·skip
        have Hr := hd' (lookP10t checkS l o Hk.o hc)
        have HVc : Hid (∀ W, Blk W N 42 (lkS o.look qp dp qf df qb db) → W.cell? ⟨N, 22, none⟩ = some (.bool true)) := hd' (fun W h => by have g : W.cell? ⟨N, 22, none⟩ = some (.bool o.look.hasFilt) := h.cell 22 rfl; rw [hc] at g; exact g)
        have n22 : W2.cell? ⟨N, 22, none⟩ = some (.bool true) := HVc.o _ HB.o.V
        have o1 : W2.cell? ⟨w.heap.size, 22, none⟩ = some (.bool l.hasFilt) := HB.o.L.cell 22 rfl
        have f1 := HB.o.L.frozen 22
        go_upto_region 31 with fail
        refine HB.o.one (uio ..) (fun w5 hb => ?_)
        replace HB := hd' hb
        go_upto_region 32 with (first | ((with_reducible refine sT 40 ?_); refine stA (#[Value.slice none 0 0, iV 0]) (HB.o.L.there 23 2 (by simp [uai])) (show (Tryz.prog.info? 40).map (·.size) = some 2 by kernel_rfl) (by simp [Value.oneCell']) (h := ?_)) | fail)
        refine HB.o.many (ugq ..) (fun w6 hb _ => ?_)
        replace HB := hd' hb
        have n22 : w6.cell? ⟨N, 22, none⟩ = some (.bool true) := HVc.o _ HB.o.V
        go_upto_region 33 with fail
        have n23 : w6.cell? ⟨N, 23, none⟩ = some (.slice qf o.look.filt.nodes.length df) := HB.o.V.cell 23 rfl
        have n24 : w6.cell? ⟨N, 24, none⟩ = some (iV o.look.filt.out) := HB.o.V.cell 24 rfl
        go_upto_region 34 with (first | ((with_reducible refine sT 40 ?_); refine stA (#[Value.slice qf o.look.filt.nodes.length df, iV o.look.filt.out]) (HB.o.L.there 23 2 (by simp [uai])) (show (Tryz.prog.info? 40).map (·.size) = some 2 by kernel_rfl) (by simp [Value.oneCell']) (h := ?_)) | fail)
        refine HB.o.many (uin ..) (fun w7 hb _ => ?_)
        replace HB := hd' hb
        have HLw := hd' HB.o.L.whole
        have HGr : Hid (w7.rangeAt N 23 (#[Value.slice qf o.look.filt.nodes.length df, iV o.look.filt.out] : Array Value).toList) := hd' (Blk.range (pre := [iV o.look.dx, iV o.look.dy, Value.bool o.look.hasClip, iV o.look.clip.x0, iV o.look.clip.y0, iV o.look.clip.x1, iV o.look.clip.y1, iV o.look.opacity, iV o.look.mode, iV o.look.content.kind, iV o.look.content.box.x0, iV o.look.content.box.y0, iV o.look.content.box.x1, iV o.look.content.box.y1, Value.int .u8 (o.look.content.px.p0 : Nat), Value.int .u8 (o.look.content.px.p1 : Nat), Value.int .u8 (o.look.content.px.p2 : Nat), Value.int .u8 (o.look.content.px.p3 : Nat), iV o.look.content.w, iV o.look.content.h, iV o.look.content.turn, Value.slice qp o.look.content.pix.length dp, Value.bool o.look.hasFilt]) (post := [Value.bool o.look.hasBack, Value.slice qb o.look.back.nodes.length db, iV o.look.back.out]) HB.o.V rfl rfl)
        have HQ : Hid (LookR G w7 { l with hasFilt := true, filt := o.look.filt } (.slice pp l.content.pix.length cp) (.slice qf o.look.filt.nodes.length df) (.slice pb l.back.nodes.length cb)) := hd' (⟨(Hl.o.mod HB.o.m (fun _ _ _ h => h)).pix, (Hv.o.mod HB.o.m (fun _ _ _ h => h)).filt, (Hl.o.mod HB.o.m (fun _ _ _ h => h)).back⟩)
        refine wp_region_held_drew (S := fun w' => Gou.Mod (fun k => k = w.heap.size + 1 + 1) w7 w') (by kernel_rfl) (Gou.Mod.drew _ _) (fun hH => ?_)
        refine tkR 0 (.agg (uai { l with hasFilt := true, filt := o.look.filt } (.slice pp l.content.pix.length cp) (.slice qf o.look.filt.nodes.length df) (.slice pb l.back.nodes.length cb))) HLw.o (fun h => by have h : w.heap.size = w.heap.size + 1 + 1 := h; omega) Tryz.underlying42 uad hH (h := ?_)
        refine tk 1 (.pointer (some ⟨N, 23, none⟩)) hH (h := ?_)
        refine wpAnyH_take (i := 2) (oi := ({ dst := some 111, op := Op.load 40 (Operand.tmp 110), type := 40, pos := "ref.go:187", after := #[{ on := 1, ground := Ground.data }], guard := none } : Oper)) (v := .agg #[Value.slice qf o.look.filt.nodes.length df, iV o.look.filt.out]) rfl (by kernel_rfl) (by kernel_rfl) (by kernel_rfl) (fun _ _ _ h => h) (yieldsIf_load_mid (by rfl) 40 _ rfl N (23) rfl ((#[Value.slice qf o.look.filt.nodes.length df, iV o.look.filt.out] : Array Value).toList) _ (fun w' hSw => uax HGr.o hSw (fun h => by have h : N = w.heap.size + 1 + 1 := h; have := HB.o.nz; omega)) Tryz.underlying40 rfl (show (Tryz.prog.info? 40).map (·.size) = some 2 by kernel_rfl)) hH ?_
        refine rd 3 (h := fun K hK => ?_)
        go_simp
        refine (udq _ _ o.look.filt (⟨_, rfl, NodesR.at_ ((Hv.o.mod (HB.o.m.trans' (Gou.Mod.drew _ _)) (fun _ _ _ h => h)).filt)⟩) Hwffilt.o Hfewfilt.o (Ht.o.below ((HB.o.m.trans' (Gou.Mod.drew _ _)).below (Nat.le_refl _) (fun _ _ h => h)))).mono ?_
        rintro e w8 ⟨rfl, hb8⟩
        have hm8 : Gou.Mod (fun _ => False) w7.drew w8 := Gou.Mod.of_below hb8 _
        have M := hd' (hH.trans' (hm8.imp (fun _ _ h => h.elim)))
        have HM8 := hd' ((Gou.Mod.drew (fun _ => False) w7).trans' hm8)
        refine hK _ _ M.o (fun hH => ?_)
        refine rd 4 (h := fun K hK => ?_)
        refine wp_store_mid 42 _ _ rfl (w.heap.size + 1 + 1) 0 (uai { l with hasFilt := true, filt := o.look.filt } (.slice pp l.content.pix.length cp) (.slice qf o.look.filt.nodes.length df) (.slice pb l.back.nodes.length cb)) rfl rfl ((HB.o.R.up HM8.o).there 0 28 (by simp [uai])) uad uay ?_
        have HS := hd' (Blk.setMod w8 (w.heap.size + 1 + 1) 0 (uai { l with hasFilt := true, filt := o.look.filt } (.slice pp l.content.pix.length cp) (.slice qf o.look.filt.nodes.length df) (.slice pb l.back.nodes.length cb)).toList)
        have M := hd' (hH.trans' HS.o)
        refine hK _ _ M.o (fun hH => ?_)
        refine tk 5 (iV (checkS o.look.filt)) hH (h := ?_)
        have MS := hd' hH
        refine wpAnyH_done (by kernel_rfl) ?_ _
        go_wp2_with fail
        have HR9 := (HB.o.R.up HM8.o).setAll (uai { l with hasFilt := true, filt := o.look.filt } (.slice pp l.content.pix.length cp) (.slice qf o.look.filt.nodes.length df) (.slice pb l.back.nodes.length cb)) rfl
        refine bpr (uam rfl (ResAt.of rfl HR9 Tryz.underlying42 rfl uad)) rfl ?_
        unfold LookQ
        rw [Hr.o]
        exact ⟨_, _, _, _, rfl, fun _ => rfl, (HQ.o.mod HM8.o (fun _ _ _ h => h)).mod HS.o (fun k hk hg e => by have := HB.o.g k hg; omega), (HB.o.m.trans' HM8.o).trans HS.o (fun k hk e => by omega)⟩
      ·have e10 : (o.kind == 10) = false := bqf.2 k10
       by_cases k11 : o.kind = 11
       ·have Hk := hd' k11
        rw [k11] at c0
        go_upto_region 36 with fail
        cases hc : o.look.hasBack
        ·skip
         have Hr := hd' (lookP11f checkS l o Hk.o hc)
         have HVc : Hid (∀ W, Blk W N 42 (lkS o.look qp dp qf df qb db) → W.cell? ⟨N, 25, none⟩ = some (.bool false)) := hd' (fun W h => by have g : W.cell? ⟨N, 25, none⟩ = some (.bool o.look.hasBack) := h.cell 25 rfl; rw [hc] at g; exact g)
         have n25 : W2.cell? ⟨N, 25, none⟩ = some (.bool false) := HVc.o _ HB.o.V
         have o1 : W2.cell? ⟨w.heap.size, 25, none⟩ = some (.bool l.hasBack) := HB.o.L.cell 25 rfl
         have f1 := HB.o.L.frozen 25
         go_upto_region 37 with fail
         refine HB.o.one (uim ..) (fun w5 hb => ?_)
         replace HB := hd' hb
         go_upto_region 38 with (first | ((with_reducible refine sT 40 ?_); refine stA (#[Value.slice none 0 0, iV 0]) (HB.o.L.there 26 2 (by simp [uai])) (show (Tryz.prog.info? 40).map (·.size) = some 2 by kernel_rfl) (by simp [Value.oneCell']) (h := ?_)) | fail)
         refine HB.o.many (ugp ..) (fun w6 hb _ => ?_)
         replace HB := hd' hb
         have n25 : w6.cell? ⟨N, 25, none⟩ = some (.bool false) := HVc.o _ HB.o.V
         go_upto_region 41 with fail
         go_wp2_with (first | ((with_reducible refine lT 42 ?_); refine ldA HB.o.L.whole Tryz.underlying42 uad (h := ?_)) | ((with_reducible refine sT 42 ?_); refine stA (uai { l with hasBack := false, back := Gr.zero } (.slice pp l.content.pix.length cp) (.slice pf l.filt.nodes.length cf) nlS) (HB.o.R.there 0 28 (by simp [uai])) uad uay (h := ?_)) | fail)
         rw [Hr.o]
         exact HB.o.fin rfl rfl rfl rfl (fun _ => rfl) (⟨(Hl.o.mod HB.o.m (fun _ _ _ h => h)).pix, (Hl.o.mod HB.o.m (fun _ _ _ h => h)).filt, NodesR.nil _ _⟩)
        ·skip
         have Hr := hd' (lookP11t checkS l o Hk.o hc)
         have HVc : Hid (∀ W, Blk W N 42 (lkS o.look qp dp qf df qb db) → W.cell? ⟨N, 25, none⟩ = some (.bool true)) := hd' (fun W h => by have g : W.cell? ⟨N, 25, none⟩ = some (.bool o.look.hasBack) := h.cell 25 rfl; rw [hc] at g; exact g)
         have n25 : W2.cell? ⟨N, 25, none⟩ = some (.bool true) := HVc.o _ HB.o.V
         have o1 : W2.cell? ⟨w.heap.size, 25, none⟩ = some (.bool l.hasBack) := HB.o.L.cell 25 rfl
         have f1 := HB.o.L.frozen 25
         go_upto_region 37 with fail
         refine HB.o.one (uim ..) (fun w5 hb => ?_)
         replace HB := hd' hb
         go_upto_region 38 with (first | ((with_reducible refine sT 40 ?_); refine stA (#[Value.slice none 0 0, iV 0]) (HB.o.L.there 26 2 (by simp [uai])) (show (Tryz.prog.info? 40).map (·.size) = some 2 by kernel_rfl) (by simp [Value.oneCell']) (h := ?_)) | fail)
         refine HB.o.many (ugp ..) (fun w6 hb _ => ?_)
         replace HB := hd' hb
         have n25 : w6.cell? ⟨N, 25, none⟩ = some (.bool true) := HVc.o _ HB.o.V
         go_upto_region 39 with fail
         have n26 : w6.cell? ⟨N, 26, none⟩ = some (.slice qb o.look.back.nodes.length db) := HB.o.V.cell 26 rfl
         have n27 : w6.cell? ⟨N, 27, none⟩ = some (iV o.look.back.out) := HB.o.V.cell 27 rfl
         go_upto_region 40 with (first | ((with_reducible refine sT 40 ?_); refine stA (#[Value.slice qb o.look.back.nodes.length db, iV o.look.back.out]) (HB.o.L.there 26 2 (by simp [uai])) (show (Tryz.prog.info? 40).map (·.size) = some 2 by kernel_rfl) (by simp [Value.oneCell']) (h := ?_)) | fail)
         refine HB.o.many (uil ..) (fun w7 hb _ => ?_)
         replace HB := hd' hb
         have HLw := hd' HB.o.L.whole
         have HGr : Hid (w7.rangeAt N 26 (#[Value.slice qb o.look.back.nodes.length db, iV o.look.back.out] : Array Value).toList) := hd' (Blk.range (pre := [iV o.look.dx, iV o.look.dy, Value.bool o.look.hasClip, iV o.look.clip.x0, iV o.look.clip.y0, iV o.look.clip.x1, iV o.look.clip.y1, iV o.look.opacity, iV o.look.mode, iV o.look.content.kind, iV o.look.content.box.x0, iV o.look.content.box.y0, iV o.look.content.box.x1, iV o.look.content.box.y1, Value.int .u8 (o.look.content.px.p0 : Nat), Value.int .u8 (o.look.content.px.p1 : Nat), Value.int .u8 (o.look.content.px.p2 : Nat), Value.int .u8 (o.look.content.px.p3 : Nat), iV o.look.content.w, iV o.look.content.h, iV o.look.content.turn, Value.slice qp o.look.content.pix.length dp, Value.bool o.look.hasFilt, Value.slice qf o.look.filt.nodes.length df, iV o.look.filt.out, Value.bool o.look.hasBack]) (post := []) HB.o.V rfl rfl)
         have HQ : Hid (LookR G w7 { l with hasBack := true, back := o.look.back } (.slice pp l.content.pix.length cp) (.slice pf l.filt.nodes.length cf) (.slice qb o.look.back.nodes.length db)) := hd' (⟨(Hl.o.mod HB.o.m (fun _ _ _ h => h)).pix, (Hl.o.mod HB.o.m (fun _ _ _ h => h)).filt, (Hv.o.mod HB.o.m (fun _ _ _ h => h)).back⟩)
         refine wp_region_held_drew (S := fun w' => Gou.Mod (fun k => k = w.heap.size + 1 + 1) w7 w') (by kernel_rfl) (Gou.Mod.drew _ _) (fun hH => ?_)
         refine tkR 0 (.agg (uai { l with hasBack := true, back := o.look.back } (.slice pp l.content.pix.length cp) (.slice pf l.filt.nodes.length cf) (.slice qb o.look.back.nodes.length db))) HLw.o (fun h => by have h : w.heap.size = w.heap.size + 1 + 1 := h; omega) Tryz.underlying42 uad hH (h := ?_)
         refine tk 1 (.pointer (some ⟨N, 26, none⟩)) hH (h := ?_)
         refine wpAnyH_take (i := 2) (oi := ({ dst := some 127, op := Op.load 40 (Operand.tmp 126), type := 40, pos := "ref.go:194", after := #[{ on := 1, ground := Ground.data }], guard := none } : Oper)) (v := .agg #[Value.slice qb o.look.back.nodes.length db, iV o.look.back.out]) rfl (by kernel_rfl) (by kernel_rfl) (by kernel_rfl) (fun _ _ _ h => h) (yieldsIf_load_mid (by rfl) 40 _ rfl N (26) rfl ((#[Value.slice qb o.look.back.nodes.length db, iV o.look.back.out] : Array Value).toList) _ (fun w' hSw => uax HGr.o hSw (fun h => by have h : N = w.heap.size + 1 + 1 := h; have := HB.o.nz; omega)) Tryz.underlying40 rfl (show (Tryz.prog.info? 40).map (·.size) = some 2 by kernel_rfl)) hH ?_
         refine rd 3 (h := fun K hK => ?_)
         go_simp
         refine (udq _ _ o.look.back (⟨_, rfl, NodesR.at_ ((Hv.o.mod (HB.o.m.trans' (Gou.Mod.drew _ _)) (fun _ _ _ h => h)).back)⟩) Hwfback.o Hfewback.o (Ht.o.below ((HB.o.m.trans' (Gou.Mod.drew _ _)).below (Nat.le_refl _) (fun _ _ h => h)))).mono ?_
         rintro e w8 ⟨rfl, hb8⟩
         have hm8 : Gou.Mod (fun _ => False) w7.drew w8 := Gou.Mod.of_below hb8 _
         have M := hd' (hH.trans' (hm8.imp (fun _ _ h => h.elim)))
         have HM8 := hd' ((Gou.Mod.drew (fun _ => False) w7).trans' hm8)
         refine hK _ _ M.o (fun hH => ?_)
         refine rd 4 (h := fun K hK => ?_)
         refine wp_store_mid 42 _ _ rfl (w.heap.size + 1 + 1) 0 (uai { l with hasBack := true, back := o.look.back } (.slice pp l.content.pix.length cp) (.slice pf l.filt.nodes.length cf) (.slice qb o.look.back.nodes.length db)) rfl rfl ((HB.o.R.up HM8.o).there 0 28 (by simp [uai])) uad uay ?_
         have HS := hd' (Blk.setMod w8 (w.heap.size + 1 + 1) 0 (uai { l with hasBack := true, back := o.look.back } (.slice pp l.content.pix.length cp) (.slice pf l.filt.nodes.length cf) (.slice qb o.look.back.nodes.length db)).toList)
         have M := hd' (hH.trans' HS.o)
         refine hK _ _ M.o (fun hH => ?_)
         refine tk 5 (iV (checkS o.look.back)) hH (h := ?_)
         have MS := hd' hH
         refine wpAnyH_done (by kernel_rfl) ?_ _
         go_wp2_with fail
         have HR9 := (HB.o.R.up HM8.o).setAll (uai { l with hasBack := true, back := o.look.back } (.slice pp l.content.pix.length cp) (.slice pf l.filt.nodes.length cf) (.slice qb o.look.back.nodes.length db)) rfl
         refine bpr (uam rfl (ResAt.of rfl HR9 Tryz.underlying42 rfl uad)) rfl ?_
         unfold LookQ
         rw [Hr.o]
         exact ⟨_, _, _, _, rfl, fun _ => rfl, (HQ.o.mod HM8.o (fun _ _ _ h => h)).mod HS.o (fun k hk hg e => by have := HB.o.g k hg; omega), (HB.o.m.trans' HM8.o).trans HS.o (fun k hk e => by omega)⟩
       ·have e11 : (o.kind == 11) = false := bqf.2 k11
        have Hr := hd' (lookP0 checkS l o ⟨k5, k6, k7, k8, k9, k10, k11⟩)
        go_upto_region 41 with fail
        go_wp2_with (first | ((with_reducible refine lT 42 ?_); refine ldA HB.o.L.whole Tryz.underlying42 uad (h := ?_)) | ((with_reducible refine sT 42 ?_); refine stA (lkS l pp cp pf cf pb cb) (HB.o.R.there 0 28 (by simp [uai])) uad uay (h := ?_)) | fail)
        rw [Hr.o]
        exact HB.o.fin rfl rfl rfl rfl (fun _ => rfl) (Hl.o.mod HB.o.m (fun _ _ _ h => h))
end Go.Proofs.YtpbmfalokongfaaGreatDoor
namespace Go.Gou
open Go.RowKit
theorem pxs_get (ps : List Pxl) (i : Nat) (h : i < ps.length) : (pxs ps)[i * 4]? = some (.int .u8 (ps[i].p0 : Nat)) ∧ (pxs ps)[i * 4 + 1]? = some (.int .u8 (ps[i].p1 : Nat)) ∧ (pxs ps)[i * 4 + 2]? = some (.int .u8 (ps[i].p2 : Nat)) ∧ (pxs ps)[i * 4 + 3]? = some (.int .u8 (ps[i].p3 : Nat)) := by
 induction ps generalizing i with
 | nil => simp at h
 | cons p r ih =>
  have e : pxs (p :: r) = p.cells ++ pxs r := by simp [pxs]
  rw [e]
  have hl : p.cells.length = 4 := rfl
  cases i with
  | zero =>
   refine ⟨?_, ?_, ?_, ?_⟩ <;> (rw [lgL (by omega)]; rfl)
  | succ i =>
   have := ih i (by simpa using h)
   obtain ⟨h0, h1, h2, h3⟩ := this
   have hk : ∀ j, (p.cells ++ pxs r)[(i + 1) * 4 + j]? = (pxs r)[i * 4 + j]? := fun j => by
    rw [lgR (by omega), hl]
    congr 1
    omega
   refine ⟨?_, ?_, ?_, ?_⟩
   ·rw [show (i + 1) * 4 = (i + 1) * 4 + 0 from rfl, hk]; exact h0
   ·rw [hk]; exact h1
   ·rw [hk]; exact h2
   ·rw [hk]; exact h3
theorem PixR.cells {G : Nat → Prop} {w : World} {p : Option Addr} {c n : Nat} {ps : List Pxl} (h : PixR G w (.slice p n c) ps) (h0 : 0 < ps.length) :
 n = ps.length ∧ ∃ b o, p = some ⟨b, o, none⟩ ∧ b < w.heap.size ∧ G b ∧ ∀ i, (hi : i < ps.length) → w.cell? ⟨b, o + i * 4, none⟩ = some (.int .u8 (ps[i].p0 : Nat)) ∧ w.cell? ⟨b, o + i * 4 + 1, none⟩ = some (.int .u8 (ps[i].p1 : Nat)) ∧
     w.cell? ⟨b, o + i * 4 + 2, none⟩ = some (.int .u8 (ps[i].p2 : Nat)) ∧ w.cell? ⟨b, o + i * 4 + 3, none⟩ = some (.int .u8 (ps[i].p3 : Nat)) := by
 obtain ⟨hl, p', c', e, hcap, h⟩ := h
 simp only [Value.slice.injEq] at e
 obtain ⟨rfl, rfl, rfl⟩ := e
 rcases h with h | ⟨b, o, rfl, hb, hG, hc⟩
 ·omega
 ·refine ⟨rfl, b, o, rfl, hb, hG, fun i hi => ?_⟩
  obtain ⟨h0, h1, h2, h3⟩ := pxs_get ps i hi
  refine ⟨hc _ _ h0, ?_, ?_, ?_⟩
  ·have := hc _ _ h1; rwa [← Nat.add_assoc] at this
  ·have := hc _ _ h2; rwa [← Nat.add_assoc] at this
  ·have := hc _ _ h3; rwa [← Nat.add_assoc] at this
theorem uci {α : Type} [DecidableEq α] {xs ys : List α} {i : Nat} (hx : i < xs.length) (hy : i < ys.length) (h : xs.take i = ys.take i) (he : xs[i] = ys[i]) : xs.take (i + 1) = ys.take (i + 1) := by
 rw [List.take_add_one, List.take_add_one, h, lgE hx, lgE hy, he]
theorem uet {α : Type} {xs ys : List α} {i : Nat} (hx : i < xs.length) (hy : i < ys.length) (he : xs[i] ≠ ys[i]) : xs ≠ ys := fun h => by subst h; exact he rfl
end Go.Gou
namespace Go.Proofs.YtpbmfalokongfaaGreatDoor
open Go.RowKit Go.Gou
set_option maxRecDepth 100000
theorem uir (a b : Rc) (w : World) : (binOp .neq 32 (.agg #[iV a.x0, iV a.y0, iV a.x1, iV a.y1]) (.agg #[iV b.x0, iV b.y0, iV b.x1, iV b.y1])).run Tryz.prog w = .ok (.bool (!decide (a = b))) w := by
 simp only [binOp, Sem.run_bind, uis, Result.andThen_ok, Sem.run_pure, rc_eq]
theorem uit (a b : Pxl) (w : World) : (binOp .neq 34 (.agg #[.int .u8 (a.p0 : Nat), .int .u8 (a.p1 : Nat), .int .u8 (a.p2 : Nat), .int .u8 (a.p3 : Nat)]) (.agg #[.int .u8 (b.p0 : Nat), .int .u8 (b.p1 : Nat), .int .u8 (b.p2 : Nat), .int .u8 (b.p3 : Nat)])).run Tryz.prog w = .ok (.bool (!decide (a = b))) w := by
 rw [px_neq]
 simp only [px_eq]
theorem contR_any (w : World) (G1 G2 : Nat → Prop) (p1 p2 : Option Addr) (k1 k2 : Nat) (c e : Ct) (hx : PixR G1 w (.slice p1 c.pix.length k1) c.pix) (hy : PixR G2 w (.slice p2 e.pix.length k2) e.pix) (l1 : c.pix.length ≤ 1000000000) (l2 : e.pix.length ≤ 1000000000) :
 Calls Tryz.prog 57 #[.agg (uak c (.slice p1 c.pix.length k1)), .agg (uak e (.slice p2 e.pix.length k2))] w fun r w' => r = .returned (.bool (decide (c = e))) ∧ Gou.Mod (fun _ => False) w w' := by
 obtain ⟨b0, b1, bm⟩ := uaw w 37 37 (uak c (.slice p1 c.pix.length k1)) (uak e (.slice p2 e.pix.length k2))
 have HA := hd' b0
 have HB := hd' b1
 have HM := hd' bm
 clear b0 b1 bm
 go_enter Tryz.func57, Tryz.ntmps57
 go_upto_region 1 with fail
 show Code.wp _ _ _ _ ((w.alloc (.cells (uak c (.slice p1 c.pix.length k1)) 37)).alloc (.cells (uak e (.slice p2 e.pix.length k2)) 37))
 generalize ((w.alloc (.cells (uak c (.slice p1 c.pix.length k1)) 37)).alloc (.cells (uak e (.slice p2 e.pix.length k2)) 37)) = W0 at *
 have Hx : Hid (PixR G1 W0 (.slice p1 c.pix.length k1) c.pix) := hd' (RowG.mod hx HM.o (fun _ _ _ h => h))
 have Hy : Hid (PixR G2 W0 (.slice p2 e.pix.length k2) e.pix) := hd' (RowG.mod hy HM.o (fun _ _ _ h => h))
 clear hx hy
 have a0 : W0.cell? ⟨w.heap.size, 0, none⟩ = some (iV c.kind) := HA.o.cell 0 rfl
 have b0 : W0.cell? ⟨w.heap.size + 1, 0, none⟩ = some (iV e.kind) := HB.o.cell 0 rfl
 have a1 : W0.cell? ⟨w.heap.size, 1, none⟩ = some (iV c.box.x0) := HA.o.cell 1 rfl
 have b1 : W0.cell? ⟨w.heap.size + 1, 1, none⟩ = some (iV e.box.x0) := HB.o.cell 1 rfl
 have a2 : W0.cell? ⟨w.heap.size, 2, none⟩ = some (iV c.box.y0) := HA.o.cell 2 rfl
 have b2 : W0.cell? ⟨w.heap.size + 1, 2, none⟩ = some (iV e.box.y0) := HB.o.cell 2 rfl
 have a3 : W0.cell? ⟨w.heap.size, 3, none⟩ = some (iV c.box.x1) := HA.o.cell 3 rfl
 have b3 : W0.cell? ⟨w.heap.size + 1, 3, none⟩ = some (iV e.box.x1) := HB.o.cell 3 rfl
 have a4 : W0.cell? ⟨w.heap.size, 4, none⟩ = some (iV c.box.y1) := HA.o.cell 4 rfl
 have b4 : W0.cell? ⟨w.heap.size + 1, 4, none⟩ = some (iV e.box.y1) := HB.o.cell 4 rfl
 have a5 : W0.cell? ⟨w.heap.size, 5, none⟩ = some (.int .u8 (c.px.p0 : Nat)) := HA.o.cell 5 rfl
 have b5 : W0.cell? ⟨w.heap.size + 1, 5, none⟩ = some (.int .u8 (e.px.p0 : Nat)) := HB.o.cell 5 rfl
 have a6 : W0.cell? ⟨w.heap.size, 6, none⟩ = some (.int .u8 (c.px.p1 : Nat)) := HA.o.cell 6 rfl
 have b6 : W0.cell? ⟨w.heap.size + 1, 6, none⟩ = some (.int .u8 (e.px.p1 : Nat)) := HB.o.cell 6 rfl
 have a7 : W0.cell? ⟨w.heap.size, 7, none⟩ = some (.int .u8 (c.px.p2 : Nat)) := HA.o.cell 7 rfl
 have b7 : W0.cell? ⟨w.heap.size + 1, 7, none⟩ = some (.int .u8 (e.px.p2 : Nat)) := HB.o.cell 7 rfl
 have a8 : W0.cell? ⟨w.heap.size, 8, none⟩ = some (.int .u8 (c.px.p3 : Nat)) := HA.o.cell 8 rfl
 have b8 : W0.cell? ⟨w.heap.size + 1, 8, none⟩ = some (.int .u8 (e.px.p3 : Nat)) := HB.o.cell 8 rfl
 have a9 : W0.cell? ⟨w.heap.size, 9, none⟩ = some (iV c.w) := HA.o.cell 9 rfl
 have b9 : W0.cell? ⟨w.heap.size + 1, 9, none⟩ = some (iV e.w) := HB.o.cell 9 rfl
 have a10 : W0.cell? ⟨w.heap.size, 10, none⟩ = some (iV c.h) := HA.o.cell 10 rfl
 have b10 : W0.cell? ⟨w.heap.size + 1, 10, none⟩ = some (iV e.h) := HB.o.cell 10 rfl
 have a11 : W0.cell? ⟨w.heap.size, 11, none⟩ = some (iV c.turn) := HA.o.cell 11 rfl
 have b11 : W0.cell? ⟨w.heap.size + 1, 11, none⟩ = some (iV e.turn) := HB.o.cell 11 rfl
 have a12 : W0.cell? ⟨w.heap.size, 12, none⟩ = some (.slice p1 c.pix.length k1) := HA.o.cell 12 rfl
 have b12 : W0.cell? ⟨w.heap.size + 1, 12, none⟩ = some (.slice p2 e.pix.length k2) := HB.o.cell 12 rfl
 by_cases h_kind : c.kind = e.kind
 case neg =>
  have q_kind : (c.kind != e.kind) = true := by simp [h_kind]
  have Hq : Hid (decide (c = e) = false) := hd' (by simp [uhd, h_kind])
  clear h_kind
  go_wp2_with fail
  go_ret
  exact ⟨by rw [Hq.o]; rfl, HM.o⟩
 have q_kind : (c.kind != e.kind) = false := by simp [h_kind]
 have I_kind := hd' h_kind
 clear h_kind
 by_cases h_box : c.box = e.box
 case neg =>
  have q_box : ∀ w : World, (binOp .neq 32 (.agg #[iV c.box.x0, iV c.box.y0, iV c.box.x1, iV c.box.y1]) (.agg #[iV e.box.x0, iV e.box.y0, iV e.box.x1, iV e.box.y1])).run Tryz.prog w = .ok (.bool true) w := fun w => (uir c.box e.box w).trans (by simp [h_box])
  have Hq : Hid (decide (c = e) = false) := hd' (by simp [uhd, h_box])
  clear h_box
  go_wp2_with fail
  go_ret
  exact ⟨by rw [Hq.o]; rfl, HM.o⟩
 have q_box : ∀ w : World, (binOp .neq 32 (.agg #[iV c.box.x0, iV c.box.y0, iV c.box.x1, iV c.box.y1]) (.agg #[iV e.box.x0, iV e.box.y0, iV e.box.x1, iV e.box.y1])).run Tryz.prog w = .ok (.bool false) w := fun w => (uir c.box e.box w).trans (by simp [h_box])
 have I_box := hd' h_box
 clear h_box
 by_cases h_px : c.px = e.px
 case neg =>
  have q_px : ∀ w : World, (binOp .neq 34 (.agg #[.int .u8 (c.px.p0 : Nat), .int .u8 (c.px.p1 : Nat), .int .u8 (c.px.p2 : Nat), .int .u8 (c.px.p3 : Nat)]) (.agg #[.int .u8 (e.px.p0 : Nat), .int .u8 (e.px.p1 : Nat), .int .u8 (e.px.p2 : Nat), .int .u8 (e.px.p3 : Nat)])).run Tryz.prog w = .ok (.bool true) w := fun w => (uit c.px e.px w).trans (by simp [h_px])
  have Hq : Hid (decide (c = e) = false) := hd' (by simp [uhd, h_px])
  clear h_px
  go_wp2_with fail
  go_ret
  exact ⟨by rw [Hq.o]; rfl, HM.o⟩
 have q_px : ∀ w : World, (binOp .neq 34 (.agg #[.int .u8 (c.px.p0 : Nat), .int .u8 (c.px.p1 : Nat), .int .u8 (c.px.p2 : Nat), .int .u8 (c.px.p3 : Nat)]) (.agg #[.int .u8 (e.px.p0 : Nat), .int .u8 (e.px.p1 : Nat), .int .u8 (e.px.p2 : Nat), .int .u8 (e.px.p3 : Nat)])).run Tryz.prog w = .ok (.bool false) w := fun w => (uit c.px e.px w).trans (by simp [h_px])
 have I_px := hd' h_px
 clear h_px
 by_cases h_w : c.w = e.w
 case neg =>
  have q_w : (c.w != e.w) = true := by simp [h_w]
  have Hq : Hid (decide (c = e) = false) := hd' (by simp [uhd, h_w])
  clear h_w
  go_wp2_with fail
  go_ret
  exact ⟨by rw [Hq.o]; rfl, HM.o⟩
 have q_w : (c.w != e.w) = false := by simp [h_w]
 have I_w := hd' h_w
 clear h_w
 by_cases h_h : c.h = e.h
 case neg =>
  have q_h : (c.h != e.h) = true := by simp [h_h]
  have Hq : Hid (decide (c = e) = false) := hd' (by simp [uhd, h_h])
  clear h_h
  go_wp2_with fail
  go_ret
  exact ⟨by rw [Hq.o]; rfl, HM.o⟩
 have q_h : (c.h != e.h) = false := by simp [h_h]
 have I_h := hd' h_h
 clear h_h
 by_cases h_turn : c.turn = e.turn
 case neg =>
  have q_turn : (c.turn != e.turn) = true := by simp [h_turn]
  have Hq : Hid (decide (c = e) = false) := hd' (by simp [uhd, h_turn])
  clear h_turn
  go_wp2_with fail
  go_ret
  exact ⟨by rw [Hq.o]; rfl, HM.o⟩
 have q_turn : (c.turn != e.turn) = false := by simp [h_turn]
 have I_turn := hd' h_turn
 clear h_turn
 by_cases hlen : c.pix.length = e.pix.length
 case neg =>
  have q_len : ((c.pix.length : Int) != (e.pix.length : Int)) = true := by simp; omega
  have Hq : Hid (decide (c = e) = false) := hd' (dqf fun h => hlen (by rw [h]))
  clear hlen
  go_wp2_with fail
  go_ret
  exact ⟨by rw [Hq.o]; rfl, HM.o⟩
 have q_len : ((c.pix.length : Int) != (e.pix.length : Int)) = false := by simp [hlen]
 have Hlen := hd' hlen
 clear hlen
 go_wp2_with fail
 clear q_kind q_box q_px q_w q_h q_turn a0 b0 a1 b1 a2 b2 a3 b3 a4 b4 a5 b5 a6 b6 a7 b7 a8 b8 a9 b9 a10 b10 a11 b11 a12 b12
 generalize W0 = w0 at *
 go_loopw [5] (fun d wr => ∃ i : Nat, d = iV i ∧ i ≤ c.pix.length ∧ c.pix.take i = e.pix.take i ∧ Gou.Mod (fun _ => False) w0 wr) (fun d _ => c.pix.length - (intOf d).toNat)
 case atStart => exact ⟨0, rfl, by omega, by simp, Gou.Mod.refl _ _⟩
 case round =>
  obtain ⟨i, rfl, hi, ht, hm⟩ := hrel
  have Ht := hd' ht
  have Hm := hd' hm
  have hA := HA.o.mod hm (fun h => h)
  have hB := HB.o.mod hm (fun h => h)
  have d12 : wr.cell? ⟨w.heap.size, 12, none⟩ = some (.slice p1 c.pix.length k1) := hA.cell 12 rfl
  have f12 : wr.cell? ⟨w.heap.size + 1, 12, none⟩ = some (.slice p2 e.pix.length k2) := hB.cell 12 rfl
  clear ht hm hA hB
  by_cases hil : i < c.pix.length
  ·have e2 : decide ((i : Int) < (c.pix.length : Int)) = true := by simp; omega
   have hil2 : i < e.pix.length := by have := Hlen.o; omega
   obtain ⟨-, b1, o1, rfl, hb1, -, hc1⟩ := Hx.o.cells (by omega)
   obtain ⟨-, b2, o2, rfl, hb2, -, hc2⟩ := Hy.o.cells (by omega)
   obtain ⟨k0, k1', k2', k3⟩ := hc1 i hil
   obtain ⟨l0, l1', l2', l3⟩ := hc2 i hil2
   have hm1 : ∀ j, wr.cell? ⟨b1, j, none⟩ = w0.cell? ⟨b1, j, none⟩ := fun j => Hm.o.cell (p := ⟨b1, j, none⟩) hb1 (fun h => h)
   have hm2 : ∀ j, wr.cell? ⟨b2, j, none⟩ = w0.cell? ⟨b2, j, none⟩ := fun j => Hm.o.cell (p := ⟨b2, j, none⟩) hb2 (fun h => h)
   rw [← hm1] at k0 k1' k2' k3
   rw [← hm2] at l0 l1' l2' l3
   clear hm1 hm2
   have hiI : (i : Int) < (c.pix.length : Int) := by omega
   have hiJ : (i : Int) < (e.pix.length : Int) := by omega
   have hi0I : (0 : Int) ≤ (i : Int) := by omega
   have Hne := hd' (fun he => uet (i := i) hil hil2 he : c.pix[i] ≠ e.pix[i] → c.pix ≠ e.pix)
   have Heq := hd' (fun he => uci hil hil2 Ht.o he : c.pix[i] = e.pix[i] → c.pix.take (i + 1) = e.pix.take (i + 1))
   clear hc1 hc2
   generalize c.pix[i] = x at *
   generalize e.pix[i] = y at *
   by_cases hxy : x = y
   ·have hne : ∀ w : World, (binOp .neq 34 (.agg #[.int .u8 (x.p0 : Nat), .int .u8 (x.p1 : Nat), .int .u8 (x.p2 : Nat), .int .u8 (x.p3 : Nat)]) (.agg #[.int .u8 (y.p0 : Nat), .int .u8 (y.p1 : Nat), .int .u8 (y.p2 : Nat), .int .u8 (y.p3 : Nat)])).run Tryz.prog w = .ok (.bool false) w := fun w => (uit x y w).trans (by simp [hxy])
    have Hs := hd' (Heq.o hxy)
    clear hxy
    go_wp2_with fail
    go_quiet (fail)
    go_wp2_with fail
    go_roundw
    case rel => exact ⟨i + 1, by go_num, by omega, Hs.o, Hm.o.trans' (Gou.Mod.drewN _ _ _)⟩
    case measure => simp [intOf]; omega
   ·have hne : ∀ w : World, (binOp .neq 34 (.agg #[.int .u8 (x.p0 : Nat), .int .u8 (x.p1 : Nat), .int .u8 (x.p2 : Nat), .int .u8 (x.p3 : Nat)]) (.agg #[.int .u8 (y.p0 : Nat), .int .u8 (y.p1 : Nat), .int .u8 (y.p2 : Nat), .int .u8 (y.p3 : Nat)])).run Tryz.prog w = .ok (.bool true) w := fun w => (uit x y w).trans (by simp [hxy])
    have Hs := hd' (Hne.o hxy)
    clear hxy
    go_wp2_with fail
    go_quiet (fail)
    go_wp2_with fail
    go_ret
    exact ⟨by rw [show decide (c = e) = false from by simp [uhd, Hs.o]]; rfl, HM.o.trans' (Hm.o.trans' (Gou.Mod.drewN _ _ _))⟩
  ·obtain rfl : i = c.pix.length := by omega
   have e2 : decide ((c.pix.length : Int) < (c.pix.length : Int)) = false := by simp
   have Hs : Hid (decide (c = e) = true) := hd' (by
    have h1 := Ht.o
    rw [List.take_length, Hlen.o, List.take_length] at h1
    simp [uhd, I_kind.o, I_box.o, I_px.o, I_w.o, I_h.o, I_turn.o, h1])
   go_wp2_with fail
   go_ret
   exact ⟨by rw [Hs.o]; rfl, HM.o.trans' Hm.o⟩
end Go.Proofs.YtpbmfalokongfaaGreatDoor
namespace Go.Gou
open Go.RowKit
def ucm (ns : List ubb) : Prop := ns.length ≤ 1000000000 ∧ ∀ (i : Nat) (n : ubb), ns[i]? = some n → n.ins.length ≤ 1000000000 ∧ n.ps.length ≤ 1000000000
theorem IntsR.cells {G : Nat → Prop} {w : World} {p : Option Addr} {c n : Nat} {xs : List Int} (h : IntsR G w (.slice p n c) xs) (h0 : 0 < xs.length) :
 n = xs.length ∧ ∃ b o, p = some ⟨b, o, none⟩ ∧ b < w.heap.size ∧ G b ∧ ∀ i, i < xs.length → w.cell? ⟨b, o + i, none⟩ = some (iV (xs.getD i 0)) := by
 obtain ⟨hl, p', c', e, hcap, h⟩ := h
 simp only [Value.slice.injEq] at e
 obtain ⟨rfl, rfl, rfl⟩ := e
 rcases h with h | ⟨b, o, rfl, hb, hG, hc⟩
 ·omega
 ·refine ⟨rfl, b, o, rfl, hb, hG, fun i hi => hc i _ ?_⟩
  simp [ivs, List.getD, hi]
theorem NodesR.cells {G : Nat → Prop} {w : World} {p : Option Addr} {c n : Nat} {ns : List ubb} (h : NodesR G w (.slice p n c) ns) (h0 : 0 < ns.length) :
 n = ns.length ∧ ∃ b o, p = some ⟨b, o, none⟩ ∧ b < w.heap.size ∧ G b ∧ ∀ i nd, ns[i]? = some nd → ∃ pi ci pp cp, w.cell? ⟨b, o + i * 3, none⟩ = some (iV nd.op) ∧ w.cell? ⟨b, o + i * 3 + 1, none⟩ = some (.slice pi nd.ins.length ci) ∧ w.cell? ⟨b, o + i * 3 + 2, none⟩ = some (.slice pp nd.ps.length cp) ∧
     IntsR G w (.slice pi nd.ins.length ci) nd.ins ∧ IntsR G w (.slice pp nd.ps.length cp) nd.ps := by
 obtain ⟨cs, ⟨hl, p', c', e, hcap, h⟩, hn⟩ := h
 simp only [Value.slice.injEq] at e
 obtain ⟨rfl, rfl, rfl⟩ := e
 rcases h with h | ⟨b, o, rfl, hb, hG, hc⟩
 ·omega
 ·refine ⟨rfl, b, o, rfl, hb, hG, fun i nd hi => ?_⟩
  obtain ⟨hlt, rfl⟩ := lgS.1 hi
  obtain ⟨vi, vp, c0, c1, c2, h1, h2⟩ := hn.2 i hlt
  obtain ⟨pi, ci, rfl, _⟩ := RowG.form h1
  obtain ⟨pp, cp, rfl, _⟩ := RowG.form h2
  refine ⟨pi, ci, pp, cp, hc _ _ c0, ?_, ?_, h1, h2⟩
  ·have := hc _ _ c1; rwa [← Nat.add_assoc] at this
  ·have := hc _ _ c2; rwa [← Nat.add_assoc] at this
theorem node_eq (n m : ubb) : n = m ↔ n.op = m.op ∧ n.ins = m.ins ∧ n.ps = m.ps := by
 obtain ⟨a, b, c⟩ := n
 obtain ⟨d, e, f⟩ := m
 simp
theorem gr_eq (g k : Gr) : g = k ↔ g.out = k.out ∧ g.nodes = k.nodes := by
 obtain ⟨a, b⟩ := g
 obtain ⟨d, e⟩ := k
 simp [and_comm]
end Go.Gou
namespace Go.Proofs.YtpbmfalokongfaaGreatDoor
open Go.RowKit Go.Gou
set_option maxRecDepth 100000 in
theorem eqR_any (w : World) (G1 G2 : Nat → Prop) (p1 p2 : Option Addr) (c1 c2 : Nat) (xs ys : List Int) (hx : IntsR G1 w (.slice p1 xs.length c1) xs) (hy : IntsR G2 w (.slice p2 ys.length c2) ys) (hl : xs.length ≤ 1000000000) (hl2 : ys.length ≤ 1000000000) :
 Calls Tryz.prog 75 #[.slice p1 xs.length c1, .slice p2 ys.length c2] w fun e w' => e = .returned (.bool (decide (xs = ys))) ∧ ∃ m, w' = w.drewN m := by
 have Hx := hd' hx
 have Hy := hd' hy
 clear hx hy
 go_enter Tryz.func75, Tryz.ntmps75
 by_cases hlen : xs.length = ys.length
 ·have e1 : ((xs.length : Int) != (ys.length : Int)) = false := by simp [hlen]
  have Hlen := hd' hlen
  clear hlen
  go_wp2_with fail
  go_loopw [5] (fun c wr => ∃ i : Nat, c = iV i ∧ i ≤ xs.length ∧ xs.take i = ys.take i ∧ ∃ m, wr = w.drewN m) (fun c _ => xs.length - (intOf c).toNat)
  case atStart => exact ⟨0, rfl, by omega, by simp, 0, rfl⟩
  case round =>
   obtain ⟨i, rfl, hi, ht, hm⟩ := hrel
   have Ht := hd' ht
   have Hm0 := hd' hm
   have Hm : Hid (Gou.Mod (fun _ => False) w wr) := hd' (by obtain ⟨m, rfl⟩ := hm; exact Gou.Mod.drewN _ _ _)
   clear ht hm
   by_cases hil : i < xs.length
   ·have e2 : decide ((i : Int) < (xs.length : Int)) = true := by simp; omega
    have hil2 : i < ys.length := by have := Hlen.o; omega
    obtain ⟨-, b1, o1, rfl, hb1, -, hc1⟩ := Hx.o.cells (by omega)
    obtain ⟨-, b2, o2, rfl, hb2, -, hc2⟩ := Hy.o.cells (by omega)
    have k1 := hc1 i hil
    have k2 := hc2 i hil2
    rw [← Hm.o.cell (p := ⟨b1, o1 + i, none⟩) hb1 (fun h => h)] at k1
    rw [← Hm.o.cell (p := ⟨b2, o2 + i, none⟩) hb2 (fun h => h)] at k2
    have hx1 : xs.getD i 0 = xs[i] := by simp [List.getD, hil]
    have hy1 : ys.getD i 0 = ys[i] := by simp [List.getD, hil2]
    rw [hx1] at k1
    rw [hy1] at k2
    have hiI : (i : Int) < (xs.length : Int) := by omega
    have hiJ : (i : Int) < (ys.length : Int) := by omega
    have hi0I : (0 : Int) ≤ (i : Int) := by omega
    have Hne := hd' (fun he => uet (i := i) hil hil2 he : xs[i] ≠ ys[i] → xs ≠ ys)
    have Heq := hd' (fun he => uci hil hil2 Ht.o he : xs[i] = ys[i] → xs.take (i + 1) = ys.take (i + 1))
    clear hc1 hc2 hx1 hy1
    generalize xs[i] = x at *
    generalize ys[i] = y at *
    by_cases hxy : x = y
    ·have e3 : (x != y) = false := by simp [hxy]
     have Hs := hd' (Heq.o hxy)
     clear hxy
     go_wp2_with fail
     go_quiet (fail)
     go_wp2_with fail
     go_roundw
     case rel =>
      obtain ⟨m, rfl⟩ := Hm0.o
      exact ⟨i + 1, by go_num, by omega, Hs.o, _, by rw [World.drewN_drewN]⟩
     case measure => simp [intOf]; omega
    ·have e3 : (x != y) = true := by simp [hxy]
     have Hs := hd' (Hne.o hxy)
     clear hxy
     go_wp2_with fail
     go_quiet (fail)
     go_wp2_with fail
     go_ret
     obtain ⟨m, rfl⟩ := Hm0.o
     exact ⟨by simp [Hs.o], _, by rw [World.drewN_drewN]⟩
   ·obtain rfl : i = xs.length := by omega
    have e2 : decide ((xs.length : Int) < (xs.length : Int)) = false := by simp
    have Hs : Hid (xs = ys) := hd' (by
     have h1 := Ht.o
     rw [List.take_length, Hlen.o, List.take_length] at h1
     exact h1)
    go_wp2_with fail
    go_ret
    exact ⟨by simp [Hs.o], Hm0.o⟩
 ·have e1 : ((xs.length : Int) != (ys.length : Int)) = true := by simp; omega
  have Hs : Hid (xs ≠ ys) := hd' (fun h => hlen (by rw [h]))
  clear hlen
  go_wp2_with fail
  go_ret
  exact ⟨by simp [Hs.o], 0, rfl⟩
set_option maxRecDepth 100000 in
theorem grR_any (w : World) (G1 G2 : Nat → Prop) (p1 p2 : Option Addr) (c1 c2 : Nat) (g k : Gr) (hx : NodesR G1 w (.slice p1 g.nodes.length c1) g.nodes) (hy : NodesR G2 w (.slice p2 k.nodes.length c2) k.nodes) (bx : ucm g.nodes) (by_ : ucm k.nodes) :
 Calls Tryz.prog 58 #[.agg #[.slice p1 g.nodes.length c1, iV g.out], .agg #[.slice p2 k.nodes.length c2, iV k.out]] w fun e w' => e = .returned (.bool (decide (g = k))) ∧ Gou.Mod (fun _ => False) w w' := by
 have HM : Hid (Gou.Mod (fun _ => False) w ((w.alloc (.cells #[.slice p1 g.nodes.length c1, iV g.out] 40)).alloc (.cells #[.slice p2 k.nodes.length c2, iV k.out] 40))) := hd' ((Gou.Mod.alloc _ _ _).trans' (Gou.Mod.alloc _ _ _))
 have Hx := hd' (hx.mod HM.o (fun _ _ _ h => h))
 have Hy := hd' (hy.mod HM.o (fun _ _ _ h => h))
 have Bx := hd' bx
 have By := hd' by_
 have HA : Hid (Blk ((w.alloc (.cells #[.slice p1 g.nodes.length c1, iV g.out] 40)).alloc (.cells #[.slice p2 k.nodes.length c2, iV k.out] 40)) w.heap.size 40 #[.slice p1 g.nodes.length c1, iV g.out]) := hd' ((show Blk (w.alloc (.cells #[.slice p1 g.nodes.length c1, iV g.out] 40)) w.heap.size 40 _ from heap_alloc_new w _).mod (Gou.Mod.alloc (fun _ => False) _ _) (fun h => h))
 have HB : Hid (Blk ((w.alloc (.cells #[.slice p1 g.nodes.length c1, iV g.out] 40)).alloc (.cells #[.slice p2 k.nodes.length c2, iV k.out] 40)) (w.heap.size + 1) 40 #[.slice p2 k.nodes.length c2, iV k.out]) := hd' (by
  have := heap_alloc_new (w.alloc (.cells #[.slice p1 g.nodes.length c1, iV g.out] 40)) (.cells #[.slice p2 k.nodes.length c2, iV k.out] 40)
  rw [World.size_alloc] at this
  exact this)
 clear hx hy bx by_
 go_enter Tryz.func58, Tryz.ntmps58
 by_cases ho : g.out = k.out
 case neg =>
  have e1 : (g.out != k.out) = true := by simp [ho]
  have Hq : Hid (decide (g = k) = false) := hd' (by simp [gr_eq, ho])
  clear ho
  go_wp2_with fail
  go_ret
  exact ⟨by rw [Hq.o]; rfl, HM.o⟩
 have e1 : (g.out != k.out) = false := by simp [ho]
 have Ho := hd' ho
 clear ho
 by_cases hlen : g.nodes.length = k.nodes.length
 case neg =>
  have e2 : ((g.nodes.length : Int) != (k.nodes.length : Int)) = true := by simp; omega
  have Hq : Hid (decide (g = k) = false) := hd' (dqf fun h => hlen (by rw [h]))
  clear hlen
  go_wp2_with fail
  go_ret
  exact ⟨by rw [Hq.o]; rfl, HM.o⟩
 have e2 : ((g.nodes.length : Int) != (k.nodes.length : Int)) = false := by simp [hlen]
 have Hlen := hd' hlen
 have hgl : g.nodes.length ≤ 1000000000 := Bx.o.1
 have Hgl := hd' hgl
 clear hlen hgl
 go_wp2_with fail
 generalize hW0 : ((w.alloc (.cells #[.slice p1 g.nodes.length c1, iV g.out] 40)).alloc (.cells #[.slice p2 k.nodes.length c2, iV k.out] 40)) = w0 at *
 clear hW0
 go_loopw [5] (fun c wr => ∃ i : Nat, c = iV i ∧ i ≤ g.nodes.length ∧ g.nodes.take i = k.nodes.take i ∧ Gou.Mod (fun _ => False) w0 wr) (fun c _ => g.nodes.length - (intOf c).toNat)
 case atStart => exact ⟨0, rfl, by omega, by simp, Gou.Mod.refl _ _⟩
 case round =>
  obtain ⟨i, rfl, hi, ht, hm⟩ := hrel
  have Ht := hd' ht
  have Hm := hd' hm
  have hA := HA.o.mod hm (fun h => h)
  have hB := HB.o.mod hm (fun h => h)
  have a0 : wr.cell? ⟨w.heap.size, 0, none⟩ = some (.slice p1 g.nodes.length c1) := hA.cell 0 rfl
  have b0 : wr.cell? ⟨w.heap.size + 1, 0, none⟩ = some (.slice p2 k.nodes.length c2) := hB.cell 0 rfl
  clear ht hm hA hB
  by_cases hil : i < g.nodes.length
  ·have e3 : decide ((i : Int) < (g.nodes.length : Int)) = true := by simp; omega
   have hil2 : i < k.nodes.length := by have := Hlen.o; omega
   obtain ⟨-, x1, o1, rfl, hx1, -, hc1⟩ := Hx.o.cells (by omega)
   obtain ⟨-, x2, o2, rfl, hx2, -, hc2⟩ := Hy.o.cells (by omega)
   obtain ⟨pi1, ci1, pp1, cp1, m0, m1, m2, hi1, hp1⟩ := hc1 i _ (lgE hil)
   obtain ⟨pi2, ci2, pp2, cp2, q0, q1, q2, hi2, hp2⟩ := hc2 i _ (lgE hil2)
   rw [← Hm.o.cell (p := ⟨x1, o1 + i * 3, none⟩) hx1 (fun h => h)] at m0
   rw [← Hm.o.cell (p := ⟨x1, o1 + i * 3 + 1, none⟩) hx1 (fun h => h)] at m1
   rw [← Hm.o.cell (p := ⟨x1, o1 + i * 3 + 2, none⟩) hx1 (fun h => h)] at m2
   rw [← Hm.o.cell (p := ⟨x2, o2 + i * 3, none⟩) hx2 (fun h => h)] at q0
   rw [← Hm.o.cell (p := ⟨x2, o2 + i * 3 + 1, none⟩) hx2 (fun h => h)] at q1
   rw [← Hm.o.cell (p := ⟨x2, o2 + i * 3 + 2, none⟩) hx2 (fun h => h)] at q2
   have hiI : (i : Int) < (g.nodes.length : Int) := by omega
   have hiJ : (i : Int) < (k.nodes.length : Int) := by omega
   have hi0I : (0 : Int) ≤ (i : Int) := by omega
   have L1 := hd' (Bx.o.2 i _ (lgE hil))
   have L2 := hd' (By.o.2 i _ (lgE hil2))
   have Hi1 := hd' (RowG.mod hi1 Hm.o (fun _ _ _ h => h))
   have Hi2 := hd' (RowG.mod hi2 Hm.o (fun _ _ _ h => h))
   have Hp1 := hd' (RowG.mod hp1 Hm.o (fun _ _ _ h => h))
   have Hp2 := hd' (RowG.mod hp2 Hm.o (fun _ _ _ h => h))
   have Hne := hd' (fun he => uet (i := i) hil hil2 he : g.nodes[i] ≠ k.nodes[i] → g.nodes ≠ k.nodes)
   have Heq := hd' (fun he => uci hil hil2 Ht.o he : g.nodes[i] = k.nodes[i] → g.nodes.take (i + 1) = k.nodes.take (i + 1))
   clear hc1 hc2 hi1 hi2 hp1 hp2
   generalize g.nodes[i] = nd at *
   generalize k.nodes[i] = md at *
   have Hq1 : Hid (∀ m x y, x = Value.slice pi1 nd.ins.length ci1 → y = Value.slice pi2 md.ins.length ci2 → Calls Tryz.prog 75 #[x, y] (wr.drewN m) fun e w2 => e = .returned (.bool (decide (nd.ins = md.ins))) ∧ ∃ q, w2 = (wr.drewN m).drewN q) := hd' (fun m x y hx hy => by
    subst hx hy
    exact eqR_any _ _ _ _ _ _ _ _ _ (RowG.mod Hi1.o (Gou.Mod.drewN _ _ m) (fun _ _ _ h => h)) (RowG.mod Hi2.o (Gou.Mod.drewN _ _ m) (fun _ _ _ h => h)) L1.o.1 L2.o.1)
   have Hq2 : Hid (∀ m x y, x = Value.slice pp1 nd.ps.length cp1 → y = Value.slice pp2 md.ps.length cp2 → Calls Tryz.prog 75 #[x, y] (wr.drewN m) fun e w2 => e = .returned (.bool (decide (nd.ps = md.ps))) ∧ ∃ q, w2 = (wr.drewN m).drewN q) := hd' (fun m x y hx hy => by
    subst hx hy
    exact eqR_any _ _ _ _ _ _ _ _ _ (RowG.mod Hp1.o (Gou.Mod.drewN _ _ m) (fun _ _ _ h => h)) (RowG.mod Hp2.o (Gou.Mod.drewN _ _ m) (fun _ _ _ h => h)) L1.o.2 L2.o.2)
   clear Hi1 Hi2 Hp1 Hp2 L1 L2
   by_cases hop : nd.op = md.op
   case neg =>
    have e4 : (nd.op != md.op) = true := by simp [hop]
    have Hs := hd' (Hne.o fun h => hop (by rw [h]))
    clear hop
    go_wp2_with fail
    go_quiet (fail)
    go_wp2_with fail
    go_ret
    exact ⟨by simp [gr_eq, Hs.o], HM.o.trans' (Hm.o.trans' (Gou.Mod.drewN _ _ _))⟩
   have e4 : (nd.op != md.op) = false := by simp [hop]
   have Hop := hd' hop
   clear hop
   by_cases hin : nd.ins = md.ins
   case neg =>
    have Hs := hd' (Hne.o fun h => hin (by rw [h]))
    have hd : decide (nd.ins = md.ins) = false := by simp [hin]
    rw [hd] at Hq1
    clear hin hd
    go_wp2_with fail
    go_quiet (first | (go_at_call 75; exact Calls.quiet_of (Hq1.o _ _ _ rfl rfl)))
    go_wp2_with fail
    go_ret
    exact ⟨by simp [gr_eq, Hs.o], HM.o.trans' (Hm.o.trans' (Gou.Mod.drewN _ _ _))⟩
   have Hin := hd' hin
   have hd : decide (nd.ins = md.ins) = true := by simp [hin]
   rw [hd] at Hq1
   clear hin hd
   by_cases hps : nd.ps = md.ps
   case neg =>
    have Hs := hd' (Hne.o fun h => hps (by rw [h]))
    have hd : decide (nd.ps = md.ps) = false := by simp [hps]
    rw [hd] at Hq2
    clear hps hd
    go_wp2_with fail
    go_quiet (first | (go_at_call 75; first | exact Calls.quiet_of (Hq1.o _ _ _ rfl rfl) | exact Calls.quiet_of (Hq2.o _ _ _ rfl rfl)))
    go_wp2_with fail
    go_ret
    exact ⟨by simp [gr_eq, Hs.o], HM.o.trans' (Hm.o.trans' (Gou.Mod.drewN _ _ _))⟩
   have hd : decide (nd.ps = md.ps) = true := by simp [hps]
   have Hs := hd' (Heq.o (node_eq nd md |>.2 ⟨Hop.o, Hin.o, hps⟩))
   rw [hd] at Hq2
   have hgl := Hgl.o
   clear hps hd
   go_wp2_with fail
   go_quiet (first | (go_at_call 75; first | exact Calls.quiet_of (Hq1.o _ _ _ rfl rfl) | exact Calls.quiet_of (Hq2.o _ _ _ rfl rfl)))
   go_wp2_with fail
   go_roundw
   case rel => exact ⟨i + 1, by go_num, by omega, Hs.o, Hm.o.trans' (Gou.Mod.drewN _ _ _)⟩
   case measure => simp [intOf]; omega
  ·obtain rfl : i = g.nodes.length := by omega
   have e3 : decide ((g.nodes.length : Int) < (g.nodes.length : Int)) = false := by simp
   have Hs : Hid (g = k) := hd' (by
    have h1 := Ht.o
    rw [List.take_length, Hlen.o, List.take_length] at h1
    exact (gr_eq g k).2 ⟨Ho.o, h1⟩)
   go_wp2_with fail
   go_ret
   exact ⟨by rw [dqt Hs.o]; rfl, HM.o.trans' Hm.o⟩
end Go.Proofs.YtpbmfalokongfaaGreatDoor
namespace Go.Gou
open Go.RowKit
theorem uex (c e : Lk) : c = e ↔ c.dx = e.dx ∧ c.dy = e.dy ∧ c.opacity = e.opacity ∧ c.mode = e.mode ∧ c.hasClip = e.hasClip ∧ c.clip = e.clip ∧ c.hasFilt = e.hasFilt ∧ c.hasBack = e.hasBack ∧ c.content = e.content ∧ c.filt = e.filt ∧ c.back = e.back := by
 obtain ⟨a1, a2, a3, a4, a5, a6, a7, a8, a9, a10, a11⟩ := c
 obtain ⟨b1, b2, b3, b4, b5, b6, b7, b8, b9, b10, b11⟩ := e
 constructor
 ·intro h; cases h; simp
 ·rintro ⟨h1, h2, h3, h4, h5, h6, h7, h8, h9, h10, h11⟩
  simp only at h1 h2 h3 h4 h5 h6 h7 h8 h9 h10 h11
  subst h1 h2 h3 h4 h5 h6 h7 h8 h9 h10 h11
  rfl
structure ufb (l : Lk) : Prop where
 pix : l.content.pix.length ≤ 1000000000
 filt : ucm l.filt.nodes
 back : ucm l.back.nodes
theorem ug0 (l : Lk) (vp vf vb : Value) : (uai l vp vf vb).toList = [iV l.dx, iV l.dy, .bool l.hasClip, iV l.clip.x0, iV l.clip.y0, iV l.clip.x1, iV l.clip.y1, iV l.opacity, iV l.mode] ++ ((uak l.content vp).toList ++ [.bool l.hasFilt, vf, iV l.filt.out, .bool l.hasBack, vb, iV l.back.out]) := rfl
end Go.Gou
namespace Go.Proofs.YtpbmfalokongfaaGreatDoor
open Go.RowKit Go.Gou
set_option maxRecDepth 100000
theorem lookR_any (w : World) (G1 G2 : Nat → Prop) (p1 p2 p3 q1 q2 q3 : Option Addr) (k1 k2 k3 j1 j2 j3 : Nat) (c e : Lk) (hx : LookR G1 w c (.slice p1 c.content.pix.length k1) (.slice p2 c.filt.nodes.length k2) (.slice p3 c.back.nodes.length k3)) (hy : LookR G2 w e (.slice q1 e.content.pix.length j1) (.slice q2 e.filt.nodes.length j2) (.slice q3 e.back.nodes.length j3)) (l1 : ufb c) (l2 : ufb e) :
 Calls Tryz.prog 40 #[.agg (lkS c p1 k1 p2 k2 p3 k3), .agg (lkS e q1 j1 q2 j2 q3 j3)] w fun r w' => r = .returned (.bool (decide (c = e))) ∧ Gou.Mod (fun _ => False) w w' := by
 obtain ⟨b0, b1, bm⟩ := uaw w 42 42 (lkS c p1 k1 p2 k2 p3 k3) (lkS e q1 j1 q2 j2 q3 j3)
 have HA0 := hd' b0
 have HB0 := hd' b1
 have HM0 := hd' bm
 clear b0 b1 bm
 go_enter Tryz.func40, Tryz.ntmps40
 go_upto_region 1 with fail
 show Code.wp _ _ _ _ ((w.alloc (.cells (lkS c p1 k1 p2 k2 p3 k3) 42)).alloc (.cells (lkS e q1 j1 q2 j2 q3 j3) 42))
 generalize ((w.alloc (.cells (lkS c p1 k1 p2 k2 p3 k3) 42)).alloc (.cells (lkS e q1 j1 q2 j2 q3 j3) 42)) = W0 at *
 have Hx0 := hd' (LookR.mod hx HM0.o (fun _ _ _ h => h))
 have Hy0 := hd' (LookR.mod hy HM0.o (fun _ _ _ h => h))
 have L1 := hd' l1
 have L2 := hd' l2
 have Hra : Hid (W0.rangeAt w.heap.size 9 (uak c.content (.slice p1 c.content.pix.length k1)).toList) := hd' (Blk.range HA0.o (ug0 c _ _ _) rfl)
 have Hrb : Hid (W0.rangeAt (w.heap.size + 1) 9 (uak e.content (.slice q1 e.content.pix.length j1)).toList) := hd' (Blk.range HB0.o (ug0 e _ _ _) rfl)
 have HiA : Hid ((Tryz.prog.info? 37).map (·.size) = some (uak c.content (.slice p1 c.content.pix.length k1)).toList.length) := hd' (size_content.trans (by simp [uak]))
 have HiB : Hid ((Tryz.prog.info? 37).map (·.size) = some (uak e.content (.slice q1 e.content.pix.length j1)).toList.length) := hd' (size_content.trans (by simp [uak]))
 clear hx hy l1 l2
 have a0_0 : W0.cell? ⟨w.heap.size, 0, none⟩ = some (iV c.dx) := HA0.o.cell 0 rfl
 have b0_0 : W0.cell? ⟨w.heap.size + 1, 0, none⟩ = some (iV e.dx) := HB0.o.cell 0 rfl
 have a1_0 : W0.cell? ⟨w.heap.size, 1, none⟩ = some (iV c.dy) := HA0.o.cell 1 rfl
 have b1_0 : W0.cell? ⟨w.heap.size + 1, 1, none⟩ = some (iV e.dy) := HB0.o.cell 1 rfl
 have a2_0 : W0.cell? ⟨w.heap.size, 2, none⟩ = some (.bool c.hasClip) := HA0.o.cell 2 rfl
 have b2_0 : W0.cell? ⟨w.heap.size + 1, 2, none⟩ = some (.bool e.hasClip) := HB0.o.cell 2 rfl
 have a3_0 : W0.cell? ⟨w.heap.size, 3, none⟩ = some (iV c.clip.x0) := HA0.o.cell 3 rfl
 have b3_0 : W0.cell? ⟨w.heap.size + 1, 3, none⟩ = some (iV e.clip.x0) := HB0.o.cell 3 rfl
 have a4_0 : W0.cell? ⟨w.heap.size, 4, none⟩ = some (iV c.clip.y0) := HA0.o.cell 4 rfl
 have b4_0 : W0.cell? ⟨w.heap.size + 1, 4, none⟩ = some (iV e.clip.y0) := HB0.o.cell 4 rfl
 have a5_0 : W0.cell? ⟨w.heap.size, 5, none⟩ = some (iV c.clip.x1) := HA0.o.cell 5 rfl
 have b5_0 : W0.cell? ⟨w.heap.size + 1, 5, none⟩ = some (iV e.clip.x1) := HB0.o.cell 5 rfl
 have a6_0 : W0.cell? ⟨w.heap.size, 6, none⟩ = some (iV c.clip.y1) := HA0.o.cell 6 rfl
 have b6_0 : W0.cell? ⟨w.heap.size + 1, 6, none⟩ = some (iV e.clip.y1) := HB0.o.cell 6 rfl
 have a7_0 : W0.cell? ⟨w.heap.size, 7, none⟩ = some (iV c.opacity) := HA0.o.cell 7 rfl
 have b7_0 : W0.cell? ⟨w.heap.size + 1, 7, none⟩ = some (iV e.opacity) := HB0.o.cell 7 rfl
 have a8_0 : W0.cell? ⟨w.heap.size, 8, none⟩ = some (iV c.mode) := HA0.o.cell 8 rfl
 have b8_0 : W0.cell? ⟨w.heap.size + 1, 8, none⟩ = some (iV e.mode) := HB0.o.cell 8 rfl
 have a22_0 : W0.cell? ⟨w.heap.size, 22, none⟩ = some (.bool c.hasFilt) := HA0.o.cell 22 rfl
 have b22_0 : W0.cell? ⟨w.heap.size + 1, 22, none⟩ = some (.bool e.hasFilt) := HB0.o.cell 22 rfl
 have a23_0 : W0.cell? ⟨w.heap.size, 23, none⟩ = some (.slice p2 c.filt.nodes.length k2) := HA0.o.cell 23 rfl
 have b23_0 : W0.cell? ⟨w.heap.size + 1, 23, none⟩ = some (.slice q2 e.filt.nodes.length j2) := HB0.o.cell 23 rfl
 have a24_0 : W0.cell? ⟨w.heap.size, 24, none⟩ = some (iV c.filt.out) := HA0.o.cell 24 rfl
 have b24_0 : W0.cell? ⟨w.heap.size + 1, 24, none⟩ = some (iV e.filt.out) := HB0.o.cell 24 rfl
 have a25_0 : W0.cell? ⟨w.heap.size, 25, none⟩ = some (.bool c.hasBack) := HA0.o.cell 25 rfl
 have b25_0 : W0.cell? ⟨w.heap.size + 1, 25, none⟩ = some (.bool e.hasBack) := HB0.o.cell 25 rfl
 have a26_0 : W0.cell? ⟨w.heap.size, 26, none⟩ = some (.slice p3 c.back.nodes.length k3) := HA0.o.cell 26 rfl
 have b26_0 : W0.cell? ⟨w.heap.size + 1, 26, none⟩ = some (.slice q3 e.back.nodes.length j3) := HB0.o.cell 26 rfl
 have a27_0 : W0.cell? ⟨w.heap.size, 27, none⟩ = some (iV c.back.out) := HA0.o.cell 27 rfl
 have b27_0 : W0.cell? ⟨w.heap.size + 1, 27, none⟩ = some (iV e.back.out) := HB0.o.cell 27 rfl
 have Hr := hd' (rect_op c.clip e.clip)
 have HRc := Hr.o
 by_cases h_dx : c.dx = e.dx
 case neg =>
  have q_dx : (c.dx == e.dx) = false := by simp [h_dx]
  have Hq : Hid (decide (c = e) = false) := hd' (by simp [uex, h_dx])
  clear h_dx
  go_wp2_with fail
  go_ret
  exact ⟨by rw [Hq.o]; rfl, HM0.o⟩
 have q_dx : (c.dx == e.dx) = true := by simp [h_dx]
 have I_dx := hd' h_dx
 clear h_dx
 by_cases h_dy : c.dy = e.dy
 case neg =>
  have q_dy : (c.dy == e.dy) = false := by simp [h_dy]
  have Hq : Hid (decide (c = e) = false) := hd' (by simp [uex, h_dy])
  clear h_dy
  go_wp2_with fail
  go_ret
  exact ⟨by rw [Hq.o]; rfl, HM0.o⟩
 have q_dy : (c.dy == e.dy) = true := by simp [h_dy]
 have I_dy := hd' h_dy
 clear h_dy
 by_cases h_hasClip : c.hasClip = e.hasClip
 case neg =>
  have q_hasClip : (c.hasClip == e.hasClip) = false := by simp [h_hasClip]
  have Hq : Hid (decide (c = e) = false) := hd' (by simp [uex, h_hasClip])
  clear h_hasClip
  go_wp2_with fail
  go_ret
  exact ⟨by rw [Hq.o]; rfl, HM0.o⟩
 have q_hasClip : (c.hasClip == e.hasClip) = true := by simp [h_hasClip]
 have I_hasClip := hd' h_hasClip
 clear h_hasClip
 by_cases h_clip : c.clip = e.clip
 case neg =>
  have q_clip : decide (c.clip = e.clip) = false := by simp [h_clip]
  have Hq : Hid (decide (c = e) = false) := hd' (by simp [uex, h_clip])
  clear h_clip
  go_wp2_with fail
  go_ret
  exact ⟨by rw [Hq.o]; rfl, HM0.o⟩
 have q_clip : decide (c.clip = e.clip) = true := by simp [h_clip]
 have I_clip := hd' h_clip
 clear h_clip
 by_cases h_opacity : c.opacity = e.opacity
 case neg =>
  have q_opacity : (c.opacity == e.opacity) = false := by simp [h_opacity]
  have Hq : Hid (decide (c = e) = false) := hd' (by simp [uex, h_opacity])
  clear h_opacity
  go_wp2_with fail
  go_ret
  exact ⟨by rw [Hq.o]; rfl, HM0.o⟩
 have q_opacity : (c.opacity == e.opacity) = true := by simp [h_opacity]
 have I_opacity := hd' h_opacity
 clear h_opacity
 by_cases h_mode : c.mode = e.mode
 case neg =>
  have q_mode : (c.mode == e.mode) = false := by simp [h_mode]
  have Hq : Hid (decide (c = e) = false) := hd' (by simp [uex, h_mode])
  clear h_mode
  go_wp2_with fail
  go_ret
  exact ⟨by rw [Hq.o]; rfl, HM0.o⟩
 have q_mode : (c.mode == e.mode) = true := by simp [h_mode]
 have I_mode := hd' h_mode
 clear h_mode
 go_wp2_with (first | ((with_reducible refine lT 37 ?_); refine ldG Hra.o Tryz.underlying37 HiA.o (h := ?_)) | ((with_reducible refine lT 37 ?_); refine ldG Hrb.o Tryz.underlying37 HiB.o (h := ?_)) | fail)
 refine (contR_any _ G1 G2 p1 q1 k1 j1 c.content e.content Hx0.o.pix Hy0.o.pix L1.o.pix L2.o.pix).mono ?_
 rintro r w1 ⟨rfl, hm1⟩
 have HM1 := hd' (HM0.o.trans' hm1)
 have Hx1 := hd' (LookR.mod Hx0.o hm1 (fun _ _ _ h => h))
 have Hy1 := hd' (LookR.mod Hy0.o hm1 (fun _ _ _ h => h))
 have HA1 := hd' (HA0.o.mod hm1 (fun h => h))
 have HB1 := hd' (HB0.o.mod hm1 (fun h => h))
 clear hm1
 have a22_1 : w1.cell? ⟨w.heap.size, 22, none⟩ = some (.bool c.hasFilt) := HA1.o.cell 22 rfl
 have b22_1 : w1.cell? ⟨w.heap.size + 1, 22, none⟩ = some (.bool e.hasFilt) := HB1.o.cell 22 rfl
 have a23_1 : w1.cell? ⟨w.heap.size, 23, none⟩ = some (.slice p2 c.filt.nodes.length k2) := HA1.o.cell 23 rfl
 have b23_1 : w1.cell? ⟨w.heap.size + 1, 23, none⟩ = some (.slice q2 e.filt.nodes.length j2) := HB1.o.cell 23 rfl
 have a24_1 : w1.cell? ⟨w.heap.size, 24, none⟩ = some (iV c.filt.out) := HA1.o.cell 24 rfl
 have b24_1 : w1.cell? ⟨w.heap.size + 1, 24, none⟩ = some (iV e.filt.out) := HB1.o.cell 24 rfl
 have a25_1 : w1.cell? ⟨w.heap.size, 25, none⟩ = some (.bool c.hasBack) := HA1.o.cell 25 rfl
 have b25_1 : w1.cell? ⟨w.heap.size + 1, 25, none⟩ = some (.bool e.hasBack) := HB1.o.cell 25 rfl
 have a26_1 : w1.cell? ⟨w.heap.size, 26, none⟩ = some (.slice p3 c.back.nodes.length k3) := HA1.o.cell 26 rfl
 have b26_1 : w1.cell? ⟨w.heap.size + 1, 26, none⟩ = some (.slice q3 e.back.nodes.length j3) := HB1.o.cell 26 rfl
 have a27_1 : w1.cell? ⟨w.heap.size, 27, none⟩ = some (iV c.back.out) := HA1.o.cell 27 rfl
 have b27_1 : w1.cell? ⟨w.heap.size + 1, 27, none⟩ = some (iV e.back.out) := HB1.o.cell 27 rfl
 by_cases h_content : c.content = e.content
 case neg =>
  have q_content : decide (c.content = e.content) = false := by simp [h_content]
  have Hq : Hid (decide (c = e) = false) := hd' (by simp [uex, h_content])
  clear h_content
  generalize decide (c.content = e.content) = q at *
  subst q_content
  go_wp2_with fail
  go_ret
  exact ⟨by rw [Hq.o]; rfl, HM1.o⟩
 have q_content : decide (c.content = e.content) = true := by simp [h_content]
 have I_content := hd' h_content
 clear h_content
 generalize decide (c.content = e.content) = q at *
 subst q_content
 by_cases h_hasFilt : c.hasFilt = e.hasFilt
 case neg =>
  have q_hasFilt : (c.hasFilt == e.hasFilt) = false := by simp [h_hasFilt]
  have Hq : Hid (decide (c = e) = false) := hd' (by simp [uex, h_hasFilt])
  clear h_hasFilt
  go_wp2_with fail
  go_ret
  exact ⟨by rw [Hq.o]; rfl, HM1.o⟩
 have q_hasFilt : (c.hasFilt == e.hasFilt) = true := by simp [h_hasFilt]
 have I_hasFilt := hd' h_hasFilt
 clear h_hasFilt
 go_wp2_with fail
 refine (grR_any _ G1 G2 p2 q2 k2 j2 c.filt e.filt Hx1.o.filt Hy1.o.filt L1.o.filt L2.o.filt).mono ?_
 rintro r w2 ⟨rfl, hm2⟩
 have HM2 := hd' (HM1.o.trans' hm2)
 have Hx2 := hd' (LookR.mod Hx1.o hm2 (fun _ _ _ h => h))
 have Hy2 := hd' (LookR.mod Hy1.o hm2 (fun _ _ _ h => h))
 have HA2 := hd' (HA1.o.mod hm2 (fun h => h))
 have HB2 := hd' (HB1.o.mod hm2 (fun h => h))
 clear hm2
 have a25_2 : w2.cell? ⟨w.heap.size, 25, none⟩ = some (.bool c.hasBack) := HA2.o.cell 25 rfl
 have b25_2 : w2.cell? ⟨w.heap.size + 1, 25, none⟩ = some (.bool e.hasBack) := HB2.o.cell 25 rfl
 have a26_2 : w2.cell? ⟨w.heap.size, 26, none⟩ = some (.slice p3 c.back.nodes.length k3) := HA2.o.cell 26 rfl
 have b26_2 : w2.cell? ⟨w.heap.size + 1, 26, none⟩ = some (.slice q3 e.back.nodes.length j3) := HB2.o.cell 26 rfl
 have a27_2 : w2.cell? ⟨w.heap.size, 27, none⟩ = some (iV c.back.out) := HA2.o.cell 27 rfl
 have b27_2 : w2.cell? ⟨w.heap.size + 1, 27, none⟩ = some (iV e.back.out) := HB2.o.cell 27 rfl
 by_cases h_filt : c.filt = e.filt
 case neg =>
  have q_filt : decide (c.filt = e.filt) = false := by simp [h_filt]
  have Hq : Hid (decide (c = e) = false) := hd' (by simp [uex, h_filt])
  clear h_filt
  generalize decide (c.filt = e.filt) = q at *
  subst q_filt
  go_wp2_with fail
  go_ret
  exact ⟨by rw [Hq.o]; rfl, HM2.o⟩
 have q_filt : decide (c.filt = e.filt) = true := by simp [h_filt]
 have I_filt := hd' h_filt
 clear h_filt
 generalize decide (c.filt = e.filt) = q at *
 subst q_filt
 by_cases h_hasBack : c.hasBack = e.hasBack
 case neg =>
  have q_hasBack : (c.hasBack == e.hasBack) = false := by simp [h_hasBack]
  have Hq : Hid (decide (c = e) = false) := hd' (by simp [uex, h_hasBack])
  clear h_hasBack
  go_wp2_with fail
  go_ret
  exact ⟨by rw [Hq.o]; rfl, HM2.o⟩
 have q_hasBack : (c.hasBack == e.hasBack) = true := by simp [h_hasBack]
 have I_hasBack := hd' h_hasBack
 clear h_hasBack
 go_wp2_with fail
 refine (grR_any _ G1 G2 p3 q3 k3 j3 c.back e.back Hx2.o.back Hy2.o.back L1.o.back L2.o.back).mono ?_
 rintro r w3 ⟨rfl, hm3⟩
 have HM3 := hd' (HM2.o.trans' hm3)
 clear hm3
 have Hq : Hid (decide (c.back = e.back) = decide (c = e)) := hd' (by simp [uex, I_dx.o, I_dy.o, I_hasClip.o, I_clip.o, I_opacity.o, I_mode.o, I_content.o, I_hasFilt.o, I_filt.o, I_hasBack.o])
 generalize decide (c.back = e.back) = q at *
 cases q with
 | true =>
  go_wp2_with fail
  go_ret
  exact ⟨by rw [← Hq.o]; rfl, HM3.o⟩
 | false =>
  go_wp2_with fail
  go_ret
  exact ⟨by rw [← Hq.o]; rfl, HM3.o⟩
theorem ujj (w : World) : Calls Tryz.prog 11 #[] w fun e w' => ∃ v, e = .returned v ∧ SnR (fun b => w.heap.size ≤ b) w' v Sn.new ∧ Gou.Mod (fun _ => False) w w' := by
 obtain ⟨b0, b1, b2, bm⟩ := ubd w 47 3 4 scZ #[iV 0] #[Value.bool true]
 have HB := hd' b0
 have HI := hd' b1
 have HO := hd' b2
 have HM := hd' bm
 clear b0 b1 b2 bm
 go_enter Tryz.func11, Tryz.ntmps11
 go_upto_region 1 with fail
 go_wp2_with (first | ((with_reducible show wpList _ _ _ (⟨_, Op.build _ _, _, _, _, _⟩ :: _) _ _); refine halt ?_) | fail)
 show wpList _ _ _ _ _ (((w.alloc (.cells scZ 47)).alloc (.cells #[iV 0] 3)).alloc (.cells #[Value.bool true] 4))
 generalize ((w.alloc (.cells scZ 47)).alloc (.cells #[iV 0] 3)).alloc (.cells #[Value.bool true] 4) = W2 at *
 refine uav rfl (.agg #[.slice (some ⟨w.heap.size + 1, 0, none⟩) 1 1, .slice (some ⟨w.heap.size + 1 + 1, 0, none⟩) 1 1]) (by kernel_rfl) ?_
 simp only [Act.put, List.setIfInBounds_toArray, List.set_cons_zero, List.set_cons_succ]
 refine uav rfl (.agg (uai Lk.plain nlS nlS nlS)) (by kernel_rfl) ?_
 simp only [Act.put, List.setIfInBounds_toArray, List.set_cons_zero, List.set_cons_succ]
 refine uav rfl (.agg (lyA (0, 0) Lk.plain nlS nlS nlS nlS)) (by kernel_rfl) ?_
 simp only [Act.put, List.setIfInBounds_toArray, List.set_cons_zero, List.set_cons_succ]
 refine uav rfl (.agg (scA (.slice (some ⟨w.heap.size + 1, 0, none⟩) 1 1) (.slice (some ⟨w.heap.size + 1 + 1, 0, none⟩) 1 1) (0, 0) Lk.plain nlS nlS nlS nlS)) (by kernel_rfl) ?_
 simp only [Act.put, List.setIfInBounds_toArray, List.set_cons_zero, List.set_cons_succ]
 refine wpList_store_mid rfl 47 _ _ rfl w.heap.size 0 (scA (.slice (some ⟨w.heap.size + 1, 0, none⟩) 1 1) (.slice (some ⟨w.heap.size + 1 + 1, 0, none⟩) 1 1) (0, 0) Lk.plain nlS nlS nlS nlS) rfl rfl (HB.o.there 0 33 (by simp [scA])) uah (by simp [scA, Value.oneCell', Lk.plain, Lk.zero]) ?_
 have HS := hd' (Blk.setMod W2 w.heap.size 0 (scA (.slice (some ⟨w.heap.size + 1, 0, none⟩) 1 1) (.slice (some ⟨w.heap.size + 1 + 1, 0, none⟩) 1 1) (0, 0) Lk.plain nlS nlS nlS nlS).toList)
 have HB4 := hd' (HB.o.setAll (scA (.slice (some ⟨w.heap.size + 1, 0, none⟩) 1 1) (.slice (some ⟨w.heap.size + 1 + 1, 0, none⟩) 1 1) (0, 0) Lk.plain nlS nlS nlS nlS) rfl)
 have HR : Hid (ArG (fun b => w.heap.size ≤ b) W2 (.slice (some ⟨w.heap.size + 1, 0, none⟩) 1 1) (.slice (some ⟨w.heap.size + 1 + 1, 0, none⟩) 1 1) Ar.new) := hd' ⟨RowG.of_blk HI.o 1 1 rfl (fun b => w.heap.size ≤ b) (by show w.heap.size ≤ _; omega), RowG.of_blk HO.o 1 1 rfl (fun b => w.heap.size ≤ b) (by show w.heap.size ≤ _; omega)⟩
 have HM4 := hd' (HM.o.trans HS.o (fun k hk e => by omega))
 have HI4 := hd' (HI.o.mod HS.o (by omega))
 have HO4 := hd' (HO.o.mod HS.o (by omega))
 generalize W2.setCells w.heap.size 0 (scA (.slice (some ⟨w.heap.size + 1, 0, none⟩) 1 1) (.slice (some ⟨w.heap.size + 1 + 1, 0, none⟩) 1 1) (0, 0) Lk.plain nlS nlS nlS nlS).toList = W4 at *
 go_wp2_with fail
 refine bpr (results_cell_row rfl _ _ (w.heap.size) 47 (scA (.slice (some ⟨w.heap.size + 1, 0, none⟩) 1 1) (.slice (some ⟨w.heap.size + 1 + 1, 0, none⟩) 1 1) (0, 0) Lk.plain nlS nlS nlS nlS) (0, 0) _ rfl HB4.o Tryz.underlying47 rfl uah) rfl ?_
 exact ⟨_, rfl, ⟨_, _, _, _, _, _, rfl, ⟨RowG.of_blk HI4.o 1 1 rfl (fun b => w.heap.size ≤ b) (by show w.heap.size ≤ _; omega), RowG.of_blk HO4.o 1 1 rfl (fun b => w.heap.size ≤ b) (by show w.heap.size ≤ _; omega)⟩, .mk (0, 0) Lk.plain [] _ _ _ _ [] ⟨PixR.nil _ _, NodesR.nil _ _, NodesR.nil _ _⟩ (RowG.nil _ _ _) rfl (fun j c k h => by simp at h)⟩, HM4.o⟩
end Go.Proofs.YtpbmfalokongfaaGreatDoor
