/- Texts of the scenes' proofs, laid together: SeD, SeE, SeF, SeG, SeH, SeI, SeJ. -/
import Derived.Test.YtpbmfalokongfaaGreatDoorZaj
import Derived.Test.YtpbmfalokongfaaGreatDoorZab
set_option maxHeartbeats 64000000
set_option linter.unusedSimpArgs false
set_option linter.unusedVariables false
set_option linter.unusedSectionVars false
set_option linter.constructorNameAsVariable false
namespace Go.Gou
open Go.RowKit
structure ArB (base N : Nat) (TI TB TA : TypeId) (w : World) (gs : List Int) (ls : List Bool) (vg vl : Value) : Prop where
 box : Blk w N TA #[vg, vl]
 g : w.ownsRow base TI 1 vg gs.length (ivs gs)
 l : w.ownsRow base TB 1 vl ls.length (bvs ls)
 ge : N < base
variable {base N : Nat} {TI TB TA : TypeId} {gs : List Int} {ls : List Bool} {vg vl v' : Value} {w0 w w5 w7 : World}
theorem ArB.pushG {x : Int} (h : ArB base N TI TB TA w gs ls vg vl) (hb : w0.heap.size ≤ base) (hne : TI ≠ TB) (hm0 : Mod (fun k => k = N) w0 w) (hm : Mod (fun _ => False) w w5) (hg : Grown w5 base TI 1 vg (gs.length + 1) (ivs gs ++ [iV x]) v' w7) :
 ArB base N TI TB TA (w7.setCell ⟨N, 0, none⟩ v') (gs ++ [x]) ls v' vl ∧ Mod (fun k => k = N) w0 (w7.setCell ⟨N, 0, none⟩ v') := by
 have hN : ¬ vg.ownBlock = some N := fun e => by have := uba h.g N e; have := h.ge; omega
 have hs := Mod.set1 w7 N 0 v'
 refine ⟨⟨((h.box.up hm).mod hg.mod hN).set 0 v', ?_, ?_, h.ge⟩, ((hm0.trans hm (fun _ _ h => h.elim)).trans hg.mod (fun k hk e => absurd (uba h.g k e) (by omega))).trans' hs⟩
 ·have h7 := uac hg.own hs (fun k hk e => by have := uba hg.own k hk; have := h.ge; omega)
  simpa [ivs] using h7
 ·have h7 := uac (ua4 h.l hm) hg.mod (fun k hk e => uep (ua4 h.l hm) (ua4 h.g hm) hne.symm k hk e)
  exact uac h7 hs (fun k hk e => by have := uba h7 k hk; have := h.ge; omega)
theorem ArB.pushL {x : Bool} (h : ArB base N TI TB TA w gs ls vg vl) (hb : w0.heap.size ≤ base) (hne : TI ≠ TB) (hm0 : Mod (fun k => k = N) w0 w) (hm : Mod (fun _ => False) w w5) (hg : Grown w5 base TB 1 vl (ls.length + 1) (bvs ls ++ [.bool x]) v' w7) :
 ArB base N TI TB TA (w7.setCell ⟨N, 1, none⟩ v') gs (ls ++ [x]) vg v' ∧ Mod (fun k => k = N) w0 (w7.setCell ⟨N, 1, none⟩ v') := by
 have hN : ¬ vl.ownBlock = some N := fun e => by have := uba h.l N e; have := h.ge; omega
 have hs := Mod.set1 w7 N 1 v'
 refine ⟨⟨((h.box.up hm).mod hg.mod hN).set 1 v', ?_, ?_, h.ge⟩, ((hm0.trans hm (fun _ _ h => h.elim)).trans hg.mod (fun k hk e => absurd (uba h.l k e) (by omega))).trans' hs⟩
 ·have h7 := uac (ua4 h.g hm) hg.mod (fun k hk e => uep (ua4 h.g hm) (ua4 h.l hm) hne k hk e)
  exact uac h7 hs (fun k hk e => by have := uba h7 k hk; have := h.ge; omega)
 ·have h7 := uac hg.own hs (fun k hk e => by have := uba hg.own k hk; have := h.ge; omega)
  simpa [bvs] using h7
theorem ArB.mod {S : Nat → Prop} {w' : World} (h : ArB base N TI TB TA w gs ls vg vl) (hm : Mod S w w') (h1 : ¬ S N) (h2 : ∀ k, base ≤ k → ¬ S k) : ArB base N TI TB TA w' gs ls vg vl :=
 ⟨h.box.mod hm h1, uac h.g hm (fun k hk => h2 k (uba h.g k hk)), uac h.l hm (fun k hk => h2 k (uba h.l k hk)), h.ge⟩
theorem ArB.start {w : World} (h : Blk w N TA #[.slice none 0 0, .slice none 0 0]) (hN : N < base) : ArB base N TI TB TA w [] [] nlS nlS := ⟨h, World.ownsRow_nil _ _ _ _, World.ownsRow_nil _ _ _ _, hN⟩
theorem ArB.reads (h : ArB base N TI TB TA w gs ls vg vl) : ArG (fun b => base ≤ b) w vg vl ⟨gs, ls⟩ := ⟨RowG.of_own h.g, RowG.of_own h.l⟩
theorem ArG.imp {G G' : Nat → Prop} {a : Ar} (h : ArG G w vg vl a) (hG : ∀ k, G k → G' k) : ArG G' w vg vl a := ⟨RowG.imp h.g (fun k _ hk => hG k hk), RowG.imp h.l (fun k _ hk => hG k hk)⟩
theorem ArG.mod {G S : Nat → Prop} {w' : World} {a : Ar} (h : ArG G w vg vl a) (hm : Mod S w w') (hS : ∀ k, k < w.heap.size → G k → ¬ S k) : ArG G w' vg vl a := ⟨RowG.mod h.g hm hS, RowG.mod h.l hm hS⟩
theorem ArG.up {G : Nat → Prop} {w' : World} {a : Ar} (h : ArG G w vg vl a) (hm : Mod (fun _ => False) w w') : ArG G w' vg vl a := h.mod hm (fun _ _ _ h => h)
def uf2 {α : Type} (l : List α) (t : Nat) (x : α) : List α := if t = l.length then l ++ [x] else l.set t x
theorem ufi {α : Type} {l : List α} {t j : Nat} {x : α} (hj : j < l.length) : (l.set t x).take (j + 1) = (l.set t x).take j ++ [if j = t then x else l[j]] := by
 rw [ltS (by simpa using hj), List.getElem_set]
 by_cases h : t = j
 ·rw [if_pos h, if_pos h.symm]
 ·rw [if_neg h, if_neg (fun e => h e.symm)]
theorem ugv {α : Type} {l : List α} {x : α} : uf2 l l.length x = (l.set l.length x).take l.length ++ [x] := by
 unfold uf2
 rw [if_pos rfl, List.set_eq_of_length_le (Nat.le_refl _), List.take_length]
theorem ugu {α : Type} {l : List α} {t : Nat} {x : α} (h : t ≠ l.length) : uf2 l t x = (l.set t x).take l.length := by
 unfold uf2
 rw [if_neg h, List.take_of_length_le (by simp)]
def Ar.putA (a : Ar) (t : Nat) (g : Int) (b : Bool) : Ar := ⟨uf2 a.gens t g, uf2 a.live t b⟩
end Go.Gou
namespace Go.Proofs.YtpbmfalokongfaaGreatDoor
open Go.RowKit Go.Gou
set_option maxRecDepth 100000
def RefA (G : Nat → Prop) (w : World) (a : Ar) (v : Value) (w' : World) : Prop := ∃ vg vl, v = .agg #[vg, vl] ∧ ArG (fun b => G b ∨ w.heap.size ≤ b) w' vg vl a ∧ Gou.Mod (fun _ => False) w w'
theorem ueb (w : World) (vg vl : Value) (a : Ar) (t : Nat) (q : Int) (z : Bool) (h : ArR w vg vl a) (hlen : a.gens.length = a.live.length) (hn : a.gens.length ≤ 1000000) :
 Calls Tryz.prog 54 #[.agg #[vg, vl], iV t, iV q, .bool z] w fun e w' => ∃ v, e = .returned v ∧ RefA (fun _ => False) w (a.putA t q z) v w' := by
 obtain ⟨⟨pg, cg, rfl⟩, ⟨pl, cl, rfl⟩⟩ := h.forms
 have Hh := hd' h
 have Hlen := hd' hlen
 have Hn := hd' hn
 clear h hlen hn
 obtain ⟨b0, b1, bm⟩ := uaw w 28 28 #[Value.slice pg a.gens.length cg, Value.slice pl a.live.length cl] #[Value.slice none 0 0, Value.slice none 0 0]
 have HB := hd' b0
 have HR := hd' b1
 have HMa := hd' bm
 clear b0 b1 bm
 go_enter Tryz.func54, Tryz.ntmps54
 go_upto_region 1 with fail
 generalize (w.alloc (.cells #[Value.slice pg a.gens.length cg, Value.slice pl a.live.length cl] 28)).alloc (.cells #[Value.slice none 0 0, Value.slice none 0 0] 28) = W1 at *
 go_upto_region 2 with (first | ((with_reducible refine sT 28 ?_); refine stA (#[Value.slice none 0 0, Value.slice none 0 0]) ((Blk.new W1 28 #[Value.slice none 0 0, Value.slice none 0 0]).there 0 2 (by simp)) uae (by simp [Value.oneCell']) (h := ?_)) | fail)
 have HN := hd' ((Blk.new W1 28 #[Value.slice none 0 0, Value.slice none 0 0]).setAll #[Value.slice none 0 0, Value.slice none 0 0] rfl)
 have hma : Gou.Mod (fun _ => False) W1 ((W1.alloc (.cells #[Value.slice none 0 0, Value.slice none 0 0] 28)).setCells W1.heap.size 0 (#[Value.slice none 0 0, Value.slice none 0 0] : Array Value).toList) := Gou.Mod.allocSet _ _ _
 have HM2 := hd' (HMa.o.trans' hma)
 have HB2 := hd' (HB.o.up hma)
 have HR2 := hd' (HR.o.up hma)
 have HNr : Hid ((w.heap.size + 1) < W1.heap.size) := hd' (Blk.lt HR.o)
 clear hma HB HR HMa
 generalize (W1.alloc (.cells #[Value.slice none 0 0, Value.slice none 0 0] 28)).setCells W1.heap.size 0 (#[Value.slice none 0 0, Value.slice none 0 0] : Array Value).toList = W2 at *
 generalize W1.heap.size = N at *
 have HNlt := hd' (Blk.lt HN.o)
 have HI0 : Hid (ArB W2.heap.size N 3 4 28 W2 ((a.gens.set t q).take 0) ((a.live.set t z).take 0) nlS nlS) := hd' (ArB.start HN.o HNlt.o)
 have HL0 : Hid (w.heap.size < W2.heap.size) := hd' (by have := HNr.o; have := HNlt.o; omega)
 clear HN
 go_wp2_with fail
 go_loopw [10] (fun vi wr => ∃ j : Nat, vi = iV j ∧ j ≤ a.gens.length ∧ ∃ ug ul, ArB W2.heap.size N 3 4 28 wr ((a.gens.set t q).take j) ((a.live.set t z).take j) ug ul ∧ Gou.Mod (fun k => k = N) W2 wr) (fun vi _ => a.gens.length - (intOf vi).toNat)
 case atStart => exact ⟨0, rfl, Nat.zero_le _, _, _, HI0.o, Gou.Mod.refl _ _⟩
 case round =>
  obtain ⟨j, rfl, hj, ug, ul, hi, hm⟩ := hrel
  obtain ⟨pr, cr, rfl⟩ := Gou.ownsRow_form hi.g
  obtain ⟨qr, dr, rfl⟩ := Gou.ownsRow_form hi.l
  have HI := hd' hi
  have HM := hd' hm
  have HMw := hd' (HM2.o.trans hm (fun k hk e => by have := HNr.o; omega))
  have HBr := hd' (HB2.o.mod hm (by have := HNr.o; omega))
  have HRr := hd' (HR2.o.mod hm (by have := HNr.o; omega))
  have c0 : wr.cell? ⟨w.heap.size, 0, none⟩ = some (.slice pg a.gens.length cg) := HBr.o.cell 0 rfl
  clear hi hm HI0
  by_cases hil : j < a.gens.length
  ·have hil2 : j < a.live.length := by rw [← Hlen.o]; exact hil
   have HG1 : Hid ((a.gens.set t q).take (j + 1) = (a.gens.set t q).take j ++ [if j = t then q else a.gens[j]]) := hd' (ufi hil)
   have HL1 : Hid ((a.live.set t z).take (j + 1) = (a.live.set t z).take j ++ [if j = t then z else a.live[j]]) := hd' (ufi hil2)
   have HLg : Hid (((a.gens.set t q).take j).length ≤ a.gens.length) := hd' (by rw [List.length_take]; omega)
   have HLl : Hid (((a.live.set t z).take j).length ≤ a.gens.length) := hd' (by rw [List.length_take]; omega)
   have hwi : wrap64 ((j : Int) + 1) = ((j + 1 : Nat) : Int) := by have := Hn.o; unfold wrap64; omega
   have Hwi := hd' hwi
   obtain ⟨gv, hgv⟩ : ∃ gv, gv = a.gens[j] := ⟨_, rfl⟩
   obtain ⟨bv, hbv⟩ : ∃ bv, bv = a.live[j] := ⟨_, rfl⟩
   obtain ⟨bg, og, rfl, hbg, _, hcg⟩ := RowG.one_cell Hh.o.g (by omega)
   obtain ⟨bl, ol, rfl, hbl, _, hcl⟩ := RowG.one_cell Hh.o.l (by omega)
   have HLi := hd' (hcl j _ (ucw (lgE hil2)))
   have HWl := hd' hbl
   have gi := (HMw.o.cell (p := ⟨bg, og + j, none⟩) hbg (fun h => h)).trans (hcg j _ (uez (lgE hil)))
   rw [← hgv] at HG1 gi
   rw [← hbv] at HL1 HLi
   clear hgv hbv hcg hcl
   have HLbg : Hid (bg < W2.heap.size) := hd' (by have := HL0.o; omega)
   have HLbl : Hid (bl < W2.heap.size) := hd' (by have := HL0.o; omega)
   generalize (a.gens.set t q).take j = gs at *
   generalize (a.live.set t z).take j = ls at *
   have Hil := hd' hil
   by_cases hx : j = t
   ·have e1 : ((j : Int) != (t : Int)) = false := by rw [bnf]; omega
    have HX := hd' hx
    rw [if_pos hx] at HG1 HL1
    clear hx
    go_upto_region 8 with fail
    clear e1
    have o0 : wr.cell? ⟨N, 0, none⟩ = some (.slice pr gs.length cr) := HI.o.box.cell 0 rfl
    have f0 := HI.o.box.frozen 0
    go_wp2_with (first | ((with_reducible show wpList _ _ _ (⟨_, Op.call ⟨.builtin .append, _, _⟩, _, _, _, _⟩ :: _) _ _); refine halt ?_) | fail)
    have HE := hd' (Blk.new wr 3 #[iV q])
    refine uaz ud0 rfl _ _ rfl (W2.heap.size) (.slice pr gs.length cr) gs.length (ivs gs) (fun _ => True) (.slice (some ⟨(wr).heap.size, 0, none⟩) 1 1) 1 [iV q] rfl rfl (by have := HM.o.size; simp only [World.size_alloc]; omega) (ua4 HI.o.g (Gou.Mod.alloc0 _ _)) (RowG.of_blk HE.o 1 1 rfl _ trivial) (by simp [Value.oneCell']) (by have := HLg.o; have := Hn.o; unfold maxLen; omega) (by have := HLg.o; have := Hn.o; omega) ?_
    intro v8 w8 G8
    obtain ⟨p8, c8, rfl⟩ := Gou.ownsRow_form G8.own
    obtain ⟨hI7, hM7⟩ := HI.o.pushG (Nat.le_refl _) (by decide) HM.o (Gou.Mod.alloc0 _ _) G8
    have q1 := ((HI.o.box.up (Gou.Mod.alloc0 _ _)).mod G8.mod (fun e => by have := uba HI.o.g N e; have := HI.o.ge; omega))
    have o1 : w8.cell? ⟨N, 0, none⟩ = some (.slice pr gs.length cr) := q1.cell 0 rfl
    have q0 := q1.frozen 0
    have HI8 := hd' hI7
    have HM8 := hd' hM7
    clear HE G8 hI7 hM7 o0 f0 q1
    go_upto_region 9 with fail
    clear q0 o1
    generalize w8.setCell ⟨N, 0, none⟩ (.slice p8 (gs.length + 1) c8) = wx8 at *
    have o0 : wx8.cell? ⟨N, 1, none⟩ = some (.slice qr ls.length dr) := HI8.o.box.cell 1 rfl
    have f0 := HI8.o.box.frozen 1
    go_wp2_with (first | ((with_reducible show wpList _ _ _ (⟨_, Op.call ⟨.builtin .append, _, _⟩, _, _, _, _⟩ :: _) _ _); refine halt ?_) | fail)
    have HE := hd' (Blk.new wx8 4 #[.bool z])
    refine uaz ucg rfl _ _ rfl (W2.heap.size) (.slice qr ls.length dr) ls.length (bvs ls) (fun _ => True) (.slice (some ⟨(wx8).heap.size, 0, none⟩) 1 1) 1 [.bool z] rfl rfl (by have := HM8.o.size; simp only [World.size_alloc]; omega) (ua4 HI8.o.l (Gou.Mod.alloc0 _ _)) (RowG.of_blk HE.o 1 1 rfl _ trivial) (by simp [Value.oneCell']) (by have := HLl.o; have := Hn.o; unfold maxLen; omega) (by have := HLl.o; have := Hn.o; omega) ?_
    intro v9 w9 G9
    obtain ⟨p9, c9, rfl⟩ := Gou.ownsRow_form G9.own
    obtain ⟨hI7, hM7⟩ := HI8.o.pushL (Nat.le_refl _) (by decide) HM8.o (Gou.Mod.alloc0 _ _) G9
    have q1 := ((HI8.o.box.up (Gou.Mod.alloc0 _ _)).mod G9.mod (fun e => by have := uba HI8.o.l N e; have := HI8.o.ge; omega))
    have o1 : w9.cell? ⟨N, 1, none⟩ = some (.slice qr ls.length dr) := q1.cell 1 rfl
    have q0 := q1.frozen 1
    have HI9 := hd' hI7
    have HM9 := hd' hM7
    clear HE G9 hI7 hM7 o0 f0 q1
    go_upto_region 4 with fail
    clear q0 o1
    generalize w9.setCell ⟨N, 1, none⟩ (.slice p9 (ls.length + 1) c9) = wx9 at *
    go_wp2_with fail
    go_roundw
    case rel => exact ⟨j + 1, by rw [← Hwi.o], by have := Hil.o; omega, _, _, by rw [HG1.o, HL1.o]; exact HI9.o, HM9.o⟩
    case measure => rw [Hwi.o]; have := Hil.o; simp only [intOf]; omega
   ·have e1 : ((j : Int) != (t : Int)) = true := by rw [bne_iff_ne]; omega
    have HX := hd' hx
    rw [if_neg hx] at HG1 HL1
    clear hx
    go_upto_region 6 with fail
    clear e1
    have o0 : wr.cell? ⟨N, 0, none⟩ = some (.slice pr gs.length cr) := HI.o.box.cell 0 rfl
    have Hns : Hid (∀ k, k < W2.heap.size → ¬ ((Value.slice pr gs.length cr).ownBlock = some k)) := hd' (fun k hk h => by have := uba HI.o.g k h; omega)
    refine wdf (S := fun w' => Gou.Mod (fun k => (Value.slice pr gs.length cr).ownBlock = some k) wr w') 10 (Gou.Mod.drew _ _) (h := fun hH => ?_)
    refine tk 0 (.pointer (some ⟨N, 0, none⟩)) hH (h := ?_)
    refine tkC 1 o0 (Hns.o _ HNlt.o) hH (h := ?_)
    refine tk 2 (.pointer (some ⟨w.heap.size, 0, none⟩)) hH (h := ?_)
    refine tkC 3 c0 (Hns.o _ HL0.o) hH (h := ?_)
    refine tk 4 (iV (j : Int)) hH (h := ?_)
    refine tk 5 (.pointer (some ⟨bg, og + j, none⟩)) hH (h := ?_)
    refine tkC 6 gi (Hns.o _ HLbg.o) hH (h := ?_)
    refine rd 7 (h := fun K hK => ?_)
    go_simp
    have HQ : Hid (Gou.Mod (fun _ => False) wr ((wr.alloc (.cells #[iV gv] 3)).drew)) := hd' ((Gou.Mod.alloc0 _ _).trans' (Gou.Mod.drew _ _))
    have HE := hd' ((Blk.new wr 3 #[iV gv]).up (Gou.Mod.drew _ _))
    have M := hd' (HQ.o.imp (S' := fun k => (Value.slice pr gs.length cr).ownBlock = some k) (fun _ _ h => h.elim))
    clear hH
    refine hK _ _ M.o (fun hH => ?_)
    clear hK K M
    refine rd 8 (h := fun K hK => ?_)
    generalize (wr.alloc (.cells #[iV gv] 3)).drew = w5 at *
    refine ual ud0 _ _ rfl (W2.heap.size) (.slice pr gs.length cr) gs.length (ivs gs) (fun _ => True) (.slice (some ⟨wr.heap.size, 0, none⟩) 1 1) 1 [iV gv] rfl rfl (Nat.le_trans HM.o.size HQ.o.size) (ua4 HI.o.g HQ.o) (RowG.of_blk HE.o 1 1 rfl _ trivial) (by simp [Value.oneCell']) (by have := HLg.o; have := Hn.o; unfold maxLen; omega) (by have := HLg.o; have := Hn.o; omega) ?_
    intro v6 w6 G6
    obtain ⟨p6, c6, rfl⟩ := Gou.ownsRow_form G6.own
    have M := hd' (hH.trans' G6.mod)
    clear hH
    refine hK _ _ M.o (fun hH => ?_)
    clear hK K M
    refine tk 9 (.pointer (some ⟨N, 0, none⟩)) hH (h := ?_)
    refine tk 10 (.bool true) hH (h := ?_)
    have MS := hd' hH
    refine wpAnyH_done (by kernel_rfl) ?_ _
    clear hH
    show Oper.wp _ _ _ _ _ _
    obtain ⟨hI7, hM7⟩ := HI.o.pushG (Nat.le_refl _) (by decide) HM.o HQ.o G6
    have q1 := ((HI.o.box.up HQ.o).mod G6.mod (Hns.o _ HNlt.o))
    have o1 : w6.cell? ⟨N, 0, none⟩ = some (.slice pr gs.length cr) := q1.cell 0 rfl
    have q0 := q1.frozen 0
    have HI6 := hd' hI7
    have HM6 := hd' hM7
    clear MS G6 hI7 hM7 o0 Hns HE HQ q1
    go_simp
    clear q0 o1
    generalize w6.setCell ⟨N, 0, none⟩ (.slice p6 (gs.length + 1) c6) = wx6 at *
    have HMx := hd' (HM2.o.trans HM6.o (fun k hk e => by have := HNr.o; omega))
    have HBx := hd' (HB2.o.mod HM6.o (by have := HNr.o; omega))
    have c1 : wx6.cell? ⟨w.heap.size, 1, none⟩ = some (.slice (some ⟨bl, ol, none⟩) a.live.length cl) := HBx.o.cell 1 rfl
    have li := (HMx.o.cell (p := ⟨bl, ol + j, none⟩) HWl.o (fun h => h)).trans HLi.o
    go_upto_region 7 with fail
    have o0 : wx6.cell? ⟨N, 1, none⟩ = some (.slice qr ls.length dr) := HI6.o.box.cell 1 rfl
    have Hns : Hid (∀ k, k < W2.heap.size → ¬ ((Value.slice qr ls.length dr).ownBlock = some k)) := hd' (fun k hk h => by have := uba HI6.o.l k h; omega)
    refine wdf (S := fun w' => Gou.Mod (fun k => (Value.slice qr ls.length dr).ownBlock = some k) wx6 w') 10 (Gou.Mod.drew _ _) (h := fun hH => ?_)
    refine tk 0 (.pointer (some ⟨N, 1, none⟩)) hH (h := ?_)
    refine tkC 1 o0 (Hns.o _ HNlt.o) hH (h := ?_)
    refine tk 2 (.pointer (some ⟨w.heap.size, 1, none⟩)) hH (h := ?_)
    refine tkC 3 c1 (Hns.o _ HL0.o) hH (h := ?_)
    refine tk 4 (iV (j : Int)) hH (h := ?_)
    refine tk 5 (.pointer (some ⟨bl, ol + j, none⟩)) hH (h := ?_)
    refine tkC 6 li (Hns.o _ HLbl.o) hH (h := ?_)
    refine rd 7 (h := fun K hK => ?_)
    go_simp
    have HQ : Hid (Gou.Mod (fun _ => False) wx6 ((wx6.alloc (.cells #[.bool bv] 4)).drew)) := hd' ((Gou.Mod.alloc0 _ _).trans' (Gou.Mod.drew _ _))
    have HE := hd' ((Blk.new wx6 4 #[.bool bv]).up (Gou.Mod.drew _ _))
    have M := hd' (HQ.o.imp (S' := fun k => (Value.slice qr ls.length dr).ownBlock = some k) (fun _ _ h => h.elim))
    clear hH
    refine hK _ _ M.o (fun hH => ?_)
    clear hK K M
    refine rd 8 (h := fun K hK => ?_)
    generalize (wx6.alloc (.cells #[.bool bv] 4)).drew = w5 at *
    refine ual ucg _ _ rfl (W2.heap.size) (.slice qr ls.length dr) ls.length (bvs ls) (fun _ => True) (.slice (some ⟨wx6.heap.size, 0, none⟩) 1 1) 1 [.bool bv] rfl rfl (Nat.le_trans HM6.o.size HQ.o.size) (ua4 HI6.o.l HQ.o) (RowG.of_blk HE.o 1 1 rfl _ trivial) (by simp [Value.oneCell']) (by have := HLl.o; have := Hn.o; unfold maxLen; omega) (by have := HLl.o; have := Hn.o; omega) ?_
    intro v7 w7 G7
    obtain ⟨p7, c7, rfl⟩ := Gou.ownsRow_form G7.own
    have M := hd' (hH.trans' G7.mod)
    clear hH
    refine hK _ _ M.o (fun hH => ?_)
    clear hK K M
    refine tk 9 (.pointer (some ⟨N, 1, none⟩)) hH (h := ?_)
    refine tk 10 (.bool true) hH (h := ?_)
    have MS := hd' hH
    refine wpAnyH_done (by kernel_rfl) ?_ _
    clear hH
    show Oper.wp _ _ _ _ _ _
    obtain ⟨hI7, hM7⟩ := HI6.o.pushL (Nat.le_refl _) (by decide) HM6.o HQ.o G7
    have q1 := ((HI6.o.box.up HQ.o).mod G7.mod (Hns.o _ HNlt.o))
    have o1 : w7.cell? ⟨N, 1, none⟩ = some (.slice qr ls.length dr) := q1.cell 1 rfl
    have q0 := q1.frozen 1
    have HI7 := hd' hI7
    have HM7 := hd' hM7
    clear MS G7 hI7 hM7 o0 Hns HE HQ q1
    go_simp
    clear q0 o1
    generalize w7.setCell ⟨N, 1, none⟩ (.slice p7 (ls.length + 1) c7) = wx7 at *
    go_wp2_with fail
    go_roundw
    case rel => exact ⟨j + 1, by rw [← Hwi.o], by have := Hil.o; omega, _, _, by rw [HG1.o, HL1.o]; exact HI7.o, HM7.o⟩
    case measure => rw [Hwi.o]; have := Hil.o; simp only [intOf]; omega
  ·have hje : j = a.gens.length := by omega
   have Hje := hd' hje
   clear hil
   have hjl : j = a.live.length := by rw [← Hlen.o]; exact hje
   have HLg : Hid (((a.gens.set t q).take j).length ≤ a.gens.length) := hd' (by rw [List.length_take]; omega)
   have HLl : Hid (((a.live.set t z).take j).length ≤ a.gens.length) := hd' (by rw [List.length_take]; omega)
   have HPe : Hid (t = a.gens.length → a.putA t q z = ⟨(a.gens.set t q).take j ++ [q], (a.live.set t z).take j ++ [z]⟩) := hd' (fun h => by
    subst h
    unfold Ar.putA
    congr 1
    ·rw [ugv, hje]
    ·rw [Hlen.o, ugv, hjl])
   have HPm : Hid (t ≠ a.gens.length → a.putA t q z = ⟨(a.gens.set t q).take j, (a.live.set t z).take j⟩) := hd' (fun h => by
    unfold Ar.putA
    congr 1
    ·rw [ugu h, hje]
    ·rw [ugu (by rw [← Hlen.o]; exact h), hjl])
   generalize (a.gens.set t q).take j = gs at *
   generalize (a.live.set t z).take j = ls at *
   clear hjl
   by_cases ht : t = a.gens.length
   ·have e1 : ((t : Int) == (a.gens.length : Int)) = true := by rw [beq_iff_eq]; omega
    have HP := hd' (HPe.o ht)
    clear ht HPe HPm
    go_upto_region 11 with fail
    clear e1
    have o0 : wr.cell? ⟨N, 0, none⟩ = some (.slice pr gs.length cr) := HI.o.box.cell 0 rfl
    have f0 := HI.o.box.frozen 0
    go_wp2_with (first | ((with_reducible show wpList _ _ _ (⟨_, Op.call ⟨.builtin .append, _, _⟩, _, _, _, _⟩ :: _) _ _); refine halt ?_) | fail)
    have HE := hd' (Blk.new wr 3 #[iV q])
    refine uaz ud0 rfl _ _ rfl (W2.heap.size) (.slice pr gs.length cr) gs.length (ivs gs) (fun _ => True) (.slice (some ⟨(wr).heap.size, 0, none⟩) 1 1) 1 [iV q] rfl rfl (by have := HM.o.size; simp only [World.size_alloc]; omega) (ua4 HI.o.g (Gou.Mod.alloc0 _ _)) (RowG.of_blk HE.o 1 1 rfl _ trivial) (by simp [Value.oneCell']) (by have := HLg.o; have := Hn.o; unfold maxLen; omega) (by have := HLg.o; have := Hn.o; omega) ?_
    intro v8 w8 G8
    obtain ⟨p8, c8, rfl⟩ := Gou.ownsRow_form G8.own
    obtain ⟨hI7, hM7⟩ := HI.o.pushG (Nat.le_refl _) (by decide) HM.o (Gou.Mod.alloc0 _ _) G8
    have q1 := ((HI.o.box.up (Gou.Mod.alloc0 _ _)).mod G8.mod (fun e => by have := uba HI.o.g N e; have := HI.o.ge; omega))
    have o1 : w8.cell? ⟨N, 0, none⟩ = some (.slice pr gs.length cr) := q1.cell 0 rfl
    have q0 := q1.frozen 0
    have HI8 := hd' hI7
    have HM8 := hd' hM7
    clear HE G8 hI7 hM7 o0 f0 q1
    go_upto_region 12 with fail
    clear q0 o1
    generalize w8.setCell ⟨N, 0, none⟩ (.slice p8 (gs.length + 1) c8) = wx8 at *
    have o0 : wx8.cell? ⟨N, 1, none⟩ = some (.slice qr ls.length dr) := HI8.o.box.cell 1 rfl
    have f0 := HI8.o.box.frozen 1
    go_wp2_with (first | ((with_reducible show wpList _ _ _ (⟨_, Op.call ⟨.builtin .append, _, _⟩, _, _, _, _⟩ :: _) _ _); refine halt ?_) | fail)
    have HE := hd' (Blk.new wx8 4 #[.bool z])
    refine uaz ucg rfl _ _ rfl (W2.heap.size) (.slice qr ls.length dr) ls.length (bvs ls) (fun _ => True) (.slice (some ⟨(wx8).heap.size, 0, none⟩) 1 1) 1 [.bool z] rfl rfl (by have := HM8.o.size; simp only [World.size_alloc]; omega) (ua4 HI8.o.l (Gou.Mod.alloc0 _ _)) (RowG.of_blk HE.o 1 1 rfl _ trivial) (by simp [Value.oneCell']) (by have := HLl.o; have := Hn.o; unfold maxLen; omega) (by have := HLl.o; have := Hn.o; omega) ?_
    intro v9 w9 G9
    obtain ⟨p9, c9, rfl⟩ := Gou.ownsRow_form G9.own
    obtain ⟨hI7, hM7⟩ := HI8.o.pushL (Nat.le_refl _) (by decide) HM8.o (Gou.Mod.alloc0 _ _) G9
    have q1 := ((HI8.o.box.up (Gou.Mod.alloc0 _ _)).mod G9.mod (fun e => by have := uba HI8.o.l N e; have := HI8.o.ge; omega))
    have o1 : w9.cell? ⟨N, 1, none⟩ = some (.slice qr ls.length dr) := q1.cell 1 rfl
    have q0 := q1.frozen 1
    have HI9 := hd' hI7
    have HM9 := hd' hM7
    clear HE G9 hI7 hM7 o0 f0 q1
    go_upto_region 13 with fail
    clear q0 o1
    generalize w9.setCell ⟨N, 1, none⟩ (.slice p9 (ls.length + 1) c9) = wx9 at *
    have HRf := hd' (HR2.o.mod HM9.o (by have := HNr.o; omega))
    have HBN := hd' HI9.o.box.whole
    go_wp2_with (first | ((with_reducible refine lT 28 ?_); refine ldA HBN.o Tryz.underlying28 uae (h := ?_)) | ((with_reducible refine sT 28 ?_); refine stA (#[.slice p8 (gs.length + 1) c8, .slice p9 (ls.length + 1) c9]) (HRf.o.there 0 2 (by simp)) uae (by simp [Value.oneCell']) (h := ?_)) | fail)
    have HS := hd' (Blk.setMod wx9 ((w.heap.size + 1)) 0 (#[.slice p8 (gs.length + 1) c8, .slice p9 (ls.length + 1) c9] : Array Value).toList)
    have HR3 := HRf.o.setAll (#[.slice p8 (gs.length + 1) c8, .slice p9 (ls.length + 1) c9]) rfl
    refine bpr (results_cell_row rfl _ _ ((w.heap.size + 1)) 28 (#[.slice p8 (gs.length + 1) c8, .slice p9 (ls.length + 1) c9]) (0, 0) _ rfl HR3 Tryz.underlying28 rfl uae) rfl ?_
    have h1 := HNr.o
    have h2 := HM2.o.size
    refine ⟨_, rfl, _, _, rfl, ?_, (HM2.o.trans HM9.o (fun k hk e => by omega)).trans HS.o (fun k hk e => by omega)⟩
    rw [HP.o]
    exact (ArG.mod HI9.o.reads HS.o (fun k hk hb e => by have := HI9.o.ge; omega)).imp (fun k hb => .inr (by omega))
   ·have e1 : ((t : Int) == (a.gens.length : Int)) = false := by rw [bqf]; omega
    have HP := hd' (HPm.o ht)
    clear ht HPe HPm
    go_upto_region 13 with fail
    clear e1
    have HRf := hd' (HR2.o.mod HM.o (by have := HNr.o; omega))
    have HBN := hd' HI.o.box.whole
    go_wp2_with (first | ((with_reducible refine lT 28 ?_); refine ldA HBN.o Tryz.underlying28 uae (h := ?_)) | ((with_reducible refine sT 28 ?_); refine stA (#[.slice pr gs.length cr, .slice qr ls.length dr]) (HRf.o.there 0 2 (by simp)) uae (by simp [Value.oneCell']) (h := ?_)) | fail)
    have HS := hd' (Blk.setMod wr ((w.heap.size + 1)) 0 (#[.slice pr gs.length cr, .slice qr ls.length dr] : Array Value).toList)
    have HR3 := HRf.o.setAll (#[.slice pr gs.length cr, .slice qr ls.length dr]) rfl
    refine bpr (results_cell_row rfl _ _ ((w.heap.size + 1)) 28 (#[.slice pr gs.length cr, .slice qr ls.length dr]) (0, 0) _ rfl HR3 Tryz.underlying28 rfl uae) rfl ?_
    have h1 := HNr.o
    have h2 := HM2.o.size
    refine ⟨_, rfl, _, _, rfl, ?_, (HM2.o.trans HM.o (fun k hk e => by omega)).trans HS.o (fun k hk e => by omega)⟩
    rw [HP.o]
    exact (ArG.mod HI.o.reads HS.o (fun k hk hb e => by have := HI.o.ge; omega)).imp (fun k hb => .inr (by omega))
end Go.Proofs.YtpbmfalokongfaaGreatDoor
namespace Go.Gou
theorem Ar.free_put {a : Ar} {i : Nat} {v : Int} (h2 : a.live[i]? = some true) (h3 : a.gens[i]? = some v) (h : a.has ((i : Int), v) = true) (h0 : (i : Int) ≠ 0) : a.putA i (v + 1) false = a.free ((i : Int), v) := by
 have h4 := (lgS.1 h2).1
 have h5 := (lgS.1 h3).1
 have e : a.free ((i : Int), v) = ⟨a.gens.set i (v + 1), a.live.set i false⟩ := if_pos ⟨h, h0⟩
 rw [e]
 unfold Ar.putA uf2
 rw [if_neg (by omega), if_neg (by omega)]
theorem Ar.free_no {a : Ar} {x : Idt} (h : ¬ (a.has x = true ∧ x.1 ≠ 0)) : a.free x = a := by unfold Ar.free; rw [if_neg h]
end Go.Gou
namespace Go.Proofs.YtpbmfalokongfaaGreatDoor
open Go.RowKit Go.Gou
set_option maxRecDepth 100000
theorem freeA_any (G : Nat → Prop) (w : World) (vg vl : Value) (a : Ar) (x : Idt) (hG : ∀ b, G b → b < w.heap.size) (h : ArG G w vg vl a) (hfit : ArFit a) :
 Calls Tryz.prog 55 #[.agg #[vg, vl], .agg #[iV x.1, iV x.2]] w fun e w' => ∃ v q, e = .returned (.tuple #[v, .bool q]) ∧ RefA G w (a.free x) v w' := by
 obtain ⟨⟨pg, cg, rfl⟩, ⟨pl, cl, rfl⟩⟩ := h.reads.forms
 have Hh := hd' h
 have HG := hd' hG
 have Hfit := hd' hfit
 clear h hfit hG
 obtain ⟨b0, b1, b2, bm⟩ := ubd w 28 30 28 #[Value.slice pg a.gens.length cg, Value.slice pl a.live.length cl] #[iV x.1, iV x.2] #[Value.slice none 0 0, Value.slice none 0 0]
 have HB := hd' b0
 have HX := hd' b1
 have HR := hd' b2
 have HMa := hd' bm
 clear b0 b1 b2 bm
 go_enter Tryz.func55, Tryz.ntmps55
 go_upto_region 1 with fail
 show Code.wp _ _ _ _ (((w.alloc (.cells #[Value.slice pg a.gens.length cg, Value.slice pl a.live.length cl] 28)).alloc (.cells #[iV x.1, iV x.2] 30)).alloc (.cells #[Value.slice none 0 0, Value.slice none 0 0] 28))
 generalize ((w.alloc (.cells #[Value.slice pg a.gens.length cg, Value.slice pl a.live.length cl] 28)).alloc (.cells #[iV x.1, iV x.2] 30)).alloc (.cells #[Value.slice none 0 0, Value.slice none 0 0] 28) = W1 at *
 have c0 : W1.cell? ⟨w.heap.size, 0, none⟩ = some (.slice pg a.gens.length cg) := HB.o.cell 0 rfl
 have c1 : W1.cell? ⟨w.heap.size, 1, none⟩ = some (.slice pl a.live.length cl) := HB.o.cell 1 rfl
 have x0 : W1.cell? ⟨w.heap.size + 1, 0, none⟩ = some (iV x.1) := HX.o.cell 0 rfl
 have x1 : W1.cell? ⟨w.heap.size + 1, 1, none⟩ = some (iV x.2) := HX.o.cell 1 rfl
 go_wp2_with fail
 refine (udh _ _ _ a x (Hh.o.reads.up HMa.o) Hfit.o.len (by have := Hfit.o.len; have := Hfit.o.small; omega)).mono ?_
 rintro e w2 ⟨rfl, hm2⟩
 have HM2 := hd' (HMa.o.trans' hm2)
 have HB2 := hd' (HB.o.up hm2)
 have HX2 := hd' (HX.o.up hm2)
 have HR2 := hd' (HR.o.up hm2)
 clear hm2 c0 c1 x0 x1 HB HX HR HMa
 have c0 : w2.cell? ⟨w.heap.size, 0, none⟩ = some (.slice pg a.gens.length cg) := HB2.o.cell 0 rfl
 have c1 : w2.cell? ⟨w.heap.size, 1, none⟩ = some (.slice pl a.live.length cl) := HB2.o.cell 1 rfl
 have x0 : w2.cell? ⟨w.heap.size + 1, 0, none⟩ = some (iV x.1) := HX2.o.cell 0 rfl
 have x1 : w2.cell? ⟨w.heap.size + 1, 1, none⟩ = some (iV x.2) := HX2.o.cell 1 rfl
 by_cases hh : a.has x = true
 ·by_cases hz : x.1 = 0
  ·have e1 : (x.1 == 0) = true := beq_iff_eq.2 hz
   have HF := hd' (Ar.free_no (a := a) (x := x) (fun h => h.2 hz))
   rw [hh]
   clear hh hz
   go_wp2_with (first | ((with_reducible refine sT 28 ?_); refine stA (#[Value.slice pg a.gens.length cg, Value.slice pl a.live.length cl]) (HR2.o.there 0 2 (by simp)) uae (by simp [Value.oneCell']) (h := ?_)) | fail)
   have HS := hd' (Blk.setMod w2 ((w.heap.size + 1 + 1)) 0 (#[Value.slice pg a.gens.length cg, Value.slice pl a.live.length cl] : Array Value).toList)
   have HR9 := HR2.o.setAll #[Value.slice pg a.gens.length cg, Value.slice pl a.live.length cl] rfl
   refine bpr (uam rfl (ResAt.of rfl HR9 Tryz.underlying28 rfl uae)) rfl ?_
   refine ⟨_, _, rfl, _, _, rfl, ?_, HM2.o.trans HS.o (fun k hk e => by omega)⟩
   rw [HF.o]
   exact ((Hh.o.mod HM2.o (fun _ _ _ h => h)).mod HS.o (fun k hk hb e => by have := HG.o k hb; omega)).imp (fun k hb => .inl hb)
  ·have e1 : (x.1 == 0) = false := bqf.2 hz
   obtain ⟨i, hi1, hi2, hi3⟩ := Ar.has_iff.1 hh
   have hv := Hfit.o.gen x.2 (lmG hi3)
   have hw : wrap64 (x.2 + 1) = x.2 + 1 := by unfold wrap64; omega
   have HF : Hid (a.putA i (x.2 + 1) false = a.free x) := hd' (by
    have hx : x = ((i : Int), x.2) := Prod.ext hi1 rfl
    have h := Ar.free_put hi2 hi3 (hx ▸ hh) (hi1 ▸ hz)
    rw [← hx] at h
    exact h)
   have HI := hd' hi1
   rw [hh]
   clear hh hz hi1 hi2 hi3 hv
   go_wp2_with fail
   rw [HI.o]
   refine (ueb _ _ _ a i (x.2 + 1) false (Hh.o.reads.up HM2.o) Hfit.o.len (by have := Hfit.o.len; have := Hfit.o.small; omega)).mono ?_
   rintro e w3 ⟨v, rfl, ug, ul, rfl, ha, hm3⟩
   obtain ⟨⟨pu, cu, rfl⟩, ⟨pw, cw, rfl⟩⟩ := ha.reads.forms
   have HM3 := hd' (HM2.o.trans' hm3)
   have HA3 := hd' ha
   have HR3 := hd' (HR2.o.up hm3)
   have Hz3 : Hid (w.heap.size ≤ w2.heap.size) := hd' HM2.o.size
   clear ha hm3 c0 c1 x0 x1 e1 hw
   have r0 : w3.cell? ⟨w.heap.size + 1 + 1, 0, none⟩ = some nlS := HR3.o.cell 0 rfl
   have r1 : w3.cell? ⟨w.heap.size + 1 + 1, 1, none⟩ = some nlS := HR3.o.cell 1 rfl
   go_wp2_with (first | ((with_reducible refine sT 28 ?_); refine stA (#[.slice pu (a.putA i (x.2 + 1) false).gens.length cu, .slice pw (a.putA i (x.2 + 1) false).live.length cw]) (HR3.o.there 0 2 (by simp)) uae (by simp [Value.oneCell']) (h := ?_)) | fail)
   have HS := hd' (Blk.setMod w3 ((w.heap.size + 1 + 1)) 0 (#[.slice pu (a.putA i (x.2 + 1) false).gens.length cu, .slice pw (a.putA i (x.2 + 1) false).live.length cw] : Array Value).toList)
   have HR9 := HR3.o.setAll (#[.slice pu (a.putA i (x.2 + 1) false).gens.length cu, .slice pw (a.putA i (x.2 + 1) false).live.length cw]) rfl
   refine bpr (uam rfl (ResAt.of rfl HR9 Tryz.underlying28 rfl uae)) rfl ?_
   have h1 := Blk.lt HR2.o
   refine ⟨_, _, rfl, _, _, rfl, ?_, HM3.o.trans HS.o (fun k hk e => by omega)⟩
   rw [← HF.o]
   exact (ArG.mod HA3.o HS.o (fun k hk hb e => hb.elim id (fun h => by omega))).imp (fun k hb => .inr (by have := Hz3.o; exact hb.elim False.elim (fun h => by omega)))
 ·have HF := hd' (Ar.free_no (a := a) (x := x) (fun h => hh h.1))
  rw [Bool.eq_false_iff.2 hh]
  clear hh
  go_wp2_with (first | ((with_reducible refine sT 28 ?_); refine stA (#[Value.slice pg a.gens.length cg, Value.slice pl a.live.length cl]) (HR2.o.there 0 2 (by simp)) uae (by simp [Value.oneCell']) (h := ?_)) | fail)
  have HS := hd' (Blk.setMod w2 ((w.heap.size + 1 + 1)) 0 (#[Value.slice pg a.gens.length cg, Value.slice pl a.live.length cl] : Array Value).toList)
  have HR9 := HR2.o.setAll #[Value.slice pg a.gens.length cg, Value.slice pl a.live.length cl] rfl
  refine bpr (uam rfl (ResAt.of rfl HR9 Tryz.underlying28 rfl uae)) rfl ?_
  refine ⟨_, _, rfl, _, _, rfl, ?_, HM2.o.trans HS.o (fun k hk e => by omega)⟩
  rw [HF.o]
  exact ((Hh.o.mod HM2.o (fun _ _ _ h => h)).mod HS.o (fun k hk hb e => by have := HG.o k hb; omega)).imp (fun k hb => .inl hb)
end Go.Proofs.YtpbmfalokongfaaGreatDoor
namespace Go.Gou
def Ar.takeO (a : Ar) : Ar × Idt × Bool := match a.take with
 | none => (a, (0, 0), false)
 | some (b, y) => (b, y, true)
theorem Ar.takeO_free {a : Ar} {j : Nat} {g : Int} (hl : a.live[j]? = some false) (hg : a.gens[j]? = some g) (h : ∀ t, t < j → a.live[t]? = some true) : a.takeO = (a.putA j g true, ((j : Int), g), true) := by
 obtain ⟨h1, h2⟩ := lgS.1 hl
 obtain ⟨h3, h4⟩ := lgS.1 hg
 have hf : a.live.findIdx? (fun q => !q) = some j := List.findIdx?_eq_some_iff_getElem.2 ⟨h1, by rw [h2]; rfl, fun t ht => by
  have := (lgS.1 (h t ht)).2
  rw [this]
  simp⟩
 unfold Ar.takeO Ar.take
 rw [hf]
 simp only [Ar.putA, uf2]
 rw [if_neg (by omega), if_neg (by omega), List.getD_eq_getElem?_getD, hg]
 have : a.gens.set j g = a.gens := by rw [← h4, List.set_getElem_self]
 rw [this]
 rfl
theorem Ar.takeO_all {a : Ar} (h : ∀ t, t < a.live.length → a.live[t]? = some true) (hlen : a.gens.length = a.live.length) : a.takeO = if a.live.length = 1024 then (a, (0, 0), false) else (a.putA a.live.length 0 true, ((a.live.length : Int), 0), true) := by
 have hf : a.live.findIdx? (fun q => !q) = none := List.findIdx?_eq_none_iff.2 (fun x hx => by
  obtain ⟨t, ht, rfl⟩ := List.getElem_of_mem hx
  have := (lgS.1 (h t ht)).2
  rw [this]
  rfl)
 unfold Ar.takeO Ar.take
 rw [hf]
 by_cases hc : a.live.length = 1024
 ·simp only [if_pos hc]
 ·simp only [if_neg hc, Ar.putA, uf2, hlen, if_true]
end Go.Gou
namespace Go.Proofs.YtpbmfalokongfaaGreatDoor
open Go.RowKit Go.Gou
set_option maxRecDepth 100000
theorem takeA_any (G : Nat → Prop) (w : World) (vg vl : Value) (a : Ar) (hG : ∀ b, G b → b < w.heap.size) (h : ArG G w vg vl a) (hfit : ArFit a) :
 Calls Tryz.prog 32 #[.agg #[vg, vl]] w fun e w' => ∃ v, e = .returned (.tuple #[v, .agg #[iV a.takeO.2.1.1, iV a.takeO.2.1.2], .bool a.takeO.2.2]) ∧ RefA G w a.takeO.1 v w' := by
 obtain ⟨⟨pg, cg, rfl⟩, ⟨pl, cl, rfl⟩⟩ := h.reads.forms
 have Hh := hd' h
 have HG := hd' hG
 have Hfit := hd' hfit
 have Hlen := hd' hfit.len
 have Hn := hd' hfit.small
 clear h hfit hG
 obtain ⟨b0, b1, b2, bm⟩ := ubd w 28 28 30 #[Value.slice pg a.gens.length cg, Value.slice pl a.live.length cl] #[Value.slice none 0 0, Value.slice none 0 0] iiZ
 have HB := hd' b0
 have HR := hd' b1
 have HI := hd' b2
 have HMa := hd' bm
 clear b0 b1 b2 bm
 go_enter Tryz.func32, Tryz.ntmps32
 go_upto_region 1 with fail
 show Code.wp _ _ _ _ (((w.alloc (.cells #[Value.slice pg a.gens.length cg, Value.slice pl a.live.length cl] 28)).alloc (.cells #[Value.slice none 0 0, Value.slice none 0 0] 28)).alloc (.cells iiZ 30))
 generalize ((w.alloc (.cells #[Value.slice pg a.gens.length cg, Value.slice pl a.live.length cl] 28)).alloc (.cells #[Value.slice none 0 0, Value.slice none 0 0] 28)).alloc (.cells iiZ 30) = W1 at *
 have Hz1 := hd' (Blk.lt HI.o)
 go_wp2_with fail
 go_loopw [5] (fun vi wr => ∃ j : Nat, vi = iV j ∧ j ≤ a.live.length ∧ (∀ t, t < j → a.live[t]? = some true) ∧ Gou.Mod (fun _ => False) W1 wr) (fun vi _ => a.live.length - (intOf vi).toNat)
 case atStart => exact ⟨0, rfl, Nat.zero_le _, fun t h => absurd h (Nat.not_lt_zero _), Gou.Mod.refl _ _⟩
 case round =>
  obtain ⟨j, rfl, hj, hall, hm⟩ := hrel
  have Hall := hd' hall
  have Hm := hd' hm
  have HMw := hd' (HMa.o.trans' hm)
  have HBr := hd' (HB.o.up hm)
  have HRr := hd' (HR.o.up hm)
  have HIr := hd' (HI.o.up hm)
  have Hzr : Hid (w.heap.size + 1 + 1 < wr.heap.size) := hd' (Blk.lt HIr.o)
  have c0 : wr.cell? ⟨w.heap.size, 0, none⟩ = some (.slice pg a.gens.length cg) := HBr.o.cell 0 rfl
  have c1 : wr.cell? ⟨w.heap.size, 1, none⟩ = some (.slice pl a.live.length cl) := HBr.o.cell 1 rfl
  clear hm hall
  by_cases hil : j < a.live.length
  ·have hil2 : j < a.gens.length := by rw [Hlen.o]; exact hil
   obtain ⟨bv, hbv⟩ : ∃ bv, a.live[j]? = some bv := ⟨_, lgE hil⟩
   obtain ⟨gv, hgv⟩ : ∃ gv, a.gens[j]? = some gv := ⟨_, lgE hil2⟩
   obtain ⟨bl, ol, rfl, hbl, _, hcl⟩ := RowG.one_cell Hh.o.l (by omega)
   obtain ⟨bg, og, rfl, hbg, _, hcg⟩ := RowG.one_cell Hh.o.g (by omega)
   have li := (HMw.o.cell (p := ⟨bl, ol + j, none⟩) hbl (fun h => h)).trans (hcl j _ (ucw hbv))
   have gi := (HMw.o.cell (p := ⟨bg, og + j, none⟩) hbg (fun h => h)).trans (hcg j _ (uez hgv))
   have Hbl := hd' hbl
   have Hbg := hd' hbg
   have hwi : wrap64 ((j : Int) + 1) = ((j + 1 : Nat) : Int) := by have := Hn.o; unfold wrap64; omega
   have Hwi := hd' hwi
   have Hb := hd' hbv
   have Hg := hd' hgv
   have Hil := hd' hil
   clear hcl hcg hbv hgv hbl hbg
   cases bv
   ·have HT := hd' (Ar.takeO_free Hb.o Hg.o Hall.o)
    go_upto_region 5 with fail
    have HT2 := HT
    have HBq : Hid (wr.rangeAt w.heap.size 0 [.slice (some ⟨bg, og, none⟩) a.gens.length cg, .slice (some ⟨bl, ol, none⟩) a.live.length cl]) := hd' (Blk.range (pre := []) (post := []) HBr.o rfl rfl)
    refine wp_region_held_drew (S := fun w' => Gou.Mod (fun k => k = w.heap.size + 1 ∨ k = w.heap.size + 1 + 1) wr w') (by kernel_rfl) (Gou.Mod.drew _ _) (fun hH => ?_)
    refine tkR 0 (.agg #[.slice (some ⟨bg, og, none⟩) a.gens.length cg, .slice (some ⟨bl, ol, none⟩) a.live.length cl]) HBq.o (fun h => by have h : w.heap.size = w.heap.size + 1 ∨ w.heap.size = w.heap.size + 1 + 1 := h; omega) Tryz.underlying28 uae hH (h := ?_)
    refine tk 1 (iV (j : Int)) hH (h := ?_)
    refine tk 2 (.pointer (some ⟨w.heap.size, 0, none⟩)) hH (h := ?_)
    refine tkC 3 c0 (fun h => by have h : w.heap.size = w.heap.size + 1 ∨ w.heap.size = w.heap.size + 1 + 1 := h; omega) hH (h := ?_)
    refine tk 4 (iV (j : Int)) hH (h := ?_)
    refine tk 5 (.pointer (some ⟨bg, og + j, none⟩)) hH (h := ?_)
    refine tkC 6 gi (fun h => by have h : bg = w.heap.size + 1 ∨ bg = w.heap.size + 1 + 1 := h; have := Hbg.o; omega) hH (h := ?_)
    refine tk 8 (iV (j : Int)) hH (h := ?_)
    refine tk 9 (.pointer (some ⟨w.heap.size, 0, none⟩)) hH (h := ?_)
    refine tkC 10 c0 (fun h => by have h : w.heap.size = w.heap.size + 1 ∨ w.heap.size = w.heap.size + 1 + 1 := h; omega) hH (h := ?_)
    refine tk 11 (iV (j : Int)) hH (h := ?_)
    refine tk 12 (.pointer (some ⟨bg, og + j, none⟩)) hH (h := ?_)
    refine tkC 13 gi (fun h => by have h : bg = w.heap.size + 1 ∨ bg = w.heap.size + 1 + 1 := h; have := Hbg.o; omega) hH (h := ?_)
    refine tk 14 (.agg #[iV (j : Int), iV gv]) hH (h := ?_)
    refine rd 7 (h := fun K hK => ?_)
    go_simp
    have hq : Gou.Mod (fun _ => False) wr wr.drew := Gou.Mod.drew _ _
    refine (ueb _ _ _ a j gv true (Hh.o.reads.up (HMw.o.trans' hq)) Hlen.o (by have := Hlen.o; have := Hn.o; omega)).mono ?_
    rintro e w3 ⟨v, rfl, ug, ul, rfl, ha, hm3⟩
    replace hm3 := hq.trans' hm3
    obtain ⟨⟨pu, cu, rfl⟩, ⟨pw, cw, rfl⟩⟩ := ha.reads.forms
    have HM3 := hd' (HMw.o.trans' hm3)
    have HA3 := hd' ha
    have HR3 := hd' (HRr.o.up hm3)
    have HI3 := hd' (HIr.o.up hm3)
    have Hz3 : Hid (wr.heap.size ≤ wr.drew.heap.size) := hd' hq.size
    have M := hd' (Gou.Mod.imp (S' := fun k => k = w.heap.size + 1 ∨ k = w.heap.size + 1 + 1) hm3 (fun _ _ h => h.elim))
    clear hH ha hm3 hq
    refine hK _ _ M.o (fun hH => ?_)
    clear hK K M
    try simp only [Act.put, uSa, uSb, uSc]
    refine rd 15 (h := fun K hK => ?_)
    refine wp_store_mid 28 _ _ rfl (w.heap.size + 1) 0 #[Value.slice pu (a.putA j gv true).gens.length cu, Value.slice pw (a.putA j gv true).live.length cw] rfl rfl (HR3.o.there 0 2 (by simp)) uae (by simp [Value.oneCell']) ?_
    have M := hd' (hH.trans' ((Blk.setMod w3 (w.heap.size + 1) 0 (#[Value.slice pu (a.putA j gv true).gens.length cu, Value.slice pw (a.putA j gv true).live.length cw] : Array Value).toList).imp (fun _ _ h => .inl h)))
    clear hH
    refine hK _ _ M.o (fun hH => ?_)
    clear hK K M
    try simp only [Act.put, uSa, uSb, uSc]
    refine rd 16 (h := fun K hK => ?_)
    refine wp_store_mid 30 _ _ rfl (w.heap.size + 1 + 1) 0 #[iV (j : Int), iV gv] rfl rfl ((HI3.o.mod (Blk.setMod w3 (w.heap.size + 1) 0 (#[Value.slice pu (a.putA j gv true).gens.length cu, Value.slice pw (a.putA j gv true).live.length cw] : Array Value).toList) (by omega)).there 0 2 (by simp)) uaf (by simp [Value.oneCell']) ?_
    have M := hd' (hH.trans' ((Blk.setMod _ (w.heap.size + 1 + 1) 0 (#[iV (j : Int), iV gv] : Array Value).toList).imp (fun _ _ h => .inr h)))
    clear hH
    refine hK _ _ M.o (fun hH => ?_)
    clear hK K M
    try simp only [Act.put, uSa, uSb, uSc]
    refine tk 17 (.bool true) hH (h := ?_)
    have MS := hd' hH
    refine wpAnyH_done (by kernel_rfl) ?_ _
    clear hH
    clear MS
    go_wp2_with fail
    have hz3 := Hz3.o
    have HS := hd' (Blk.setMod w3 (w.heap.size + 1) 0 (#[Value.slice pu (a.putA j gv true).gens.length cu, Value.slice pw (a.putA j gv true).live.length cw] : Array Value).toList)
    have HRn := HR3.o.setAll #[Value.slice pu (a.putA j gv true).gens.length cu, Value.slice pw (a.putA j gv true).live.length cw] rfl
    have HIn := HI3.o.mod HS.o (by omega)
    have HRm := HRn.mod (Blk.setMod _ (w.heap.size + 1 + 1) 0 (#[iV (j : Int), iV gv] : Array Value).toList) (by omega)
    have HS2 := hd' (Blk.setMod (w3.setCells (w.heap.size + 1) 0 (#[Value.slice pu (a.putA j gv true).gens.length cu, Value.slice pw (a.putA j gv true).live.length cw] : Array Value).toList) (w.heap.size + 1 + 1) 0 (#[iV (j : Int), iV gv] : Array Value).toList)
    have HIm := HIn.setAll #[iV (j : Int), iV gv] rfl
    refine bpr (ubg rfl (ResAt.of rfl HRm Tryz.underlying28 rfl uae) (ResAt.of rfl HIm Tryz.underlying30 rfl uaf)) rfl ?_
    rw [HT2.o]
    have hz := Hzr.o
    exact ⟨_, rfl, _, _, rfl, ((HA3.o.mod HS.o (fun k hk hb e => hb.elim id (fun h => by omega))).mod HS2.o (fun k hk hb e => hb.elim id (fun h => by omega))).imp (fun k hb => .inr (hb.elim False.elim (fun h => by omega))), (HM3.o.trans HS.o (fun k hk e => by omega)).trans HS2.o (fun k hk e => by omega)⟩
   ·have Hst : Hid (∀ t, t < j + 1 → a.live[t]? = some true) := hd' (fun t ht => by
     by_cases he : t = j
     ·subst he; exact Hb.o
     ·exact Hall.o t (by omega))
    go_wp2_with fail
    go_roundw
    case rel => exact ⟨j + 1, by rw [← hwi], by have := Hil.o; omega, Hst.o, Hm.o⟩
    case measure => rw [hwi]; have := Hil.o; simp only [intOf]; omega
  ·have hje : j = a.live.length := by omega
   subst hje
   have HT := hd' (Ar.takeO_all Hall.o Hlen.o)
   clear hj
   by_cases hc : a.live.length = 1024
   ·have e1 : ((a.live.length : Int) == 1024) = true := by rw [beq_iff_eq]; omega
    have HT2 := hd' (HT.o.trans (if_pos hc))
    clear hc HT
    go_wp2_with (first | ((with_reducible refine sT 28 ?_); refine stA (#[Value.slice pg a.gens.length cg, Value.slice pl a.live.length cl]) (HRr.o.there 0 2 (by simp)) uae (by simp [Value.oneCell']) (h := ?_)) | ((with_reducible refine sT 30 ?_); refine stA (iiZ) ((HIr.o.mod (Blk.setMod wr (w.heap.size + 1) 0 (#[Value.slice pg a.gens.length cg, Value.slice pl a.live.length cl] : Array Value).toList) (by omega)).there 0 2 (by simp)) uaf (by simp [Value.oneCell']) (h := ?_)) | fail)
    have HS := hd' (Blk.setMod wr (w.heap.size + 1) 0 (#[Value.slice pg a.gens.length cg, Value.slice pl a.live.length cl] : Array Value).toList)
    have HRn := HRr.o.setAll #[Value.slice pg a.gens.length cg, Value.slice pl a.live.length cl] rfl
    have HIn := HIr.o.mod HS.o (by omega)
    have HRm := HRn.mod (Blk.setMod _ (w.heap.size + 1 + 1) 0 (iiZ : Array Value).toList) (by omega)
    have HS2 := hd' (Blk.setMod (wr.setCells (w.heap.size + 1) 0 (#[Value.slice pg a.gens.length cg, Value.slice pl a.live.length cl] : Array Value).toList) (w.heap.size + 1 + 1) 0 (iiZ : Array Value).toList)
    have HIm := HIn.setAll iiZ rfl
    refine bpr (ubg rfl (ResAt.of rfl HRm Tryz.underlying28 rfl uae) (ResAt.of rfl HIm Tryz.underlying30 rfl uaf)) rfl ?_
    rw [HT2.o]
    exact ⟨_, rfl, _, _, rfl, ((((Hh.o.mod HMw.o (fun _ _ _ h => h)).mod HS.o (fun k hk hb e => by have := HG.o k hb; omega)).mod HS2.o (fun k hk hb e => by have := HG.o k hb; omega))).imp (fun k hb => .inl hb), (HMw.o.trans HS.o (fun k hk e => by omega)).trans HS2.o (fun k hk e => by omega)⟩
   ·have e1 : ((a.live.length : Int) == 1024) = false := by rw [bqf]; omega
    have HT2 := hd' (HT.o.trans (if_neg hc))
    clear hc HT
    go_wp2_with fail
    refine (ueb _ _ _ a a.live.length 0 true (Hh.o.reads.up HMw.o) Hlen.o (by have := Hlen.o; have := Hn.o; omega)).mono ?_
    rintro e w3 ⟨v, rfl, ug, ul, rfl, ha, hm3⟩
    obtain ⟨⟨pu, cu, rfl⟩, ⟨pw, cw, rfl⟩⟩ := ha.reads.forms
    have HM3 := hd' (HMw.o.trans' hm3)
    have HA3 := hd' ha
    have HR3 := hd' (HRr.o.up hm3)
    have HI3 := hd' (HIr.o.up hm3)
    clear ha hm3 c0 c1
    go_wp2_with (first | ((with_reducible refine sT 28 ?_); refine stA (#[Value.slice pu (a.putA a.live.length 0 true).gens.length cu, Value.slice pw (a.putA a.live.length 0 true).live.length cw]) (HR3.o.there 0 2 (by simp)) uae (by simp [Value.oneCell']) (h := ?_)) | ((with_reducible refine sT 30 ?_); refine stA (#[iV (a.live.length : Int), iV 0]) ((HI3.o.mod (Blk.setMod w3 (w.heap.size + 1) 0 (#[Value.slice pu (a.putA a.live.length 0 true).gens.length cu, Value.slice pw (a.putA a.live.length 0 true).live.length cw] : Array Value).toList) (by omega)).there 0 2 (by simp)) uaf (by simp [Value.oneCell']) (h := ?_)) | fail)
    have HS := hd' (Blk.setMod w3 (w.heap.size + 1) 0 (#[Value.slice pu (a.putA a.live.length 0 true).gens.length cu, Value.slice pw (a.putA a.live.length 0 true).live.length cw] : Array Value).toList)
    have HRn := HR3.o.setAll #[Value.slice pu (a.putA a.live.length 0 true).gens.length cu, Value.slice pw (a.putA a.live.length 0 true).live.length cw] rfl
    have HIn := HI3.o.mod HS.o (by omega)
    have HRm := HRn.mod (Blk.setMod _ (w.heap.size + 1 + 1) 0 (#[iV (a.live.length : Int), iV 0] : Array Value).toList) (by omega)
    have HS2 := hd' (Blk.setMod (w3.setCells (w.heap.size + 1) 0 (#[Value.slice pu (a.putA a.live.length 0 true).gens.length cu, Value.slice pw (a.putA a.live.length 0 true).live.length cw] : Array Value).toList) (w.heap.size + 1 + 1) 0 (#[iV (a.live.length : Int), iV 0] : Array Value).toList)
    have HIm := HIn.setAll #[iV (a.live.length : Int), iV 0] rfl
    refine bpr (ubg rfl (ResAt.of rfl HRm Tryz.underlying28 rfl uae) (ResAt.of rfl HIm Tryz.underlying30 rfl uaf)) rfl ?_
    rw [HT2.o]
    have hz := Hzr.o
    exact ⟨_, rfl, _, _, rfl, ((HA3.o.mod HS.o (fun k hk hb e => hb.elim id (fun h => by omega))).mod HS2.o (fun k hk hb e => hb.elim id (fun h => by omega))).imp (fun k hb => .inr (hb.elim False.elim (fun h => by omega))), (HM3.o.trans HS.o (fun k hk e => by omega)).trans HS2.o (fun k hk e => by omega)⟩
theorem sameA_any (w : World) (vg vl ug ul : Value) (a b : Ar) (ha : ArR w vg vl a) (hb : ArR w ug ul b) (hna : a.gens.length ≤ 1000000) (hnl : a.live.length ≤ 1000000) :
 Calls Tryz.prog 37 #[.agg #[vg, vl], .agg #[ug, ul]] w fun e w' => e = .returned (.bool (decide (a = b))) ∧ Gou.Mod (fun _ => False) w w' := by
 obtain ⟨⟨pg, cg, rfl⟩, ⟨pl, cl, rfl⟩⟩ := ha.forms
 obtain ⟨⟨qg, dg, rfl⟩, ⟨ql, dl, rfl⟩⟩ := hb.forms
 have Ha := hd' ha
 have Hb := hd' hb
 have Hna := hd' hna
 have Hnl := hd' hnl
 clear ha hb hna hnl
 obtain ⟨b0, b1, bm⟩ := uaw w 28 28 #[Value.slice pg a.gens.length cg, Value.slice pl a.live.length cl] #[Value.slice qg b.gens.length dg, Value.slice ql b.live.length dl]
 have HAW1 := hd' b0
 have HBW1 := hd' b1
 have HMW1 := hd' bm
 clear b0 b1 bm
 go_enter Tryz.func37, Tryz.ntmps37
 go_upto_region 1 with fail
 generalize (w.alloc (.cells #[Value.slice pg a.gens.length cg, Value.slice pl a.live.length cl] 28)).alloc (.cells #[Value.slice qg b.gens.length dg, Value.slice ql b.live.length dl] 28) = W1 at *
 have c0 : W1.cell? ⟨w.heap.size, 0, none⟩ = some (.slice pg a.gens.length cg) := HAW1.o.cell 0 rfl
 have c1 : W1.cell? ⟨w.heap.size, 1, none⟩ = some (.slice pl a.live.length cl) := HAW1.o.cell 1 rfl
 have d0 : W1.cell? ⟨w.heap.size + 1, 0, none⟩ = some (.slice qg b.gens.length dg) := HBW1.o.cell 0 rfl
 have d1 : W1.cell? ⟨w.heap.size + 1, 1, none⟩ = some (.slice ql b.live.length dl) := HBW1.o.cell 1 rfl
 by_cases h1 : a.gens.length = b.gens.length
 ·have e1 : ((a.gens.length : Int) != (b.gens.length : Int)) = false := by rw [bnf]; omega
  have H1 := hd' h1
  by_cases h2 : a.live.length = b.live.length
  ·have e2 : ((a.live.length : Int) != (b.live.length : Int)) = false := by rw [bnf]; omega
   have H2 := hd' h2
   clear h1 h2
   go_upto_region 3 with fail
   clear e1 e2 c0 c1 d0 d1
   go_wp2_with fail
   go_loopw [5] (fun vi wr => ∃ j : Nat, vi = iV j ∧ j ≤ a.gens.length ∧ (∀ t, t < j → a.gens[t]? = b.gens[t]?) ∧ Gou.Mod (fun _ => False) W1 wr) (fun vi _ => a.gens.length - (intOf vi).toNat)
   case atStart => exact ⟨0, rfl, Nat.zero_le _, fun t h => absurd h (Nat.not_lt_zero _), Gou.Mod.refl _ _⟩
   case round =>
    obtain ⟨j, rfl, hj, hall, hm⟩ := hrel
    have Hall := hd' hall
    have Hm := hd' hm
    have HMw := hd' (HMW1.o.trans' hm)
    have c0 : wr.cell? ⟨w.heap.size, 0, none⟩ = some (.slice pg a.gens.length cg) := (HAW1.o.up hm).cell 0 rfl
    have d0 : wr.cell? ⟨w.heap.size + 1, 0, none⟩ = some (.slice qg b.gens.length dg) := (HBW1.o.up hm).cell 0 rfl
    clear hm hall
    by_cases hil : j < a.gens.length
    ·have hil2 : j < b.gens.length := by rw [← H1.o]; exact hil
     obtain ⟨av, hav⟩ : ∃ av, a.gens[j]? = some av := ⟨_, lgE hil⟩
     obtain ⟨bv, hbv⟩ : ∃ bv, b.gens[j]? = some bv := ⟨_, lgE hil2⟩
     obtain ⟨b1, o1, rfl, _, _, hc1⟩ := RowG.one_cell (RowG.mod Ha.o.g HMw.o (fun _ _ _ h => h)) (by omega)
     obtain ⟨b2, o2, rfl, _, _, hc2⟩ := RowG.one_cell (RowG.mod Hb.o.g HMw.o (fun _ _ _ h => h)) (by omega)
     have ai := hc1 j _ (uez hav)
     have bi := hc2 j _ (uez hbv)
     have hwi : wrap64 ((j : Int) + 1) = ((j + 1 : Nat) : Int) := by have := Hna.o; unfold wrap64; omega
     have Hil := hd' hil
     have Hav := hd' hav
     have Hbv := hd' hbv
     clear hc1 hc2 hav hbv
     by_cases he : av = bv
     ·have Hst : Hid (∀ t, t < j + 1 → a.gens[t]? = b.gens[t]?) := hd' (fun t ht => by
       by_cases h : t = j
       ·subst h; rw [Hav.o, Hbv.o, he]
       ·exact Hall.o t (by omega))
      subst he
      have e1 : (av != av) = false := by simp
      go_upto_region 6 with fail
      go_quiet (fail)
      have HQ := hd' (Hm.o.trans' (Gou.Mod.drewN (fun _ => False) wr nq))
      go_wp2_with fail
      go_roundw
      case rel => exact ⟨j + 1, by rw [← hwi], by have := Hil.o; omega, Hst.o, HQ.o⟩
      case measure => rw [hwi]; have := Hil.o; simp only [intOf]; omega
     ·skip
      have e1 : (av != bv) = true := bne_iff_ne.2 he
      have Hne : Hid (decide (a = b) = false) := hd' (dqf (fun e => he (by subst e; have := Hav.o.symm.trans Hbv.o; exact Option.some.inj this)))
      clear he
      go_upto_region 6 with fail
      go_quiet (fail)
      go_wp2_with fail
      go_ret
      exact ⟨by rw [Hne.o]; rfl, HMw.o.trans' (Gou.Mod.drewN _ wr nq)⟩
    ·have hje : j = a.gens.length := by omega
     have HG : Hid (a.gens = b.gens) := hd' (List.ext_getElem? (fun t => by
      by_cases h : t < a.gens.length
      ·exact Hall.o t (by omega)
      ·rw [List.getElem?_eq_none (by omega), List.getElem?_eq_none (by have := H1.o; omega)]))
     subst hje
     have HMW2 := HMw
     have HAW2 := hd' (HAW1.o.up Hm.o)
     have HBW2 := hd' (HBW1.o.up Hm.o)
     clear hj hil Hall HMw Hm
     obtain ⟨W2, hW2⟩ : ∃ W2, W2 = wr := ⟨_, rfl⟩
     subst hW2
     go_upto_region 8 with fail
     clear c0 d0
     go_wp2_with fail
     go_loopw [6] (fun vi wr => ∃ j : Nat, vi = iV j ∧ j ≤ a.live.length ∧ (∀ t, t < j → a.live[t]? = b.live[t]?) ∧ Gou.Mod (fun _ => False) W2 wr) (fun vi _ => a.live.length - (intOf vi).toNat)
     case atStart => exact ⟨0, rfl, Nat.zero_le _, fun t h => absurd h (Nat.not_lt_zero _), Gou.Mod.refl _ _⟩
     case round =>
      obtain ⟨j, rfl, hj, hall, hm⟩ := hrel
      have Hall := hd' hall
      have Hm := hd' hm
      have HMw := hd' (HMW2.o.trans' hm)
      have c1 : wr.cell? ⟨w.heap.size, 1, none⟩ = some (.slice pl a.live.length cl) := (HAW2.o.up hm).cell 1 rfl
      have d1 : wr.cell? ⟨w.heap.size + 1, 1, none⟩ = some (.slice ql b.live.length dl) := (HBW2.o.up hm).cell 1 rfl
      clear hm hall
      by_cases hil : j < a.live.length
      ·have hil2 : j < b.live.length := by rw [← H2.o]; exact hil
       obtain ⟨av, hav⟩ : ∃ av, a.live[j]? = some av := ⟨_, lgE hil⟩
       obtain ⟨bv, hbv⟩ : ∃ bv, b.live[j]? = some bv := ⟨_, lgE hil2⟩
       obtain ⟨b1, o1, rfl, _, _, hc1⟩ := RowG.one_cell (RowG.mod Ha.o.l HMw.o (fun _ _ _ h => h)) (by omega)
       obtain ⟨b2, o2, rfl, _, _, hc2⟩ := RowG.one_cell (RowG.mod Hb.o.l HMw.o (fun _ _ _ h => h)) (by omega)
       have ai := hc1 j _ (ucw hav)
       have bi := hc2 j _ (ucw hbv)
       have hwi : wrap64 ((j : Int) + 1) = ((j + 1 : Nat) : Int) := by have := Hnl.o; unfold wrap64; omega
       have Hil := hd' hil
       have Hav := hd' hav
       have Hbv := hd' hbv
       clear hc1 hc2 hav hbv
       by_cases he : av = bv
       ·have Hst : Hid (∀ t, t < j + 1 → a.live[t]? = b.live[t]?) := hd' (fun t ht => by
         by_cases h : t = j
         ·subst h; rw [Hav.o, Hbv.o, he]
         ·exact Hall.o t (by omega))
        subst he
        cases av
        ·skip
         go_upto_region 11 with fail
         go_quiet (fail)
         have HQ := hd' (Hm.o.trans' (Gou.Mod.drewN (fun _ => False) wr nq))
         go_wp2_with fail
         go_roundw
         case rel => exact ⟨j + 1, by rw [← hwi], by have := Hil.o; omega, Hst.o, HQ.o⟩
         case measure => rw [hwi]; have := Hil.o; simp only [intOf]; omega
        ·skip
         go_upto_region 11 with fail
         go_quiet (fail)
         have HQ := hd' (Hm.o.trans' (Gou.Mod.drewN (fun _ => False) wr nq))
         go_wp2_with fail
         go_roundw
         case rel => exact ⟨j + 1, by rw [← hwi], by have := Hil.o; omega, Hst.o, HQ.o⟩
         case measure => rw [hwi]; have := Hil.o; simp only [intOf]; omega
       ·cases av <;> cases bv
        ·exact absurd rfl he
        ·skip
         have Hne : Hid (decide (a = b) = false) := hd' (dqf (fun e => he (by subst e; have := Hav.o.symm.trans Hbv.o; exact Option.some.inj this)))
         clear he
         go_upto_region 11 with fail
         go_quiet (fail)
         go_wp2_with fail
         go_ret
         exact ⟨by rw [Hne.o]; rfl, HMw.o.trans' (Gou.Mod.drewN _ wr nq)⟩
        ·skip
         have Hne : Hid (decide (a = b) = false) := hd' (dqf (fun e => he (by subst e; have := Hav.o.symm.trans Hbv.o; exact Option.some.inj this)))
         clear he
         go_upto_region 11 with fail
         go_quiet (fail)
         go_wp2_with fail
         go_ret
         exact ⟨by rw [Hne.o]; rfl, HMw.o.trans' (Gou.Mod.drewN _ wr nq)⟩
        ·exact absurd rfl he
      ·have hje : j = a.live.length := by omega
       have HL : Hid (a.live = b.live) := hd' (List.ext_getElem? (fun t => by
        by_cases h : t < a.live.length
        ·exact Hall.o t (by omega)
        ·rw [List.getElem?_eq_none (by omega), List.getElem?_eq_none (by have := H2.o; omega)]))
       subst hje
       clear hj hil
       go_wp2_with fail
       go_ret
       exact ⟨by rw [dqt (show a = b by cases a; cases b; have h1 := HG.o; have h2 := HL.o; simp only at h1 h2; rw [h1, h2])]; rfl, HMw.o⟩
  ·have e2 : ((a.live.length : Int) != (b.live.length : Int)) = true := by rw [bne_iff_ne]; omega
   have Hne : Hid (decide (a = b) = false) := hd' (dqf (fun e => h2 (by rw [e])))
   clear h1 h2
   go_wp2_with fail
   go_ret
   exact ⟨by rw [Hne.o]; rfl, HMW1.o⟩
 ·have e1 : ((a.gens.length : Int) != (b.gens.length : Int)) = true := by rw [bne_iff_ne]; omega
  have Hne : Hid (decide (a = b) = false) := hd' (dqf (fun e => h1 (by rw [e])))
  clear h1
  go_wp2_with fail
  go_ret
  exact ⟨by rw [Hne.o]; rfl, HMW1.o⟩
end Go.Proofs.YtpbmfalokongfaaGreatDoor
namespace Go.Gou
open Go.RowKit
theorem ArG.imp' {G G' : Nat → Prop} {w : World} {vg vl : Value} {a : Ar} (h : ArG G w vg vl a) (hG : ∀ k, k < w.heap.size → G k → G' k) : ArG G' w vg vl a := ⟨RowG.imp h.g hG, RowG.imp h.l hG⟩
end Go.Gou
namespace Go.Proofs.YtpbmfalokongfaaGreatDoor
open Go.RowKit Go.Gou
set_option maxRecDepth 100000
theorem freeT_any : ∀ (T : Ly) (G : Nat → Prop) (w : World) (vp vf vb vk vg vl : Value) (a : Ar) (n : Nat), (∀ b, G b → b < w.heap.size) → LyR G w (lyA T.id T.look vp vf vb vk).toList T → TFit T → ArG G w vg vl a → ArN a n → n + T.ids.length ≤ 1000000000000 →
 Calls Tryz.prog 35 #[.agg #[vg, vl], .agg (lyA T.id T.look vp vf vb vk)] w fun e w' => ∃ v, e = .returned v ∧ RefA G w (T.ids.foldl Ar.free a) v w' := by
 intro T
 induction T using Ly.ind with
 | h i lk ks ih =>
  intro G w vp vf vb vk vg vl a n hG hr hft ha hn hs
  obtain ⟨hl, css, hrow, hcl, hk⟩ := hr.parts
  simp only [Ly.id_mk, Ly.look_mk, Ly.kids_mk] at hl hrow hcl hk ⊢
  obtain ⟨pk, ck, rfl⟩ := RowG.slice hrow
  obtain ⟨⟨pg, cg, rfl⟩, ⟨pl, cl, rfl⟩⟩ := ha.reads.forms
  have HG := hd' hG
  have Ha := hd' ha
  have Hrow := hd' hrow
  have Hcl := hd' hcl
  have Hk := hd' hk
  have Hft := hd' hft
  have Ih := hd' ih
  have Hn := hd' hn
  have hids : (Ly.mk i lk ks).ids = i :: Ly.idsL ks := by rw [Ly.ids]
  rw [hids, List.length_cons] at hs
  have Hs := hd' hs
  have Hids := hd' hids
  have hlen := hft.len
  rw [Ly.kids_mk] at hlen
  have Hlen := hd' hlen
  obtain ⟨b0, b1, b2, bm⟩ := ubd w 28 45 28 #[Value.slice pg a.gens.length cg, Value.slice pl a.live.length cl] (lyA i lk vp vf vb (.slice pk ks.length ck)) #[Value.slice none 0 0, Value.slice none 0 0]
  have HB := hd' b0
  have HX := hd' b1
  have HR := hd' b2
  have HMa := hd' bm
  clear hl hrow hcl hk hr hft ih hlen hG ha hn hs hids b0 b1 b2 bm
  go_enter Tryz.func35, Tryz.ntmps35
  go_upto_region 1 with fail
  show Code.wp _ _ _ _ (((w.alloc (.cells #[Value.slice pg a.gens.length cg, Value.slice pl a.live.length cl] 28)).alloc (.cells (lyA i lk vp vf vb (.slice pk ks.length ck)) 45)).alloc (.cells #[Value.slice none 0 0, Value.slice none 0 0] 28))
  generalize ((w.alloc (.cells #[Value.slice pg a.gens.length cg, Value.slice pl a.live.length cl] 28)).alloc (.cells (lyA i lk vp vf vb (.slice pk ks.length ck)) 45)).alloc (.cells #[Value.slice none 0 0, Value.slice none 0 0] 28) = W1 at *
  have Hz1 := hd' (Blk.lt HR.o)
  have c0 : W1.cell? ⟨w.heap.size, 0, none⟩ = some (.slice pg a.gens.length cg) := HB.o.cell 0 rfl
  have c1 : W1.cell? ⟨w.heap.size, 1, none⟩ = some (.slice pl a.live.length cl) := HB.o.cell 1 rfl
  have i0 : W1.cell? ⟨w.heap.size + 1, 0, none⟩ = some (iV i.1) := HX.o.cell 0 rfl
  have i1 : W1.cell? ⟨w.heap.size + 1, 1, none⟩ = some (iV i.2) := HX.o.cell 1 rfl
  go_wp2_with fail
  refine (freeA_any G _ _ _ a i (fun b hb => Nat.lt_of_lt_of_le (HG.o b hb) HMa.o.size) (Ha.o.up HMa.o) (Hn.o.fit (by have := Hs.o; omega))).mono ?_
  rintro e w2 ⟨v, q, rfl, ug, ul, rfl, ha2, hm2⟩
  obtain ⟨⟨pu, cu, rfl⟩, ⟨pw, cw, rfl⟩⟩ := ha2.reads.forms
  have HA2 := hd' ha2
  have HM2 := hd' (HMa.o.trans' hm2)
  have HB2 := hd' (HB.o.up hm2)
  have HX2 := hd' (HX.o.up hm2)
  have HR2 := hd' (HR.o.up hm2)
  have Hz2 : Hid (W1.heap.size ≤ w2.heap.size) := hd' hm2.size
  clear ha2 hm2 c0 c1 i0 i1 HB HX HR HMa
  go_upto_region 2 with (first | ((with_reducible refine sT 28 ?_); refine stA (#[Value.slice pu (a.free i).gens.length cu, Value.slice pw (a.free i).live.length cw]) (HB2.o.there 0 2 (by simp)) uae (by simp [Value.oneCell']) (h := ?_)) | fail)
  have HS := hd' (Blk.setMod w2 w.heap.size 0 (#[Value.slice pu (a.free i).gens.length cu, Value.slice pw (a.free i).live.length cw] : Array Value).toList)
  have HB3 := hd' (HB2.o.setAll #[Value.slice pu (a.free i).gens.length cu, Value.slice pw (a.free i).live.length cw] rfl)
  have HX3 := hd' (HX2.o.mod HS.o (by omega))
  have HR3 := hd' (HR2.o.mod HS.o (by omega))
  have HA3 := hd' (HA2.o.mod HS.o (fun k hk hb e => by
   have h1 := Hz1.o
   rcases hb with hb | hb
   ·have := HG.o k hb; omega
   ·omega))
  have HM3 := hd' (HM2.o.trans HS.o (fun k hk e => by omega))
  have Hz3 : Hid (W1.heap.size ≤ (w2.setCells w.heap.size 0 (#[Value.slice pu (a.free i).gens.length cu, Value.slice pw (a.free i).live.length cw] : Array Value).toList).heap.size) := hd' (Nat.le_trans Hz2.o HS.o.size)
  show Code.wp _ _ _ _ (w2.setCells w.heap.size 0 (#[Value.slice pu (a.free i).gens.length cu, Value.slice pw (a.free i).live.length cw] : Array Value).toList)
  clear HB2 HX2 HR2 HA2 HM2 HS Hz2
  generalize w2.setCells w.heap.size 0 (#[Value.slice pu (a.free i).gens.length cu, Value.slice pw (a.free i).live.length cw] : Array Value).toList = W3 at *
  have HN1 := hd' (Hn.o.free i)
  have HI0 : Hid (Blk W3 w.heap.size 28 #[Value.slice pu (a.free i).gens.length cu, Value.slice pw (a.free i).live.length cw] ∧ ArG (fun b => G b ∨ W1.heap.size ≤ b) W3 (.slice pu (a.free i).gens.length cu) (.slice pw (a.free i).live.length cw) ((Ly.idsL (ks.take 0)).foldl Ar.free (a.free i))) := hd' ⟨HB3.o, HA3.o⟩
  go_wp2_with fail
  go_loopw [5] (fun vi wr => ∃ j : Nat, vi = iV j ∧ j ≤ ks.length ∧ ∃ ug ul, Blk wr w.heap.size 28 #[ug, ul] ∧ ArG (fun b => G b ∨ W1.heap.size ≤ b) wr ug ul ((Ly.idsL (ks.take j)).foldl Ar.free (a.free i)) ∧ Gou.Mod (fun k => k = w.heap.size) W3 wr) (fun vi _ => ks.length - (intOf vi).toNat)
  case atStart => exact ⟨0, rfl, Nat.zero_le _, _, _, HI0.o.1, HI0.o.2, Gou.Mod.refl _ _⟩
  case round =>
   obtain ⟨j, rfl, hj, ug, ul, hb, har, hm⟩ := hrel
   have HNj := hd' (ArN.frees (L := Ly.idsL (ks.take j)) HN1.o)
   obtain ⟨aj, haj⟩ : ∃ aj, aj = (Ly.idsL (ks.take j)).foldl Ar.free (a.free i) := ⟨_, rfl⟩
   have Haj := hd' haj
   rw [← haj] at har HNj
   clear haj
   obtain ⟨⟨pu2, cu2, rfl⟩, ⟨pw2, cw2, rfl⟩⟩ := har.reads.forms
   have Hb := hd' hb
   have Har := hd' har
   have Hm := hd' hm
   have HMw := hd' (HM3.o.trans hm (fun k hk e => by omega))
   have HXr := hd' (HX3.o.mod hm (by omega))
   have HRr := hd' (HR3.o.mod hm (by omega))
   have Hzr : Hid (W1.heap.size ≤ wr.heap.size) := hd' (Nat.le_trans Hz3.o hm.size)
   have c30 : wr.cell? ⟨w.heap.size + 1, 30, none⟩ = some (.slice pk ks.length ck) := HXr.o.cell 30 rfl
   have HBq : Hid (wr.rangeAt w.heap.size 0 [.slice pu2 aj.gens.length cu2, .slice pw2 aj.live.length cw2]) := hd' (Blk.range (pre := []) (post := []) Hb.o rfl rfl)
   clear hb har hm HI0
   by_cases hil : j < ks.length
   ·obtain ⟨b, o, kp, kf, kb, kk, rfl, hbl, _, hrg, hkr⟩ := LyR.kidR Hrow.o Hcl.o rfl Hk.o hil
    have Hrg := hd' (uax hrg HMw.o (fun h => h))
    have hL := Ly.idsL_take_len hil
    have hL2 := Ly.idsL_take_le (ks := ks) (j + 1)
    have Hik : Hid (∀ w', Gou.Mod (fun _ => False) wr w' → Calls Tryz.prog 35 #[.agg #[Value.slice pu2 aj.gens.length cu2, Value.slice pw2 aj.live.length cw2], .agg (lyA ks[j].id ks[j].look kp kf kb kk)] w' fun e w4 => ∃ v, e = .returned v ∧ RefA (fun b => (G b ∨ W1.heap.size ≤ b) ∧ b < w'.heap.size) w' (ks[j].ids.foldl Ar.free aj) v w4) := hd' (fun w' hw' =>
     Ih.o ks[j] (lgM hil) _ w' kp kf kb kk _ _ aj _ (fun b hb => hb.2) (((hkr.up (HMw.o.trans' hw')).imp (fun b hb hg => ⟨.inl hg, hb⟩))) (Hft.o.kids ks[j] (by rw [Ly.kids_mk]; exact lgM hil)) ((Har.o.up hw').imp' (fun b hb hg => ⟨hg, hb⟩)) HNj.o (by have := Hs.o; omega))
    have Hnx : Hid ((Ly.idsL (ks.take (j + 1))).foldl Ar.free (a.free i) = ks[j].ids.foldl Ar.free aj) := hd' (by rw [ue0 hil, List.foldl_append, ← Haj.o])
    have Hil := hd' hil
    have hwi : wrap64 ((j : Int) + 1) = ((j + 1 : Nat) : Int) := by have := Hlen.o; unfold wrap64; omega
    have Hwi := hd' hwi
    clear hrg hkr hL hL2
    generalize ks[j] = kd at *
    go_upto_region 5 with fail
    refine wdf (S := fun w' => Gou.Mod (fun _ => False) wr w') 7 (Gou.Mod.drew _ _) (h := fun hH => ?_)
    refine tkR 0 (.agg #[Value.slice pu2 aj.gens.length cu2, Value.slice pw2 aj.live.length cw2]) HBq.o (fun h => h) Tryz.underlying28 uae hH (h := ?_)
    refine tk 1 (.pointer (some ⟨(w.heap.size + 1), 30, none⟩)) hH (h := ?_)
    refine tkC 2 c30 (fun h => h) hH (h := ?_)
    refine tk 3 (iV (j : Int)) hH (h := ?_)
    refine tk 4 (.pointer (some ⟨b, o + j * 31, none⟩)) hH (h := ?_)
    refine tkR 5 (.agg (lyA kd.id kd.look kp kf kb kk)) Hrg.o (fun h => h) Tryz.underlying45 uaa hH (h := ?_)
    refine rd 6 (h := fun K hK => ?_)
    go_simp
    refine (Hik.o _ (Gou.Mod.drew _ _)).mono ?_
    rintro e w4 ⟨v, rfl, ug4, ul4, rfl, ha4, hm4⟩
    obtain ⟨⟨pu4, cu4, rfl⟩, ⟨pw4, cw4, rfl⟩⟩ := ha4.reads.forms
    have HA4 := hd' ((ha4.imp (G' := fun b => G b ∨ W1.heap.size ≤ b) (fun b hb => by
     rcases hb with hb | hb
     ·exact hb.1
     ·exact .inr (by have h1 := Hzr.o; have h2 := (Gou.Mod.drew (fun _ => False) wr).size; omega))))
    have M := hd' (hH.trans' hm4)
    have HM4 := hd' ((Gou.Mod.drew (fun _ => False) wr).trans' hm4)
    clear hH ha4 hm4
    refine hK _ _ M.o (fun hH => ?_)
    clear hK K M
    try simp only [Act.put, uSa, uSb, uSc]
    refine tk 7 (.bool true) hH (h := ?_)
    have MS := hd' hH
    refine wpAnyH_done (by kernel_rfl) ?_ _
    clear hH
    show Oper.wp _ _ _ _ _ _
    refine wp_store_mid 28 _ _ rfl w.heap.size 0 #[Value.slice pu4 (kd.ids.foldl Ar.free aj).gens.length cu4, Value.slice pw4 (kd.ids.foldl Ar.free aj).live.length cw4] rfl rfl ((Hb.o.up MS.o).there 0 2 (by simp)) uae (by simp [Value.oneCell']) ?_
    have HS5 := hd' (Blk.setMod w4 w.heap.size 0 (#[Value.slice pu4 (kd.ids.foldl Ar.free aj).gens.length cu4, Value.slice pw4 (kd.ids.foldl Ar.free aj).live.length cw4] : Array Value).toList)
    have HB5 := hd' ((Hb.o.up MS.o).setAll #[Value.slice pu4 (kd.ids.foldl Ar.free aj).gens.length cu4, Value.slice pw4 (kd.ids.foldl Ar.free aj).live.length cw4] rfl)
    have HA5 := hd' (HA4.o.mod HS5.o (fun k hk hb e => by
     have h1 := Hz1.o
     rcases hb with hb | hb
     ·have := HG.o k hb; omega
     ·omega))
    have HM5 := hd' ((Hm.o.trans' (MS.o.imp (fun _ _ h => h.elim))).trans' HS5.o)
    clear MS HS5 HA4 HM4
    try simp only [Act.put]
    go_wp2_with fail
    go_roundw
    case rel => exact ⟨j + 1, by rw [← Hwi.o], by have := Hil.o; omega, _, _, HB5.o, by rw [Hnx.o]; exact HA5.o, HM5.o⟩
    case measure => rw [Hwi.o]; have := Hil.o; simp only [intOf]; omega
   ·have hje : j = ks.length := by omega
    subst hje
    rw [List.take_length] at Haj
    have HT : Hid ((Ly.mk i lk ks).ids.foldl Ar.free a = aj) := hd' (by rw [Hids.o, List.foldl_cons, Haj.o])
    clear hil hj
    go_wp2_with (first | ((with_reducible refine lT 28 ?_); refine ldA HBq.o Tryz.underlying28 uae (h := ?_)) | ((with_reducible refine sT 28 ?_); refine stA (#[Value.slice pu2 aj.gens.length cu2, Value.slice pw2 aj.live.length cw2]) (HRr.o.there 0 2 (by simp)) uae (by simp [Value.oneCell']) (h := ?_)) | fail)
    have HS := hd' (Blk.setMod wr (w.heap.size + 1 + 1) 0 (#[Value.slice pu2 aj.gens.length cu2, Value.slice pw2 aj.live.length cw2] : Array Value).toList)
    have HR9 := HRr.o.setAll #[Value.slice pu2 aj.gens.length cu2, Value.slice pw2 aj.live.length cw2] rfl
    refine bpr (results_cell_row rfl _ _ (w.heap.size + 1 + 1) 28 #[Value.slice pu2 aj.gens.length cu2, Value.slice pw2 aj.live.length cw2] (0, 0) _ rfl HR9 Tryz.underlying28 rfl uae) rfl ?_
    refine ⟨_, rfl, _, _, rfl, ?_, HMw.o.trans HS.o (fun k hk e => by omega)⟩
    rw [HT.o]
    have hz := Hz1.o
    exact (Har.o.mod HS.o (fun k hk hb e => by
     rcases hb with hb | hb
     ·have := HG.o k hb; omega
     ·omega)).imp (fun k hb => hb.imp id (fun h => by omega))
theorem ubk (n : Int) (w : World) : Calls Tryz.prog 49 #[iV n] w fun e w' => e = .returned (.bool (nearB n)) ∧ Gou.Mod (fun _ => False) w w' := by
 have Hb : Hid (nearB n = (decide (-1048576 ≤ n) && decide (n ≤ 1048576))) := hd' rfl
 go_enter Tryz.func49, Tryz.ntmps49
 by_cases h0 : -1048576 ≤ n
 ·have e0 : decide (-1048576 ≤ n) = true := dqt h0
  rw [e0] at Hb
  by_cases h1 : n ≤ 1048576
  ·have e1 : decide (n ≤ 1048576) = true := dqt h1
   rw [e1] at Hb
   go_wp2_with fail
   go_ret
   exact ⟨by rw [Hb.o]; rfl, Gou.Mod.refl _ _⟩
  ·have e1 : decide (n ≤ 1048576) = false := dqf h1
   rw [e1] at Hb
   go_wp2_with fail
   go_ret
   exact ⟨by rw [Hb.o]; rfl, Gou.Mod.refl _ _⟩
 ·have e0 : decide (-1048576 ≤ n) = false := dqf h0
  rw [e0] at Hb
  go_wp2_with fail
  go_ret
  exact ⟨by rw [Hb.o]; rfl, Gou.Mod.refl _ _⟩
theorem uei (r : Rc) (w : World) : Calls Tryz.prog 50 #[.agg #[iV r.x0, iV r.y0, iV r.x1, iV r.y1]] w fun e w' => e = .returned (.bool r.nearB) ∧ Gou.Mod (fun _ => False) w w' := by
 have Hb : Hid (r.nearB = (nearB r.x0 && (nearB r.y0 && (nearB r.x1 && nearB r.y1)))) := hd' rfl
 have HB := hd' (Blk.new w 32 #[iV r.x0, iV r.y0, iV r.x1, iV r.y1])
 have HM := hd' (Gou.Mod.alloc0 w (.cells #[iV r.x0, iV r.y0, iV r.x1, iV r.y1] 32))
 go_enter Tryz.func50, Tryz.ntmps50
 go_upto_region 1 with fail
 generalize w.alloc (.cells #[iV r.x0, iV r.y0, iV r.x1, iV r.y1] 32) = W0 at *
 have c0 : W0.cell? ⟨w.heap.size, 0, none⟩ = some (iV r.x0) := HB.o.cell 0 rfl
 have c1 : W0.cell? ⟨w.heap.size, 1, none⟩ = some (iV r.y0) := HB.o.cell 1 rfl
 have c2 : W0.cell? ⟨w.heap.size, 2, none⟩ = some (iV r.x1) := HB.o.cell 2 rfl
 have c3 : W0.cell? ⟨w.heap.size, 3, none⟩ = some (iV r.y1) := HB.o.cell 3 rfl
 go_wp2_with fail
 refine (ubk r.x0 _).mono ?_
 rintro e w1 ⟨rfl, hm⟩
 replace HB := hd' (HB.o.up hm)
 replace HM := hd' (HM.o.trans' hm)
 clear hm c0 c1 c2 c3
 have c0 : w1.cell? ⟨w.heap.size, 0, none⟩ = some (iV r.x0) := HB.o.cell 0 rfl
 have c1 : w1.cell? ⟨w.heap.size, 1, none⟩ = some (iV r.y0) := HB.o.cell 1 rfl
 have c2 : w1.cell? ⟨w.heap.size, 2, none⟩ = some (iV r.x1) := HB.o.cell 2 rfl
 have c3 : w1.cell? ⟨w.heap.size, 3, none⟩ = some (iV r.y1) := HB.o.cell 3 rfl
 cases hn0 : nearB r.x0
 ·rw [hn0] at Hb
  go_wp2_with fail
  go_ret
  exact ⟨by rw [Hb.o]; rfl, HM.o⟩
 ·rw [hn0] at Hb
  go_wp2_with fail
  refine (ubk r.y0 _).mono ?_
  rintro e w2 ⟨rfl, hm⟩
  replace HB := hd' (HB.o.up hm)
  replace HM := hd' (HM.o.trans' hm)
  clear hm c0 c1 c2 c3
  have c0 : w2.cell? ⟨w.heap.size, 0, none⟩ = some (iV r.x0) := HB.o.cell 0 rfl
  have c1 : w2.cell? ⟨w.heap.size, 1, none⟩ = some (iV r.y0) := HB.o.cell 1 rfl
  have c2 : w2.cell? ⟨w.heap.size, 2, none⟩ = some (iV r.x1) := HB.o.cell 2 rfl
  have c3 : w2.cell? ⟨w.heap.size, 3, none⟩ = some (iV r.y1) := HB.o.cell 3 rfl
  cases hn1 : nearB r.y0
  ·rw [hn1] at Hb
   go_wp2_with fail
   go_ret
   exact ⟨by rw [Hb.o]; rfl, HM.o⟩
  ·rw [hn1] at Hb
   go_wp2_with fail
   refine (ubk r.x1 _).mono ?_
   rintro e w3 ⟨rfl, hm⟩
   replace HB := hd' (HB.o.up hm)
   replace HM := hd' (HM.o.trans' hm)
   clear hm c0 c1 c2 c3
   have c0 : w3.cell? ⟨w.heap.size, 0, none⟩ = some (iV r.x0) := HB.o.cell 0 rfl
   have c1 : w3.cell? ⟨w.heap.size, 1, none⟩ = some (iV r.y0) := HB.o.cell 1 rfl
   have c2 : w3.cell? ⟨w.heap.size, 2, none⟩ = some (iV r.x1) := HB.o.cell 2 rfl
   have c3 : w3.cell? ⟨w.heap.size, 3, none⟩ = some (iV r.y1) := HB.o.cell 3 rfl
   cases hn2 : nearB r.x1
   ·rw [hn2] at Hb
    go_wp2_with fail
    go_ret
    exact ⟨by rw [Hb.o]; rfl, HM.o⟩
   ·rw [hn2] at Hb
    go_wp2_with fail
    refine (ubk r.y1 _).mono ?_
    rintro e w4 ⟨rfl, hm⟩
    replace HB := hd' (HB.o.up hm)
    replace HM := hd' (HM.o.trans' hm)
    clear hm c0 c1 c2 c3
    have c0 : w4.cell? ⟨w.heap.size, 0, none⟩ = some (iV r.x0) := HB.o.cell 0 rfl
    have c1 : w4.cell? ⟨w.heap.size, 1, none⟩ = some (iV r.y0) := HB.o.cell 1 rfl
    have c2 : w4.cell? ⟨w.heap.size, 2, none⟩ = some (iV r.x1) := HB.o.cell 2 rfl
    have c3 : w4.cell? ⟨w.heap.size, 3, none⟩ = some (iV r.y1) := HB.o.cell 3 rfl
    generalize nearB r.y1 = n3 at *
    go_wp2_with fail
    go_ret
    exact ⟨by rw [Hb.o]; rfl, HM.o⟩
theorem ugs (p : Pxl) (w : World) : Calls Tryz.prog 70 #[.agg (Pxl.cells p).toArray] w fun e w' => e = .returned (.bool p.rightB) ∧ Gou.Mod (fun _ => False) w w' := by
 have Hb : Hid (p.rightB = (decide (p.p0 ≤ p.p3) && (decide (p.p1 ≤ p.p3) && decide (p.p2 ≤ p.p3)))) := hd' rfl
 have HB := hd' (Blk.new w 34 #[Value.int .u8 ((p.p0 : Nat) : Int), Value.int .u8 ((p.p1 : Nat) : Int), Value.int .u8 ((p.p2 : Nat) : Int), Value.int .u8 ((p.p3 : Nat) : Int)])
 have HM := hd' (Gou.Mod.alloc0 w (.cells #[Value.int .u8 ((p.p0 : Nat) : Int), Value.int .u8 ((p.p1 : Nat) : Int), Value.int .u8 ((p.p2 : Nat) : Int), Value.int .u8 ((p.p3 : Nat) : Int)] 34))
 show Calls Tryz.prog 70 #[.agg #[Value.int .u8 ((p.p0 : Nat) : Int), Value.int .u8 ((p.p1 : Nat) : Int), Value.int .u8 ((p.p2 : Nat) : Int), Value.int .u8 ((p.p3 : Nat) : Int)]] w _
 go_enter Tryz.func70, Tryz.ntmps70
 go_upto_region 1 with fail
 generalize w.alloc (.cells #[Value.int .u8 ((p.p0 : Nat) : Int), Value.int .u8 ((p.p1 : Nat) : Int), Value.int .u8 ((p.p2 : Nat) : Int), Value.int .u8 ((p.p3 : Nat) : Int)] 34) = W1 at *
 go_wp2_with fail
 go_loopw [3] (fun vi wr => ∃ j : Nat, vi = iV j ∧ j ≤ 3 ∧ (0 < j → p.p0 ≤ p.p3) ∧ (1 < j → p.p1 ≤ p.p3) ∧ (2 < j → p.p2 ≤ p.p3) ∧ Gou.Mod (fun _ => False) W1 wr) (fun vi _ => 3 - (intOf vi).toNat)
 case atStart => exact ⟨0, rfl, by omega, by omega, by omega, by omega, Gou.Mod.refl _ _⟩
 case round =>
  obtain ⟨j, rfl, hj, h0, h1, h2, hm⟩ := hrel
  have c0 : wr.cell? ⟨w.heap.size, 0, none⟩ = some (Value.int .u8 ((p.p0 : Nat) : Int)) := (HB.o.up hm).cell 0 rfl
  have c1 : wr.cell? ⟨w.heap.size, 1, none⟩ = some (Value.int .u8 ((p.p1 : Nat) : Int)) := (HB.o.up hm).cell 1 rfl
  have c2 : wr.cell? ⟨w.heap.size, 2, none⟩ = some (Value.int .u8 ((p.p2 : Nat) : Int)) := (HB.o.up hm).cell 2 rfl
  have c3 : wr.cell? ⟨w.heap.size, 3, none⟩ = some (Value.int .u8 ((p.p3 : Nat) : Int)) := (HB.o.up hm).cell 3 rfl
  have Hm := hd' hm
  have H0 := hd' h0
  have H1 := hd' h1
  have H2 := hd' h2
  clear hm h0 h1 h2
  rcases (show j = 0 ∨ j = 1 ∨ j = 2 ∨ j = 3 by omega) with rfl | rfl | rfl | rfl
  ·by_cases h : p.p0 ≤ p.p3
   ·have e1 : decide (((p.p3 : Nat) : Int) < ((p.p0 : Nat) : Int)) = false := dqf (by omega)
    have e2 : decide (p.p3 < p.p0) = false := dqf (by omega)
    have Hh := hd' h
    clear h
    go_upto_region 4 with fail
    go_quiet (fail)
    have HQ := hd' (Hm.o.trans' (Gou.Mod.drewN (fun _ => False) wr nq))
    go_wp2_with fail
    go_roundw
    case rel => exact ⟨1, rfl, by omega, fun _ => Hh.o, fun h => absurd h (by omega), fun h => absurd h (by omega), HQ.o⟩
    case measure => simp only [intOf]; omega
   ·have e1 : decide (((p.p3 : Nat) : Int) < ((p.p0 : Nat) : Int)) = true := dqt (by omega)
    have e2 : decide (p.p3 < p.p0) = true := dqt (by omega)
    have Ht : Hid (p.rightB = false) := hd' (by rw [Hb.o, dqf h]; simp)
    clear h
    go_upto_region 4 with fail
    go_quiet (fail)
    go_wp2_with fail
    go_ret
    exact ⟨by rw [Ht.o]; rfl, (HM.o.trans' Hm.o).trans' (Gou.Mod.drewN _ wr nq)⟩
  ·by_cases h : p.p1 ≤ p.p3
   ·have e1 : decide (((p.p3 : Nat) : Int) < ((p.p1 : Nat) : Int)) = false := dqf (by omega)
    have e2 : decide (p.p3 < p.p1) = false := dqf (by omega)
    have Hh := hd' h
    clear h
    go_upto_region 4 with fail
    go_quiet (fail)
    have HQ := hd' (Hm.o.trans' (Gou.Mod.drewN (fun _ => False) wr nq))
    go_wp2_with fail
    go_roundw
    case rel => exact ⟨2, rfl, by omega, fun _ => H0.o (by omega), fun _ => Hh.o, fun h => absurd h (by omega), HQ.o⟩
    case measure => simp only [intOf]; omega
   ·have e1 : decide (((p.p3 : Nat) : Int) < ((p.p1 : Nat) : Int)) = true := dqt (by omega)
    have e2 : decide (p.p3 < p.p1) = true := dqt (by omega)
    have Ht : Hid (p.rightB = false) := hd' (by rw [Hb.o, dqf h]; simp)
    clear h
    go_upto_region 4 with fail
    go_quiet (fail)
    go_wp2_with fail
    go_ret
    exact ⟨by rw [Ht.o]; rfl, (HM.o.trans' Hm.o).trans' (Gou.Mod.drewN _ wr nq)⟩
  ·by_cases h : p.p2 ≤ p.p3
   ·have e1 : decide (((p.p3 : Nat) : Int) < ((p.p2 : Nat) : Int)) = false := dqf (by omega)
    have e2 : decide (p.p3 < p.p2) = false := dqf (by omega)
    have Hh := hd' h
    clear h
    go_upto_region 4 with fail
    go_quiet (fail)
    have HQ := hd' (Hm.o.trans' (Gou.Mod.drewN (fun _ => False) wr nq))
    go_wp2_with fail
    go_roundw
    case rel => exact ⟨3, rfl, by omega, fun _ => H0.o (by omega), fun _ => H1.o (by omega), fun _ => Hh.o, HQ.o⟩
    case measure => simp only [intOf]; omega
   ·have e1 : decide (((p.p3 : Nat) : Int) < ((p.p2 : Nat) : Int)) = true := dqt (by omega)
    have e2 : decide (p.p3 < p.p2) = true := dqt (by omega)
    have Ht : Hid (p.rightB = false) := hd' (by rw [Hb.o, dqf h]; simp)
    clear h
    go_upto_region 4 with fail
    go_quiet (fail)
    go_wp2_with fail
    go_ret
    exact ⟨by rw [Ht.o]; rfl, (HM.o.trans' Hm.o).trans' (Gou.Mod.drewN _ wr nq)⟩
  ·have Ht : Hid (p.rightB = true) := hd' (by rw [Hb.o, dqt (H0.o (by omega)), dqt (H1.o (by omega)), dqt (H2.o (by omega))]; rfl)
   go_wp2_with fail
   go_ret
   exact ⟨by rw [Ht.o]; rfl, HM.o.trans' Hm.o⟩
end Go.Proofs.YtpbmfalokongfaaGreatDoor
namespace Go.Gou
open Go.RowKit
theorem uib {a b : Int} (h1 : ¬ a < 1) (h2 : ¬ b < 1) (h3 : ¬ 4096 < a) (h4 : ¬ 4096 < b) : wrap64 (a * b) = a * b := by
 have h5 : 1 * 1 ≤ a * b := Int.mul_le_mul (by omega) (by omega) (by omega) (by omega)
 have h6 : a * b ≤ 4096 * 4096 := Int.mul_le_mul (by omega) (by omega) (by omega) (by omega)
 unfold wrap64
 generalize a * b = x at *
 omega
end Go.Gou
namespace Go.Proofs.YtpbmfalokongfaaGreatDoor
open Go.RowKit Go.Gou
set_option maxRecDepth 100000
theorem ufe (w : World) (c : Ct) (vp : Value) (h : PixR (fun _ => True) w vp c.pix) (hn : c.pix.length ≤ 1000000) (hk0 : 0 ≤ c.kind) (hk2 : c.kind ≤ 2) :
 Calls Tryz.prog 51 #[.agg (uak c vp)] w fun e w' => e = .returned (.bool c.rightB) ∧ Gou.Mod (fun _ => False) w w' := by
 obtain ⟨pp, cp, rfl⟩ := RowG.slice h
 have HB := hd' (Blk.new w 37 (uak c (.slice pp c.pix.length cp)))
 have HM := hd' (Gou.Mod.alloc0 w (.cells (uak c (.slice pp c.pix.length cp)) 37))
 have Hp := hd' h
 have Hn := hd' hn
 clear h hn
 go_enter Tryz.func51, Tryz.ntmps51
 go_upto_region 1 with fail
 generalize w.alloc (.cells (uak c (.slice pp c.pix.length cp)) 37) = W1 at *
 have c0 : W1.cell? ⟨w.heap.size, 0, none⟩ = some (iV c.kind) := HB.o.cell 0 rfl
 have c1 : W1.cell? ⟨w.heap.size, 1, none⟩ = some (iV c.box.x0) := HB.o.cell 1 rfl
 have c2 : W1.cell? ⟨w.heap.size, 2, none⟩ = some (iV c.box.y0) := HB.o.cell 2 rfl
 have c3 : W1.cell? ⟨w.heap.size, 3, none⟩ = some (iV c.box.x1) := HB.o.cell 3 rfl
 have c4 : W1.cell? ⟨w.heap.size, 4, none⟩ = some (iV c.box.y1) := HB.o.cell 4 rfl
 have c5 : W1.cell? ⟨w.heap.size, 5, none⟩ = some (.int .u8 ((c.px.p0 : Nat) : Int)) := HB.o.cell 5 rfl
 have c6 : W1.cell? ⟨w.heap.size, 6, none⟩ = some (.int .u8 ((c.px.p1 : Nat) : Int)) := HB.o.cell 6 rfl
 have c7 : W1.cell? ⟨w.heap.size, 7, none⟩ = some (.int .u8 ((c.px.p2 : Nat) : Int)) := HB.o.cell 7 rfl
 have c8 : W1.cell? ⟨w.heap.size, 8, none⟩ = some (.int .u8 ((c.px.p3 : Nat) : Int)) := HB.o.cell 8 rfl
 have c9 : W1.cell? ⟨w.heap.size, 9, none⟩ = some (iV c.w) := HB.o.cell 9 rfl
 have c10 : W1.cell? ⟨w.heap.size, 10, none⟩ = some (iV c.h) := HB.o.cell 10 rfl
 have c11 : W1.cell? ⟨w.heap.size, 11, none⟩ = some (iV c.turn) := HB.o.cell 11 rfl
 have c12 : W1.cell? ⟨w.heap.size, 12, none⟩ = some (.slice pp c.pix.length cp) := HB.o.cell 12 rfl
 by_cases k1 : c.kind = 1
 ·have Hk := hd' k1
  rw [k1] at c0
  clear hk0 hk2 k1 c9 c10 c11 c12
  go_wp2_with fail
  refine (uei c.box _).mono ?_
  rintro e w2 ⟨rfl, hm2⟩
  have HM2 := hd' (HM.o.trans' hm2)
  have HB2 := hd' (HB.o.up hm2)
  clear hm2 c0 c1 c2 c3 c4 c5 c6 c7 c8
  have c5 : w2.cell? ⟨w.heap.size, 5, none⟩ = some (.int .u8 ((c.px.p0 : Nat) : Int)) := HB2.o.cell 5 rfl
  have c6 : w2.cell? ⟨w.heap.size, 6, none⟩ = some (.int .u8 ((c.px.p1 : Nat) : Int)) := HB2.o.cell 6 rfl
  have c7 : w2.cell? ⟨w.heap.size, 7, none⟩ = some (.int .u8 ((c.px.p2 : Nat) : Int)) := HB2.o.cell 7 rfl
  have c8 : w2.cell? ⟨w.heap.size, 8, none⟩ = some (.int .u8 ((c.px.p3 : Nat) : Int)) := HB2.o.cell 8 rfl
  have Hr := hd' (Ct.right1 Hk.o)
  generalize c.box.nearB = x at *
  cases x
  ·go_wp2_with fail
   go_ret
   exact ⟨by rw [Hr.o]; rfl, HM2.o⟩
  ·go_wp2_with fail
   refine (ugs c.px _).mono ?_
   rintro e w3 ⟨rfl, hm3⟩
   have HM3 := hd' (HM2.o.trans' hm3)
   clear hm3 c5 c6 c7 c8
   go_wp2_with fail
   go_ret
   exact ⟨by rw [Hr.o]; rfl, HM3.o⟩
 ·have e1 : (c.kind == 1) = false := bqf.2 k1
  by_cases k2 : c.kind = 2
  ·have Hk := hd' k2
   rw [k2] at c0
   clear hk0 hk2 k1 e1 k2
   go_upto_region 5 with fail
   by_cases h0 : c.w < 1
   ·have e0 : decide (c.w < 1) = true := dqt h0
    have Hbad : Hid (c.rightB = false) := hd' (Ct.right2_bad Hk.o (.inl h0))
    go_wp2_with fail
    go_ret
    exact ⟨by rw [Hbad.o]; rfl, HM.o⟩
   ·have e0 : decide (c.w < 1) = false := dqf h0
    by_cases h1 : c.h < 1
    ·have e1 : decide (c.h < 1) = true := dqt h1
     have Hbad : Hid (c.rightB = false) := hd' (Ct.right2_bad Hk.o (.inr (.inl h1)))
     go_wp2_with fail
     go_ret
     exact ⟨by rw [Hbad.o]; rfl, HM.o⟩
    ·have e1 : decide (c.h < 1) = false := dqf h1
     by_cases h2 : 4096 < c.w
     ·have e2 : decide (4096 < c.w) = true := dqt h2
      have Hbad : Hid (c.rightB = false) := hd' (Ct.right2_bad Hk.o (.inr (.inr (.inl h2))))
      go_wp2_with fail
      go_ret
      exact ⟨by rw [Hbad.o]; rfl, HM.o⟩
     ·have e2 : decide (4096 < c.w) = false := dqf h2
      by_cases h3 : 4096 < c.h
      ·have e3 : decide (4096 < c.h) = true := dqt h3
       have Hbad : Hid (c.rightB = false) := hd' (Ct.right2_bad Hk.o (.inr (.inr (.inr (.inl h3)))))
       go_wp2_with fail
       go_ret
       exact ⟨by rw [Hbad.o]; rfl, HM.o⟩
      ·have e3 : decide (4096 < c.h) = false := dqf h3
       have hw := ugz h0 h1 h2 h3
       have hw2 := uib h0 h1 h2 h3
       by_cases h4 : 65536 < c.w * c.h
       ·have e4 : decide (65536 < c.w * c.h) = true := dqt h4
        have Hbad : Hid (c.rightB = false) := hd' (Ct.right2_bad Hk.o (.inr (.inr (.inr (.inr (.inl h4))))))
        go_wp2_with fail
        go_ret
        exact ⟨by rw [Hbad.o]; rfl, HM.o⟩
       ·have e4 : decide (65536 < c.w * c.h) = false := dqf h4
        by_cases h5 : (c.pix.length : Int) = c.w * c.h
        ·have e5 : (((c.pix.length : Nat) : Int) != c.w * c.h) = false := by rw [bnf]; exact h5
         by_cases h6 : c.turn < 0
         ·have e6 : decide (c.turn < 0) = true := dqt h6
          have Hbad : Hid (c.rightB = false) := hd' (Ct.right2_bad Hk.o (.inr (.inr (.inr (.inr (.inr (.inr (.inl h6))))))))
          go_wp2_with fail
          go_ret
          exact ⟨by rw [Hbad.o]; rfl, HM.o⟩
         ·have e6 : decide (c.turn < 0) = false := dqf h6
          by_cases h7 : 3 < c.turn
          ·have e7 : decide (3 < c.turn) = true := dqt h7
           have Hbad : Hid (c.rightB = false) := hd' (Ct.right2_bad Hk.o (.inr (.inr (.inr (.inr (.inr (.inr (.inr (.inl h7)))))))))
           go_wp2_with fail
           go_ret
           exact ⟨by rw [Hbad.o]; rfl, HM.o⟩
          ·have e7 : decide (3 < c.turn) = false := dqf h7
           have Hbx : Hid (nearB c.box.x0 = false → c.rightB = false) := hd' (fun hh => Ct.right2_bad Hk.o (.inr (.inr (.inr (.inr (.inr (.inr (.inr (.inr (.inl hh))))))))))
           have Hby : Hid (nearB c.box.y0 = false → c.rightB = false) := hd' (fun hh => Ct.right2_bad Hk.o (.inr (.inr (.inr (.inr (.inr (.inr (.inr (.inr (.inr hh))))))))))
           have Hgood : Hid (nearB c.box.x0 = true → nearB c.box.y0 = true → c.rightB = c.pix.all Pxl.rightB) := hd' (fun a b => Ct.right2_ok Hk.o h0 h1 h2 h3 h4 h5 h6 h7 a b)
           have Hpos : Hid (0 < c.pix.length) := hd' (by have : 1 * 1 ≤ c.w * c.h := Int.mul_le_mul (by omega) (by omega) (by omega) (by omega); omega)
           clear h0 h1 h2 h3 h4 h5 h6 h7
           go_wp2_with fail
           refine (ubk c.box.x0 _).mono ?_
           rintro e w2 ⟨rfl, hm2⟩
           have HM2 := hd' (HM.o.trans' hm2)
           have HB2 := hd' (HB.o.up hm2)
           clear hm2 c0 c1 c2 c3 c4 c5 c6 c7 c8 c9 c10 c11 c12 hw hw2 e0 e1 e2 e3 e4 e5 e6 e7
           have c2 : w2.cell? ⟨w.heap.size, 2, none⟩ = some (iV c.box.y0) := HB2.o.cell 2 rfl
           cases hx : nearB c.box.x0
           ·have Hx := hd' (Hbx.o hx)
            clear hx
            go_wp2_with fail
            go_ret
            exact ⟨by rw [Hx.o]; rfl, HM2.o⟩
           ·have Hx := hd' hx
            clear hx
            go_wp2_with fail
            refine (ubk c.box.y0 _).mono ?_
            rintro e w3 ⟨rfl, hm3⟩
            have HM3 := hd' (HM2.o.trans' hm3)
            have HB3 := hd' (HB2.o.up hm3)
            clear hm3 c2 HB2
            cases hy : nearB c.box.y0
            ·have Hy := hd' (Hby.o hy)
             clear hy
             go_wp2_with fail
             go_ret
             exact ⟨by rw [Hy.o]; rfl, HM3.o⟩
            ·have Hr := hd' (Hgood.o Hx.o hy)
             clear hy
             go_wp2_with fail
             go_loopw [3] (fun vi wr => ∃ j : Nat, vi = iV j ∧ j ≤ c.pix.length ∧ (c.pix.take j).all Pxl.rightB = true ∧ Gou.Mod (fun _ => False) w3 wr) (fun vi _ => c.pix.length - (intOf vi).toNat)
             case atStart => exact ⟨0, rfl, Nat.zero_le _, rfl, Gou.Mod.refl _ _⟩
             case round =>
              obtain ⟨j, rfl, hj, hall, hm⟩ := hrel
              have Hall := hd' hall
              have Hm := hd' hm
              have HMw := hd' (HM3.o.trans' hm)
              have c12 : wr.cell? ⟨w.heap.size, 12, none⟩ = some (.slice pp c.pix.length cp) := (HB3.o.up hm).cell 12 rfl
              clear hm hall
              by_cases hil : j < c.pix.length
              ·obtain ⟨pb, po, rfl, hpb, hpc⟩ := PixR.row Hp.o Hpos.o
               have Hrg : Hid (wr.rangeAt pb (po + j * 4) (Pxl.cells c.pix[j]!)) := hd' (uax (fun i v hv => hpc j hil i v hv) HMw.o (fun h => h))
               have Hst : Hid ((Pxl.rightB c.pix[j]!) = true → (c.pix.take (j + 1)).all Pxl.rightB = true) := hd' (fun h => by rw [ltS hil, List.all_append, Hall.o, ← getElem!_pos c.pix j hil, List.all_cons, h]; rfl)
               have Hno : Hid ((Pxl.rightB c.pix[j]!) = false → c.rightB = false) := hd' (fun h => by
                rw [Hr.o, List.all_eq_false]
                exact ⟨c.pix[j], lgM hil, by rw [← getElem!_pos c.pix j hil, h]; simp⟩)
               have hwi : wrap64 ((j : Int) + 1) = ((j + 1 : Nat) : Int) := by have := Hn.o; unfold wrap64; omega
               have Hil := hd' hil
               clear hpb hpc
               generalize c.pix[j]! = p at *
               go_upto_region 10 with fail
               go_wp2_with (first | ((with_reducible refine lT 34 ?_); refine ldA Hrg.o Tryz.underlying34 (show (Tryz.prog.info? 34).map (·.size) = some 4 by kernel_rfl) (h := ?_)) | fail)
               refine (ugs p _).mono ?_
               rintro e w5 ⟨rfl, hm5⟩
               have HM5 := hd' (Hm.o.trans' hm5)
               have HM5w := hd' (HMw.o.trans' hm5)
               clear hm5 c12
               cases hp : p.rightB
               ·have Hp2 := hd' (Hno.o hp)
                clear hp
                go_wp2_with fail
                go_ret
                exact ⟨by rw [Hp2.o]; rfl, HM5w.o⟩
               ·have Hp2 := hd' (Hst.o hp)
                clear hp
                go_wp2_with fail
                go_roundw
                case rel => exact ⟨j + 1, by rw [← hwi], by have := Hil.o; omega, Hp2.o, HM5.o⟩
                case measure => rw [hwi]; have := Hil.o; simp only [intOf]; omega
              ·have hje : j = c.pix.length := by omega
               have Ht : Hid (c.rightB = true) := hd' (by rw [Hr.o]; have := Hall.o; rw [hje, List.take_length] at this; exact this)
               subst hje
               clear hj hil
               go_wp2_with fail
               go_ret
               exact ⟨by rw [Ht.o]; rfl, HMw.o⟩
        ·have e5 : (((c.pix.length : Nat) : Int) != c.w * c.h) = true := bne_iff_ne.2 h5
         have Hbad : Hid (c.rightB = false) := hd' (Ct.right2_bad Hk.o (.inr (.inr (.inr (.inr (.inr (.inl h5)))))))
         go_wp2_with fail
         go_ret
         exact ⟨by rw [Hbad.o]; rfl, HM.o⟩
  ·have e2 : (c.kind != 2) = true := bne_iff_ne.2 k2
   have k0 : c.kind = 0 := by omega
   have Hr := hd' (Ct.right0 k0)
   have e3 : (c.kind == 0) = true := beq_iff_eq.2 k0
   go_wp2_with fail
   go_ret
   exact ⟨by rw [Hr.o]; rfl, HM.o⟩
end Go.Proofs.YtpbmfalokongfaaGreatDoor
