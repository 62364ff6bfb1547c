/- Texts of the scenes' proofs, laid together: SeA, SdY, SdZ. -/
import Derived.Test.YtpbmfalokongfaaGreatDoorZaj
import Derived.Test.YtpbmfalokongfaaGreatDoorZab
set_option maxHeartbeats 64000000
set_option linter.unusedSimpArgs false
set_option linter.unusedVariables false
set_option linter.unusedSectionVars false
set_option linter.constructorNameAsVariable false
namespace Go.Gou
def insP (p : Bool) (n : Int) (m : Ly) (L : List Ly) (j : Nat) : List Ly := if p = true ∧ 0 ≤ n ∧ n < j then L.take n.toNat ++ m :: (L.take j).drop n.toNat else L.take j
theorem insP_zero (p : Bool) (n : Int) (m : Ly) (L : List Ly) : insP p n m L 0 = [] := by
 unfold insP
 rw [if_neg (by omega)]
 rfl
theorem insP_end (p : Bool) (n : Int) (m : Ly) (L : List Ly) : insP p n m L (L.length + 1) = if p = true then Ly.insAt n m L else L := by
 unfold insP Ly.insAt
 rw [List.take_of_length_le (Nat.le_succ _)]
 by_cases hp : p = true
 ·rw [if_pos hp]
  by_cases hn : 0 ≤ n ∧ n ≤ L.length
  ·rw [if_pos ⟨hp, hn.1, by omega⟩, if_pos hn]
  ·rw [if_neg (by omega), if_neg hn]
 ·rw [if_neg hp, if_neg (fun h => hp h.1)]
theorem insP_here {p : Bool} {n : Int} {m : Ly} {L : List Ly} {j : Nat} (hp : p = true) (hn : n = j) {k : Ly} (hk : L[j]? = some k) : insP p n m L (j + 1) = (insP p n m L j ++ [m]) ++ [k] := by
 obtain ⟨hl, rfl⟩ := lgS.1 hk
 subst hn
 unfold insP
 rw [if_pos ⟨hp, by omega, by omega⟩, if_neg (by omega), ltS hl, Int.toNat_natCast, List.drop_left' (by rw [List.length_take]; omega)]
 simp
theorem insP_last {p : Bool} {n : Int} {m : Ly} {L : List Ly} (hp : p = true) (hn : n = L.length) : insP p n m L (L.length + 1) = insP p n m L L.length ++ [m] := by
 subst hn
 unfold insP
 rw [if_pos ⟨hp, by omega, by omega⟩, if_neg (by omega), Int.toNat_natCast, List.take_of_length_le (Nat.le_succ _), List.take_of_length_le (Nat.le_refl _), List.drop_length]
theorem insP_else {p : Bool} {n : Int} {m : Ly} {L : List Ly} {j : Nat} (h : ¬ (p = true ∧ n = j)) {k : Ly} (hk : L[j]? = some k) : insP p n m L (j + 1) = insP p n m L j ++ [k] := by
 obtain ⟨hl, rfl⟩ := lgS.1 hk
 unfold insP
 by_cases hc : p = true ∧ 0 ≤ n ∧ n < j
 ·rw [if_pos hc, if_pos ⟨hc.1, hc.2.1, by omega⟩, ltS hl, List.drop_append_of_le_length (by rw [List.length_take]; omega)]
  simp
 ·rw [if_neg hc, if_neg (fun h' => hc ⟨h'.1, h'.2.1, by have h8 : n ≠ j := fun e => h ⟨h'.1, e⟩; omega⟩), ltS hl]
theorem insP_stay {p : Bool} {n : Int} {m : Ly} {L : List Ly} (h : ¬ (p = true ∧ n = L.length)) : insP p n m L (L.length + 1) = insP p n m L L.length := by
 unfold insP
 rw [List.take_of_length_le (Nat.le_succ _), List.take_of_length_le (Nat.le_refl _)]
 by_cases hc : p = true ∧ 0 ≤ n ∧ n < L.length
 ·rw [if_pos hc, if_pos ⟨hc.1, hc.2.1, by omega⟩]
 ·rw [if_neg hc, if_neg (fun h' => hc ⟨h'.1, h'.2.1, by have h8 : n ≠ L.length := fun e => h ⟨h'.1, e⟩; omega⟩)]
theorem insP_len (p : Bool) (n : Int) (m : Ly) (L : List Ly) (j : Nat) : (insP p n m L j).length ≤ L.length + 1 := by
 unfold insP
 split
 ·simp only [List.length_append, List.length_cons, List.length_take, List.length_drop]; omega
 ·rw [List.length_take]; omega
theorem with_mk (x : Idt) (n : Int) (m : Ly) (i : Idt) (lk : Lk) (ks : List Ly) : Ly.with_ x n (.mk i lk ks) m = .mk i lk (insP (decide (i = x)) n m (ks.map fun k => k.with_ x n m) (ks.length + 1)) := by
 have h := insP_end (decide (i = x)) n m (ks.map fun k => k.with_ x n m)
 rw [List.length_map] at h
 rw [h, Ly.with_, Ly.updK, Ly.updKL_eq]
 by_cases hx : i = x
 ·simp [hx, Ly.with_]
 ·simp [hx, Ly.with_]
end Go.Gou
namespace Go.Proofs.YtpbmfalokongfaaGreatDoor
open Go.RowKit Go.Gou
set_option maxRecDepth 100000
theorem ufx (x : Idt) (n : Int) (m : Ly) : ∀ (T : Ly) (G : Nat → Prop) (w : World) (vp vf vb vk mp mf mb mk : Value), (∀ b, G b → b < w.heap.size) → LyR G w (lyA T.id T.look vp vf vb vk).toList T → TFit T → LyR G w (lyA m.id m.look mp mf mb mk).toList m →
 Calls Tryz.prog 33 #[.agg (lyA T.id T.look vp vf vb vk), .agg #[iV x.1, iV x.2], iV n, .agg (lyA m.id m.look mp mf mb mk)] w (RefP G w (T.with_ x n m)) := by
 intro T
 induction T using Ly.ind with
 | h i lk ks ih =>
  intro G w vp vf vb vk mp mf mb mk hG hr hft hmr
  obtain ⟨hl, css, hrow, hcl, hk⟩ := hr.parts
  simp only [Ly.id_mk, Ly.look_mk, Ly.kids_mk] at hl hrow hcl hk ⊢
  obtain ⟨pk, ck, rfl⟩ := RowG.slice hrow
  obtain ⟨⟨pp, cp, rfl⟩, ⟨pf, cf, rfl⟩, ⟨pb, cb, rfl⟩⟩ := hl.forms
  have HG := hd' hG
  have Hmr := hd' hmr
  have Hl := hd' hl
  have Hrow := hd' hrow
  have Hcl := hd' hcl
  have Hk := hd' hk
  have Hft := hd' hft
  have Ih := hd' ih
  have hlen := hft.len
  rw [Ly.kids_mk] at hlen
  have Hlen := hd' hlen
  obtain ⟨b0, b1, b2, b3, bm⟩ := ud7 w 45 30 45 45 (lyS i lk pp cp pf cf pb cb (.slice pk ks.length ck)) #[iV x.1, iV x.2] (lyA m.id m.look mp mf mb mk) lyL
  have HB := hd' b0
  have HX := hd' b1
  have HV := hd' b2
  have HR := hd' b3
  have HMa := hd' bm
  clear hl hrow hcl hk hr hft ih hlen hG hmr b0 b1 b2 b3 bm
  go_enter Tryz.func33, Tryz.ntmps33
  go_upto_region 1 with fail
  generalize (((w.alloc (.cells (lyS i lk pp cp pf cf pb cb (.slice pk ks.length ck)) 45)).alloc (.cells #[iV x.1, iV x.2] 30)).alloc (.cells (lyA m.id m.look mp mf mb mk) 45)).alloc (.cells lyL 45) = W1 at *
  have c0 : W1.cell? ⟨w.heap.size, 0, none⟩ = some (iV i.1) := HB.o.cell 0 rfl
  have c1 : W1.cell? ⟨w.heap.size, 1, none⟩ = some (iV i.2) := HB.o.cell 1 rfl
  have HLr : Hid (W1.rangeAt w.heap.size 2 (lkS lk pp cp pf cf pb cb).toList) := hd' (Blk.range (pre := [iV i.1, iV i.2]) (post := [.slice pk ks.length ck]) HB.o rfl rfl)
  go_wp2_with (first | ((with_reducible refine lT 42 ?_); refine ldA HLr.o Tryz.underlying42 uad (h := ?_)) | ((with_reducible show wpList _ _ _ (⟨_, Op.build _ _, _, _, _, _⟩ :: _) _ _); refine halt ?_) | fail)
  show wpList _ _ _ _ _ _
  refine uav rfl (.agg (lyS i lk pp cp pf cf pb cb nlS)) (by kernel_rfl) ?_
  simp only [Act.put, List.setIfInBounds_toArray, List.set_cons_zero, List.set_cons_succ]
  go_upto_region 2 with (first | ((with_reducible refine sT 45 ?_); refine stA (lyS i lk pp cp pf cf pb cb nlS) ((Blk.new W1 45 lyL).there 0 31 (by simp)) uaa (by simp [lyA, Value.oneCell']) (h := ?_)) | fail)
  have HN := hd' ((Blk.new W1 45 lyL).setAll (lyS i lk pp cp pf cf pb cb nlS) rfl)
  have hma : Gou.Mod (fun _ => False) W1 ((W1.alloc (.cells lyL 45)).setCells W1.heap.size 0 (lyS i lk pp cp pf cf pb cb nlS).toList) := Gou.Mod.allocSet _ _ _
  have HM2 := hd' (HMa.o.trans' hma)
  have HB2 := hd' (HB.o.up hma)
  have HX2 := hd' (HX.o.up hma)
  have HV2 := hd' (HV.o.up hma)
  have HR2 := hd' (HR.o.up hma)
  have HNr : Hid (w.heap.size + 1 + 1 + 1 < W1.heap.size) := hd' (Blk.lt HR.o)
  generalize (W1.alloc (.cells lyL 45)).setCells W1.heap.size 0 (lyS i lk pp cp pf cf pb cb nlS).toList = W2 at *
  generalize W1.heap.size = N at *
  have HNlt := hd' (Blk.lt HN.o)
  have HGb : Hid (∀ b, G b → b < w.heap.size) := HG
  have HL0 : Hid (w.heap.size < W2.heap.size) := hd' (by have := HNr.o; have := HNlt.o; omega)
  have HL1 : Hid (w.heap.size + 1 < W2.heap.size) := hd' (by have := HNr.o; have := HNlt.o; omega)
  have HL2 : Hid (w.heap.size + 1 + 1 < W2.heap.size) := hd' (by have := HNr.o; have := HNlt.o; omega)
  have HGz : Hid (∀ b, G b → b < W2.heap.size) := hd' (fun b hb => Nat.lt_of_lt_of_le (HGb.o b hb) HM2.o.size)
  obtain ⟨L, hL⟩ : ∃ L, L = ks.map fun k => k.with_ x n m := ⟨_, rfl⟩
  have HLe := hd' hL
  have HLl : Hid (L.length = ks.length) := hd' (by rw [hL, List.length_map])
  have HT : Hid (Ly.with_ x n (.mk i lk ks) m = .mk i lk (insP (decide (i = x)) n m L (ks.length + 1))) := hd' (by rw [hL]; exact with_mk x n m i lk ks)
  have HK0 : Hid (KidsR 45 W2.heap.size G W2 nlS [] (insP (decide (i = x)) n m L 0)) := hd' (by rw [insP_zero]; exact KidsR.start _)
  go_wp2_with fail
  go_loopw [10] (fun vi wr => ∃ j : Nat, vi = iV j ∧ j ≤ ks.length + 1 ∧ ∃ vs cs, KidsR 45 W2.heap.size G wr vs cs (insP (decide (i = x)) n m L j) ∧ Blk wr N 45 (lyS i lk pp cp pf cf pb cb vs) ∧ Gou.Mod (fun k => k = N) W2 wr) (fun vi _ => ks.length + 1 - (intOf vi).toNat)
  case atStart => exact ⟨0, rfl, Nat.zero_le _, _, [], HK0.o, HN.o, Gou.Mod.refl _ _⟩
  case round =>
   obtain ⟨j, rfl, hj, vs, cs, hks, hbo, hm⟩ := hrel
   obtain ⟨ps, cps, rfl⟩ := Gou.ownsRow_form hks.own
   have Hks := hd' hks
   have Hbo := hd' hbo
   have Hm := hd' hm
   have HMw := hd' (HM2.o.trans hm (fun k hk e => by have := HNr.o; omega))
   have HBr := hd' (HB2.o.mod hm (by have := HNr.o; omega))
   have HXr := hd' (HX2.o.mod hm (by have := HNr.o; omega))
   have HVr := hd' (HV2.o.mod hm (by have := HNr.o; omega))
   have c30 : wr.cell? ⟨w.heap.size, 30, none⟩ = some (.slice pk ks.length ck) := HBr.o.cell 30 rfl
   by_cases hil : j ≤ ks.length
   ·have c0 : wr.cell? ⟨w.heap.size, 0, none⟩ = some (iV i.1) := HBr.o.cell 0 rfl
    have c1 : wr.cell? ⟨w.heap.size, 1, none⟩ = some (iV i.2) := HBr.o.cell 1 rfl
    have x0 : wr.cell? ⟨w.heap.size + 1, 0, none⟩ = some (iV x.1) := HXr.o.cell 0 rfl
    have x1 : wr.cell? ⟨w.heap.size + 1, 1, none⟩ = some (iV x.2) := HXr.o.cell 1 rfl
    have hid := fun (w' : World) => udm i x w'
    have hwi : wrap64 ((j : Int) + 1) = ((j + 1 : Nat) : Int) := by have := Hlen.o; unfold wrap64; omega
    have Hwi := hd' hwi
    have Hml : Hid ((insP (decide (i = x)) n m L j).length ≤ ks.length + 1) := hd' (by have := insP_len (decide (i = x)) n m L j; rw [HLl.o] at this; exact this)
    obtain ⟨ms, hms⟩ : ∃ ms, ms = insP (decide (i = x)) n m L j := ⟨_, rfl⟩
    have Hms := hd' hms.symm
    rw [← hms] at Hks Hml Hbo
    clear hms
    have o30 : wr.cell? ⟨N, 30, none⟩ = some (.slice ps ms.length cps) := Hbo.o.cell 30 rfl
    have f30 := Hbo.o.frozen 30
    have Hil := hd' hil
    by_cases hA : i = x ∧ n = j
    ·have e1 : decide (i = x) = true := dqt hA.1
     rw [e1] at hid
     have e2 : (((j : Nat) : Int) == n) = true := beq_iff_eq.2 hA.2.symm
     have HA := hd' hA
     clear hA e1
     have HVq := hd' HVr.o.whole
     go_upto_region 6 with fail
     clear e2 hid x0 x1 c0 c1
     go_wp2_with (first | ((with_reducible refine lT 45 ?_); refine ldA HVq.o Tryz.underlying45 uaa (h := ?_)) | ((with_reducible show wpList _ _ _ (⟨_, Op.buildSlice _ _ _, _, _, _, _⟩ :: _) _ _); refine halt ?_) | fail)
     show wpList _ _ _ _ _ _
     refine wpList_plain rfl (fun K hK => ?_)
     refine ua8 T_ly _ rfl (lyA m.id m.look mp mf mb mk) rfl rfl (by decide) ?_
     refine hK _ _ ?_
     clear hK K
     simp only [Act.put, List.setIfInBounds_toArray, List.set_cons_zero, List.set_cons_succ]
     refine wpList_plain rfl (fun K hK => ?_)
     have HM6 := hd' (Gou.Mod.alloc0 wr (.cells (lyA m.id m.look mp mf mb mk) 45))
     have HB6 := hd' (Blk.new wr 45 (lyA m.id m.look mp mf mb mk))
     generalize wr.alloc (.cells (lyA m.id m.look mp mf mb mk) 45) = w6 at *
     refine ual T_ly _ _ rfl (W2.heap.size) (.slice ps ms.length cps) ms.length cs.flatten (fun _ => True) (.slice (some ⟨wr.heap.size, 0, none⟩) 1 1) 1 (lyA m.id m.look mp mf mb mk).toList rfl rfl (Nat.le_trans Hm.o.size HM6.o.size) (Hks.o.up HM6.o).own (RowG.of_blk HB6.o 31 1 rfl _ trivial) (LyR.one Hmr.o) (by have := Hml.o; have := Hlen.o; unfold maxLen; omega) (by have := Hml.o; have := Hlen.o; omega) ?_
     intro v7 w7 G7
     obtain ⟨p7, c7, rfl⟩ := Gou.ownsRow_form G7.own
     refine hK _ _ ?_
     clear hK K
     simp only [Act.put, List.setIfInBounds_toArray, List.set_cons_zero, List.set_cons_succ]
     have hrow := fun k (hk : (Value.slice ps ms.length cps).ownBlock = some k) => Hks.o.row k hk
     have Hns : Hid (∀ k, k < W2.heap.size → ¬ ((Value.slice ps ms.length cps).ownBlock = some k)) := hd' (fun k hk h => by have := (hrow k h).1; omega)
     have HK7 := hd' (Hks.o.grow HGz.o HM6.o (Nat.le_refl _) Hm.o.size ((Hmr.o.mod (HMw.o.trans' HM6.o) (fun _ _ _ h => h)).imp (fun _ _ h => .inl h)) G7)
     have HB7 := hd' ((Hbo.o.up HM6.o).mod G7.mod (Hns.o _ HNlt.o))
     have HM7 := hd' ((Hm.o.trans' (HM6.o.imp (fun _ _ h => h.elim))).trans G7.mod (fun k hk h => absurd h (Hns.o k hk)))
     have o7 : w7.cell? ⟨N, 30, none⟩ = some (.slice ps ms.length cps) := HB7.o.cell 30 rfl
     have f7 := HB7.o.frozen 30
     clear hrow Hns HM6 HB6 G7 Hbo Hks o30 f30 c30 HBr HXr HVr HVq
     go_upto_region 7 with fail
     have HS8 := hd' (Gou.Mod.set1 w7 N 30 (.slice p7 (ms.length + 1) c7))
     have HB8 : Hid (Blk (w7.setCell ⟨N, 30, none⟩ (.slice p7 (ms.length + 1) c7)) N 45 (lyS i lk pp cp pf cf pb cb (.slice p7 (ms.length + 1) c7))) := hd' (HB7.o.set 30 _)
     have HK8 := hd' (HK7.o.mod HS8.o (fun k hk _ e => by
      have h1 := HNr.o
      have h2 := HNlt.o
      rcases hk with hk | hk
      ·have := HGb.o k hk; omega
      ·omega))
     have HM8 := hd' (HM7.o.trans' HS8.o)
     clear HB7 HK7 HM7 HS8 o7 f7 Hm HMw
     generalize w7.setCell ⟨N, 30, none⟩ (.slice p7 (ms.length + 1) c7) = W8 at *
     have HL8 : Hid ((ms ++ [m]).length = ms.length + 1) := hd' (by simp)
     rw [← HL8.o] at HB8 HK8
     have Hml8 : Hid ((ms ++ [m]).length ≤ ks.length + 2) := hd' (by rw [HL8.o]; have := Hml.o; omega)
     have HmsK : Hid (∀ k, L[j]? = some k → insP (decide (i = x)) n m L (j + 1) = (ms ++ [m]) ++ [k]) := hd' (fun k hk => by rw [insP_here (dqt HA.o.1) HA.o.2 hk, Hms.o])
     have HmsE : Hid (j = ks.length → insP (decide (i = x)) n m L (j + 1) = ms ++ [m]) := hd' (fun he => by have h := insP_last (m := m) (L := L) (n := n) (p := decide (i = x)) (dqt HA.o.1) (by rw [HLl.o, ← he]; exact HA.o.2); rw [HLl.o, ← he, Hms.o] at h; exact h)
     clear Hml HL8
     generalize ms ++ [m] = mt at *
     have HM8w := hd' (HM2.o.trans HM8.o (fun k hk e => by have := HNr.o; omega))
     have HBx := hd' (HB2.o.mod HM8.o (by have := HNr.o; omega))
     have HXx := hd' (HX2.o.mod HM8.o (by have := HNr.o; omega))
     have HVx := hd' (HV2.o.mod HM8.o (by have := HNr.o; omega))
     have c30 : W8.cell? ⟨w.heap.size, 30, none⟩ = some (.slice pk ks.length ck) := HBx.o.cell 30 rfl
     by_cases hjl : j < ks.length
     ·obtain ⟨b, o, kp, kf, kb, kk, rfl, hbl, _, hrg, hkr⟩ := LyR.kidR Hrow.o Hcl.o rfl Hk.o hjl
      have Hrg := hd' (uax hrg HM8w.o (fun h => h))
      have HLb : Hid (b < W2.heap.size) := hd' (by have := HM2.o.size; omega)
      have HLk : Hid (L[j]? = some (ks[j].with_ x n m)) := hd' (by rw [HLe.o, List.getElem?_map, lgE hjl]; rfl)
      have Hik : Hid (∀ w', Gou.Mod (fun _ => False) W8 w' → Calls Tryz.prog 33 #[.agg (lyA ks[j].id ks[j].look kp kf kb kk), .agg #[iV x.1, iV x.2], iV n, .agg (lyA m.id m.look mp mf mb mk)] w' (RefP G w' (ks[j].with_ x n m))) := hd' (fun w' hw' => Ih.o ks[j] (lgM hjl) G w' kp kf kb kk mp mf mb mk (fun b hb => Nat.lt_of_lt_of_le (HGb.o b hb) (HM8w.o.trans' hw').size) (hkr.up (HM8w.o.trans' hw')) (Hft.o.kids ks[j] (by rw [Ly.kids_mk]; exact lgM hjl)) (Hmr.o.mod (HM8w.o.trans' hw') (fun _ _ _ h => h)))
      have Hjl := hd' hjl
      clear hrg hkr hbl
      generalize ks[j] = kd at *
      have hrow := fun k (hk : (Value.slice p7 mt.length c7).ownBlock = some k) => HK8.o.row k hk
      have Hns : Hid (∀ k, k < W2.heap.size → ¬ ((Value.slice p7 mt.length c7).ownBlock = some k)) := hd' (fun k hk h => by have := (hrow k h).1; omega)
      have HXq : Hid (W8.rangeAt (w.heap.size + 1) 0 [iV x.1, iV x.2]) := hd' (Blk.range (pre := []) (post := []) HXx.o (by simp) rfl)
      have HVq := hd' HVx.o.whole
      have o30 : W8.cell? ⟨N, 30, none⟩ = some (.slice p7 mt.length c7) := HB8.o.cell 30 rfl
      clear hrow
      go_upto_region 8 with fail
      refine wdf (S := fun w' => Gou.Mod (fun k => (Value.slice p7 mt.length c7).ownBlock = some k) W8 w') 14 (Gou.Mod.drew _ _) (h := fun hH => ?_)
      refine tk 0 (.pointer (some ⟨N, 30, none⟩)) hH (h := ?_)
      refine tkC 1 o30 (Hns.o _ HNlt.o) hH (h := ?_)
      refine tk 2 (.pointer (some ⟨w.heap.size, 30, none⟩)) hH (h := ?_)
      refine tkC 3 c30 (Hns.o _ HL0.o) hH (h := ?_)
      refine tk 4 (iV (j : Int)) hH (h := ?_)
      refine tk 5 (.pointer (some ⟨b, o + j * 31, none⟩)) hH (h := ?_)
      refine tkR 6 (.agg (lyA kd.id kd.look kp kf kb kk)) Hrg.o (Hns.o _ HLb.o) Tryz.underlying45 uaa hH (h := ?_)
      refine tkR 7 (.agg #[iV x.1, iV x.2]) HXq.o (Hns.o _ HL1.o) Tryz.underlying30 uaf hH (h := ?_)
      refine tk 8 (iV n) hH (h := ?_)
      refine tkR 9 (.agg (lyA m.id m.look mp mf mb mk)) HVq.o (Hns.o _ HL2.o) Tryz.underlying45 uaa hH (h := ?_)
      refine rd 10 (h := fun K hK => ?_)
      go_simp
      refine (Hik.o _ (Gou.Mod.drew _ _)).mono ?_
      rintro e w4 ⟨vp5, vf5, vb5, vk5, rfl, ho5, hm5⟩
      have M := hd' (hH.trans' (hm5.imp (fun _ _ h => h.elim)))
      obtain ⟨kd5, hkd5⟩ : ∃ kd5, kd5 = kd.with_ x n m := ⟨_, rfl⟩
      rw [← hkd5] at ho5 ⊢
      have Hkd5 := hd' hkd5
      have HO5 := hd' ho5
      have HM5 := hd' ((Gou.Mod.drew (fun _ => False) W8).trans' hm5)
      clear hH ho5 hm5 hkd5
      refine hK _ _ M.o (fun hH => ?_)
      clear hK K M
      refine rd 11 (h := fun K hK => ?_)
      refine ua8 T_ly _ rfl (lyA kd5.id kd5.look vp5 vf5 vb5 vk5) rfl rfl (by decide) ?_
      have M := hd' (hH.trans' (Gou.Mod.alloc (fun k => (Value.slice p7 mt.length c7).ownBlock = some k) w4 (.cells (lyA kd5.id kd5.look vp5 vf5 vb5 vk5) 45)))
      have HM6 := hd' (HM5.o.trans' (Gou.Mod.alloc0 w4 (.cells (lyA kd5.id kd5.look vp5 vf5 vb5 vk5) 45)))
      have HO6 := hd' (HO5.o.up (Gou.Mod.alloc0 w4 (.cells (lyA kd5.id kd5.look vp5 vf5 vb5 vk5) 45)))
      have HB6 := hd' (Blk.new w4 45 (lyA kd5.id kd5.look vp5 vf5 vb5 vk5))
      clear hH HO5 HM5
      refine hK _ _ M.o (fun hH => ?_)
      clear hK K M
      refine rd 12 (h := fun K hK => ?_)
      generalize w4.alloc (.cells (lyA kd5.id kd5.look vp5 vf5 vb5 vk5) 45) = w6 at *
      generalize w4.heap.size = N6 at *
      refine ual T_ly _ _ rfl (W2.heap.size) (.slice p7 mt.length c7) mt.length (cs ++ [(lyA m.id m.look mp mf mb mk).toList]).flatten (fun _ => True) (.slice (some ⟨N6, 0, none⟩) 1 1) 1 (lyA kd5.id kd5.look vp5 vf5 vb5 vk5).toList rfl rfl (Nat.le_trans HM8.o.size HM6.o.size) (HK8.o.up HM6.o).own (RowG.of_blk HB6.o 31 1 rfl _ trivial) (LyR.one HO6.o) (by have := Hml8.o; have := Hlen.o; unfold maxLen; omega) (by have := Hml8.o; have := Hlen.o; omega) ?_
      intro v9 w9 G9
      obtain ⟨p9, c9, rfl⟩ := Gou.ownsRow_form G9.own
      have M := hd' (hH.trans' G9.mod)
      clear hH
      refine hK _ _ M.o (fun hH => ?_)
      clear hK K M
      refine tk 13 (.pointer (some ⟨N, 30, none⟩)) hH (h := ?_)
      refine tk 14 (.bool true) hH (h := ?_)
      have MS := hd' hH
      refine wpAnyH_done (by kernel_rfl) ?_ _
      clear hH
      show Oper.wp _ _ _ _ _ _
      have HK9 := hd' (HK8.o.grow HGz.o HM6.o (Nat.le_refl _) HM8.o.size HO6.o G9)
      have HS9 := hd' MS.o
      have HB9 := hd' (HB8.o.mod HS9.o (Hns.o _ HNlt.o))
      have HM9 := hd' (HM8.o.trans HS9.o (fun k hk h => absurd h (Hns.o k hk)))
      clear MS HS9 o30 HO6 HB6 HM6 G9 HB8 HK8
      have o9 : w9.cell? ⟨N, 30, none⟩ = some (.slice p7 mt.length c7) := HB9.o.cell 30 rfl
      have f9 := HB9.o.frozen 30
      go_simp
      have HSa := hd' (Gou.Mod.set1 w9 N 30 (.slice p9 (mt.length + 1) c9))
      have HBa : Hid (Blk (w9.setCell ⟨N, 30, none⟩ (.slice p9 (mt.length + 1) c9)) N 45 (lyS i lk pp cp pf cf pb cb (.slice p9 (mt.length + 1) c9))) := hd' (HB9.o.set 30 _)
      have HKa := hd' (HK9.o.mod HSa.o (fun k hk _ e => by
       have h1 := HNr.o
       have h2 := HNlt.o
       rcases hk with hk | hk
       ·have := HGb.o k hk; omega
       ·omega))
      have HMa := hd' (HM9.o.trans' HSa.o)
      clear HB9 HK9 HM9 HSa o9 f9
      go_wp2_with fail
      go_roundw
      case rel => exact ⟨j + 1, by rw [← Hwi.o], by have := Hil.o; omega, _, _, by rw [HmsK.o _ HLk.o, ← Hkd5.o]; exact HKa.o, HBa.o, HMa.o⟩
      case measure => rw [Hwi.o]; have := Hil.o; simp only [intOf]; omega
     ·have Hje : Hid (j = ks.length) := hd' (by have := Hil.o; omega)
      go_wp2_with fail
      go_roundw
      case rel => exact ⟨j + 1, by rw [← Hwi.o], by have := Hil.o; omega, _, _, by rw [HmsE.o Hje.o]; exact HK8.o, HB8.o, HM8.o⟩
      case measure => rw [Hwi.o]; have := Hil.o; simp only [intOf]; omega
    ·have HA := hd' hA
     have hcond : (decide (i = x) && (((j : Nat) : Int) == n)) = false := by
      rw [Bool.and_eq_false_iff]
      by_cases h1 : i = x
      ·exact .inr (bqf.2 (fun e => hA ⟨h1, e.symm⟩))
      ·exact .inl (dqf h1)
     have HmsK : Hid (∀ k, L[j]? = some k → insP (decide (i = x)) n m L (j + 1) = ms ++ [k]) := hd' (fun k hk => by rw [insP_else (fun h => HA.o ⟨of_decide_eq_true h.1, h.2⟩) hk, Hms.o])
     have HmsE : Hid (j = ks.length → insP (decide (i = x)) n m L (j + 1) = ms) := hd' (fun he => by have h := insP_stay (m := m) (L := L) (p := decide (i = x)) (n := n) (fun h => HA.o ⟨of_decide_eq_true h.1, by have := h.2; rw [HLl.o, ← he] at this; exact this⟩); rw [HLl.o, ← he, Hms.o] at h; exact h)
     have Hml8 : Hid (ms.length ≤ ks.length + 2) := hd' (by have := Hml.o; omega)
     clear hA HBr HXr HVr f30 o30 c30
     by_cases h1 : i = x
     ·have e1 : decide (i = x) = true := dqt h1
      rw [e1, Bool.true_and] at hcond
      rw [e1] at hid
      have c30 : wr.cell? ⟨w.heap.size, 30, none⟩ = some (.slice pk ks.length ck) := (HB2.o.mod Hm.o (by have := HNr.o; omega)).cell 30 rfl
      clear h1 e1
      go_upto_region 7 with fail
      clear hid hcond c0 c1 x0 x1 c30
      have HB8 := Hbo
      have HK8 := Hks
      have HM8 := Hm
      clear Hbo Hks Hm HMw
      generalize ms = mt at *
      generalize wr = W8 at *
      have HM8w := hd' (HM2.o.trans HM8.o (fun k hk e => by have := HNr.o; omega))
      have HBx := hd' (HB2.o.mod HM8.o (by have := HNr.o; omega))
      have HXx := hd' (HX2.o.mod HM8.o (by have := HNr.o; omega))
      have HVx := hd' (HV2.o.mod HM8.o (by have := HNr.o; omega))
      have c30 : W8.cell? ⟨w.heap.size, 30, none⟩ = some (.slice pk ks.length ck) := HBx.o.cell 30 rfl
      by_cases hjl : j < ks.length
      ·obtain ⟨b, o, kp, kf, kb, kk, rfl, hbl, _, hrg, hkr⟩ := LyR.kidR Hrow.o Hcl.o rfl Hk.o hjl
       have Hrg := hd' (uax hrg HM8w.o (fun h => h))
       have HLb : Hid (b < W2.heap.size) := hd' (by have := HM2.o.size; omega)
       have HLk : Hid (L[j]? = some (ks[j].with_ x n m)) := hd' (by rw [HLe.o, List.getElem?_map, lgE hjl]; rfl)
       have Hik : Hid (∀ w', Gou.Mod (fun _ => False) W8 w' → Calls Tryz.prog 33 #[.agg (lyA ks[j].id ks[j].look kp kf kb kk), .agg #[iV x.1, iV x.2], iV n, .agg (lyA m.id m.look mp mf mb mk)] w' (RefP G w' (ks[j].with_ x n m))) := hd' (fun w' hw' => Ih.o ks[j] (lgM hjl) G w' kp kf kb kk mp mf mb mk (fun b hb => Nat.lt_of_lt_of_le (HGb.o b hb) (HM8w.o.trans' hw').size) (hkr.up (HM8w.o.trans' hw')) (Hft.o.kids ks[j] (by rw [Ly.kids_mk]; exact lgM hjl)) (Hmr.o.mod (HM8w.o.trans' hw') (fun _ _ _ h => h)))
       have Hjl := hd' hjl
       clear hrg hkr hbl
       generalize ks[j] = kd at *
       have hrow := fun k (hk : (Value.slice ps mt.length cps).ownBlock = some k) => HK8.o.row k hk
       have Hns : Hid (∀ k, k < W2.heap.size → ¬ ((Value.slice ps mt.length cps).ownBlock = some k)) := hd' (fun k hk h => by have := (hrow k h).1; omega)
       have HXq : Hid (W8.rangeAt (w.heap.size + 1) 0 [iV x.1, iV x.2]) := hd' (Blk.range (pre := []) (post := []) HXx.o (by simp) rfl)
       have HVq := hd' HVx.o.whole
       have o30 : W8.cell? ⟨N, 30, none⟩ = some (.slice ps mt.length cps) := HB8.o.cell 30 rfl
       clear hrow
       go_upto_region 8 with fail
       refine wdf (S := fun w' => Gou.Mod (fun k => (Value.slice ps mt.length cps).ownBlock = some k) W8 w') 14 (Gou.Mod.drew _ _) (h := fun hH => ?_)
       refine tk 0 (.pointer (some ⟨N, 30, none⟩)) hH (h := ?_)
       refine tkC 1 o30 (Hns.o _ HNlt.o) hH (h := ?_)
       refine tk 2 (.pointer (some ⟨w.heap.size, 30, none⟩)) hH (h := ?_)
       refine tkC 3 c30 (Hns.o _ HL0.o) hH (h := ?_)
       refine tk 4 (iV (j : Int)) hH (h := ?_)
       refine tk 5 (.pointer (some ⟨b, o + j * 31, none⟩)) hH (h := ?_)
       refine tkR 6 (.agg (lyA kd.id kd.look kp kf kb kk)) Hrg.o (Hns.o _ HLb.o) Tryz.underlying45 uaa hH (h := ?_)
       refine tkR 7 (.agg #[iV x.1, iV x.2]) HXq.o (Hns.o _ HL1.o) Tryz.underlying30 uaf hH (h := ?_)
       refine tk 8 (iV n) hH (h := ?_)
       refine tkR 9 (.agg (lyA m.id m.look mp mf mb mk)) HVq.o (Hns.o _ HL2.o) Tryz.underlying45 uaa hH (h := ?_)
       refine rd 10 (h := fun K hK => ?_)
       go_simp
       refine (Hik.o _ (Gou.Mod.drew _ _)).mono ?_
       rintro e w4 ⟨vp5, vf5, vb5, vk5, rfl, ho5, hm5⟩
       have M := hd' (hH.trans' (hm5.imp (fun _ _ h => h.elim)))
       obtain ⟨kd5, hkd5⟩ : ∃ kd5, kd5 = kd.with_ x n m := ⟨_, rfl⟩
       rw [← hkd5] at ho5 ⊢
       have Hkd5 := hd' hkd5
       have HO5 := hd' ho5
       have HM5 := hd' ((Gou.Mod.drew (fun _ => False) W8).trans' hm5)
       clear hH ho5 hm5 hkd5
       refine hK _ _ M.o (fun hH => ?_)
       clear hK K M
       refine rd 11 (h := fun K hK => ?_)
       refine ua8 T_ly _ rfl (lyA kd5.id kd5.look vp5 vf5 vb5 vk5) rfl rfl (by decide) ?_
       have M := hd' (hH.trans' (Gou.Mod.alloc (fun k => (Value.slice ps mt.length cps).ownBlock = some k) w4 (.cells (lyA kd5.id kd5.look vp5 vf5 vb5 vk5) 45)))
       have HM6 := hd' (HM5.o.trans' (Gou.Mod.alloc0 w4 (.cells (lyA kd5.id kd5.look vp5 vf5 vb5 vk5) 45)))
       have HO6 := hd' (HO5.o.up (Gou.Mod.alloc0 w4 (.cells (lyA kd5.id kd5.look vp5 vf5 vb5 vk5) 45)))
       have HB6 := hd' (Blk.new w4 45 (lyA kd5.id kd5.look vp5 vf5 vb5 vk5))
       clear hH HO5 HM5
       refine hK _ _ M.o (fun hH => ?_)
       clear hK K M
       refine rd 12 (h := fun K hK => ?_)
       generalize w4.alloc (.cells (lyA kd5.id kd5.look vp5 vf5 vb5 vk5) 45) = w6 at *
       generalize w4.heap.size = N6 at *
       refine ual T_ly _ _ rfl (W2.heap.size) (.slice ps mt.length cps) mt.length cs.flatten (fun _ => True) (.slice (some ⟨N6, 0, none⟩) 1 1) 1 (lyA kd5.id kd5.look vp5 vf5 vb5 vk5).toList rfl rfl (Nat.le_trans HM8.o.size HM6.o.size) (HK8.o.up HM6.o).own (RowG.of_blk HB6.o 31 1 rfl _ trivial) (LyR.one HO6.o) (by have := Hml8.o; have := Hlen.o; unfold maxLen; omega) (by have := Hml8.o; have := Hlen.o; omega) ?_
       intro v9 w9 G9
       obtain ⟨p9, c9, rfl⟩ := Gou.ownsRow_form G9.own
       have M := hd' (hH.trans' G9.mod)
       clear hH
       refine hK _ _ M.o (fun hH => ?_)
       clear hK K M
       refine tk 13 (.pointer (some ⟨N, 30, none⟩)) hH (h := ?_)
       refine tk 14 (.bool true) hH (h := ?_)
       have MS := hd' hH
       refine wpAnyH_done (by kernel_rfl) ?_ _
       clear hH
       show Oper.wp _ _ _ _ _ _
       have HK9 := hd' (HK8.o.grow HGz.o HM6.o (Nat.le_refl _) HM8.o.size HO6.o G9)
       have HS9 := hd' MS.o
       have HB9 := hd' (HB8.o.mod HS9.o (Hns.o _ HNlt.o))
       have HM9 := hd' (HM8.o.trans HS9.o (fun k hk h => absurd h (Hns.o k hk)))
       clear MS HS9 o30 HO6 HB6 HM6 G9 HB8 HK8
       have o9 : w9.cell? ⟨N, 30, none⟩ = some (.slice ps mt.length cps) := HB9.o.cell 30 rfl
       have f9 := HB9.o.frozen 30
       go_simp
       have HSa := hd' (Gou.Mod.set1 w9 N 30 (.slice p9 (mt.length + 1) c9))
       have HBa : Hid (Blk (w9.setCell ⟨N, 30, none⟩ (.slice p9 (mt.length + 1) c9)) N 45 (lyS i lk pp cp pf cf pb cb (.slice p9 (mt.length + 1) c9))) := hd' (HB9.o.set 30 _)
       have HKa := hd' (HK9.o.mod HSa.o (fun k hk _ e => by
        have h1 := HNr.o
        have h2 := HNlt.o
        rcases hk with hk | hk
        ·have := HGb.o k hk; omega
        ·omega))
       have HMa := hd' (HM9.o.trans' HSa.o)
       clear HB9 HK9 HM9 HSa o9 f9
       go_wp2_with fail
       go_roundw
       case rel => exact ⟨j + 1, by rw [← Hwi.o], by have := Hil.o; omega, _, _, by rw [HmsK.o _ HLk.o, ← Hkd5.o]; exact HKa.o, HBa.o, HMa.o⟩
       case measure => rw [Hwi.o]; have := Hil.o; simp only [intOf]; omega
      ·have Hje : Hid (j = ks.length) := hd' (by have := Hil.o; omega)
       go_wp2_with fail
       go_roundw
       case rel => exact ⟨j + 1, by rw [← Hwi.o], by have := Hil.o; omega, _, _, by rw [HmsE.o Hje.o]; exact HK8.o, HB8.o, HM8.o⟩
       case measure => rw [Hwi.o]; have := Hil.o; simp only [intOf]; omega
     ·have e1 : decide (i = x) = false := dqf h1
      rw [e1] at hid
      have c30 : wr.cell? ⟨w.heap.size, 30, none⟩ = some (.slice pk ks.length ck) := (HB2.o.mod Hm.o (by have := HNr.o; omega)).cell 30 rfl
      clear h1 e1 hcond
      go_upto_region 7 with fail
      clear hid c0 c1 x0 x1 c30
      have HB8 := Hbo
      have HK8 := Hks
      have HM8 := Hm
      clear Hbo Hks Hm HMw
      generalize ms = mt at *
      generalize wr = W8 at *
      have HM8w := hd' (HM2.o.trans HM8.o (fun k hk e => by have := HNr.o; omega))
      have HBx := hd' (HB2.o.mod HM8.o (by have := HNr.o; omega))
      have HXx := hd' (HX2.o.mod HM8.o (by have := HNr.o; omega))
      have HVx := hd' (HV2.o.mod HM8.o (by have := HNr.o; omega))
      have c30 : W8.cell? ⟨w.heap.size, 30, none⟩ = some (.slice pk ks.length ck) := HBx.o.cell 30 rfl
      by_cases hjl : j < ks.length
      ·obtain ⟨b, o, kp, kf, kb, kk, rfl, hbl, _, hrg, hkr⟩ := LyR.kidR Hrow.o Hcl.o rfl Hk.o hjl
       have Hrg := hd' (uax hrg HM8w.o (fun h => h))
       have HLb : Hid (b < W2.heap.size) := hd' (by have := HM2.o.size; omega)
       have HLk : Hid (L[j]? = some (ks[j].with_ x n m)) := hd' (by rw [HLe.o, List.getElem?_map, lgE hjl]; rfl)
       have Hik : Hid (∀ w', Gou.Mod (fun _ => False) W8 w' → Calls Tryz.prog 33 #[.agg (lyA ks[j].id ks[j].look kp kf kb kk), .agg #[iV x.1, iV x.2], iV n, .agg (lyA m.id m.look mp mf mb mk)] w' (RefP G w' (ks[j].with_ x n m))) := hd' (fun w' hw' => Ih.o ks[j] (lgM hjl) G w' kp kf kb kk mp mf mb mk (fun b hb => Nat.lt_of_lt_of_le (HGb.o b hb) (HM8w.o.trans' hw').size) (hkr.up (HM8w.o.trans' hw')) (Hft.o.kids ks[j] (by rw [Ly.kids_mk]; exact lgM hjl)) (Hmr.o.mod (HM8w.o.trans' hw') (fun _ _ _ h => h)))
       have Hjl := hd' hjl
       clear hrg hkr hbl
       generalize ks[j] = kd at *
       have hrow := fun k (hk : (Value.slice ps mt.length cps).ownBlock = some k) => HK8.o.row k hk
       have Hns : Hid (∀ k, k < W2.heap.size → ¬ ((Value.slice ps mt.length cps).ownBlock = some k)) := hd' (fun k hk h => by have := (hrow k h).1; omega)
       have HXq : Hid (W8.rangeAt (w.heap.size + 1) 0 [iV x.1, iV x.2]) := hd' (Blk.range (pre := []) (post := []) HXx.o (by simp) rfl)
       have HVq := hd' HVx.o.whole
       have o30 : W8.cell? ⟨N, 30, none⟩ = some (.slice ps mt.length cps) := HB8.o.cell 30 rfl
       clear hrow
       go_upto_region 8 with fail
       refine wdf (S := fun w' => Gou.Mod (fun k => (Value.slice ps mt.length cps).ownBlock = some k) W8 w') 14 (Gou.Mod.drew _ _) (h := fun hH => ?_)
       refine tk 0 (.pointer (some ⟨N, 30, none⟩)) hH (h := ?_)
       refine tkC 1 o30 (Hns.o _ HNlt.o) hH (h := ?_)
       refine tk 2 (.pointer (some ⟨w.heap.size, 30, none⟩)) hH (h := ?_)
       refine tkC 3 c30 (Hns.o _ HL0.o) hH (h := ?_)
       refine tk 4 (iV (j : Int)) hH (h := ?_)
       refine tk 5 (.pointer (some ⟨b, o + j * 31, none⟩)) hH (h := ?_)
       refine tkR 6 (.agg (lyA kd.id kd.look kp kf kb kk)) Hrg.o (Hns.o _ HLb.o) Tryz.underlying45 uaa hH (h := ?_)
       refine tkR 7 (.agg #[iV x.1, iV x.2]) HXq.o (Hns.o _ HL1.o) Tryz.underlying30 uaf hH (h := ?_)
       refine tk 8 (iV n) hH (h := ?_)
       refine tkR 9 (.agg (lyA m.id m.look mp mf mb mk)) HVq.o (Hns.o _ HL2.o) Tryz.underlying45 uaa hH (h := ?_)
       refine rd 10 (h := fun K hK => ?_)
       go_simp
       refine (Hik.o _ (Gou.Mod.drew _ _)).mono ?_
       rintro e w4 ⟨vp5, vf5, vb5, vk5, rfl, ho5, hm5⟩
       have M := hd' (hH.trans' (hm5.imp (fun _ _ h => h.elim)))
       obtain ⟨kd5, hkd5⟩ : ∃ kd5, kd5 = kd.with_ x n m := ⟨_, rfl⟩
       rw [← hkd5] at ho5 ⊢
       have Hkd5 := hd' hkd5
       have HO5 := hd' ho5
       have HM5 := hd' ((Gou.Mod.drew (fun _ => False) W8).trans' hm5)
       clear hH ho5 hm5 hkd5
       refine hK _ _ M.o (fun hH => ?_)
       clear hK K M
       refine rd 11 (h := fun K hK => ?_)
       refine ua8 T_ly _ rfl (lyA kd5.id kd5.look vp5 vf5 vb5 vk5) rfl rfl (by decide) ?_
       have M := hd' (hH.trans' (Gou.Mod.alloc (fun k => (Value.slice ps mt.length cps).ownBlock = some k) w4 (.cells (lyA kd5.id kd5.look vp5 vf5 vb5 vk5) 45)))
       have HM6 := hd' (HM5.o.trans' (Gou.Mod.alloc0 w4 (.cells (lyA kd5.id kd5.look vp5 vf5 vb5 vk5) 45)))
       have HO6 := hd' (HO5.o.up (Gou.Mod.alloc0 w4 (.cells (lyA kd5.id kd5.look vp5 vf5 vb5 vk5) 45)))
       have HB6 := hd' (Blk.new w4 45 (lyA kd5.id kd5.look vp5 vf5 vb5 vk5))
       clear hH HO5 HM5
       refine hK _ _ M.o (fun hH => ?_)
       clear hK K M
       refine rd 12 (h := fun K hK => ?_)
       generalize w4.alloc (.cells (lyA kd5.id kd5.look vp5 vf5 vb5 vk5) 45) = w6 at *
       generalize w4.heap.size = N6 at *
       refine ual T_ly _ _ rfl (W2.heap.size) (.slice ps mt.length cps) mt.length cs.flatten (fun _ => True) (.slice (some ⟨N6, 0, none⟩) 1 1) 1 (lyA kd5.id kd5.look vp5 vf5 vb5 vk5).toList rfl rfl (Nat.le_trans HM8.o.size HM6.o.size) (HK8.o.up HM6.o).own (RowG.of_blk HB6.o 31 1 rfl _ trivial) (LyR.one HO6.o) (by have := Hml8.o; have := Hlen.o; unfold maxLen; omega) (by have := Hml8.o; have := Hlen.o; omega) ?_
       intro v9 w9 G9
       obtain ⟨p9, c9, rfl⟩ := Gou.ownsRow_form G9.own
       have M := hd' (hH.trans' G9.mod)
       clear hH
       refine hK _ _ M.o (fun hH => ?_)
       clear hK K M
       refine tk 13 (.pointer (some ⟨N, 30, none⟩)) hH (h := ?_)
       refine tk 14 (.bool true) hH (h := ?_)
       have MS := hd' hH
       refine wpAnyH_done (by kernel_rfl) ?_ _
       clear hH
       show Oper.wp _ _ _ _ _ _
       have HK9 := hd' (HK8.o.grow HGz.o HM6.o (Nat.le_refl _) HM8.o.size HO6.o G9)
       have HS9 := hd' MS.o
       have HB9 := hd' (HB8.o.mod HS9.o (Hns.o _ HNlt.o))
       have HM9 := hd' (HM8.o.trans HS9.o (fun k hk h => absurd h (Hns.o k hk)))
       clear MS HS9 o30 HO6 HB6 HM6 G9 HB8 HK8
       have o9 : w9.cell? ⟨N, 30, none⟩ = some (.slice ps mt.length cps) := HB9.o.cell 30 rfl
       have f9 := HB9.o.frozen 30
       go_simp
       have HSa := hd' (Gou.Mod.set1 w9 N 30 (.slice p9 (mt.length + 1) c9))
       have HBa : Hid (Blk (w9.setCell ⟨N, 30, none⟩ (.slice p9 (mt.length + 1) c9)) N 45 (lyS i lk pp cp pf cf pb cb (.slice p9 (mt.length + 1) c9))) := hd' (HB9.o.set 30 _)
       have HKa := hd' (HK9.o.mod HSa.o (fun k hk _ e => by
        have h1 := HNr.o
        have h2 := HNlt.o
        rcases hk with hk | hk
        ·have := HGb.o k hk; omega
        ·omega))
       have HMa := hd' (HM9.o.trans' HSa.o)
       clear HB9 HK9 HM9 HSa o9 f9
       go_wp2_with fail
       go_roundw
       case rel => exact ⟨j + 1, by rw [← Hwi.o], by have := Hil.o; omega, _, _, by rw [HmsK.o _ HLk.o, ← Hkd5.o]; exact HKa.o, HBa.o, HMa.o⟩
       case measure => rw [Hwi.o]; have := Hil.o; simp only [intOf]; omega
      ·have Hje : Hid (j = ks.length) := hd' (by have := Hil.o; omega)
       go_wp2_with fail
       go_roundw
       case rel => exact ⟨j + 1, by rw [← Hwi.o], by have := Hil.o; omega, _, _, by rw [HmsE.o Hje.o]; exact HK8.o, HB8.o, HM8.o⟩
       case measure => rw [Hwi.o]; have := Hil.o; simp only [intOf]; omega
   ·have hil' : j = ks.length + 1 := by omega
    subst hil'
    clear hj
    have HW := hd' (Hks.o.whole i lk (((Hl.o.mod HMw.o (fun _ _ _ h => h))).imp (fun _ _ h => .inl h)))
    have HBN := hd' Hbo.o.whole
    have HRr := hd' (HR2.o.mod Hm.o (by have := HNr.o; omega))
    generalize insP (decide (i = x)) n m L (ks.length + 1) = ms at *
    have e0 : decide (((ks.length + 1 : Nat) : Int) ≤ (ks.length : Int)) = false := dqf (by omega)
    have e0b : decide ((ks.length : Int) + 1 ≤ (ks.length : Int)) = false := dqf (by omega)
    go_wp2_with (first | ((with_reducible refine lT 45 ?_); refine ldA HBN.o Tryz.underlying45 uaa (h := ?_)) | ((with_reducible refine sT 45 ?_); refine stA (lyS i lk pp cp pf cf pb cb (.slice ps ms.length cps)) (HRr.o.there 0 31 (by simp [lyA])) uaa (uat (LyR.one (T := .mk i lk ms) HW.o)) (h := ?_)) | fail)
    have HS := hd' (Blk.setMod wr (w.heap.size + 1 + 1 + 1) 0 (lyS i lk pp cp pf cf pb cb (.slice ps ms.length cps)).toList)
    have HR3 := HRr.o.setAll (lyS i lk pp cp pf cf pb cb (.slice ps ms.length cps)) rfl
    refine bpr (results_cell_row rfl _ _ (w.heap.size + 1 + 1 + 1) 45 (lyS i lk pp cp pf cf pb cb (.slice ps ms.length cps)) (0, 0) _ rfl HR3 Tryz.underlying45 rfl uaa) rfl ?_
    unfold RefP
    rw [HT.o]
    refine ⟨_, _, _, _, rfl, (HW.o.mod HS.o (fun k hk hg e => ?_)).imp (fun k _ hg => hg.imp id (fun h => by have := HM2.o.size; omega)), HMw.o.trans HS.o (fun k hk e => by omega)⟩
    have h1 := HNr.o
    have h2 := HNlt.o
    rcases hg with hg | hg
    ·have := HGb.o k hg; omega
    ·omega
end Go.Proofs.YtpbmfalokongfaaGreatDoor
namespace Go.Gou
theorem Ly.withoutL_take {ks : List Ly} {j : Nat} (x : Idt) (h : j < ks.length) : withoutL x (ks.take (j + 1)) = withoutL x (ks.take j) ++ (if ks[j].id = x then [] else [ks[j].without x]) := by
 rw [ltS h, ubr, ubr, List.filter_append, List.map_append]
 congr 1
 by_cases hx : ks[j].id = x <;> simp [hx]
theorem Ly.withoutL_len {ks : List Ly} {j : Nat} (x : Idt) : (withoutL x (ks.take j)).length ≤ ks.length := by
 rw [ubr, List.length_map]
 exact Nat.le_trans (List.length_filter_le _ _) (by rw [List.length_take]; omega)
end Go.Gou
namespace Go.Proofs.YtpbmfalokongfaaGreatDoor
open Go.RowKit Go.Gou
set_option maxRecDepth 100000
theorem uea (x : Idt) : ∀ (T : Ly) (G : Nat → Prop) (w : World) (vp vf vb vk : Value), (∀ b, G b → b < w.heap.size) → LyR G w (lyA T.id T.look vp vf vb vk).toList T → TFit T →
 Calls Tryz.prog 34 #[.agg (lyA T.id T.look vp vf vb vk), .agg #[iV x.1, iV x.2]] w (RefP G w (T.without x)) := by
 intro T
 induction T using Ly.ind with
 | h i lk ks ih =>
  intro G w vp vf vb vk hG hr hft
  obtain ⟨hl, css, hrow, hcl, hk⟩ := hr.parts
  simp only [Ly.id_mk, Ly.look_mk, Ly.kids_mk] at hl hrow hcl hk ⊢
  obtain ⟨pk, ck, rfl⟩ := RowG.slice hrow
  obtain ⟨⟨pp, cp, rfl⟩, ⟨pf, cf, rfl⟩, ⟨pb, cb, rfl⟩⟩ := hl.forms
  have HG := hd' hG
  have Hl := hd' hl
  have Hrow := hd' hrow
  have Hcl := hd' hcl
  have Hk := hd' hk
  have Hft := hd' hft
  have Ih := hd' ih
  have hlen := hft.len
  rw [Ly.kids_mk] at hlen
  have Hlen := hd' hlen
  obtain ⟨b0, b1, b3, bm⟩ := ubd w 45 30 45 (lyS i lk pp cp pf cf pb cb (.slice pk ks.length ck)) #[iV x.1, iV x.2] lyL
  have HB := hd' b0
  have HX := hd' b1
  have HR := hd' b3
  have HMa := hd' bm
  clear hl hrow hcl hk hr hft ih hlen hG b0 b1 b3 bm
  go_enter Tryz.func34, Tryz.ntmps34
  go_upto_region 1 with fail
  show Code.wp _ _ _ _ (((w.alloc (.cells (lyS i lk pp cp pf cf pb cb (.slice pk ks.length ck)) 45)).alloc (.cells #[iV x.1, iV x.2] 30)).alloc (.cells lyL 45))
  generalize ((w.alloc (.cells (lyS i lk pp cp pf cf pb cb (.slice pk ks.length ck)) 45)).alloc (.cells #[iV x.1, iV x.2] 30)).alloc (.cells lyL 45) = W1 at *
  have c0 : W1.cell? ⟨w.heap.size, 0, none⟩ = some (iV i.1) := HB.o.cell 0 rfl
  have c1 : W1.cell? ⟨w.heap.size, 1, none⟩ = some (iV i.2) := HB.o.cell 1 rfl
  have HLr : Hid (W1.rangeAt w.heap.size 2 (lkS lk pp cp pf cf pb cb).toList) := hd' (Blk.range (pre := [iV i.1, iV i.2]) (post := [.slice pk ks.length ck]) HB.o rfl rfl)
  go_wp2_with (first | ((with_reducible refine lT 42 ?_); refine ldA HLr.o Tryz.underlying42 uad (h := ?_)) | ((with_reducible show wpList _ _ _ (⟨_, Op.build _ _, _, _, _, _⟩ :: _) _ _); refine halt ?_) | fail)
  show wpList _ _ _ _ _ _
  refine uav rfl (.agg (lyS i lk pp cp pf cf pb cb nlS)) (by kernel_rfl) ?_
  simp only [Act.put, List.setIfInBounds_toArray, List.set_cons_zero, List.set_cons_succ]
  go_upto_region 2 with (first | ((with_reducible refine sT 45 ?_); refine stA (lyS i lk pp cp pf cf pb cb nlS) ((Blk.new W1 45 lyL).there 0 31 (by simp)) uaa (by simp [lyA, Value.oneCell']) (h := ?_)) | fail)
  have HN := hd' ((Blk.new W1 45 lyL).setAll (lyS i lk pp cp pf cf pb cb nlS) rfl)
  have hma : Gou.Mod (fun _ => False) W1 ((W1.alloc (.cells lyL 45)).setCells W1.heap.size 0 (lyS i lk pp cp pf cf pb cb nlS).toList) := Gou.Mod.allocSet _ _ _
  show Code.wp _ _ _ _ ((W1.alloc (.cells lyL 45)).setCells W1.heap.size 0 (lyS i lk pp cp pf cf pb cb nlS).toList)
  have HM2 := hd' (HMa.o.trans' hma)
  have HB2 := hd' (HB.o.up hma)
  have HX2 := hd' (HX.o.up hma)
  have HR2 := hd' (HR.o.up hma)
  have HNr : Hid (w.heap.size + 1 + 1 < W1.heap.size) := hd' (Blk.lt HR.o)
  clear hma c0 c1 HLr HB HX HR HMa
  generalize (W1.alloc (.cells lyL 45)).setCells W1.heap.size 0 (lyS i lk pp cp pf cf pb cb nlS).toList = W2 at *
  generalize W1.heap.size = N at *
  have HNlt := hd' (Blk.lt HN.o)
  have HGb : Hid (∀ b, G b → b < w.heap.size) := HG
  have HK0 : Hid (KidsR 45 W2.heap.size G W2 nlS [] []) := hd' (KidsR.start _)
  go_wp2_with fail
  go_loopw [6] (fun vi wr => ∃ j : Nat, vi = iV j ∧ j ≤ ks.length ∧ ∃ vs cs, KidsR 45 W2.heap.size G wr vs cs (Ly.withoutL x (ks.take j)) ∧ Blk wr N 45 (lyS i lk pp cp pf cf pb cb vs) ∧ Gou.Mod (fun k => k = N) W2 wr) (fun vi _ => ks.length - (intOf vi).toNat)
  case atStart => exact ⟨0, rfl, Nat.zero_le _, _, [], HK0.o, HN.o, Gou.Mod.refl _ _⟩
  case round =>
   obtain ⟨j, rfl, hj, vs, cs, hks, hbo, hm⟩ := hrel
   obtain ⟨ps, cps, rfl⟩ := Gou.ownsRow_form hks.own
   have Hks := hd' hks
   have Hbo := hd' hbo
   have Hm := hd' hm
   have HMw := hd' (HM2.o.trans hm (fun k hk e => by have := HNr.o; omega))
   have HBr := hd' (HB2.o.mod hm (by have := HNr.o; omega))
   have HXr := hd' (HX2.o.mod hm (by have := HNr.o; omega))
   have c30 : wr.cell? ⟨w.heap.size, 30, none⟩ = some (.slice pk ks.length ck) := HBr.o.cell 30 rfl
   clear hks hbo hm HK0 HN
   by_cases hil : j < ks.length
   ·obtain ⟨b, o, kp, kf, kb, kk, rfl, hbl, _, hrg, hkr⟩ := LyR.kidR Hrow.o Hcl.o rfl Hk.o hil
    have Hrg := hd' (uax hrg HMw.o (fun h => h))
    have Hkr := hd' (hkr.up HMw.o)
    have Hbl := hd' hbl
    have Hst : Hid (Ly.withoutL x (ks.take (j + 1)) = Ly.withoutL x (ks.take j) ++ (if ks[j].id = x then [] else [ks[j].without x])) := hd' (Ly.withoutL_take x hil)
    have Hik : Hid (∀ w', Gou.Mod (fun _ => False) wr w' → Calls Tryz.prog 34 #[.agg (lyA ks[j].id ks[j].look kp kf kb kk), .agg #[iV x.1, iV x.2]] w' (RefP G w' (ks[j].without x))) := hd' (fun w' hw' => Ih.o ks[j] (lgM hil) G w' kp kf kb kk (fun b hb => Nat.lt_of_lt_of_le (HGb.o b hb) (HMw.o.trans' hw').size) (hkr.up (HMw.o.trans' hw')) (Hft.o.kids ks[j] (by rw [Ly.kids_mk]; exact lgM hil)))
    have Hil := hd' hil
    have hwi : wrap64 ((j : Int) + 1) = ((j + 1 : Nat) : Int) := by have := Hlen.o; unfold wrap64; omega
    have Hml : Hid ((Ly.withoutL x (ks.take j)).length ≤ ks.length) := hd' (Ly.withoutL_len x)
    clear hrg hkr hbl
    generalize ks[j] = kd at *
    generalize Ly.withoutL x (ks.take j) = ms at *
    have hrow := fun k (hk : (Value.slice ps ms.length cps).ownBlock = some k) => Hks.o.row k hk
    have Hns : Hid (∀ k, k < W2.heap.size → ¬ ((Value.slice ps ms.length cps).ownBlock = some k)) := hd' (fun k hk h => by have := (hrow k h).1; omega)
    have HXq : Hid (wr.rangeAt (w.heap.size + 1) 0 [iV x.1, iV x.2]) := hd' (Blk.range (pre := []) (post := []) HXr.o (by simp) rfl)
    have HL0 : Hid (w.heap.size < W2.heap.size) := hd' (by have := HNr.o; have := HNlt.o; omega)
    have HL1 : Hid (w.heap.size + 1 < W2.heap.size) := hd' (by have := HNr.o; have := HNlt.o; omega)
    have HL2 : Hid (w.heap.size + 1 + 1 < W2.heap.size) := hd' (by have := HNr.o; have := HNlt.o; omega)
    have HLb : Hid (b < W2.heap.size) := hd' (by have := Hbl.o; have := HM2.o.size; omega)
    clear hrow
    have k0 : wr.cell? ⟨b, o + j * 31, none⟩ = some (iV kd.id.1) := Hrg.o 0 _ rfl
    have k1 : wr.cell? ⟨b, o + j * 31 + 1, none⟩ = some (iV kd.id.2) := Hrg.o 1 _ rfl
    have x0 : wr.cell? ⟨w.heap.size + 1, 0, none⟩ = some (iV x.1) := HXr.o.cell 0 rfl
    have x1 : wr.cell? ⟨w.heap.size + 1, 1, none⟩ = some (iV x.2) := HXr.o.cell 1 rfl
    have hid := fun (w' : World) => id_ne kd.id x w'
    go_upto_region 5 with fail
    by_cases hkx : kd.id = x
    ·have ez : decide (kd.id = x) = true := dqt hkx
     rw [ez] at hid
     have Hkx := hd' hkx
     clear hkx ez
     go_quiet (fail)
     have HQ := Gou.Mod.drewN (fun _ => False) wr nq
     have HK8 := hd' (Hks.o.up HQ)
     have HB8 := hd' (Hbo.o.up HQ)
     have HM8 := hd' (Hm.o.trans' (HQ.imp (fun _ _ h => h.elim)))
     go_wp2_with fail
     go_roundw
     case rel => exact ⟨j + 1, by rw [← hwi], by have := Hil.o; omega, _, _, by rw [Hst.o, if_pos Hkx.o, List.append_nil]; exact HK8.o, HB8.o, HM8.o⟩
     case measure => rw [hwi]; have := Hil.o; simp only [intOf]; omega
    ·have ez : decide (kd.id = x) = false := dqf hkx
     rw [ez] at hid
     have Hne := hd' hkx
     clear hkx ez
     go_quiet (fail)
     go_upto_region 6 with fail
     have hq := Gou.Mod.drewN (fun _ => False) wr nq
     replace Hks := hd' (Hks.o.up hq)
     replace Hbo := hd' (Hbo.o.up hq)
     replace Hm := hd' (Hm.o.trans' (hq.imp (fun _ _ h => h.elim)))
     replace HXq := hd' (uax HXq.o hq (fun h => h))
     replace Hrg := hd' (uax Hrg.o hq (fun h => h))
     replace HBr := hd' (HBr.o.up hq)
     replace HMw := hd' (HMw.o.trans' hq)
     replace Hik : Hid (∀ w', Gou.Mod (fun _ => False) (wr.drewN nq) w' → Calls Tryz.prog 34 #[.agg (lyA kd.id kd.look kp kf kb kk), .agg #[iV x.1, iV x.2]] w' (RefP G w' (kd.without x))) := hd' (fun w' hw' => Hik.o w' (hq.trans' hw'))
     clear k0 k1 x0 x1 hid c30 hq HXr Hkr
     generalize wr.drewN nq = wq at *
     have c30 : wq.cell? ⟨w.heap.size, 30, none⟩ = some (.slice (some ⟨b, o, none⟩) ks.length ck) := HBr.o.cell 30 rfl
     have o30 : wq.cell? ⟨N, 30, none⟩ = some (.slice ps ms.length cps) := Hbo.o.cell 30 rfl
     refine wdf (S := fun w' => Gou.Mod (fun k => (Value.slice ps ms.length cps).ownBlock = some k) wq w') 12 (Gou.Mod.drew _ _) (h := fun hH => ?_)
     refine tk 0 (.pointer (some ⟨N, 30, none⟩)) hH (h := ?_)
     refine tkC 1 o30 (Hns.o _ HNlt.o) hH (h := ?_)
     refine tk 2 (.pointer (some ⟨w.heap.size, 30, none⟩)) hH (h := ?_)
     refine tkC 3 c30 (Hns.o _ HL0.o) hH (h := ?_)
     refine tk 4 (iV (j : Int)) hH (h := ?_)
     refine tk 5 (.pointer (some ⟨b, o + j * 31, none⟩)) hH (h := ?_)
     refine tkR 6 (.agg (lyA kd.id kd.look kp kf kb kk)) Hrg.o (Hns.o _ HLb.o) Tryz.underlying45 uaa hH (h := ?_)
     refine tkR 7 (.agg #[iV x.1, iV x.2]) HXq.o (Hns.o _ HL1.o) Tryz.underlying30 uaf hH (h := ?_)
     refine rd 8 (h := fun K hK => ?_)
     go_simp
     refine (Hik.o _ (Gou.Mod.drew _ _)).mono ?_
     rintro e w4 ⟨vp5, vf5, vb5, vk5, rfl, ho5, hm5⟩
     have M := hd' (hH.trans' (hm5.imp (fun _ _ h => h.elim)))
     obtain ⟨kd5, hkd5⟩ : ∃ kd5, kd5 = kd.without x := ⟨_, rfl⟩
     rw [← hkd5] at ho5 ⊢
     have Hkd5 := hd' hkd5
     have HO5 := hd' ho5
     have HM5 := hd' ((Gou.Mod.drew (fun _ => False) wq).trans' hm5)
     clear hH ho5 hm5 hkd5
     refine hK _ _ M.o (fun hH => ?_)
     clear hK K M
     try simp only [Act.put, uSa, uSb, uSc]
     refine rd 9 (h := fun K hK => ?_)
     refine ua8 T_ly _ rfl (lyA kd5.id kd5.look vp5 vf5 vb5 vk5) rfl rfl (by decide) ?_
     have M := hd' (hH.trans' (Gou.Mod.alloc (fun k => (Value.slice ps ms.length cps).ownBlock = some k) w4 (.cells (lyA kd5.id kd5.look vp5 vf5 vb5 vk5) 45)))
     have HM6 := hd' (HM5.o.trans' (Gou.Mod.alloc0 w4 (.cells (lyA kd5.id kd5.look vp5 vf5 vb5 vk5) 45)))
     have HO6 := hd' (HO5.o.up (Gou.Mod.alloc0 w4 (.cells (lyA kd5.id kd5.look vp5 vf5 vb5 vk5) 45)))
     have HB6 := hd' (Blk.new w4 45 (lyA kd5.id kd5.look vp5 vf5 vb5 vk5))
     clear hH HO5 HM5
     refine hK _ _ M.o (fun hH => ?_)
     clear hK K M
     try simp only [Act.put, uSa, uSb, uSc]
     refine rd 10 (h := fun K hK => ?_)
     generalize w4.alloc (.cells (lyA kd5.id kd5.look vp5 vf5 vb5 vk5) 45) = w6 at *
     generalize w4.heap.size = N6 at *
     refine ual T_ly _ _ rfl (W2.heap.size) (.slice ps ms.length cps) ms.length cs.flatten (fun _ => True) (.slice (some ⟨N6, 0, none⟩) 1 1) 1 (lyA kd5.id kd5.look vp5 vf5 vb5 vk5).toList rfl rfl (Nat.le_trans Hm.o.size HM6.o.size) (Hks.o.up HM6.o).own (RowG.of_blk HB6.o 31 1 rfl _ trivial) (LyR.one HO6.o) (by have := Hml.o; have := Hlen.o; unfold maxLen; omega) (by have := Hml.o; have := Hlen.o; omega) ?_
     intro v7 w7 G7
     obtain ⟨p7, c7, rfl⟩ := Gou.ownsRow_form G7.own
     have M := hd' (hH.trans' G7.mod)
     clear hH
     refine hK _ _ M.o (fun hH => ?_)
     clear hK K M
     try simp only [Act.put, uSa, uSb, uSc]
     refine tk 11 (.pointer (some ⟨N, 30, none⟩)) hH (h := ?_)
     refine tk 12 (.bool true) hH (h := ?_)
     have MS := hd' hH
     refine wpAnyH_done (by kernel_rfl) ?_ _
     clear hH
     show Oper.wp _ _ _ _ _ _
     have HK7 := hd' (Hks.o.grow (fun b hb => Nat.lt_of_lt_of_le (HGb.o b hb) HM2.o.size) HM6.o (Nat.le_refl _) Hm.o.size HO6.o G7)
     have HS7 := hd' MS.o
     have HB7 := hd' (Hbo.o.mod HS7.o (Hns.o _ HNlt.o))
     have HM7 := hd' (Hm.o.trans HS7.o (fun k hk h => absurd h (Hns.o k hk)))
     clear MS HS7 o30 HO6 HB6 HM6 G7 Hbo Hks
     have o7 : w7.cell? ⟨N, 30, none⟩ = some (.slice ps ms.length cps) := HB7.o.cell 30 rfl
     have f7 := HB7.o.frozen 30
     go_simp
     have HS8 := hd' (Gou.Mod.set1 w7 N 30 (.slice p7 (ms.length + 1) c7))
     have HB8 : Hid (Blk (w7.setCell ⟨N, 30, none⟩ (.slice p7 (ms.length + 1) c7)) N 45 (lyS i lk pp cp pf cf pb cb (.slice p7 (ms.length + 1) c7))) := hd' (HB7.o.set 30 _)
     have HK8 := hd' (HK7.o.mod HS8.o (fun k hk _ e => by
      have h1 := HNr.o
      have h2 := HNlt.o
      rcases hk with hk | hk
      ·have := HGb.o k hk; omega
      ·omega))
     have HM8 := hd' (HM7.o.trans' HS8.o)
     clear HB7 HK7 HM7 HS8 o7 f7
     go_wp2_with fail
     go_roundw
     case rel => exact ⟨j + 1, by rw [← hwi], by have := Hil.o; omega, _, _, by rw [Hst.o, if_neg Hne.o, ← Hkd5.o]; exact HK8.o, HB8.o, HM8.o⟩
     case measure => rw [hwi]; have := Hil.o; simp only [intOf]; omega
   ·have hil' : j = ks.length := by omega
    subst hil'
    clear hj
    rw [List.take_length] at Hks Hbo
    have HW := hd' (Hks.o.whole i lk (((Hl.o.mod HMw.o (fun _ _ _ h => h))).imp (fun _ _ h => .inl h)))
    have HBN := hd' Hbo.o.whole
    have HRr := hd' (HR2.o.mod Hm.o (by have := HNr.o; omega))
    generalize hms : Ly.withoutL x ks = ms at *
    have Hms := hd' hms
    clear hms
    go_wp2_with (first | ((with_reducible refine lT 45 ?_); refine ldA HBN.o Tryz.underlying45 uaa (h := ?_)) | ((with_reducible refine sT 45 ?_); refine stA (lyS i lk pp cp pf cf pb cb (.slice ps ms.length cps)) (HRr.o.there 0 31 (by simp [lyA])) uaa (uat (LyR.one (T := .mk i lk ms) HW.o)) (h := ?_)) | fail)
    have HS := hd' (Blk.setMod wr (w.heap.size + 1 + 1) 0 (lyS i lk pp cp pf cf pb cb (.slice ps ms.length cps)).toList)
    have HR3 := HRr.o.setAll (lyS i lk pp cp pf cf pb cb (.slice ps ms.length cps)) rfl
    refine bpr (results_cell_row rfl _ _ (w.heap.size + 1 + 1) 45 (lyS i lk pp cp pf cf pb cb (.slice ps ms.length cps)) (0, 0) _ rfl HR3 Tryz.underlying45 rfl uaa) rfl ?_
    have hT : (Ly.without x (.mk i lk ks)) = .mk i lk ms := by rw [← Hms.o]; rw [Ly.without]
    unfold RefP
    rw [hT]
    refine ⟨_, _, _, _, rfl, (HW.o.mod HS.o (fun k hk hg e => ?_)).imp (fun k _ hg => hg.imp id (fun h => by have := HM2.o.size; omega)), HMw.o.trans HS.o (fun k hk e => by omega)⟩
    have h1 := HNr.o
    have h2 := HNlt.o
    rcases hg with hg | hg
    ·have := HGb.o k hg; omega
    ·omega
end Go.Proofs.YtpbmfalokongfaaGreatDoor
namespace Go.Gou
theorem Ly.looksL_take {ks : List Ly} {j : Nat} (x : Idt) (v : Lk) (h : j < ks.length) : looksL x v (ks.take (j + 1)) = looksL x v (ks.take j) ++ [ks[j].looks x v] := by
 rw [ltS h, ubu, ubu, List.map_append]
 rfl
theorem Ly.looksL_len {ks : List Ly} {j : Nat} (x : Idt) (v : Lk) : (looksL x v (ks.take j)).length ≤ ks.length := by
 rw [ubu, List.length_map, List.length_take]
 omega
end Go.Gou
namespace Go.Proofs.YtpbmfalokongfaaGreatDoor
open Go.RowKit Go.Gou
set_option maxRecDepth 100000
theorem looks_any (x : Idt) (v : Lk) : ∀ (T : Ly) (G : Nat → Prop) (w : World) (vp vf vb vk : Value) (up uf ub : Value), (∀ b, G b → b < w.heap.size) → LyR G w (lyA T.id T.look vp vf vb vk).toList T → TFit T → LookR G w v up uf ub →
 Calls Tryz.prog 31 #[.agg (lyA T.id T.look vp vf vb vk), .agg #[iV x.1, iV x.2], .agg (uai v up uf ub)] w (RefP G w (T.looks x v)) := by
 intro T
 induction T using Ly.ind with
 | h i lk ks ih =>
  intro G w vp vf vb vk up uf ub hG hr hft hv
  obtain ⟨hl, css, hrow, hcl, hk⟩ := hr.parts
  simp only [Ly.id_mk, Ly.look_mk, Ly.kids_mk] at hl hrow hcl hk ⊢
  obtain ⟨pk, ck, rfl⟩ := RowG.slice hrow
  obtain ⟨⟨pp, cp, rfl⟩, ⟨pf, cf, rfl⟩, ⟨pb, cb, rfl⟩⟩ := hl.forms
  obtain ⟨⟨qp, dp, rfl⟩, ⟨qf, df, rfl⟩, ⟨qb, db, rfl⟩⟩ := hv.forms
  have Hv := hd' hv
  have HG := hd' hG
  have Hl := hd' hl
  have Hrow := hd' hrow
  have Hcl := hd' hcl
  have Hk := hd' hk
  have Hft := hd' hft
  have Ih := hd' ih
  have hlen := hft.len
  rw [Ly.kids_mk] at hlen
  have Hlen := hd' hlen
  obtain ⟨b0, b1, b2, b3, bm⟩ := ud7 w 45 30 42 45 (lyS i lk pp cp pf cf pb cb (.slice pk ks.length ck)) #[iV x.1, iV x.2] (lkS v qp dp qf df qb db) lyL
  have HB := hd' b0
  have HX := hd' b1
  have HV := hd' b2
  have HR := hd' b3
  have HMa := hd' bm
  clear hl hrow hcl hk hr hft ih hlen hG b0 b1 b3 bm
  go_enter Tryz.func31, Tryz.ntmps31
  go_upto_region 1 with fail
  generalize (((w.alloc (.cells (lyS i lk pp cp pf cf pb cb (.slice pk ks.length ck)) 45)).alloc (.cells #[iV x.1, iV x.2] 30)).alloc (.cells (lkS v qp dp qf df qb db) 42)).alloc (.cells lyL 45) = W1 at *
  have c0 : W1.cell? ⟨w.heap.size, 0, none⟩ = some (iV i.1) := HB.o.cell 0 rfl
  have c1 : W1.cell? ⟨w.heap.size, 1, none⟩ = some (iV i.2) := HB.o.cell 1 rfl
  have HLr : Hid (W1.rangeAt w.heap.size 2 (lkS lk pp cp pf cf pb cb).toList) := hd' (Blk.range (pre := [iV i.1, iV i.2]) (post := [.slice pk ks.length ck]) HB.o rfl rfl)
  go_wp2_with (first | ((with_reducible refine lT 42 ?_); refine ldA HLr.o Tryz.underlying42 uad (h := ?_)) | ((with_reducible show wpList _ _ _ (⟨_, Op.build _ _, _, _, _, _⟩ :: _) _ _); refine halt ?_) | fail)
  show wpList _ _ _ _ _ _
  refine uav rfl (.agg (lyS i lk pp cp pf cf pb cb nlS)) (by kernel_rfl) ?_
  simp only [Act.put, List.setIfInBounds_toArray, List.set_cons_zero, List.set_cons_succ]
  go_upto_region 2 with (first | ((with_reducible refine sT 45 ?_); refine stA (lyS i lk pp cp pf cf pb cb nlS) ((Blk.new W1 45 lyL).there 0 31 (by simp)) uaa (by simp [lyA, Value.oneCell']) (h := ?_)) | fail)
  have HN := hd' ((Blk.new W1 45 lyL).setAll (lyS i lk pp cp pf cf pb cb nlS) rfl)
  have hma : Gou.Mod (fun _ => False) W1 ((W1.alloc (.cells lyL 45)).setCells W1.heap.size 0 (lyS i lk pp cp pf cf pb cb nlS).toList) := Gou.Mod.allocSet _ _ _
  have HM2 := hd' (HMa.o.trans' hma)
  have HB2 := hd' (HB.o.up hma)
  have HX2 := hd' (HX.o.up hma)
  have HR2 := hd' (HR.o.up hma)
  have HV2 := hd' (HV.o.up hma)
  have HNr : Hid (w.heap.size + 1 + 1 + 1 < W1.heap.size) := hd' (Blk.lt HR.o)
  generalize (W1.alloc (.cells lyL 45)).setCells W1.heap.size 0 (lyS i lk pp cp pf cf pb cb nlS).toList = W2 at *
  generalize W1.heap.size = N at *
  have HNlt := hd' (Blk.lt HN.o)
  have HGb : Hid (∀ b, G b → b < w.heap.size) := HG
  have c0 : W2.cell? ⟨w.heap.size, 0, none⟩ = some (iV i.1) := HB2.o.cell 0 rfl
  have c1 : W2.cell? ⟨w.heap.size, 1, none⟩ = some (iV i.2) := HB2.o.cell 1 rfl
  have x0 : W2.cell? ⟨w.heap.size + 1, 0, none⟩ = some (iV x.1) := HX2.o.cell 0 rfl
  have x1 : W2.cell? ⟨w.heap.size + 1, 1, none⟩ = some (iV x.2) := HX2.o.cell 1 rfl
  have hid := fun (w' : World) => udm i x w'
  by_cases hix : i = x
  ·have ez : decide (i = x) = true := dqt hix
   rw [ez] at hid
   have Hlk1 : Hid ((if i = x then v else lk) = v) := hd' (if_pos hix)
   have HVq := hd' HV2.o.whole
   go_upto_region 4 with (first | ((with_reducible refine lT 42 ?_); refine ldA HVq.o Tryz.underlying42 uad (h := ?_)) | ((with_reducible refine sT 42 ?_); refine stA (lkS v qp dp qf df qb db) (HN.o.there 2 28 (by simp [lyA])) uad uay (h := ?_)) | fail)
   have HS := hd' (Blk.setMod W2 N 2 (lkS v qp dp qf df qb db).toList)
   have HN3 : Hid (Blk (W2.setCells N 2 (lkS v qp dp qf df qb db).toList) N 45 (lyS i v qp dp qf df qb db nlS)) := hd' (by have h := HN.o.sets 2 (lkS v qp dp qf df qb db).toList; rw [set_look] at h; exact h)
   have h9 := HNr.o
   replace HM2 := hd' (HM2.o.trans HS.o (fun k hk e => by omega))
   replace HB2 := hd' (HB2.o.mod HS.o (by omega))
   replace HX2 := hd' (HX2.o.mod HS.o (by omega))
   replace HV2 := hd' (HV2.o.mod HS.o (by omega))
   replace HR2 := hd' (HR2.o.mod HS.o (by omega))
   have Hl1 := Hv
   generalize W2.setCells N 2 (lkS v qp dp qf df qb db).toList = wc at *
   have HN := HN3
   have HNlt := hd' (Blk.lt HN.o)
   have HK0 : Hid (KidsR 45 wc.heap.size G wc nlS [] []) := hd' (KidsR.start _)
   go_wp2_with fail
   go_loopw [8] (fun vi wr => ∃ j : Nat, vi = iV j ∧ j ≤ ks.length ∧ ∃ vs cs, KidsR 45 wc.heap.size G wr vs cs (Ly.looksL x v (ks.take j)) ∧ Blk wr N 45 (lyS i v qp dp qf df qb db vs) ∧ Gou.Mod (fun k => k = N) wc wr) (fun vi _ => ks.length - (intOf vi).toNat)
   case atStart => exact ⟨0, rfl, Nat.zero_le _, _, [], HK0.o, HN.o, Gou.Mod.refl _ _⟩
   case round =>
    obtain ⟨j, rfl, hj, vs, cs, hks, hbo, hm⟩ := hrel
    obtain ⟨ps, cps, rfl⟩ := Gou.ownsRow_form hks.own
    have Hks := hd' hks
    have Hbo := hd' hbo
    have Hm := hd' hm
    have HMw := hd' (HM2.o.trans hm (fun k hk e => by have := HNr.o; omega))
    have HBr := hd' (HB2.o.mod hm (by have := HNr.o; omega))
    have HXr := hd' (HX2.o.mod hm (by have := HNr.o; omega))
    have HVr := hd' (HV2.o.mod hm (by have := HNr.o; omega))
    have c30 : wr.cell? ⟨w.heap.size, 30, none⟩ = some (.slice pk ks.length ck) := HBr.o.cell 30 rfl
    by_cases hil : j < ks.length
    ·obtain ⟨b, o, kp, kf, kb, kk, rfl, hbl, _, hrg, hkr⟩ := LyR.kidR Hrow.o Hcl.o rfl Hk.o hil
     have Hrg := hd' (uax hrg HMw.o (fun h => h))
     have Hkr := hd' (hkr.up HMw.o)
     have Hbl := hd' hbl
     have Hst : Hid (Ly.looksL x v (ks.take (j + 1)) = Ly.looksL x v (ks.take j) ++ [ks[j].looks x v]) := hd' (Ly.looksL_take x v hil)
     have Hik : Hid (∀ w', Gou.Mod (fun _ => False) wr w' → Calls Tryz.prog 31 #[.agg (lyA ks[j].id ks[j].look kp kf kb kk), .agg #[iV x.1, iV x.2], .agg (lkS v qp dp qf df qb db)] w' (RefP G w' (ks[j].looks x v))) := hd' (fun w' hw' => Ih.o ks[j] (lgM hil) G w' kp kf kb kk _ _ _ (fun b hb => Nat.lt_of_lt_of_le (HGb.o b hb) (HMw.o.trans' hw').size) (hkr.up (HMw.o.trans' hw')) (Hft.o.kids ks[j] (by rw [Ly.kids_mk]; exact lgM hil)) (Hv.o.mod (HMw.o.trans' hw') (fun _ _ _ h => h)))
     have Hil := hd' hil
     have hwi : wrap64 ((j : Int) + 1) = ((j + 1 : Nat) : Int) := by have := Hlen.o; unfold wrap64; omega
     have Hml : Hid ((Ly.looksL x v (ks.take j)).length ≤ ks.length) := hd' (Ly.looksL_len x v)
     generalize ks[j] = kd at *
     generalize Ly.looksL x v (ks.take j) = ms at *
     have hrow := fun k (hk : (Value.slice ps ms.length cps).ownBlock = some k) => Hks.o.row k hk
     have Hns : Hid (∀ k, k < wc.heap.size → ¬ ((Value.slice ps ms.length cps).ownBlock = some k)) := hd' (fun k hk h => by have := (hrow k h).1; omega)
     have HXq : Hid (wr.rangeAt (w.heap.size + 1) 0 [iV x.1, iV x.2]) := hd' (Blk.range (pre := []) (post := []) HXr.o (by simp) rfl)
     have HL0 : Hid (w.heap.size < wc.heap.size) := hd' (by have := HNr.o; have := HNlt.o; omega)
     have HL1 : Hid (w.heap.size + 1 < wc.heap.size) := hd' (by have := HNr.o; have := HNlt.o; omega)
     have HL2 : Hid (w.heap.size + 1 + 1 < wc.heap.size) := hd' (by have := HNr.o; have := HNlt.o; omega)
     have HLb : Hid (b < wc.heap.size) := hd' (by have := Hbl.o; have := HM2.o.size; omega)
     clear hrow
     go_upto_region 7 with fail
     have o30 : wr.cell? ⟨N, 30, none⟩ = some (.slice ps ms.length cps) := Hbo.o.cell 30 rfl
     have HVq := hd' HVr.o.whole
     refine wdf (S := fun w' => Gou.Mod (fun k => (Value.slice ps ms.length cps).ownBlock = some k) wr w') 13 (Gou.Mod.drew _ _) (h := fun hH => ?_)
     refine tk 0 (.pointer (some ⟨N, 30, none⟩)) hH (h := ?_)
     refine tkC 1 o30 (Hns.o _ HNlt.o) hH (h := ?_)
     refine tk 2 (.pointer (some ⟨w.heap.size, 30, none⟩)) hH (h := ?_)
     refine tkC 3 c30 (Hns.o _ HL0.o) hH (h := ?_)
     refine tk 4 (iV (j : Int)) hH (h := ?_)
     refine tk 5 (.pointer (some ⟨b, o + j * 31, none⟩)) hH (h := ?_)
     refine tkR 6 (.agg (lyA kd.id kd.look kp kf kb kk)) Hrg.o (Hns.o _ HLb.o) Tryz.underlying45 uaa hH (h := ?_)
     refine tkR 7 (.agg #[iV x.1, iV x.2]) HXq.o (Hns.o _ HL1.o) Tryz.underlying30 uaf hH (h := ?_)
     refine tkR 8 (.agg (lkS v qp dp qf df qb db)) HVq.o (Hns.o _ HL2.o) Tryz.underlying42 uad hH (h := ?_)
     refine rd 9 (h := fun K hK => ?_)
     go_simp
     refine (Hik.o _ (Gou.Mod.drew _ _)).mono ?_
     rintro e w4 ⟨vp5, vf5, vb5, vk5, rfl, ho5, hm5⟩
     have M := hd' (hH.trans' (hm5.imp (fun _ _ h => h.elim)))
     obtain ⟨kd5, hkd5⟩ : ∃ kd5, kd5 = kd.looks x v := ⟨_, rfl⟩
     rw [← hkd5] at ho5 ⊢
     have Hkd5 := hd' hkd5
     have HO5 := hd' ho5
     have HM5 := hd' ((Gou.Mod.drew (fun _ => False) wr).trans' hm5)
     clear hH ho5 hm5 hkd5
     refine hK _ _ M.o (fun hH => ?_)
     clear hK K M
     refine rd 10 (h := fun K hK => ?_)
     refine ua8 T_ly _ rfl (lyA kd5.id kd5.look vp5 vf5 vb5 vk5) rfl rfl (by decide) ?_
     have M := hd' (hH.trans' (Gou.Mod.alloc (fun k => (Value.slice ps ms.length cps).ownBlock = some k) w4 (.cells (lyA kd5.id kd5.look vp5 vf5 vb5 vk5) 45)))
     have HM6 := hd' (HM5.o.trans' (Gou.Mod.alloc0 w4 (.cells (lyA kd5.id kd5.look vp5 vf5 vb5 vk5) 45)))
     have HO6 := hd' (HO5.o.up (Gou.Mod.alloc0 w4 (.cells (lyA kd5.id kd5.look vp5 vf5 vb5 vk5) 45)))
     have HB6 := hd' (Blk.new w4 45 (lyA kd5.id kd5.look vp5 vf5 vb5 vk5))
     clear hH HO5 HM5
     refine hK _ _ M.o (fun hH => ?_)
     clear hK K M
     refine rd 11 (h := fun K hK => ?_)
     generalize w4.alloc (.cells (lyA kd5.id kd5.look vp5 vf5 vb5 vk5) 45) = w6 at *
     generalize w4.heap.size = N6 at *
     refine ual T_ly _ _ rfl (wc.heap.size) (.slice ps ms.length cps) ms.length cs.flatten (fun _ => True) (.slice (some ⟨N6, 0, none⟩) 1 1) 1 (lyA kd5.id kd5.look vp5 vf5 vb5 vk5).toList rfl rfl (Nat.le_trans Hm.o.size HM6.o.size) (Hks.o.up HM6.o).own (RowG.of_blk HB6.o 31 1 rfl _ trivial) (LyR.one HO6.o) (by have := Hml.o; have := Hlen.o; unfold maxLen; omega) (by have := Hml.o; have := Hlen.o; omega) ?_
     intro v7 w7 G7
     obtain ⟨p7, c7, rfl⟩ := Gou.ownsRow_form G7.own
     have M := hd' (hH.trans' G7.mod)
     clear hH
     refine hK _ _ M.o (fun hH => ?_)
     clear hK K M
     refine tk 12 (.pointer (some ⟨N, 30, none⟩)) hH (h := ?_)
     refine tk 13 (.bool true) hH (h := ?_)
     have MS := hd' hH
     refine wpAnyH_done (by kernel_rfl) ?_ _
     clear hH
     show Oper.wp _ _ _ _ _ _
     have HK7 := hd' (Hks.o.grow (fun b hb => Nat.lt_of_lt_of_le (HGb.o b hb) HM2.o.size) HM6.o (Nat.le_refl _) Hm.o.size HO6.o G7)
     have HS7 := hd' MS.o
     have HB7 := hd' (Hbo.o.mod HS7.o (Hns.o _ HNlt.o))
     have HM7 := hd' (Hm.o.trans HS7.o (fun k hk h => absurd h (Hns.o k hk)))
     clear MS HS7 o30 HO6 HB6 HM6 G7 Hbo Hks
     have o7 : w7.cell? ⟨N, 30, none⟩ = some (.slice ps ms.length cps) := HB7.o.cell 30 rfl
     have f7 := HB7.o.frozen 30
     go_simp
     have HS8 := hd' (Gou.Mod.set1 w7 N 30 (.slice p7 (ms.length + 1) c7))
     have HB8 : Hid (Blk (w7.setCell ⟨N, 30, none⟩ (.slice p7 (ms.length + 1) c7)) N 45 (lyS i v qp dp qf df qb db (.slice p7 (ms.length + 1) c7))) := hd' (HB7.o.set 30 _)
     have HK8 := hd' (HK7.o.mod HS8.o (fun k hk _ e => by
      have h1 := HNr.o
      have h2 := HNlt.o
      rcases hk with hk | hk
      ·have := HGb.o k hk; omega
      ·omega))
     have HM8 := hd' (HM7.o.trans' HS8.o)
     clear HB7 HK7 HM7 HS8 o7 f7
     go_wp2_with fail
     go_roundw
     case rel => exact ⟨j + 1, by rw [← hwi], by have := Hil.o; omega, _, _, by rw [Hst.o, ← Hkd5.o]; exact HK8.o, HB8.o, HM8.o⟩
     case measure => rw [hwi]; have := Hil.o; simp only [intOf]; omega
    ·have hil' : j = ks.length := by omega
     subst hil'
     clear hj
     rw [List.take_length] at Hks Hbo
     have HW := hd' (Hks.o.whole i v (((Hl1.o.mod HMw.o (fun _ _ _ h => h))).imp (fun _ _ h => .inl h)))
     have HBN := hd' Hbo.o.whole
     have HRr := hd' (HR2.o.mod Hm.o (by have := HNr.o; omega))
     generalize hms : Ly.looksL x v ks = ms at *
     have Hms := hd' hms
     clear hms
     go_wp2_with (first | ((with_reducible refine lT 45 ?_); refine ldA HBN.o Tryz.underlying45 uaa (h := ?_)) | ((with_reducible refine sT 45 ?_); refine stA (lyS i v qp dp qf df qb db (.slice ps ms.length cps)) (HRr.o.there 0 31 (by simp [lyA])) uaa (uat (LyR.one (T := .mk i v ms) HW.o)) (h := ?_)) | fail)
     have HS := hd' (Blk.setMod wr (w.heap.size + 1 + 1 + 1) 0 (lyS i v qp dp qf df qb db (.slice ps ms.length cps)).toList)
     have HR3 := HRr.o.setAll (lyS i v qp dp qf df qb db (.slice ps ms.length cps)) rfl
     refine bpr (results_cell_row rfl _ _ (w.heap.size + 1 + 1 + 1) 45 (lyS i v qp dp qf df qb db (.slice ps ms.length cps)) (0, 0) _ rfl HR3 Tryz.underlying45 rfl uaa) rfl ?_
     have hT : (Ly.looks x v (.mk i lk ks)) = .mk i v ms := by rw [← Hms.o]; rw [Ly.looks, Hlk1.o]
     unfold RefP
     rw [hT]
     refine ⟨_, _, _, _, rfl, (HW.o.mod HS.o (fun k hk hg e => ?_)).imp (fun k _ hg => hg.imp id (fun h => by have := HM2.o.size; omega)), HMw.o.trans HS.o (fun k hk e => by omega)⟩
     have h1 := HNr.o
     have h2 := HNlt.o
     rcases hg with hg | hg
     ·have := HGb.o k hg; omega
     ·omega
  ·have ez : decide (i = x) = false := dqf hix
   rw [ez] at hid
   have Hlk1 : Hid ((if i = x then v else lk) = lk) := hd' (if_neg hix)
   clear hix ez
   have Hl1 := Hl
   go_upto_region 4 with fail
   clear c0 c1 x0 x1 hid
   obtain ⟨wc, hwc⟩ : ∃ wc, wc = W2 := ⟨_, rfl⟩
   subst hwc
   have HK0 : Hid (KidsR 45 wc.heap.size G wc nlS [] []) := hd' (KidsR.start _)
   go_wp2_with fail
   go_loopw [8] (fun vi wr => ∃ j : Nat, vi = iV j ∧ j ≤ ks.length ∧ ∃ vs cs, KidsR 45 wc.heap.size G wr vs cs (Ly.looksL x v (ks.take j)) ∧ Blk wr N 45 (lyS i lk pp cp pf cf pb cb vs) ∧ Gou.Mod (fun k => k = N) wc wr) (fun vi _ => ks.length - (intOf vi).toNat)
   case atStart => exact ⟨0, rfl, Nat.zero_le _, _, [], HK0.o, HN.o, Gou.Mod.refl _ _⟩
   case round =>
    obtain ⟨j, rfl, hj, vs, cs, hks, hbo, hm⟩ := hrel
    obtain ⟨ps, cps, rfl⟩ := Gou.ownsRow_form hks.own
    have Hks := hd' hks
    have Hbo := hd' hbo
    have Hm := hd' hm
    have HMw := hd' (HM2.o.trans hm (fun k hk e => by have := HNr.o; omega))
    have HBr := hd' (HB2.o.mod hm (by have := HNr.o; omega))
    have HXr := hd' (HX2.o.mod hm (by have := HNr.o; omega))
    have HVr := hd' (HV2.o.mod hm (by have := HNr.o; omega))
    have c30 : wr.cell? ⟨w.heap.size, 30, none⟩ = some (.slice pk ks.length ck) := HBr.o.cell 30 rfl
    clear hks hbo hm HK0 HN
    by_cases hil : j < ks.length
    ·obtain ⟨b, o, kp, kf, kb, kk, rfl, hbl, _, hrg, hkr⟩ := LyR.kidR Hrow.o Hcl.o rfl Hk.o hil
     have Hrg := hd' (uax hrg HMw.o (fun h => h))
     have Hkr := hd' (hkr.up HMw.o)
     have Hbl := hd' hbl
     have Hst : Hid (Ly.looksL x v (ks.take (j + 1)) = Ly.looksL x v (ks.take j) ++ [ks[j].looks x v]) := hd' (Ly.looksL_take x v hil)
     have Hik : Hid (∀ w', Gou.Mod (fun _ => False) wr w' → Calls Tryz.prog 31 #[.agg (lyA ks[j].id ks[j].look kp kf kb kk), .agg #[iV x.1, iV x.2], .agg (lkS v qp dp qf df qb db)] w' (RefP G w' (ks[j].looks x v))) := hd' (fun w' hw' => Ih.o ks[j] (lgM hil) G w' kp kf kb kk _ _ _ (fun b hb => Nat.lt_of_lt_of_le (HGb.o b hb) (HMw.o.trans' hw').size) (hkr.up (HMw.o.trans' hw')) (Hft.o.kids ks[j] (by rw [Ly.kids_mk]; exact lgM hil)) (Hv.o.mod (HMw.o.trans' hw') (fun _ _ _ h => h)))
     have Hil := hd' hil
     have hwi : wrap64 ((j : Int) + 1) = ((j + 1 : Nat) : Int) := by have := Hlen.o; unfold wrap64; omega
     have Hml : Hid ((Ly.looksL x v (ks.take j)).length ≤ ks.length) := hd' (Ly.looksL_len x v)
     clear hrg hkr hbl
     generalize ks[j] = kd at *
     generalize Ly.looksL x v (ks.take j) = ms at *
     have hrow := fun k (hk : (Value.slice ps ms.length cps).ownBlock = some k) => Hks.o.row k hk
     have Hns : Hid (∀ k, k < wc.heap.size → ¬ ((Value.slice ps ms.length cps).ownBlock = some k)) := hd' (fun k hk h => by have := (hrow k h).1; omega)
     have HXq : Hid (wr.rangeAt (w.heap.size + 1) 0 [iV x.1, iV x.2]) := hd' (Blk.range (pre := []) (post := []) HXr.o (by simp) rfl)
     have HL0 : Hid (w.heap.size < wc.heap.size) := hd' (by have := HNr.o; have := HNlt.o; omega)
     have HL1 : Hid (w.heap.size + 1 < wc.heap.size) := hd' (by have := HNr.o; have := HNlt.o; omega)
     have HL2 : Hid (w.heap.size + 1 + 1 < wc.heap.size) := hd' (by have := HNr.o; have := HNlt.o; omega)
     have HLb : Hid (b < wc.heap.size) := hd' (by have := Hbl.o; have := HM2.o.size; omega)
     clear hrow
     go_upto_region 7 with fail
     have o30 : wr.cell? ⟨N, 30, none⟩ = some (.slice ps ms.length cps) := Hbo.o.cell 30 rfl
     have HVq := hd' HVr.o.whole
     refine wdf (S := fun w' => Gou.Mod (fun k => (Value.slice ps ms.length cps).ownBlock = some k) wr w') 13 (Gou.Mod.drew _ _) (h := fun hH => ?_)
     refine tk 0 (.pointer (some ⟨N, 30, none⟩)) hH (h := ?_)
     refine tkC 1 o30 (Hns.o _ HNlt.o) hH (h := ?_)
     refine tk 2 (.pointer (some ⟨w.heap.size, 30, none⟩)) hH (h := ?_)
     refine tkC 3 c30 (Hns.o _ HL0.o) hH (h := ?_)
     refine tk 4 (iV (j : Int)) hH (h := ?_)
     refine tk 5 (.pointer (some ⟨b, o + j * 31, none⟩)) hH (h := ?_)
     refine tkR 6 (.agg (lyA kd.id kd.look kp kf kb kk)) Hrg.o (Hns.o _ HLb.o) Tryz.underlying45 uaa hH (h := ?_)
     refine tkR 7 (.agg #[iV x.1, iV x.2]) HXq.o (Hns.o _ HL1.o) Tryz.underlying30 uaf hH (h := ?_)
     refine tkR 8 (.agg (lkS v qp dp qf df qb db)) HVq.o (Hns.o _ HL2.o) Tryz.underlying42 uad hH (h := ?_)
     refine rd 9 (h := fun K hK => ?_)
     go_simp
     refine (Hik.o _ (Gou.Mod.drew _ _)).mono ?_
     rintro e w4 ⟨vp5, vf5, vb5, vk5, rfl, ho5, hm5⟩
     have M := hd' (hH.trans' (hm5.imp (fun _ _ h => h.elim)))
     obtain ⟨kd5, hkd5⟩ : ∃ kd5, kd5 = kd.looks x v := ⟨_, rfl⟩
     rw [← hkd5] at ho5 ⊢
     have Hkd5 := hd' hkd5
     have HO5 := hd' ho5
     have HM5 := hd' ((Gou.Mod.drew (fun _ => False) wr).trans' hm5)
     clear hH ho5 hm5 hkd5
     refine hK _ _ M.o (fun hH => ?_)
     clear hK K M
     refine rd 10 (h := fun K hK => ?_)
     refine ua8 T_ly _ rfl (lyA kd5.id kd5.look vp5 vf5 vb5 vk5) rfl rfl (by decide) ?_
     have M := hd' (hH.trans' (Gou.Mod.alloc (fun k => (Value.slice ps ms.length cps).ownBlock = some k) w4 (.cells (lyA kd5.id kd5.look vp5 vf5 vb5 vk5) 45)))
     have HM6 := hd' (HM5.o.trans' (Gou.Mod.alloc0 w4 (.cells (lyA kd5.id kd5.look vp5 vf5 vb5 vk5) 45)))
     have HO6 := hd' (HO5.o.up (Gou.Mod.alloc0 w4 (.cells (lyA kd5.id kd5.look vp5 vf5 vb5 vk5) 45)))
     have HB6 := hd' (Blk.new w4 45 (lyA kd5.id kd5.look vp5 vf5 vb5 vk5))
     clear hH HO5 HM5
     refine hK _ _ M.o (fun hH => ?_)
     clear hK K M
     refine rd 11 (h := fun K hK => ?_)
     generalize w4.alloc (.cells (lyA kd5.id kd5.look vp5 vf5 vb5 vk5) 45) = w6 at *
     generalize w4.heap.size = N6 at *
     refine ual T_ly _ _ rfl (wc.heap.size) (.slice ps ms.length cps) ms.length cs.flatten (fun _ => True) (.slice (some ⟨N6, 0, none⟩) 1 1) 1 (lyA kd5.id kd5.look vp5 vf5 vb5 vk5).toList rfl rfl (Nat.le_trans Hm.o.size HM6.o.size) (Hks.o.up HM6.o).own (RowG.of_blk HB6.o 31 1 rfl _ trivial) (LyR.one HO6.o) (by have := Hml.o; have := Hlen.o; unfold maxLen; omega) (by have := Hml.o; have := Hlen.o; omega) ?_
     intro v7 w7 G7
     obtain ⟨p7, c7, rfl⟩ := Gou.ownsRow_form G7.own
     have M := hd' (hH.trans' G7.mod)
     clear hH
     refine hK _ _ M.o (fun hH => ?_)
     clear hK K M
     refine tk 12 (.pointer (some ⟨N, 30, none⟩)) hH (h := ?_)
     refine tk 13 (.bool true) hH (h := ?_)
     have MS := hd' hH
     refine wpAnyH_done (by kernel_rfl) ?_ _
     clear hH
     show Oper.wp _ _ _ _ _ _
     have HK7 := hd' (Hks.o.grow (fun b hb => Nat.lt_of_lt_of_le (HGb.o b hb) HM2.o.size) HM6.o (Nat.le_refl _) Hm.o.size HO6.o G7)
     have HS7 := hd' MS.o
     have HB7 := hd' (Hbo.o.mod HS7.o (Hns.o _ HNlt.o))
     have HM7 := hd' (Hm.o.trans HS7.o (fun k hk h => absurd h (Hns.o k hk)))
     clear MS HS7 o30 HO6 HB6 HM6 G7 Hbo Hks
     have o7 : w7.cell? ⟨N, 30, none⟩ = some (.slice ps ms.length cps) := HB7.o.cell 30 rfl
     have f7 := HB7.o.frozen 30
     go_simp
     have HS8 := hd' (Gou.Mod.set1 w7 N 30 (.slice p7 (ms.length + 1) c7))
     have HB8 : Hid (Blk (w7.setCell ⟨N, 30, none⟩ (.slice p7 (ms.length + 1) c7)) N 45 (lyS i lk pp cp pf cf pb cb (.slice p7 (ms.length + 1) c7))) := hd' (HB7.o.set 30 _)
     have HK8 := hd' (HK7.o.mod HS8.o (fun k hk _ e => by
      have h1 := HNr.o
      have h2 := HNlt.o
      rcases hk with hk | hk
      ·have := HGb.o k hk; omega
      ·omega))
     have HM8 := hd' (HM7.o.trans' HS8.o)
     clear HB7 HK7 HM7 HS8 o7 f7
     go_wp2_with fail
     go_roundw
     case rel => exact ⟨j + 1, by rw [← hwi], by have := Hil.o; omega, _, _, by rw [Hst.o, ← Hkd5.o]; exact HK8.o, HB8.o, HM8.o⟩
     case measure => rw [hwi]; have := Hil.o; simp only [intOf]; omega
    ·have hil' : j = ks.length := by omega
     subst hil'
     clear hj
     rw [List.take_length] at Hks Hbo
     have HW := hd' (Hks.o.whole i lk (((Hl1.o.mod HMw.o (fun _ _ _ h => h))).imp (fun _ _ h => .inl h)))
     have HBN := hd' Hbo.o.whole
     have HRr := hd' (HR2.o.mod Hm.o (by have := HNr.o; omega))
     generalize hms : Ly.looksL x v ks = ms at *
     have Hms := hd' hms
     clear hms
     go_wp2_with (first | ((with_reducible refine lT 45 ?_); refine ldA HBN.o Tryz.underlying45 uaa (h := ?_)) | ((with_reducible refine sT 45 ?_); refine stA (lyS i lk pp cp pf cf pb cb (.slice ps ms.length cps)) (HRr.o.there 0 31 (by simp [lyA])) uaa (uat (LyR.one (T := .mk i lk ms) HW.o)) (h := ?_)) | fail)
     have HS := hd' (Blk.setMod wr (w.heap.size + 1 + 1 + 1) 0 (lyS i lk pp cp pf cf pb cb (.slice ps ms.length cps)).toList)
     have HR3 := HRr.o.setAll (lyS i lk pp cp pf cf pb cb (.slice ps ms.length cps)) rfl
     refine bpr (results_cell_row rfl _ _ (w.heap.size + 1 + 1 + 1) 45 (lyS i lk pp cp pf cf pb cb (.slice ps ms.length cps)) (0, 0) _ rfl HR3 Tryz.underlying45 rfl uaa) rfl ?_
     have hT : (Ly.looks x v (.mk i lk ks)) = .mk i lk ms := by rw [← Hms.o]; rw [Ly.looks, Hlk1.o]
     unfold RefP
     rw [hT]
     refine ⟨_, _, _, _, rfl, (HW.o.mod HS.o (fun k hk hg e => ?_)).imp (fun k _ hg => hg.imp id (fun h => by have := HM2.o.size; omega)), HMw.o.trans HS.o (fun k hk e => by omega)⟩
     have h1 := HNr.o
     have h2 := HNlt.o
     rcases hg with hg | hg
     ·have := HGb.o k hg; omega
     ·omega
end Go.Proofs.YtpbmfalokongfaaGreatDoor
