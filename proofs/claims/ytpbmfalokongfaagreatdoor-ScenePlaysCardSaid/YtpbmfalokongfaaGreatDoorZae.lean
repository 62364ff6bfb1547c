/- Texts of the scenes' proofs, laid together: SdA, SdB, SdC, SdD, SdE, SdG, HeapA, HeapB, HeapC, HeapD, Set, NodeA. -/
import Derived.Test.YtpbmfalokongfaaGreatDoorZad
import Derived.Test.YtpbmfalokongfaaGreatDoorZab
import Derived.Test.YtpbmfalokongfaaGreatDoorRows
import Derived.Test.YtpbmfalokongfaaGreatDoorZaa
import Derived.Deep.RegionLaw
import Derived.Deep.RegionLawGrows
import Derived.Deep.AppendLies
import Derived.BigRegion
import Derived.RegionTactic
import Derived.Maps.OwnOps
import Derived.Maps.OwnSet
import Derived.Deep.RegionHeld3
import Derived.Deep.DeepFit
set_option maxHeartbeats 64000000
set_option linter.unusedSimpArgs false
set_option linter.unusedVariables false
set_option linter.unusedSectionVars false
set_option linter.constructorNameAsVariable false
namespace Go.Proofs.YtpbmfalokongfaaGreatDoor
open Go.RowKit Go.Gou
set_option maxRecDepth 100000
abbrev ubi (base : Nat) (w : World) (D : Nat) (a : Ar) (T : Ly) (F : List Nat) (o : Opr) (vg vl vp vf vb : Value) (cur : Array Value) : Prop := DoerR 45 77 3 4 base w D a T F o vg vl vp vf vb cur
theorem tI : 3 ≠ 45 ∧ 3 ≠ 77 ∧ ucx 3 := by decide
theorem tB : 4 ≠ 45 ∧ 4 ≠ 77 ∧ ucx 4 := by decide
def CutP (base : Nat) (a : Ar) (T : Ly) (F : List Nat) (op : Opr) (vg vl vp vf vb : Value) (s k : Ly) (π : List Nat) (i : Nat) (w : World) (D : Nat) (e : Ending) (w' : World) : Prop :=
 ∃ kp kf kb kk f F3 cur3, e = .returned (.agg (lyA k.id k.look kp kf kb kk)) ∧ ubi base w' D a (T.put π (.mk s.id s.look (s.kids.eraseIdx i))) F3 op vg vl vp vf vb cur3 ∧ LyO 45 77 base w' (lyA k.id k.look kp kf kb kk).toList k f ∧
     (∀ x ∈ F3, x ∈ F ∧ x ∉ f) ∧ (∀ x ∈ f, x ∈ F) ∧ Gou.Mod (fun x => x = D ∨ x ∈ F) w w' ∧ ∀ b1 o1, At w D 2 π b1 o1 → At w' D 2 π b1 o1
theorem ugf (base : Nat) (w : World) (D : Nat) (a : Ar) (T : Ly) (F : List Nat) (op : Opr) (vg vl vp vf vb : Value) (cur : Array Value) (hD : ubi base w D a T F op vg vl vp vf vb cur) (π : List Nat) (i : Nat) (s k : Ly) (hp : T.parPath op.id = some (π, i)) (hs : T.get? π = some s) (hk : s.kids[i]? = some k) (hn : s.kids.length ≤ 1000000) :
 Calls Tryz.prog 65 #[.pointer (some ⟨D, 0, none⟩)] w (CutP base a T F op vg vl vp vf vb s k π i w D) := by
 have HD := hd' hD
 have Hp := hd' hp
 have Hs := hd' hs
 have Hk := hd' hk
 have Hn := hd' hn
 have HDlt := hd' (Blk.lt hD.blk)
 clear hD hp hs hk hn
 have HB2 := hd' (Blk.new w 45 lyL)
 have HMa := hd' (Gou.Mod.alloc0 w (.cells lyL 45))
 go_enter Tryz.func65, Tryz.ntmps65
 go_wp2_with fail
 generalize w.alloc (.cells lyL 45) = W1 at *
 have HD1 := hd' (HD.o.up HMa.o)
 have HIr : Hid (W1.rangeAt D 34 [iV op.id.1, iV op.id.2]) := hd' (fun j v hv => by
  obtain ⟨_, _, _, c34, c35, _⟩ := HD1.o.cell
  match j, hv with
  | 0, hv => simp at hv; rw [← hv]; exact c34
  | 1, hv => simp at hv; rw [← hv]; exact c35)
 refine wp_region_held_drew (S := fun w' => Gou.Mod (fun _ => False) W1 w') (by kernel_rfl) (Gou.Mod.drew _ _) (fun hH => ?_)
 refine tk 0 (.pointer (some ⟨D, 0, none⟩)) hH (h := ?_)
 refine tk 1 (.pointer (some ⟨D, 0, none⟩)) hH (h := ?_)
 refine tk 2 (.pointer (some ⟨D, 0, none⟩)) hH (h := ?_)
 refine tk 3 (.pointer (some ⟨D, 2, none⟩)) hH (h := ?_)
 refine tk 4 (.pointer (some ⟨D, 0, none⟩)) hH (h := ?_)
 refine tk 5 (.pointer (some ⟨D, 0, none⟩)) hH (h := ?_)
 refine tk 6 (.pointer (some ⟨D, 33, none⟩)) hH (h := ?_)
 refine tk 7 (.pointer (some ⟨D, 34, none⟩)) hH (h := ?_)
 refine tkR 8 (.agg #[iV op.id.1, iV op.id.2]) HIr.o (fun h => h) Tryz.underlying30 uaf hH (h := ?_)
 refine rd 9 (h := fun K hK => ?_)
 go_simp
 refine (ufk base op.id T _ D 2 F (HD1.o.up hH).tree).mono ?_
 rintro e w4 ⟨hm4, _, hs4⟩
 obtain ⟨b', o', F', s', rfl, hz4⟩ := hs4 _ Hp.o
 have hss : s' = s := by
  have := hz4.get
  rw [Hs.o] at this
  exact (Option.some.inj this).symm
 subst hss
 have M := hd' (hH.trans' hm4)
 have Hz4 := hd' hz4
 clear hH hm4 hs4 hz4
 refine hK _ _ M.o (fun hH => ?_)
 clear hK K M
 try simp only [Act.put, uSa, uSb, uSc]
 refine tk 10 (.tuple #[.pointer (some ⟨b', o', none⟩), iV ((i : Nat) : Int)]) hH (h := ?_)
 refine tk 11 (.pointer (some ⟨b', o', none⟩)) hH (h := ?_)
 refine tk 12 (iV ((i : Nat) : Int)) hH (h := ?_)
 refine tk 13 (.pointer (some ⟨b', o', none⟩)) hH (h := ?_)
 refine tk 14 (iV ((i : Nat) : Int)) hH (h := ?_)
 have MS := hd' hH
 refine wpAnyH_done (by kernel_rfl) ?_ _
 clear hH
 try simp only [Act.put]
 have HD4 := hd' (HD1.o.up MS.o)
 have HB24 := hd' (HB2.o.up MS.o)
 have HM4 := hd' (HMa.o.trans' MS.o)
 obtain ⟨vp2, vf2, vb2, vk2, css, fs, cur2, TT, hd⟩ := Hz4.o.sub.open
 obtain ⟨g, cap, kp, kf, kb, kk, rfl, hci, hrg, hglt, hgF, c30, hone, hones⟩ := hd.kidC Hk.o
 have Hd := hd' hd
 have Hci := hd' hci
 have Hrg := hd' hrg
 have Hglt := hd' hglt
 have HgF := hd' hgF
 have Hc30 := hd' c30
 have Hone := hd' hone
 have Hones := hd' hones
 have Hi : Hid (i < s'.kids.length) := hd' (lgS.1 Hk.o).1
 have hil := Hi.o
 have Hblt := hd' (Blk.lt hd.h1)
 clear hd hci hrg hglt hgF hone hones HD1 HIr HMa HB2 MS
 go_upto_region 3 with (first | ((with_reducible refine lT 45 ?_); refine ldA Hrg.o Tryz.underlying45 uaa (h := ?_)) | ((with_reducible refine sT 45 ?_); refine stA (lyA k.id k.look kp kf kb kk) ((Blk.new w4 45 lyL).there 0 31 (by simp)) uaa (uat Hone.o) (h := ?_)) | fail)
 have HB5 := hd' ((Blk.new w4 45 lyL).setAll (lyA k.id k.look kp kf kb kk) rfl)
 have HM5 : Hid (Gou.Mod (fun _ => False) w4 ((w4.alloc (.cells lyL 45)).setCells w4.heap.size 0 (lyA k.id k.look kp kf kb kk).toList)) := hd' (Gou.Mod.allocSet _ _ _)
 have HN5 : Hid (w4.heap.size = w4.heap.size) := hd' rfl
 generalize (w4.alloc (.cells lyL 45)).setCells w4.heap.size 0 (lyA k.id k.look kp kf kb kk).toList = w5 at *
 obtain ⟨N5, hN5⟩ : ∃ N, N = w4.heap.size := ⟨_, rfl⟩
 rw [← hN5] at HB5
 try rw [← hN5]
 have HNN := hd' hN5
 clear hN5 HN5 c30
 have hwi : IntKind.i64.wrap ((i : Int) + 1) = (i : Int) + 1 := by rw [IntKind.wrap_i64]; have := Hn.o; omega
 have c30 := (HM5.o.cell (p := ⟨b', o' + 30, none⟩) Hblt.o (fun h => h)).trans Hc30.o
 go_wp2_with fail
 refine (ujy w5 base g s'.kids.length cap i css.flatten (ua4 Hd.o.h5 HM5.o) Hones.o Hi.o).mono ?_
 rintro e w7 ⟨rfl, ho7, hm7⟩
 have Ho7 := hd' ho7
 have HM7 := hd' hm7
 have HB7 := hd' (Blk.mod (Hd.o.up HM5.o).h1 hm7 (fun e => Hd.o.out (by rw [e]; exact HgF.o)))
 obtain ⟨u7, o7⟩ : ∃ u, w7.cell? ⟨b', o' + 30, none⟩ = some u := ⟨_, HB7.o.cell (o' + 30) (by rw [Hd.o.h3 30 (by omega)]; rfl)⟩
 have f7 := HB7.o.frozen (o' + 30)
 clear ho7 hm7 c30 hwi
 go_upto_region 4 with fail
 obtain ⟨c, f, F2, hc1, hc2, hT2, hF2, hx2, hy2⟩ := Hd.o.delete HM5.o Hk.o Ho7.o HM7.o
 rw [Hci.o] at hc1
 cases hc1
 obtain ⟨F3, cur3, hD3, hF3⟩ := HD4.o.step tI tB Hz4.o hT2 hF2 (fun x hx => .inl (hx2 x hx).1)
 have HK8 := hd' hc2
 have HD8 := hd' hD3
 have HX8 : Hid (∀ x ∈ F3, x ∈ F ∧ x ∉ f) := hd' (fun x hx => by
  rcases hF3 x hx with hx | hx
  ·exact ⟨Hz4.o.rows x (hx2 x hx).1, (hx2 x hx).2⟩
  ·exact ⟨hx.1, fun hh => hx.2 (hy2 x hh)⟩)
 have HY8 : Hid (∀ x ∈ f, x ∈ F) := hd' (fun x hx => Hz4.o.rows x (hy2 x hx))
 have HF8 := hd' hF2
 have hbF : b' = D ∨ b' ∈ F := Hz4.o.blk.imp (fun h => h.1) id
 have HM8 := hd' (HM4.o.imp (S' := fun x => x = D ∨ x ∈ F) (fun _ _ h => h.elim) |>.trans' (hF2.mod.imp (fun x _ hx => by
  rcases hx with rfl | hx | hx
  ·exact hbF
  ·exact .inr (Hz4.o.rows x hx)
  ·exact hx.elim)))
 have hmS : Gou.Mod (fun x => x = g ∨ x = b') w5 (w7.setCell ⟨b', o' + 30, none⟩ (.slice (some ⟨g, 0, none⟩) (s'.kids.length - 1) cap)) := (HM7.o.imp (fun _ _ h => .inl h)).trans' ((Gou.Mod.set1 w7 b' (o' + 30) (.slice (some ⟨g, 0, none⟩) (s'.kids.length - 1) cap)).imp (fun _ _ h => .inr h))
 have HN8 := hd' (Blk.mod HB5.o hmS (by have h1 := HNN.o; have h2 := Hglt.o; have h3 := Hblt.o; rw [h1]; omega))
 have HFlt : Hid (∀ x ∈ F, x < w.heap.size) := hd' (fun x hx => by
  obtain ⟨⟨c, _, _, g1, _⟩, _, _⟩ := HD.o.tree
  exact (g1.rows x hx).2.1)
 have hN2 : ¬ (w.heap.size = g ∨ w.heap.size = b') := by
  rintro (e | e)
  ·exact absurd (HFlt.o _ (Hz4.o.rows g HgF.o)) (by omega)
  ·rcases hbF with h | h
   ·have := HDlt.o; omega
   ·exact absurd (HFlt.o _ h) (by omega)
 have HB8 := hd' (Blk.mod (HB24.o.up HM5.o) hmS hN2)
 clear hc2 hD3 hF3 hT2 hF2 hx2 hy2 hbF hmS hN2 o7 f7 Ho7 HM7 HB7 HB5 HB24 Hd Hci Hrg Hc30 Hones
 generalize w7.setCell ⟨b', o' + 30, none⟩ (.slice (some ⟨g, 0, none⟩) (s'.kids.length - 1) cap) = w8 at *
 have Hrg := hd' (Blk.range (pre := []) (mid := (lyA k.id k.look kp kf kb kk).toList) (post := []) HN8.o (by simp) rfl)
 go_wp2_with (first | ((with_reducible refine lT 45 ?_); refine ldA Hrg.o Tryz.underlying45 uaa (h := ?_)) | ((with_reducible refine sT 45 ?_); refine stA (lyA k.id k.look kp kf kb kk) (HB8.o.there 0 31 (by simp)) uaa (uat Hone.o) (h := ?_)) | fail)
 have HS := hd' (Blk.setMod w8 w.heap.size 0 (lyA k.id k.look kp kf kb kk).toList)
 have HB9 := hd' (HB8.o.setAll (lyA k.id k.look kp kf kb kk) rfl)
 have hl9 : ∀ x, base ≤ x → LookBlk 45 77 w8 x → ¬ x = w.heap.size := fun x _ hl e => by
  obtain ⟨cu, T', g1, g2, _⟩ := hl
  have hb := HB8.o
  subst e
  unfold Blk at hb
  rw [hb] at g1
  simp only [Option.some.injEq, Obj.cells.injEq] at g1
  exact g2 g1.2.1.symm
 have hge := HD.o.tree.ge
 have HD9 := hd' (HD8.o.mod tI tB HS.o (by have := HDlt.o; omega) (fun x hx e => by have := HFlt.o x (HX8.o x hx).1; omega) hl9 (fun x hx e => by have := HDlt.o; omega))
 have HK9 := hd' (HK8.o.mod HS.o (fun x hx e => by have := HFlt.o x (HY8.o x hx); omega) hl9)
 have HM9 := hd' (HM8.o.trans HS.o (fun x hx e => by omega))
 have HAT : Hid (∀ b1 o1, At w D 2 π b1 o1 → At (w8.setCells w.heap.size 0 (lyA k.id k.look kp kf kb kk).toList) D 2 π b1 o1) := hd' (fun b1 o1 h => by
  obtain ⟨e1, e2⟩ := (Hz4.o.at_).one (h.up HM4.o)
  subst e1
  subst e2
  have hbn : b' ≠ w.heap.size := by
   rcases Hz4.o.blk.imp (fun h => h.1) id with e | e
   ·have := HDlt.o; omega
   ·have := HFlt.o _ e; omega
  obtain ⟨cA, cB, TT', v1, v2, v3, v4⟩ := HF8.o.cells
  exact Hz4.o.at2 _ (fun x => x = w.heap.size) ⟨(HF8.o.mod.imp (fun x _ hx => by
   rcases hx with hx | hx | hx
   ·exact .inl hx
   ·exact .inr (.inl hx)
   ·exact hx.elim)).trans' (HS.o.imp (fun x _ hx => .inr (.inr hx))), cA, cB, TT', v1, v2.mod HS.o hbn, v3, v4⟩ (fun x hx => ⟨fun hf => by have := HFlt.o x hf; omega, by have := HDlt.o; omega⟩))
 generalize w8.setCells w.heap.size 0 (lyA k.id k.look kp kf kb kk).toList = w9 at *
 refine bpr (results_cell_row rfl _ _ (w.heap.size) 45 (lyA k.id k.look kp kf kb kk) (0, 0) _ rfl HB9.o Tryz.underlying45 rfl uaa) rfl ?_
 exact ⟨kp, kf, kb, kk, f, F3, cur3, rfl, HD9.o, HK9.o, HX8.o, HY8.o, HM9.o, HAT.o⟩
structure ArFit (a : Ar) : Prop where
 len : a.gens.length = a.live.length
 small : a.live.length ≤ 1024
 gen : ∀ g ∈ a.gens, 0 ≤ g ∧ g ≤ 1000000000000
def FreedP (base : Nat) (a : Ar) (T : Ly) (F : List Nat) (op : Opr) (vp vf vb : Value) (x : Idt) (w : World) (D : Nat) (e : Ending) (w' : World) : Prop := e = .returned (.tuple #[]) ∧
 (∃ vg vl cur, ubi base w' D (a.free x) T F op vg vl vp vf vb cur) ∧ Gou.Mod (fun k => k = D) w w'
theorem uhw (base : Nat) (w : World) (D M : Nat) (a : Ar) (T : Ly) (F : List Nat) (op : Opr) (vg vl vp vf vb : Value) (cur : Array Value) (x : Idt) (hD : ubi base w D a T F op vg vl vp vf vb cur) (hM : w.cell? ⟨M, 0, none⟩ = some (.pointer (some ⟨D, 0, none⟩))) (hMD : M ≠ D) (ha : ArFit a) :
 Calls Tryz.prog 66 #[.agg #[iV x.1, iV x.2], .pointer (some ⟨M, 0, none⟩)] w (FreedP base a T F op vp vf vb x w D) := by
 obtain ⟨⟨pg, cg, rfl⟩, ⟨pl, cl, rfl⟩⟩ := hD.ar.forms
 have HD := hd' hD
 have HMD := hd' hMD
 have HA := hd' ha
 have HDlt := hd' (Blk.lt hD.blk)
 have HM := hd' hM
 have HMlt := hd' (wbc _ _ hM)
 clear hD hMD ha hM
 have HX := hd' (Blk.new w 30 #[iV x.1, iV x.2])
 have HMa := hd' (Gou.Mod.alloc0 w (.cells #[iV x.1, iV x.2] 30))
 go_enter Tryz.func66, Tryz.ntmps66
 go_upto_region 1 with fail
 generalize w.alloc (.cells #[iV x.1, iV x.2] 30) = W1 at *
 have HD1 := hd' (HD.o.up HMa.o)
 have m0 := (HMa.o.cell (p := ⟨M, 0, none⟩) HMlt.o (fun h => h)).trans HM.o
 have HIr : Hid (W1.rangeAt w.heap.size 0 [iV x.1, iV x.2]) := hd' (Blk.range (pre := []) (post := []) HX.o (by simp) rfl)
 have HNe : Hid (w.heap.size ≠ D) := hd' (by have := HDlt.o; omega)
 have HAr : Hid (W1.drew.rangeAt D 0 [.slice pg a.gens.length cg, .slice pl a.live.length cl]) := hd' (fun j v hv => by
  obtain ⟨c0, c1, _⟩ := (HD1.o.up (Gou.Mod.drew (fun _ => False) W1)).cell
  match j, hv with
  | 0, hv => simp at hv; rw [← hv]; exact c0
  | 1, hv => simp at hv; rw [← hv]; exact c1)
 refine wp_region_held_drew (S := fun w' => Gou.Mod (fun k => k = D) W1 w') (by kernel_rfl) (Gou.Mod.drew _ _) (fun hH => ?_)
 refine tkC 0 m0 HMD.o hH (h := ?_)
 refine tkC 1 m0 HMD.o hH (h := ?_)
 refine tk 2 (.pointer (some ⟨D, 0, none⟩)) hH (h := ?_)
 refine tk 3 (.pointer (some ⟨D, 0, none⟩)) hH (h := ?_)
 refine tk 4 (.pointer (some ⟨D, 0, none⟩)) hH (h := ?_)
 refine tkR 6 (.agg #[iV x.1, iV x.2]) HIr.o HNe.o Tryz.underlying30 uaf hH (h := ?_)
 refine rd 5 (h := fun K hK => ?_)
 refine wp_load_mid 28 _ rfl D (0) rfl ([.slice pg a.gens.length cg, .slice pl a.live.length cl]) _ (HAr.o) Tryz.underlying28 rfl uae ?_
 have M := hd' hH
 clear hH
 refine hK _ _ M.o (fun hH => ?_)
 clear hK K M
 try simp only [Act.put, uSa, uSb, uSc]
 refine rd 7 (h := fun K hK => ?_)
 go_simp
 refine (uj2 _ _ _ a x ((HD1.o.up (Gou.Mod.drew (fun _ => False) W1)).ar.reads) HA.o.len HA.o.small HA.o.gen).mono ?_
 rintro e w4 ⟨hm4, vg4, vl4, q4, rfl, ha4⟩
 have M := hd' (hH.trans' (hm4.imp (fun _ _ h => h.elim)))
 have HD4 := hd' (HD1.o.up ((Gou.Mod.drew (fun _ => False) W1).trans' hm4))
 have HA4 := hd' ha4
 have HM4 := hd' ((HMa.o.trans' (Gou.Mod.drew (fun _ => False) W1)).trans' hm4)
 obtain ⟨⟨pg4, cg4, rfl⟩, ⟨pl4, cl4, rfl⟩⟩ := ha4.forms
 clear hm4 ha4
 clear hH
 refine hK _ _ M.o (fun hH => ?_)
 clear hK K M
 try simp only [Act.put, uSa, uSb, uSc]
 refine tk 8 (.tuple #[.agg #[.slice pg4 (a.free x).gens.length cg4, .slice pl4 (a.free x).live.length cl4], .bool q4]) hH (h := ?_)
 refine tk 9 (.agg #[.slice pg4 (a.free x).gens.length cg4, .slice pl4 (a.free x).live.length cl4]) hH (h := ?_)
 refine tk 10 (.bool q4) hH (h := ?_)
 refine tk 11 (.pointer (some ⟨D, 0, none⟩)) hH (h := ?_)
 refine tk 12 (.pointer (some ⟨D, 0, none⟩)) hH (h := ?_)
 refine tk 13 (.pointer (some ⟨D, 0, none⟩)) hH (h := ?_)
 refine rd 14 (h := fun K hK => ?_)
 refine wp_store_mid 28 _ _ rfl D 0 #[.slice pg4 (a.free x).gens.length cg4, .slice pl4 (a.free x).live.length cl4] rfl rfl (HD4.o.blk.there 0 2 (by rw [HD4.o.size]; decide)) uae (by simp [Value.oneCell']) ?_
 have HS := hd' (Blk.setMod w4 D 0 (#[.slice pg4 (a.free x).gens.length cg4, .slice pl4 (a.free x).live.length cl4] : Array Value).toList)
 have M' := hd' (hH.trans' HS.o)
 have M := M'
 clear hH M'
 refine hK _ _ M.o (fun hH => ?_)
 clear hK K M
 try simp only [Act.put, uSa, uSb, uSc]
 have MS := hd' hH
 refine wpAnyH_done (by kernel_rfl) ?_ _
 clear hH
 try simp only [Act.put]
 obtain ⟨cur2, h2⟩ := HD4.o.arena tI.2.1 tB.2.1 (a2 := a.free x) ⟨uaj HA4.o.g (Nat.le_trans HD.o.tree.ge (Nat.le_of_lt (Nat.lt_of_lt_of_le HDlt.o HMa.o.size))), uaj HA4.o.l (Nat.le_trans HD.o.tree.ge (Nat.le_of_lt (Nat.lt_of_lt_of_le HDlt.o HMa.o.size)))⟩
 have H2 := hd' h2
 have HM5 := hd' ((HM4.o.imp (S' := fun k => k = D) (fun _ _ h => h.elim)).trans' HS.o)
 clear h2 MS
 go_wp2_with fail
 go_end0
 exact ⟨rfl, ⟨_, _, cur2, H2.o⟩, HM5.o⟩
structure ArN (a : Ar) (n : Nat) : Prop where
 len : a.gens.length = a.live.length
 small : a.live.length ≤ 1024
 gen : ∀ g ∈ a.gens, 0 ≤ g ∧ g ≤ n
theorem ArN.fit {a : Ar} {n : Nat} (h : ArN a n) (hn : n ≤ 1000000000000) : ArFit a := ⟨h.len, h.small, fun g hg => ⟨(h.gen g hg).1, by have := (h.gen g hg).2; omega⟩⟩
theorem ArN.free {a : Ar} {n : Nat} (h : ArN a n) (x : Idt) : ArN (a.free x) (n + 1) := by
 unfold Ar.free
 split
 ·rename_i hx
  obtain ⟨i, h1, h2, h3⟩ := Ar.has_iff.1 hx.1
  refine ⟨by simp [h.len], by simpa using h.small, fun g hg => ?_⟩
  rcases List.mem_or_eq_of_mem_set hg with hg | rfl
  ·have := h.gen g hg; omega
  ·have := h.gen x.2 (lmG h3); omega
 ·exact ⟨h.len, h.small, fun g hg => by have := h.gen g hg; omega⟩
theorem ArN.frees {L : List Idt} : ∀ {a : Ar} {n : Nat}, ArN a n → ArN (L.foldl Ar.free a) (n + L.length) := by
 induction L with
 | nil => intro a n h; exact h
 | cons x L ih =>
  intro a n h
  have := ih (h.free x)
  rw [List.length_cons, show n + (L.length + 1) = n + 1 + L.length by omega]
  exact this
theorem ue0 {ks : List Ly} {j : Nat} (h : j < ks.length) : Ly.idsL (ks.take (j + 1)) = Ly.idsL (ks.take j) ++ ks[j].ids := by
 rw [Ly.idsL_eq, Ly.idsL_eq, ltS h, List.flatMap_append]
 simp
theorem idsL_take_le (ks : List Ly) (m : Nat) : (Ly.idsL (ks.take m)).length ≤ (Ly.idsL ks).length := by
 have e : Ly.idsL ks = Ly.idsL (ks.take m) ++ Ly.idsL (ks.drop m) := by
  rw [Ly.idsL_eq, Ly.idsL_eq, Ly.idsL_eq, ← List.flatMap_append, List.take_append_drop]
 rw [e, List.length_append]
 omega
def EachP (base : Nat) (a : Ar) (L : List Idt) (T0 : Ly) (F : List Nat) (op : Opr) (vp vf vb : Value) (w : World) (D : Nat) (e : Ending) (w' : World) : Prop := e = .returned (.tuple #[]) ∧
 (∃ vg vl cur, ubi base w' D (L.foldl Ar.free a) T0 F op vg vl vp vf vb cur) ∧ Gou.Mod (fun k => k = D) w w'
theorem each_any (base D M : Nat) (T0 : Ly) (F : List Nat) (op : Opr) (vp vf vb : Value) : ∀ (T : Ly) (n : Nat) (w : World) (a : Ar) (vg vl : Value) (cur : Array Value) (kp kf kb kk : Value), LyR (fun b => b ≠ D) w (lyA T.id T.look kp kf kb kk).toList T →
 ubi base w D a T0 F op vg vl vp vf vb cur → w.cell? ⟨M, 0, none⟩ = some (.pointer (some ⟨D, 0, none⟩)) → M ≠ D → TFit T → ArN a n → n + T.ids.length ≤ 1000000000000 →
 Calls Tryz.prog 64 #[.agg (lyA T.id T.look kp kf kb kk), .func (.func 66) #[] #[.pointer (some ⟨M, 0, none⟩)]] w (EachP base a T.ids T0 F op vp vf vb w D) := by
 intro T
 induction T using Ly.ind with
 | h i lk ks ih =>
  intro n w a vg vl cur vp1 vf1 vb1 vk hr hD hM hMD hft hA hn
  obtain ⟨hl, css, hrow, hcl, hk⟩ := hr.parts
  simp only [Ly.id_mk, Ly.look_mk, Ly.kids_mk, Ly.ids_mk] at hl hrow hcl hk hn ⊢
  obtain ⟨pk, ck, rfl⟩ := RowG.slice hrow
  have hlen := hft.len
  rw [Ly.kids_mk] at hlen
  rw [List.length_cons] at hn
  have Hrow := hd' hrow
  have Hcl := hd' hcl
  have Hk := hd' hk
  have Hft := hd' hft
  have Ih := hd' ih
  have Hlen := hd' hlen
  have HD := hd' hD
  have HM := hd' hM
  have HMlt := hd' (wbc _ _ hM)
  have HMD := hd' hMD
  have HA := hd' hA
  have Hn := hd' hn
  have HDlt := hd' (Blk.lt hD.blk)
  clear hl hrow hcl hk hr hft ih hlen hD hM hMD hA hn
  have HB := hd' (Blk.new w 45 (lyA i lk vp1 vf1 vb1 (.slice pk ks.length ck)))
  have HMa := hd' (Gou.Mod.alloc0 w (.cells (lyA i lk vp1 vf1 vb1 (.slice pk ks.length ck)) 45))
  have c0 : (w.alloc (.cells (lyA i lk vp1 vf1 vb1 (.slice pk ks.length ck)) 45)).cell? ⟨w.heap.size, 0, none⟩ = some (iV i.1) := HB.o.cell 0 rfl
  have c1 : (w.alloc (.cells (lyA i lk vp1 vf1 vb1 (.slice pk ks.length ck)) 45)).cell? ⟨w.heap.size, 1, none⟩ = some (iV i.2) := HB.o.cell 1 rfl
  go_enter Tryz.func64, Tryz.ntmps64
  go_wp2_with fail
  generalize w.alloc (.cells (lyA i lk vp1 vf1 vb1 (.slice pk ks.length ck)) 45) = W1 at *
  refine (uhw base W1 D M a T0 F op vg vl vp vf vb cur i (HD.o.up HMa.o) ((HMa.o.cell (p := ⟨M, 0, none⟩) HMlt.o (fun h => h)).trans HM.o) HMD.o (HA.o.fit (by have := Hn.o; omega))).mono ?_
  rintro e w2 ⟨rfl, ⟨vg2, vl2, cur2, hD2⟩, hm2⟩
  have HD2 := hd' hD2
  have Hm2 := hd' (HMa.o.imp (S' := fun k => k = D) (fun _ _ h => h.elim) |>.trans' hm2)
  have c30 : w2.cell? ⟨w.heap.size, 30, none⟩ = some (.slice pk ks.length ck) := (HB.o.mod hm2 (by have := HDlt.o; omega)).cell 30 rfl
  clear hD2 hm2 c0 c1 HB HMa
  go_wp2_with fail
  go_loopw [13] (fun vi wr => ∃ j : Nat, vi = iV j ∧ j ≤ ks.length ∧ (∃ vg vl cur, ubi base wr D ((i :: Ly.idsL (ks.take j)).foldl Ar.free a) T0 F op vg vl vp vf vb cur) ∧ Gou.Mod (fun k => k = D) w wr) (fun vi _ => ks.length - (intOf vi).toNat)
  case atStart => exact ⟨0, rfl, Nat.zero_le _, ⟨_, _, _, HD2.o⟩, Hm2.o⟩
  case round =>
   obtain ⟨j, rfl, hj, ⟨vg3, vl3, cur3, hd3⟩, hm⟩ := hrel
   have Hm := hd' hm
   have HD3 := hd' hd3
   clear hm hd3 c30 HD2 Hm2
   by_cases hil : j < ks.length
   ·obtain ⟨b, o, kp, kf, kb, kk, rfl, hbl, hbD, hrg, hkr⟩ := LyR.kidR Hrow.o Hcl.o rfl Hk.o hil
    have Hrg := hd' (uax hrg Hm.o hbD)
    have Hst : Hid ((i :: Ly.idsL (ks.take (j + 1))).foldl Ar.free a = ks[j].ids.foldl Ar.free ((i :: Ly.idsL (ks.take j)).foldl Ar.free a)) := hd' (by rw [ue0 hil, ← List.cons_append, List.foldl_append])
    have HNj : Hid (n + (i :: Ly.idsL (ks.take j)).length + ks[j].ids.length ≤ 1000000000000) := hd' (by
     have h1 := idsL_take_le ks (j + 1)
     rw [ue0 hil, List.length_append] at h1
     rw [List.length_cons]
     have := Hn.o
     omega)
    have HAj := hd' (ArN.frees (L := i :: Ly.idsL (ks.take j)) HA.o)
    have Hkr := hd' (hkr.mod Hm.o (fun k _ hk e => hk e))
    have Hfk := hd' (Hft.o.kids ks[j] (by rw [Ly.kids_mk]; exact lgM hil))
    have Hik := hd' (Ih.o ks[j] (lgM hil))
    have Hil := hd' hil
    clear hrg hkr hbl hbD
    generalize ks[j] = kd at *
    generalize (i :: Ly.idsL (ks.take j)).length = nj at *
    generalize (i :: Ly.idsL (ks.take j)).foldl Ar.free a = aj at *
    go_upto_region 5 with (first | ((with_reducible refine lT 45 ?_); refine ldA Hrg.o Tryz.underlying45 uaa (h := ?_)) | ((with_reducible refine sT 45 ?_); refine stA (lyA kd.id kd.look kp kf kb kk) ((Blk.new wr 45 lyL).there 0 31 (by simp)) uaa (uat (LyR.one Hkr.o)) (h := ?_)) | fail)
    have HB5 := hd' ((Blk.new wr 45 lyL).setAll (lyA kd.id kd.look kp kf kb kk) rfl)
    have HM3 : Hid (Gou.Mod (fun _ => False) wr ((wr.alloc (.cells lyL 45)).setCells wr.heap.size 0 (lyA kd.id kd.look kp kf kb kk).toList)) := hd' (Gou.Mod.allocSet _ _ _)
    generalize (wr.alloc (.cells lyL 45)).setCells wr.heap.size 0 (lyA kd.id kd.look kp kf kb kk).toList = W3 at *
    have HB5w := hd' HB5.o.whole
    go_wp2_with (first | ((with_reducible refine lT 45 ?_); refine ldA HB5w.o Tryz.underlying45 uaa (h := ?_)) | fail)
    refine (Hik.o (n + nj) W3 aj vg3 vl3 cur3 kp kf kb kk (Hkr.o.up HM3.o) (HD3.o.up HM3.o) ((((Hm.o.trans' (HM3.o.imp (fun _ _ h => h.elim))).cell (p := ⟨M, 0, none⟩) HMlt.o HMD.o)).trans HM.o) HMD.o Hfk.o HAj.o HNj.o).mono ?_
    rintro e w4 ⟨rfl, ⟨vg4, vl4, cur4, hD4⟩, hm4⟩
    have HD4 := hd' hD4
    have HM4 := hd' ((Hm.o.trans' (HM3.o.imp (fun _ _ h => h.elim))).trans' hm4)
    clear hm4 hD4 HB5w HB5 HM3
    have hwi : wrap64 ((j : Int) + 1) = ((j + 1 : Nat) : Int) := by have := Hil.o; have := Hlen.o; unfold wrap64; omega
    go_wp2_with fail
    go_roundw
    case rel => exact ⟨j + 1, by rw [← hwi], by have := Hil.o; omega, ⟨vg4, vl4, cur4, by rw [Hst.o]; exact HD4.o⟩, HM4.o⟩
    case measure => rw [hwi]; have := Hil.o; simp only [intOf]; omega
   ·have hil' : j = ks.length := by omega
    subst hil'
    rw [List.take_length] at HD3
    go_wp2_with fail
    go_end0
    exact ⟨rfl, ⟨vg3, vl3, cur3, HD3.o⟩, Hm.o⟩
theorem LyO.readsG {TL TD : TypeId} {base : Nat} {G : Nat → Prop} {w : World} {c : List Value} {T : Ly} {F : List Nat} (h : LyO TL TD base w c T F) (h1 : ∀ b ∈ F, G b) (h2 : ∀ b, LookG TL TD base w b → G b) : LyR G w c T := by
 induction h with
 | mk i lk ks vp vf vb vk css fs hl hr hn hf hk hd ih =>
  refine .mk i lk ks vp vf vb vk css (hl.imp (fun k _ hk => h2 k hk)) (RowG.own_of hr (fun b hb _ => h1 b (by rw [hb]; simp))) hn (fun j c k a1 a2 => ?_)
  have hj := (lgS.1 a1).1
  have hfj : fs[j]? = some fs[j] := lgE (by omega)
  exact ih j c k fs[j] a1 a2 hfj (fun b hb => h1 b (List.mem_append_right _ (List.mem_flatten.2 ⟨_, lmG hfj, hb⟩)))
def RemoveP (base : Nat) (a : Ar) (T : Ly) (F : List Nat) (op : Opr) (vp vf vb : Value) (s k : Ly) (π : List Nat) (i : Nat) (w : World) (D : Nat) (e : Ending) (w' : World) : Prop := e = .returned (iV 0) ∧
 (∃ vg vl cur F3, ubi base w' D (k.ids.foldl Ar.free a) (T.put π (.mk s.id s.look (s.kids.eraseIdx i))) F3 op vg vl vp vf vb cur) ∧ Gou.Mod (fun x => x = D ∨ x ∈ F) w w'
theorem ujg (base : Nat) (w : World) (D : Nat) (a : Ar) (T : Ly) (F : List Nat) (op : Opr) (vg vl vp vf vb : Value) (cur : Array Value) (hD : ubi base w D a T F op vg vl vp vf vb cur) (π : List Nat) (i : Nat) (s k : Ly) (hp : T.parPath op.id = some (π, i)) (hs : T.get? π = some s) (hk : s.kids[i]? = some k) (hn : s.kids.length ≤ 1000000)
 (hft : TFit k) (n : Nat) (hA : ArN a n) (hids : n + k.ids.length ≤ 1000000000000) :
 Calls Tryz.prog 46 #[.pointer (some ⟨D, 0, none⟩)] w (RemoveP base a T F op vp vf vb s k π i w D) := by
 have HD := hd' hD
 have Hp := hd' hp
 have Hs := hd' hs
 have Hk := hd' hk
 have Hn := hd' hn
 have Hft := hd' hft
 have HA := hd' hA
 have HI := hd' hids
 have HDlt := hd' (Blk.lt hD.blk)
 have HFlt : Hid (∀ x ∈ F, x < w.heap.size) := hd' (fun x hx => by
  obtain ⟨⟨c, _, _, g1, _⟩, _, _⟩ := hD.tree
  exact (g1.rows x hx).2.1)
 clear hD hp hs hk hn hft hA hids
 have HB := hd' (Blk.new w 74 #[.pointer (some ⟨D, 0, none⟩)])
 have HMa := hd' (Gou.Mod.alloc0 w (.cells #[.pointer (some ⟨D, 0, none⟩)] 74))
 have c0 : (w.alloc (.cells #[.pointer (some ⟨D, 0, none⟩)] 74)).cell? ⟨w.heap.size, 0, none⟩ = some (.pointer (some ⟨D, 0, none⟩)) := HB.o.cell 0 rfl
 go_enter Tryz.func46, Tryz.ntmps46
 go_wp2_with fail
 generalize w.alloc (.cells #[.pointer (some ⟨D, 0, none⟩)] 74) = W1 at *
 refine (ugf base W1 D a T F op vg vl vp vf vb cur (HD.o.up HMa.o) π i s k Hp.o Hs.o Hk.o Hn.o).mono ?_
 rintro e w2 ⟨kp, kf, kb, kk, f, F3, cur3, rfl, hd2, hk2, hx2, hy2, hm2, _⟩
 have HD2 := hd' hd2
 have HK2 := hd' (LyO.readsG (G := fun b => b ≠ D) hk2 (fun b hb e => HD.o.tree.out (e ▸ hy2 b hb)) (fun b hb e => hd2.tree.notLook (e ▸ hb.2)))
 have HM2 := hd' (HMa.o.imp (S' := fun x => x = D ∨ x ∈ F) (fun _ _ h => h.elim) |>.trans' hm2)
 have m2 := hd' ((HB.o.mod hm2 (by rintro (e | e); exact absurd HDlt.o (by omega); exact absurd (HFlt.o _ e) (by omega))).cell 0 rfl)
 have HMD : Hid (w.heap.size ≠ D) := hd' (by have := HDlt.o; omega)
 clear hd2 hk2 hx2 hy2 hm2 c0 HB HMa
 go_wp2_with fail
 refine (each_any base D w.heap.size _ F3 op vp vf vb k n w2 a vg vl cur3 kp kf kb kk HK2.o HD2.o m2.out HMD.o Hft.o HA.o HI.o).mono ?_
 rintro e w3 ⟨rfl, ⟨vg3, vl3, cur4, hd3⟩, hm3⟩
 have HD3 := hd' hd3
 have HM3 := hd' (HM2.o.trans' (hm3.imp (fun _ _ h => .inl h)))
 clear hd3 hm3 HK2 HD2 m2
 go_wp2_with fail
 go_ret
 exact ⟨rfl, ⟨vg3, vl3, cur4, F3, HD3.o⟩, HM3.o⟩
end Go.Proofs.YtpbmfalokongfaaGreatDoor
namespace Go.Gou
theorem Ly.get_put : ∀ {π : List Nat} {T s s2 : Ly}, T.get? π = some s → (T.put π s2).get? π = some s2
 | [], T, s, s2, _ => by rw [Ly.put, Ly.get?]
 | i :: π, T, s, s2, h => by
  rw [Ly.get?] at h
  cases hk : T.kids[i]? with
  | none => rw [hk] at h; cases h
  | some k =>
   rw [hk] at h
   have hi := (lgS.1 hk).1
   rw [Ly.put, hk]
   simp only
   rw [Ly.get?, Ly.kids_mk, List.getElem?_set_self hi]
   exact Ly.get_put h
end Go.Gou
namespace Go.Proofs.YtpbmfalokongfaaGreatDoor
open Go.RowKit Go.Gou
set_option maxRecDepth 100000
theorem uck (base : Nat) (w : World) (D : Nat) (a : Ar) (T : Ly) (F : List Nat) (op : Opr) (vg vl vp vf vb : Value) (cur : Array Value) (hD : ubi base w D a T F op vg vl vp vf vb cur) {π : List Nat} {s : Ly} {b' o' : Nat} {F' : List Nat} (hz : ZoomL base w D 2 T F π s b' o' F') (k : Ly) (f : List Nat) (kp kf kb kk : Value)
 (hk : LyO 45 77 base w (lyA k.id k.look kp kf kb kk).toList k f) (hf : ∀ x ∈ f, x ∉ F ∧ x ≠ D) (i : Nat) (hi : i ≤ s.kids.length) (hn : s.kids.length ≤ 1000000) :
 Calls Tryz.prog 60 #[.pointer (some ⟨b', o', none⟩), iV i, .agg (lyA k.id k.look kp kf kb kk)] w fun e w' => e = .returned (.tuple #[]) ∧
     (∃ F3 cur3, ubi base w' D a (T.put π (.mk s.id s.look (s.kids.take i ++ k :: s.kids.drop i))) F3 op vg vl vp vf vb cur3) ∧ Gou.Mod (fun x => x = D ∨ x ∈ F) w w' := by
 have hb : b' = D ∨ b' ∈ F := hz.blk.imp (fun h => h.1) id
 refine (put_any base w b' o' i s F' k f kp kf kb kk hz.sub hk (fun x hx => ⟨fun h => (hf x hx).1 (hz.rows x h), fun e => ?_⟩) hi hn).mono ?_
 ·rcases hb with h | h
  ·exact (hf x hx).2 (e.trans h)
  ·exact (hf x hx).1 (e ▸ h)
 ·rintro e w' ⟨rfl, F2, h2, fr, hx2⟩
  obtain ⟨F3, cur3, h3, _⟩ := hD.step tI tB hz h2 fr (fun x hx => by
   rcases hx2 x hx with h | h | h
   ·exact .inl h
   ·exact .inr ⟨(hf x h).1, (hf x h).2⟩
   ·refine .inr ⟨fun hh => ?_, fun e => ?_⟩
    ·obtain ⟨⟨c, _, _, g1, _⟩, _, _⟩ := hD.tree
     have := (g1.rows x hh).2.1
     omega
    ·have := Blk.lt hD.blk
     omega)
  exact ⟨rfl, ⟨F3, cur3, h3⟩, fr.mod.imp (fun x _ hx => by
   rcases hx with rfl | hx | hx
   ·exact hb
   ·exact .inr (hz.rows x hx)
   ·exact hx.elim)⟩
def ReorderP (base : Nat) (a : Ar) (T : Ly) (F : List Nat) (op : Opr) (vp vf vb : Value) (s k : Ly) (π : List Nat) (i : Nat) (w : World) (D : Nat) (e : Ending) (w' : World) : Prop := Gou.Mod (fun x => x = D ∨ x ∈ F) w w' ∧
 ((op.at_ < 0 ∨ (s.kids.length : Int) ≤ op.at_) → e = .returned (iV 3)) ∧
 (∀ n : Nat, op.at_ = n → n < s.kids.length → e = .returned (iV 0) ∧ ∃ vg vl cur F3, ubi base w' D a ((T.put π (.mk s.id s.look (s.kids.eraseIdx i))).put π (.mk s.id s.look ((s.kids.eraseIdx i).take n ++ k :: (s.kids.eraseIdx i).drop n))) F3 op vg vl vp vf vb cur)
theorem uhv (base : Nat) (w : World) (D : Nat) (a : Ar) (T : Ly) (F : List Nat) (op : Opr) (vg vl vp vf vb : Value) (cur : Array Value) (hD : ubi base w D a T F op vg vl vp vf vb cur) (π : List Nat) (i : Nat) (s k : Ly) (hp : T.parPath op.id = some (π, i)) (hs : T.get? π = some s) (hk : s.kids[i]? = some k) (hn : s.kids.length ≤ 1000000) :
 Calls Tryz.prog 48 #[.pointer (some ⟨D, 0, none⟩)] w (ReorderP base a T F op vp vf vb s k π i w D) := by
 have HD := hd' hD
 have Hp := hd' hp
 have Hs := hd' hs
 have Hk := hd' hk
 have Hn := hd' hn
 have HDlt := hd' (Blk.lt hD.blk)
 clear hD hp hs hk hn
 go_enter Tryz.func48, Tryz.ntmps48
 go_wp2_with fail
 have HIr : Hid (w.rangeAt D 34 [iV op.id.1, iV op.id.2]) := hd' (fun j v hv => by
  obtain ⟨_, _, _, c34, c35, _⟩ := HD.o.cell
  match j, hv with
  | 0, hv => simp at hv; rw [← hv]; exact c34
  | 1, hv => simp at hv; rw [← hv]; exact c35)
 refine wp_region_held_drew (S := fun w' => Gou.Mod (fun _ => False) w w') (by kernel_rfl) (Gou.Mod.drew _ _) (fun hH => ?_)
 refine tk 0 (.pointer (some ⟨D, 0, none⟩)) hH (h := ?_)
 refine tk 1 (.pointer (some ⟨D, 0, none⟩)) hH (h := ?_)
 refine tk 2 (.pointer (some ⟨D, 0, none⟩)) hH (h := ?_)
 refine tk 3 (.pointer (some ⟨D, 2, none⟩)) hH (h := ?_)
 refine tk 4 (.pointer (some ⟨D, 0, none⟩)) hH (h := ?_)
 refine tk 5 (.pointer (some ⟨D, 0, none⟩)) hH (h := ?_)
 refine tk 6 (.pointer (some ⟨D, 33, none⟩)) hH (h := ?_)
 refine tk 7 (.pointer (some ⟨D, 34, none⟩)) hH (h := ?_)
 refine tkR 8 (.agg #[iV op.id.1, iV op.id.2]) HIr.o (fun h => h) Tryz.underlying30 uaf hH (h := ?_)
 refine rd 9 (h := fun K hK => ?_)
 go_simp
 refine (ufk base op.id T _ D 2 F (HD.o.up hH).tree).mono ?_
 rintro e w4 ⟨hm4, _, hs4⟩
 obtain ⟨b', o', F', s', rfl, hz4⟩ := hs4 _ Hp.o
 have hss : s' = s := by
  have := hz4.get
  rw [Hs.o] at this
  exact (Option.some.inj this).symm
 subst hss
 have M := hd' (hH.trans' hm4)
 have Hz4 := hd' hz4
 clear hH hm4 hs4 hz4
 refine hK _ _ M.o (fun hH => ?_)
 clear hK K M
 try simp only [Act.put, uSa, uSb, uSc]
 refine tk 10 (.tuple #[.pointer (some ⟨b', o', none⟩), iV ((i : Nat) : Int)]) hH (h := ?_)
 refine tk 11 (.pointer (some ⟨b', o', none⟩)) hH (h := ?_)
 refine tk 12 (iV ((i : Nat) : Int)) hH (h := ?_)
 refine tk 13 (.pointer (some ⟨b', o', none⟩)) hH (h := ?_)
 refine tk 14 (iV ((i : Nat) : Int)) hH (h := ?_)
 have MS := hd' hH
 refine wpAnyH_done (by kernel_rfl) ?_ _
 clear hH
 try simp only [Act.put]
 have HD4 := hd' (HD.o.up MS.o)
 obtain ⟨p, cap, c30, _, _, hcap, hcap2, _⟩ := Hz4.o.sub.kids
 obtain ⟨_, _, _, _, _, _, _, c38⟩ := HD4.o.cell
 have HM4 := hd' MS.o
 have Hc30 := hd' c30
 clear MS hcap hcap2 HIr
 go_upto_region 2 with fail
 rcases Int.lt_or_le op.at_ 0 with hneg | hpos
 ·have e1 : decide (op.at_ < 0) = true := dqt hneg
  go_quiet (fail)
  go_wp2_with fail
  go_ret
  have Hmq := HM4.o.trans' (Gou.Mod.drewN (fun _ => False) w4 nq)
  exact ⟨Hmq.imp (fun _ _ h => h.elim), fun _ => rfl, fun n e _ => by omega⟩
 ·have e1 : decide (op.at_ < 0) = false := dqf (by omega)
  rcases Int.lt_or_le op.at_ s'.kids.length with hlt | hge
  ·obtain ⟨m, hm⟩ : ∃ m : Nat, op.at_ = m := ⟨op.at_.toNat, by omega⟩
   have e2 : decide ((s'.kids.length : Int) ≤ op.at_) = false := dqf (by omega)
   go_quiet (fail)
   go_upto_region 4 with fail
   have HD5 := hd' (HD4.o.up (Gou.Mod.drewN (fun _ => False) w4 nq))
   have HAt := hd' (Hz4.o.at_.up (Gou.Mod.drewN (fun _ => False) w4 nq))
   have HM5 := hd' (HM4.o.trans' (Gou.Mod.drewN (fun _ => False) w4 nq))
   have Hlt := hd' hlt
   have Hm := hd' hm
   clear c30 c38 e1 e2 hlt hpos HD4 Hz4 HM4 Hc30
   generalize w4.drewN nq = W5 at *
   have HDq := hd' (HD5.o.up (Gou.Mod.drew (fun _ => False) W5))
   refine wp_region_held_drew (S := fun w' => Gou.Mod (fun x => x = D ∨ x ∈ F) W5 w') (by kernel_rfl) (Gou.Mod.drew _ _) (fun hH => ?_)
   refine tk 0 (.pointer (some ⟨b', o', none⟩)) hH (h := ?_)
   refine tk 1 (.pointer (some ⟨D, 0, none⟩)) hH (h := ?_)
   refine tk 2 (.pointer (some ⟨D, 0, none⟩)) hH (h := ?_)
   refine tk 3 (.pointer (some ⟨D, 33, none⟩)) hH (h := ?_)
   refine tk 4 (.pointer (some ⟨D, 38, none⟩)) hH (h := ?_)
   refine tk 6 (.pointer (some ⟨D, 0, none⟩)) hH (h := ?_)
   refine rd2 5 7 (h := fun K11 hK => ?_) (g := fun K11 hK => ?_)
   ·skip
    have g0 := HDq.o.cell.2.2.2.2.2.2.2
    rw [Hm.o] at g0
    go_simp
    clear g0
    have M := hd' hH
    clear hH
    refine hK _ _ M.o (fun hH => ?_)
    clear hK K11 M
    try simp only [Act.put, uSa, uSb, uSc]
    refine rd 7 (h := fun K hK => ?_)
    go_simp
    refine (ugf base _ D a T F op vg vl vp vf vb cur HDq.o π i s' k Hp.o Hs.o Hk.o Hn.o).mono ?_
    rintro e w7 ⟨kp, kf, kb, kk, f, F3, cur3, rfl, hd7, hk7, hx7, hy7, hm7, hat7⟩
    have M := hd' (hH.trans' hm7)
    replace HDq := hd' hd7
    have HK7 := hd' hk7
    have HX7 := hd' hx7
    have HY7 := hd' hy7
    have HAT7 := hd' (hat7 _ _ (HAt.o.up (Gou.Mod.drew (fun _ => False) W5)))
    clear hH hd7 hk7 hx7 hy7 hm7 hat7
    refine hK _ _ M.o (fun hH => ?_)
    clear hK K M
    try simp only [Act.put, uSa, uSb, uSc]
    refine rd 8 (h := fun K hK => ?_)
    go_simp
    obtain ⟨b2, o2, F2', hz7⟩ := Zoom.ex HDq.o.tree (Ly.get_put Hs.o)
    obtain ⟨e1, e2⟩ := (hz7.at_).one HAT7.o
    rw [e1, e2] at hz7
    clear e1 e2
    have hle : (s'.kids.eraseIdx i).length = s'.kids.length - 1 := by rw [List.length_eraseIdx, if_pos (lgS.1 Hk.o).1]
    refine (uck base w7 D a _ F3 op vg vl vp vf vb cur3 HDq.o hz7 k f kp kf kb kk HK7.o (fun x hx => ⟨fun h => (HX7.o x h).2 hx, fun e => HD5.o.tree.out (e ▸ HY7.o x hx)⟩) m (by rw [Ly.kids_mk, hle]; have := Hlt.o; have := Hm.o; omega) (by rw [Ly.kids_mk, hle]; have := Hn.o; omega)).mono ?_
    rintro e w8 ⟨rfl, ⟨F4, cur4, hd8⟩, hm8⟩
    have M := hd' (hH.trans' (hm8.imp (fun x _ hx => hx.imp id (fun h => (HX7.o x h).1))))
    have HD8 := hd' hd8
    clear hH hd8 hm8 hz7 hle
    refine hK _ _ M.o (fun hH => ?_)
    clear hK K M
    try simp only [Act.put, uSa, uSb, uSc]
    have MS := hd' hH
    refine wpAnyH_done (by kernel_rfl) ?_ _
    clear hH
    try simp only [Act.put]
    go_wp2_with fail
    go_ret
    refine ⟨(HM5.o.imp (fun _ _ h => h.elim)).trans' MS.o, fun h => ?_, fun n e hn => ⟨rfl, ?_⟩⟩
    ·have := Hlt.o
     have := Hm.o
     omega
    ·obtain rfl : n = m := by have := Hm.o; omega
     exact ⟨_, _, _, _, HD8.o⟩
   ·skip
    go_simp
    refine (ugf base _ D a T F op vg vl vp vf vb cur HDq.o π i s' k Hp.o Hs.o Hk.o Hn.o).mono ?_
    rintro e w7 ⟨kp, kf, kb, kk, f, F3, cur3, rfl, hd7, hk7, hx7, hy7, hm7, hat7⟩
    have M := hd' (hH.trans' hm7)
    replace HDq := hd' hd7
    have HK7 := hd' hk7
    have HX7 := hd' hx7
    have HY7 := hd' hy7
    have HAT7 := hd' (hat7 _ _ (HAt.o.up (Gou.Mod.drew (fun _ => False) W5)))
    clear hH hd7 hk7 hx7 hy7 hm7 hat7
    refine hK _ _ M.o (fun hH => ?_)
    clear hK K11 M
    try simp only [Act.put, uSa, uSb, uSc]
    refine rd 5 (h := fun K hK => ?_)
    have g0 := HDq.o.cell.2.2.2.2.2.2.2
    rw [Hm.o] at g0
    go_simp
    clear g0
    have M := hd' hH
    clear hH
    refine hK _ _ M.o (fun hH => ?_)
    clear hK K M
    try simp only [Act.put, uSa, uSb, uSc]
    refine rd 8 (h := fun K hK => ?_)
    go_simp
    obtain ⟨b2, o2, F2', hz7⟩ := Zoom.ex HDq.o.tree (Ly.get_put Hs.o)
    obtain ⟨e1, e2⟩ := (hz7.at_).one HAT7.o
    rw [e1, e2] at hz7
    clear e1 e2
    have hle : (s'.kids.eraseIdx i).length = s'.kids.length - 1 := by rw [List.length_eraseIdx, if_pos (lgS.1 Hk.o).1]
    refine (uck base w7 D a _ F3 op vg vl vp vf vb cur3 HDq.o hz7 k f kp kf kb kk HK7.o (fun x hx => ⟨fun h => (HX7.o x h).2 hx, fun e => HD5.o.tree.out (e ▸ HY7.o x hx)⟩) m (by rw [Ly.kids_mk, hle]; have := Hlt.o; have := Hm.o; omega) (by rw [Ly.kids_mk, hle]; have := Hn.o; omega)).mono ?_
    rintro e w8 ⟨rfl, ⟨F4, cur4, hd8⟩, hm8⟩
    have M := hd' (hH.trans' (hm8.imp (fun x _ hx => hx.imp id (fun h => (HX7.o x h).1))))
    have HD8 := hd' hd8
    clear hH hd8 hm8 hz7 hle
    refine hK _ _ M.o (fun hH => ?_)
    clear hK K M
    try simp only [Act.put, uSa, uSb, uSc]
    have MS := hd' hH
    refine wpAnyH_done (by kernel_rfl) ?_ _
    clear hH
    try simp only [Act.put]
    go_wp2_with fail
    go_ret
    refine ⟨(HM5.o.imp (fun _ _ h => h.elim)).trans' MS.o, fun h => ?_, fun n e hn => ⟨rfl, ?_⟩⟩
    ·have := Hlt.o
     have := Hm.o
     omega
    ·obtain rfl : n = m := by have := Hm.o; omega
     exact ⟨_, _, _, _, HD8.o⟩
  ·have e2 : decide ((s'.kids.length : Int) ≤ op.at_) = true := dqt (by omega)
   go_quiet (fail)
   go_wp2_with fail
   go_ret
   have Hmq := HM4.o.trans' (Gou.Mod.drewN (fun _ => False) w4 nq)
   exact ⟨Hmq.imp (fun _ _ h => h.elim), fun _ => rfl, fun n e hn => by omega⟩
theorem stale_any (base : Nat) (w : World) (D : Nat) (a : Ar) (T : Ly) (F : List Nat) (op : Opr) (vg vl vp vf vb : Value) (cur : Array Value) (hD : ubi base w D a T F op vg vl vp vf vb cur) (hl : a.gens.length = a.live.length) :
 Calls Tryz.prog 43 #[.pointer (some ⟨D, 0, none⟩)] w fun e w' => e = .returned (.bool (ubo a op)) ∧ Gou.Mod (fun _ => False) w w' := by
 obtain ⟨⟨pg, cg, rfl⟩, ⟨pl, cl, rfl⟩⟩ := hD.ar.forms
 have HD := hd' hD
 have Hl := hd' hl
 clear hD hl
 go_enter Tryz.func43, Tryz.ntmps43
 go_upto_region 1 with fail
 have HAr : Hid (w.rangeAt D 0 [.slice pg a.gens.length cg, .slice pl a.live.length cl]) := hd' (fun j v hv => by
  obtain ⟨c0, c1, _⟩ := HD.o.cell
  match j, hv with
  | 0, hv => simp at hv; rw [← hv]; exact c0
  | 1, hv => simp at hv; rw [← hv]; exact c1)
 have HIr : Hid (w.rangeAt D 34 [iV op.id.1, iV op.id.2]) := hd' (fun j v hv => by
  obtain ⟨_, _, _, c34, c35, _⟩ := HD.o.cell
  match j, hv with
  | 0, hv => simp at hv; rw [← hv]; exact c34
  | 1, hv => simp at hv; rw [← hv]; exact c35)
 have HTr : Hid (w.rangeAt D 36 [iV op.to.1, iV op.to.2]) := hd' (fun j v hv => by
  obtain ⟨_, _, _, _, _, c36, c37, _⟩ := HD.o.cell
  match j, hv with
  | 0, hv => simp at hv; rw [← hv]; exact c36
  | 1, hv => simp at hv; rw [← hv]; exact c37)
 refine wp_region_held_drew (S := fun w' => Gou.Mod (fun _ => False) w w') (by kernel_rfl) (Gou.Mod.drew _ _) (fun hH => ?_)
 refine tk 0 (.pointer (some ⟨D, 0, none⟩)) hH (h := ?_)
 refine tk 1 (.pointer (some ⟨D, 0, none⟩)) hH (h := ?_)
 refine tk 2 (.pointer (some ⟨D, 0, none⟩)) hH (h := ?_)
 refine tk 3 (.pointer (some ⟨D, 0, none⟩)) hH (h := ?_)
 refine tkR 4 (.agg #[.slice pg a.gens.length cg, .slice pl a.live.length cl]) HAr.o (fun h => h) Tryz.underlying28 uae hH (h := ?_)
 refine tk 5 (.pointer (some ⟨D, 0, none⟩)) hH (h := ?_)
 refine tk 6 (.pointer (some ⟨D, 0, none⟩)) hH (h := ?_)
 refine tk 7 (.pointer (some ⟨D, 33, none⟩)) hH (h := ?_)
 refine tk 8 (.pointer (some ⟨D, 34, none⟩)) hH (h := ?_)
 refine tkR 9 (.agg #[iV op.id.1, iV op.id.2]) HIr.o (fun h => h) Tryz.underlying30 uaf hH (h := ?_)
 refine tk 11 (.pointer (some ⟨D, 0, none⟩)) hH (h := ?_)
 refine tk 12 (.pointer (some ⟨D, 0, none⟩)) hH (h := ?_)
 refine tk 13 (.pointer (some ⟨D, 0, none⟩)) hH (h := ?_)
 refine tk 14 (.pointer (some ⟨D, 0, none⟩)) hH (h := ?_)
 refine tkR 15 (.agg #[.slice pg a.gens.length cg, .slice pl a.live.length cl]) HAr.o (fun h => h) Tryz.underlying28 uae hH (h := ?_)
 refine tk 16 (.pointer (some ⟨D, 0, none⟩)) hH (h := ?_)
 refine tk 17 (.pointer (some ⟨D, 0, none⟩)) hH (h := ?_)
 refine tk 18 (.pointer (some ⟨D, 33, none⟩)) hH (h := ?_)
 refine tk 19 (.pointer (some ⟨D, 36, none⟩)) hH (h := ?_)
 refine tkR 20 (.agg #[iV op.to.1, iV op.to.2]) HTr.o (fun h => h) Tryz.underlying30 uaf hH (h := ?_)
 refine rd 10 (h := fun K hK => ?_)
 go_simp
 refine (ucv _ pg pl cg cl a op.id (HD.o.up hH).ar.reads Hl.o).mono ?_
 rintro e w4 ⟨rfl, hm4⟩
 have M := hd' (hH.trans' hm4)
 clear hH
 refine hK _ _ M.o (fun hH => ?_)
 clear hK K M
 try simp only [Act.put, uSa, uSb, uSc]
 refine rd 21 (h := fun K hK => ?_)
 go_simp
 refine (ucv _ pg pl cg cl a op.to (HD.o.up hH).ar.reads Hl.o).mono ?_
 rintro e w5 ⟨rfl, hm5⟩
 have M := hd' (hH.trans' hm5)
 clear hH
 refine hK _ _ M.o (fun hH => ?_)
 clear hK K M
 try simp only [Act.put, uSa, uSb, uSc]
 refine tk 22 (.bool (a.has op.id)) hH (h := ?_)
 refine tk 23 (.bool (a.has op.to)) hH (h := ?_)
 have MS := hd' hH
 refine wpAnyH_done (by kernel_rfl) ?_ _
 clear hH
 try simp only [Act.put]
 have c33 := (HD.o.up MS.o).cell.2.2.1
 have Hst : Hid (ubo a op = if op.kind = 1 then !a.has op.to else if op.kind = 3 then !a.has op.id || !a.has op.to else !a.has op.id) := hd' rfl
 have HMS := hd' MS.o
 clear MS HD HAr HIr HTr
 generalize a.has op.id = x at *
 generalize a.has op.to = y at *
 by_cases h1 : op.kind = 1
 ·rw [h1] at c33
  have H1 := hd' h1
  clear h1
  go_wp2_with fail
  go_ret
  exact ⟨by rw [Hst.o, if_pos H1.o]; rfl, HMS.o⟩
 ·have e1 : (op.kind == 1) = false := bqf.2 h1
  have H1 := hd' h1
  by_cases h3 : op.kind = 3
  ·rw [h3] at c33
   have H3 := hd' h3
   clear h3 e1 h1
   cases x
   ·go_wp2_with fail
    go_ret
    exact ⟨by rw [Hst.o, if_neg H1.o, if_pos H3.o]; rfl, HMS.o⟩
   ·go_wp2_with fail
    go_ret
    exact ⟨by rw [Hst.o, if_neg H1.o, if_pos H3.o]; rfl, HMS.o⟩
  ·have e3 : (op.kind == 3) = false := bqf.2 h3
   have H3 := hd' h3
   clear h1 h3
   go_wp2_with fail
   go_ret
   exact ⟨by rw [Hst.o, if_neg H1.o, if_neg H3.o]; rfl, HMS.o⟩
theorem plain_one : (uai Lk.plain nlS nlS nlS).all (·.oneCell') = true := by simp [uai, Lk.plain, Lk.zero, Ct.zero, Rc.zero, Pxl.zero, Gr.zero, Value.oneCell']
theorem uek (w : World) : Calls Tryz.prog 26 #[] w fun e w' => e = .returned (.agg (uai Lk.plain nlS nlS nlS)) ∧ Gou.Mod (fun _ => False) w w' := by
 go_enter Tryz.func26, Tryz.ntmps26
 go_upto_region 1 with fail
 have HB := hd' (Blk.new w 42 lkZz)
 have HM := hd' (Gou.Mod.alloc0 w (.cells lkZz 42))
 show Code.wp _ _ _ _ (w.alloc (.cells lkZz 42))
 generalize w.alloc (.cells lkZz 42) = W1 at *
 go_wp2_with (first | ((with_reducible refine sT 42 ?_); refine stA (uai Lk.plain nlS nlS nlS) (HB.o.there 0 28 (by simp [uai])) uad plain_one (h := ?_)) | fail)
 have HS := hd' (Blk.setMod W1 w.heap.size 0 (uai Lk.plain nlS nlS nlS).toList)
 have HB2 := hd' (HB.o.setAll (uai Lk.plain nlS nlS nlS) rfl)
 have HM2 := hd' (HM.o.trans HS.o (fun k hk e => by omega))
 generalize W1.setCells w.heap.size 0 (uai Lk.plain nlS nlS nlS).toList = W2 at *
 refine bpr (results_cell_row rfl _ _ (w.heap.size) 42 (uai Lk.plain nlS nlS nlS) (0, 0) _ rfl HB2.o Tryz.underlying42 rfl uad) rfl ?_
 exact ⟨rfl, HM2.o⟩
open Go.RowKit Go.Gou Go.Lib
theorem near1_any (n : Int) (w : World) : Calls Tryz.prog 80 #[iV n] w fun e w' => e = .returned (.bool (!nearB n)) ∧ ∃ q, w' = w.drewN q := by
 have Hb : Hid (nearB n = (decide (-1048576 ≤ n) && decide (n ≤ 1048576))) := hd' rfl
 go_enter Tryz.func80, Tryz.ntmps80
 rcases Int.lt_or_le n (-1048576) with h | h
 ·have e1 : decide (n < -1048576) = true := dqt h
  have e3 : decide (-1048576 ≤ n) = false := dqf (by omega)
  go_wp2
  go_ret
  exact ⟨by rw [Hb.o, e3]; rfl, 0, rfl⟩
 ·have e1 : decide (n < -1048576) = false := dqf (by omega)
  have e3 : decide (-1048576 ≤ n) = true := dqt h
  rcases Int.lt_or_le 1048576 n with h2 | h2
  ·have e2 : decide (1048576 < n) = true := dqt h2
   have e4 : decide (n ≤ 1048576) = false := dqf (by omega)
   go_wp2
   go_ret
   exact ⟨by rw [Hb.o, e3, e4]; rfl, 0, rfl⟩
  ·have e2 : decide (1048576 < n) = false := dqf (by omega)
   have e4 : decide (n ≤ 1048576) = true := dqt h2
   go_wp2
   go_ret
   exact ⟨by rw [Hb.o, e3, e4]; rfl, 0, rfl⟩
theorem ues (w : World) (b n c : Nat) (l : List Int) (hn : n = l.length) (h9 : n ≤ 100) (hc : ∀ j, j < l.length → w.cell? ⟨b, 0 + j, none⟩ = some (iV l[j]!)) :
 Calls Tryz.prog 61 #[.slice (some ⟨b, 0, none⟩) n c] w fun e w' => e = .returned (.bool (l.all nearB)) ∧ Gou.Mod (fun _ => False) w w' := by
 subst hn
 have h1 := AnyE.slices_ContainsFunc anyInt (fun n : Int => iV n) (fun n => !nearB n) 80 #[] (enters_of Tryz.func80 (by kernel_rfl) rfl) b 0 l.length c l w (fun W x _ => near1_any x W) (by omega) (by omega) hc
 rw [List.take_length] at h1
 have h2 : (l.any fun n => !nearB n) = !l.all nearB := by
  induction l with
  | nil => rfl
  | cons a l _ => simp [List.any_eq_not_all_not]
 rw [h2] at h1
 have H1 := hd' h1
 clear h1 h2 hc
 go_enter Tryz.func61, Tryz.ntmps61
 go_wp2_with fail
 refine H1.o.mono ?_
 rintro e w' ⟨rfl, q, rfl⟩
 go_wp2_with fail
 go_ret
 exact ⟨by simp, Gou.Mod.drewN _ _ _⟩
abbrev iv (xs : List Int) : List Value := xs.map (.int .i64)
structure PlAt (w : World) (N base : Nat) (v : Value) (xs : List Int) : Prop where
 cell : Cell1 w N 153 v
 own : w.ownsRow base 3 1 v xs.length (iv xs)
 apart : v.ownBlock ≠ some N
theorem ud5 : (Tryz.prog.info? 3).map (fun i => (i.zero, i.size, i.bytes)) = some (some (iV 0), 1, 8) := by kernel_rfl
theorem uf7 (p : Option Addr) (n c : Nat) (w : World) (hn : n ≤ maxLen) :
 Calls Tryz.prog 114 #[.slice p n c] w fun e w' => e = .returned (iV n) ∧ w = w' := by
 unfold maxLen at hn
 go_enter Tryz.func114, Tryz.ntmps114
 go_wp2
 go_ret
 exact ⟨rfl, rfl⟩
theorem ubt (b o n c i j : Nat) (x y : Int) (w : World) (hn : n ≤ maxLen) (hi : i < n) (hj : j < n) (hx : w.cell? ⟨b, o + i, none⟩ = some (iV x)) (hy : w.cell? ⟨b, o + j, none⟩ = some (iV y)) :
 Calls Tryz.prog 135 #[.slice (some ⟨b, o, none⟩) n c, iV i, iV j] w fun e w' => e = .returned (.bool (decide (x < y))) ∧ ∃ k, w' = w.drewN k := by
 unfold maxLen at hn
 have hi' : (i : Int) < n := by omega
 have hj' : (j : Int) < n := by omega
 have hi0 : (0 : Int) ≤ i := by omega
 have hj0 : (0 : Int) ≤ j := by omega
 go_enter Tryz.func135, Tryz.ntmps135
 go_wp2
 go_quiet (fail)
 go_wp2
 go_ret
 exact ⟨rfl, _, rfl⟩
theorem uc0 (b o n c i j : Nat) (x y : Int) (w : World) (hn : n ≤ maxLen) (hi : i < n) (hj : j < n) (hx : w.cell? ⟨b, o + i, none⟩ = some (iV x)) (hy : w.cell? ⟨b, o + j, none⟩ = some (iV y))
 (hf : ∀ k, w.frozen? ⟨b, k, none⟩ = false) :
 Calls Tryz.prog 138 #[.slice (some ⟨b, o, none⟩) n c, iV i, iV j] w fun e w' => e = .returned (.tuple #[]) ∧ w'.Alike ((w.setCell ⟨b, o + i, none⟩ (iV y)).setCell ⟨b, o + j, none⟩ (iV x)) ∧ w'.tape = w.tape := by
 unfold maxLen at hn
 have hi' : (i : Int) < n := by omega
 have hj' : (j : Int) < n := by omega
 have hi0 : (0 : Int) ≤ i := by omega
 have hj0 : (0 : Int) ≤ j := by omega
 obtain ⟨v', hy'⟩ := cell?_setCell_some (w := w) (p := ⟨b, o + i, none⟩) (x := iV y) (q := ⟨b, o + j, none⟩) (v := iV y) (by go_simp)
 go_enter Tryz.func138, Tryz.ntmps138
 go_region
 all_goals (go_end0; exact ⟨rfl, ⟨rfl, rfl, rfl⟩, rfl⟩)
theorem nil_len (F : Nat) (a : Addr) (w : World) : (nilAhead (F + 1) 152 (.pointer (some a)) "Len").run Tryz.prog w = .ok (some false) w := by kernel_rfl
theorem uix (F : Nat) (a : Addr) (w : World) : (nilAhead (F + 1) 152 (.pointer (some a)) "Less").run Tryz.prog w = .ok (some false) w := by kernel_rfl
theorem uf5 (F : Nat) (a : Addr) (w : World) : (nilAhead (F + 1) 152 (.pointer (some a)) "Swap").run Tryz.prog w = .ok (some false) w := by kernel_rfl
theorem nil_push (F : Nat) (a : Addr) (w : World) : (nilAhead (F + 1) 152 (.pointer (some a)) "Push").run Tryz.prog w = .ok (some false) w := by kernel_rfl
theorem nil_pop (F : Nat) (a : Addr) (w : World) : (nilAhead (F + 1) 152 (.pointer (some a)) "Pop").run Tryz.prog w = .ok (some false) w := by kernel_rfl
theorem meth_push (F : Nat) (a : Addr) (w : World) : (method (F + 1) 152 (.pointer (some a)) "Push").run Tryz.prog w = .ok (137, .pointer (some a)) w := by kernel_rfl
theorem meth_pop (F : Nat) (a : Addr) (w : World) : (method (F + 1) 152 (.pointer (some a)) "Pop").run Tryz.prog w = .ok (136, .pointer (some a)) w := by kernel_rfl
theorem meth_len0 (F : Nat) (a : Addr) (w : World) : (method (F + 1) 152 (.pointer (some a)) "Len").run Tryz.prog w = ((loadVar 153 a).bind fun v => pure (114, v)).run Tryz.prog w := by kernel_rfl
theorem ujp (F : Nat) (a : Addr) (w : World) : (method (F + 1) 152 (.pointer (some a)) "Less").run Tryz.prog w = ((loadVar 153 a).bind fun v => pure (135, v)).run Tryz.prog w := by kernel_rfl
theorem ujo (F : Nat) (a : Addr) (w : World) : (method (F + 1) 152 (.pointer (some a)) "Swap").run Tryz.prog w = ((loadVar 153 a).bind fun v => pure (138, v)).run Tryz.prog w := by kernel_rfl
theorem ucu (N : Nat) (v : Value) (w : World) (f : FuncId) (h : w.cell? ⟨N, 0, none⟩ = some v) : ((loadVar 153 ⟨N, 0, none⟩).bind fun v => pure (f, v)).run Tryz.prog w = .ok (f, v) w := by
 have e : ((loadVar 153 ⟨N, 0, none⟩).bind fun v => pure (f, v)).run Tryz.prog w = ((Sem.load .plain ⟨N, 0, none⟩ fun v => .pure v).bind fun v => pure (f, v)).run Tryz.prog w := by kernel_rfl
 rw [e]
 simp [Sem.bind, Sem.run, h, pure]
theorem uiy {N : Nat} {v : Value} {w : World} (h : w.cell? ⟨N, 0, none⟩ = some v) (F : Nat) : (method (F + 1) 152 (.pointer (some ⟨N, 0, none⟩)) "Len").run Tryz.prog w = .ok (114, v) w := by rw [meth_len0, ucu _ _ _ _ h]
theorem uev {N : Nat} {v : Value} {w : World} (h : w.cell? ⟨N, 0, none⟩ = some v) (F : Nat) : (method (F + 1) 152 (.pointer (some ⟨N, 0, none⟩)) "Less").run Tryz.prog w = .ok (135, v) w := by rw [ujp, ucu _ _ _ _ h]
theorem ueu {N : Nat} {v : Value} {w : World} (h : w.cell? ⟨N, 0, none⟩ = some v) (F : Nat) : (method (F + 1) 152 (.pointer (some ⟨N, 0, none⟩)) "Swap").run Tryz.prog w = .ok (138, v) w := by rw [ujo, ucu _ _ _ _ h]
def Own2 (N : Nat) (v : Value) : Nat → Prop := fun k => k = N ∨ v.ownBlock = some k
def Lies (w : World) (v v' : Value) : Prop := v'.ownBlock = v.ownBlock ∨ ∃ g, v'.ownBlock = some g ∧ w.heap.size ≤ g
theorem ufv (x : Int) (w : World) : (Instr.typeAssert (.iface 3 (iV x)) 20 3 false).run Tryz.prog w = .ok (iV x) w := by kernel_rfl
def ui7 (w : World) (N base : Nat) (v : Value) (ys : List Int) (e : Ending) (w' : World) : Prop :=
 ∃ v', e = .returned (.tuple #[]) ∧ PlAt w' N base v' ys ∧ Mod (Own2 N v) w w' ∧ Lies w v v'
theorem push_post {w w1 : World} {N base g cap : Nat} {v : Value} {xs : List Int} {x : Int} (h : PlAt w N base v xs) (o : Obj)
 (hown1 : w1.ownsRow base 3 1 (.slice (some ⟨g, 0, none⟩) (xs.length + 1) cap) (xs.length + 1) (iv xs ++ [iV x])) (hgrow : (w.alloc o).drew.grownBy w1 v.ownBlock)
 (hat : v.ownBlock = some g ∨ g = w.heap.size + 1) : ui7 w N base v (xs ++ [x]) (.returned (.tuple #[])) (w1.setCell ⟨N, 0, none⟩ (.slice (some ⟨g, 0, none⟩) (xs.length + 1) cap)) := by
 have hN := h.cell.lt
 have hg : g ≠ N := by
  rcases hat with hat | rfl
  ·intro e
   exact h.apart (e ▸ hat)
  ·omega
 have m1 : Mod (Own2 N v) w w1 := by
  refine ((Mod.alloc _ w o).trans (Mod.drew (fun _ => False) _) (fun _ _ h => h.elim)).trans (Mod.of_grown hgrow) fun i _ hi => .inr hi
 have c1 : Cell1 w1 N 153 v := by
  exact ((h.cell.mod (Mod.alloc (fun _ => False) w o) (fun h => h)).mod (Mod.drew (fun _ => False) _) (fun h => h)).mod (Mod.of_grown hgrow) fun e => h.apart e
 refine ⟨_, rfl, ⟨c1.set _, ?_, ?_⟩, m1.trans (Mod.setCell _ _ _) fun i _ hi => .inl hi, ?_⟩
 ·have := uac hown1 (Mod.setCell w1 ⟨N, 0, none⟩ (.slice (some ⟨g, 0, none⟩) (xs.length + 1) cap)) (fun k hk => by
   simp [Value.ownBlock] at hk
   subst hk
   exact hg)
  simpa [iv] using this
 ·simp [Value.ownBlock]
  exact hg
 ·rcases hat with hat | rfl
  ·exact .inl (by rw [hat]; rfl)
  ·exact .inr ⟨w.heap.size + 1, rfl, by omega⟩
theorem push_any (w : World) (N base : Nat) (v : Value) (xs : List Int) (x : Int) (h : PlAt w N base v xs) (hn : xs.length ≤ 100000) (hbase : base ≤ w.heap.size) :
 Calls Tryz.prog 137 #[.pointer (some ⟨N, 0, none⟩), .iface 3 (iV x)] w (ui7 w N base v (xs ++ [x])) := by
 obtain ⟨i0, hi0, hz0, hz1, hz2⟩ := info_parts ud5
 have hc := h.cell.cell
 have hN := h.cell.lt
 have hP := fun (w1 : World) (g cap : Nat) (o : Obj) => push_post (w1 := w1) (g := g) (cap := cap) (x := x) h o
 have HP := hd' hP
 clear hP
 have hh := hd' h
 have hown := h.own
 have hap := hd' h.apart
 clear h
 go_enter Tryz.func137, Tryz.ntmps137
 have hfz := hh.out.cell.frozen
 have has := ufv
 have hst := fun (w1 : World) (o : Obj) (hgrow : (w.alloc o).drew.grownBy w1 v.ownBlock) => And.intro (hgrow.cell (a := ⟨N, 0, none⟩) (v := v) (by go_simp) (fun e => hap.out e.symm)) ((hgrow.frozen_far ⟨N, 0, none⟩ (by simp only [World.size_drew, World.size_alloc]; omega) (fun e => hap.out e.symm)).trans (by rw [World.frozen?_drew, World.frozen?_alloc_old (h := Nat.ne_of_lt hN)]))
 have Hst := hd' hst
 clear hst
 go_region_law
     ((refine step_append_lies _ (by rfl) _ _ _ (by rfl) base 3 i0 _ 1 8 Tryz.underlying153 hi0 hz0 hz1 hz2 rfl (by omega) v xs.length (iv xs) (by rfl) ((hown.alloc _).drew)
         ⟨w.heap.size, 0, none⟩ 1 1 [iV x] (by rfl) (by rfl) (World.news_of_block (cs := #[iV x]) (t := 3) (fr := (0, 0)) (heap_alloc_new w _)) (by simp [Value.oneCell'])
         (by omega) (by unfold maxLen; omega) (by omega) (by simp; omega) (w.heap.size + 1) (by simp) ?_; intro g cap w1 hown1 hgrow hat hlt; obtain ⟨hc1, hf1⟩ := Hst.o _ _ hgrow))
 all_goals
     go_end0
     exact HP.o _ _ _ _ hown1 hgrow hat
theorem swap_perm (xs : List Int) (i j : Nat) (hi : i < xs.length) (hj : j < xs.length) : ((xs.set i (xs.getD j 0)).set j (xs.getD i 0)).Perm xs := by
 have ei : xs.getD i 0 = xs[i] := by simp [List.getD, hi]
 have ej : xs.getD j 0 = xs[j] := by simp [List.getD, hj]
 rw [ei, ej]
 rw [List.perm_iff_count]
 intro a
 rw [List.count_set (by simpa using hj), List.count_set hi]
 by_cases e : i = j
 ·subst e
  simp
  have : xs[i] = a → 0 < xs.count a := fun h => List.count_pos_iff.2 (h ▸ lgM hi)
  split <;> simp_all <;> omega
 ·rw [List.getElem_set_ne e]
  have h1 : xs[i] = a → 0 < xs.count a := fun h => List.count_pos_iff.2 (h ▸ lgM hi)
  have h2 : xs[j] = a → 0 < xs.count a := fun h => List.count_pos_iff.2 (h ▸ lgM hj)
  by_cases ha : xs[i] = a <;> by_cases hb : xs[j] = a <;> simp [ha, hb] <;> first | (have := h1 ha; omega) | (have := h2 hb; omega) | omega
def UpPost (w : World) (N base : Nat) (v : Value) (xs : List Int) (w' : World) : Prop :=
 ∃ ys : List Int, ys.Perm xs ∧ PlAt w' N base v ys ∧ Mod (fun k => v.ownBlock = some k) w w'
theorem iv_set (xs : List Int) (i : Nat) (x : Int) : iv (xs.set i x) = (iv xs).set i (iV x) := by simp [iv, List.map_set]
theorem uh3 {w w' : World} {N base g cap : Nat} {xs : List Int} (h : PlAt w N base (.slice (some ⟨g, 0, none⟩) xs.length cap) xs) (i j : Nat) (hi : i < xs.length) (hj : j < xs.length)
 (ha : w'.Alike ((w.setCell ⟨g, i, none⟩ (iV (xs.getD j 0))).setCell ⟨g, j, none⟩ (iV (xs.getD i 0)))) (ht : w'.tape = w.tape) :
 UpPost w N base (.slice (some ⟨g, 0, none⟩) xs.length cap) xs w' := by
 have hg : g ≠ N := fun e => h.apart (by rw [e]; rfl)
 obtain ⟨s1, _⟩ := h.own.stored i (iV (xs.getD j 0))
 obtain ⟨s2, _⟩ := s1.stored j (iV (xs.getD i 0))
 have hm : Mod (fun k => (Value.slice (some ⟨g, 0, none⟩) xs.length cap).ownBlock = some k) w ((w.setCell ⟨g, i, none⟩ (iV (xs.getD j 0))).setCell ⟨g, j, none⟩ (iV (xs.getD i 0))) :=
  ((Mod.setCell w ⟨g, i, none⟩ _).imp (fun k _ hk => by subst hk; rfl)).trans (Mod.setCell _ _ _) (fun k _ hk => by subst hk; rfl)
 have hal : Mod (fun _ => False) ((w.setCell ⟨g, i, none⟩ (iV (xs.getD j 0))).setCell ⟨g, j, none⟩ (iV (xs.getD i 0))) w' := by
  exact Mod.of_alike ha ht
 refine ⟨_, swap_perm xs i j hi hj, ⟨?_, ?_, h.apart⟩, hm.trans hal fun _ _ h => h.elim⟩
 ·exact (h.cell.mod hm (fun e => h.apart e)).mod hal (fun h => h)
 ·have := uac s2 hal (fun _ _ h => h)
  simpa [iv_set] using this
theorem PlAt.drewN {w : World} {N base : Nat} {v : Value} {xs : List Int} (h : PlAt w N base v xs) (k : Nat) : PlAt (w.drewN k) N base v xs :=
 ⟨h.cell.mod (Mod.drewN (fun _ => False) w k) (fun h => h), uac h.own (Mod.drewN (fun _ => False) w k) (fun _ _ h => h), h.apart⟩
theorem UpPost.trans {w w1 w2 : World} {N base : Nat} {v : Value} {xs ys : List Int} (h1 : UpPost w N base v xs w1) (h2 : UpPost w1 N base v ys w2) (hp : ys.Perm xs) : UpPost w N base v xs w2 := by
 obtain ⟨_, _, _, hm1⟩ := h1
 obtain ⟨zs, hp2, hpl2, hm2⟩ := h2
 exact ⟨zs, hp2.trans hp, hpl2, hm1.trans' hm2⟩
theorem UpPost.drewN {w w' : World} {N base : Nat} {v : Value} {xs : List Int} (h : UpPost w N base v xs w') (k : Nat) : UpPost w N base v xs (w'.drewN k) := by
 obtain ⟨ys, hp, hpl, hm⟩ := h
 exact ⟨ys, hp, hpl.drewN k, hm.trans (Mod.drewN (fun _ => False) w' k) fun _ _ h => h.elim⟩
theorem up_any (w : World) (N base : Nat) (v : Value) (xs : List Int) (j : Nat) (h : PlAt w N base v xs) (hj : j < xs.length) (hn : xs.length ≤ 100000) :
 Calls Tryz.prog 117 #[.iface 152 (.pointer (some ⟨N, 0, none⟩)), iV j] w fun e w' => e = .returned (.tuple #[]) ∧ UpPost w N base v xs w' := by
 have hn0 : 0 < xs.length := by omega
 obtain ⟨g, cap, rfl, hbg, hgw⟩ := h.own.form hn0
 have hh := hd' h
 clear h
 go_enter Tryz.func117, Tryz.ntmps117
 go_wp2
 go_loopw [1] (fun jv wr => ∃ j' : Nat, jv = iV j' ∧ j' < xs.length ∧ UpPost w N base (.slice (some ⟨g, 0, none⟩) xs.length cap) xs wr) (fun jv _ => (intOf jv).toNat)
 case atStart => exact ⟨j, rfl, hj, xs, List.Perm.refl _, hh.out, Mod.refl _ _⟩
 case round =>
  obtain ⟨j', rfl, hj', ys, hp, hpl, hmod⟩ := hrel
  have hlen : ys.length = xs.length := hp.length_eq
  have Hpl := hd' hpl
  have hc := hpl.cell.cell
  have hmet := uev hc
  have hmes := fun (k F : Nat) => ueu (w := wr.drewN k) (N := N) (v := .slice (some ⟨g, 0, none⟩) xs.length cap) hc F
  have hnl := uix
  have hns := uf5
  clear hpl
  have hup : UpPost w N base (.slice (some ⟨g, 0, none⟩) xs.length cap) xs wr := ⟨ys, hp, Hpl.o, hmod⟩
  have Hup := hd' hup
  clear hup
  by_cases h0 : j' = 0
  ·subst h0
   go_wp2_with fail
   go_end0
   exact ⟨rfl, Hup.o⟩
  ·obtain ⟨i, hi, hij⟩ : ∃ i : Nat, ((j' : Int) - 1) / 2 = i ∧ i < j' := ⟨(j' - 1) / 2, by omega, by omega⟩
   have hne : ((i : Int) == (j' : Int)) = false := by simp; omega
   have hown : wr.ownsRow base 3 1 (.slice (some ⟨g, 0, none⟩) xs.length cap) xs.length (iv ys) := by have := Hpl.o.own; rwa [hlen] at this
   have ci := hown.cellAt i (by omega)
   have cj := hown.cellAt j' (by omega)
   have ei : (iv ys)[i]? = some (iV (ys.getD i 0)) := by simp [iv, List.getD, show i < ys.length by omega]
   have ej : (iv ys)[j']? = some (iV (ys.getD j' 0)) := by simp [iv, List.getD, show j' < ys.length by omega]
   rw [ei] at ci
   rw [ej] at cj
   clear ei ej
   have hsw := fun (k : Nat) (w' : World) (ha : w'.Alike (((wr.drewN k).setCell ⟨g, i, none⟩ (iV (ys.getD j' 0))).setCell ⟨g, j', none⟩ (iV (ys.getD i 0)))) (ht : w'.tape = (wr.drewN k).tape) =>
    uh3 (w := wr.drewN k) (xs := ys) (g := g) (cap := cap) (by rw [hlen]; exact Hpl.o.drewN k) i j' (by omega) (by omega) ha ht
   have Hsw := hd' hsw
   clear hsw
   generalize ys.getD i 0 = x at *
   generalize ys.getD j' 0 = y at *
   have hmax : xs.length ≤ maxLen := by unfold maxLen; omega
   have hfr : ∀ k, wr.frozen? ⟨g, k, none⟩ = false := fun k => hown.frozenAt k
   cases hlt : decide (y < x) with
   | false =>
    go_wp2_with fail
    refine (ubt g 0 xs.length cap j' i y x wr hmax (by omega) (by omega) (by rw [Nat.zero_add]; exact cj) (by rw [Nat.zero_add]; exact ci)).mono ?_
    rintro e w1 ⟨rfl, k, rfl⟩
    rw [hlt]
    go_wp2_with fail
    go_end0
    exact ⟨rfl, Hup.o.drewN k⟩
   | true =>
    go_wp2_with fail
    refine (ubt g 0 xs.length cap j' i y x wr hmax (by omega) (by omega) (by rw [Nat.zero_add]; exact cj) (by rw [Nat.zero_add]; exact ci)).mono ?_
    rintro e w1 ⟨rfl, k, rfl⟩
    rw [hlt]
    go_wp2_with fail
    refine (uc0 g 0 xs.length cap i j' x y (wr.drewN k) hmax (by omega) (by omega) (by rw [Nat.zero_add]; exact ci) (by rw [Nat.zero_add]; exact cj) hfr).mono ?_
    rintro e w2 ⟨rfl, ha, ht⟩
    simp only [Nat.zero_add] at ha
    have h2 := Hsw.o _ _ ha ht
    go_wp2_with fail
    go_roundw
    case rel => exact ⟨i, rfl, by omega, UpPost.trans (Hup.o.drewN k) (by rw [hlen] at h2; exact h2) hp⟩
    case measure => simp [intOf]; omega
theorem drewN_drewN (w : World) (a b : Nat) : (w.drewN a).drewN b = w.drewN (a + b) := by
 simp [World.drewN, Nat.add_assoc]
def DownPost (w : World) (N base : Nat) (v : Value) (xs : List Int) (e : Ending) (w' : World) : Prop := ∃ b : Bool, e = .returned (.bool b) ∧ UpPost w N base v xs w'
theorem uiu {w w' : World} {N base g cap n : Nat} {xs ys : List Int} (hlen : ys.length = xs.length) (h : PlAt w N base (.slice (some ⟨g, 0, none⟩) xs.length cap) ys) (k i j : Nat) (hi : i < ys.length) (hj : j < ys.length)
 (ha : w'.Alike (((w.drewN k).setCell ⟨g, i, none⟩ (iV (ys.getD j 0))).setCell ⟨g, j, none⟩ (iV (ys.getD i 0)))) (ht : w'.tape = (w.drewN k).tape) :
 UpPost (w.drewN k) N base (.slice (some ⟨g, 0, none⟩) ys.length cap) ys w' :=
 uh3 (w := w.drewN k) (xs := ys) (g := g) (cap := cap) (by rw [hlen]; exact h.drewN k) i j hi hj ha ht
theorem down_any (w : World) (N base : Nat) (v : Value) (xs : List Int) (n : Nat) (h : PlAt w N base v xs) (hnx : n ≤ xs.length) (hx0 : 0 < xs.length) (hn : xs.length ≤ 100000) :
 Calls Tryz.prog 118 #[.iface 152 (.pointer (some ⟨N, 0, none⟩)), iV 0, iV n] w (DownPost w N base v xs) := by
 obtain ⟨g, cap, rfl, hbg, hgw⟩ := h.own.form hx0
 have hh := hd' h
 clear h
 go_enter Tryz.func118, Tryz.ntmps118
 go_wp2
 go_loopw [7] (fun iv wr => ∃ i : Nat, iv = iV i ∧ i < xs.length ∧ UpPost w N base (.slice (some ⟨g, 0, none⟩) xs.length cap) xs wr) (fun iv _ => xs.length - (intOf iv).toNat)
 case atStart => exact ⟨0, rfl, hx0, xs, List.Perm.refl _, hh.out, Mod.refl _ _⟩
 case round =>
  obtain ⟨i, rfl, hix, ys, hp, hpl, hmod⟩ := hrel
  have hlen : ys.length = xs.length := hp.length_eq
  have Hpl := hd' hpl
  have hc := hpl.cell.cell
  have hmet := fun (F : Nat) => uev (w := wr) (N := N) (v := .slice (some ⟨g, 0, none⟩) xs.length cap) hc F
  have hmetk := fun (k F : Nat) => uev (w := wr.drewN k) (N := N) (v := .slice (some ⟨g, 0, none⟩) xs.length cap) hc F
  have hmes := fun (k F : Nat) => ueu (w := wr.drewN k) (N := N) (v := .slice (some ⟨g, 0, none⟩) xs.length cap) hc F
  have hnl := uix
  have hns := uf5
  clear hpl
  have hup : UpPost w N base (.slice (some ⟨g, 0, none⟩) xs.length cap) xs wr := ⟨ys, hp, Hpl.o, hmod⟩
  have Hup := hd' hup
  clear hup
  by_cases hb : n ≤ 2 * i + 1
  ·go_wp2_with fail
   go_ret
   exact ⟨_, rfl, Hup.o⟩
  ·have hj1 : 2 * i + 1 < n := by omega
   clear hb
   have hown : wr.ownsRow base 3 1 (.slice (some ⟨g, 0, none⟩) xs.length cap) xs.length (iv ys) := by have := Hpl.o.own; rwa [hlen] at this
   have ci := hown.cellAt i (by omega)
   have c1 := hown.cellAt (2 * i + 1) (by omega)
   have ei : (iv ys)[i]? = some (iV (ys.getD i 0)) := by simp [iv, List.getD, show i < ys.length by omega]
   have e1 : (iv ys)[2 * i + 1]? = some (iV (ys.getD (2 * i + 1) 0)) := by simp [iv, List.getD, show 2 * i + 1 < ys.length by omega]
   rw [ei] at ci
   rw [e1] at c1
   clear ei e1
   have hsw1 := fun (k : Nat) (w' : World) ha ht => uiu (w := wr) (w' := w') (n := n) hlen Hpl.o k i (2 * i + 1) (by omega) (by omega) ha ht
   have Hsw1 := hd' hsw1
   clear hsw1
   have hmax : xs.length ≤ maxLen := by unfold maxLen; omega
   have hfr : ∀ k, wr.frozen? ⟨g, k, none⟩ = false := fun k => hown.frozenAt k
   obtain ⟨j1, hj1e⟩ : ∃ j1 : Nat, j1 = 2 * i + 1 := ⟨_, rfl⟩
   have hji : (2 * (i : Int) + 1) = (j1 : Int) := by omega
   have hjn : ¬ ((n : Int) ≤ (j1 : Int)) := by omega
   have hjp : ¬ ((j1 : Int) < 0) := by omega
   have hjb : i < j1 ∧ j1 < n := by omega
   obtain ⟨j2, hj2e, hj2b⟩ : ∃ j2 : Nat, ((j1 : Int) + 1) = j2 ∧ j2 = j1 + 1 := ⟨j1 + 1, by omega, rfl⟩
   rw [← hj1e] at c1 Hsw1
   have Hj1e := hd' hj1e
   clear hj1e hj1
   obtain ⟨hb1, hb2⟩ := hjb
   by_cases h2 : j2 < n
   ·have c2 := hown.cellAt j2 (by omega)
    have e2 : (iv ys)[j2]? = some (iV (ys.getD j2 0)) := by simp [iv, List.getD, show j2 < ys.length by omega]
    rw [e2] at c2
    clear e2
    have hsw2 := fun (k : Nat) (w' : World) ha ht => uiu (w := wr) (w' := w') (n := n) hlen Hpl.o k i j2 (by omega) (by omega) ha ht
    have Hsw2 := hd' hsw2
    clear hsw2
    have hb3 : i < j2 := by omega
    have Hj2b := hd' hj2b
    clear hj2b
    generalize ys.getD i 0 = x at *
    generalize ys.getD j1 0 = y at *
    generalize ys.getD j2 0 = z at *
    cases hlt : decide (z < y) with
    | true =>
     go_wp2_with fail
     refine (ubt g 0 xs.length cap j2 j1 z y wr hmax (by omega) (by omega) (by rw [Nat.zero_add]; exact c2) (by rw [Nat.zero_add]; exact c1)).mono ?_
     rintro e w1 ⟨rfl, k1, rfl⟩
     rw [hlt]
     clear hlt
     have hjl : j2 < n := by omega
     have hij : i < j2 := by omega
     cases hlt2 : decide (z < x) with
     | false =>
      go_wp2_with fail
      refine (ubt g 0 xs.length cap j2 i z x (wr.drewN k1) hmax (by omega) (by omega) (by rw [Nat.zero_add]; exact c2) (by rw [Nat.zero_add]; exact ci)).mono ?_
      rintro e w1 ⟨rfl, k2, rfl⟩
      rw [hlt2]
      try rw [drewN_drewN]
      go_wp2_with fail
      go_ret
      exact ⟨_, rfl, (Hup.o.drewN (k1 + k2))⟩
     | true =>
      go_wp2_with fail
      refine (ubt g 0 xs.length cap j2 i z x (wr.drewN k1) hmax (by omega) (by omega) (by rw [Nat.zero_add]; exact c2) (by rw [Nat.zero_add]; exact ci)).mono ?_
      rintro e w1 ⟨rfl, k2, rfl⟩
      rw [hlt2]
      try rw [drewN_drewN]
      go_wp2_with fail
      refine (uc0 g 0 xs.length cap i j2 x z (wr.drewN (k1 + k2)) hmax (by omega) (by omega) (by rw [Nat.zero_add]; exact ci) (by rw [Nat.zero_add]; exact c2) hfr).mono ?_
      rintro e w2 ⟨rfl, ha, ht⟩
      simp only [Nat.zero_add] at ha
      have h2 := Hsw2.o _ _ ha ht
      go_wp2_with fail
      go_roundw
      case rel => exact ⟨j2, by first | rfl | (congr 1; omega) | (push_cast; rfl), by omega, UpPost.trans ((Hup.o.drewN (k1 + k2))) (by rw [hlen] at h2; exact h2) hp⟩
      case measure => simp [intOf]; omega
    | false =>
     go_wp2_with fail
     refine (ubt g 0 xs.length cap j2 j1 z y wr hmax (by omega) (by omega) (by rw [Nat.zero_add]; exact c2) (by rw [Nat.zero_add]; exact c1)).mono ?_
     rintro e w1 ⟨rfl, k1, rfl⟩
     rw [hlt]
     clear hlt
     have hjl : j1 < n := by omega
     have hij : i < j1 := by omega
     cases hlt2 : decide (y < x) with
     | false =>
      go_wp2_with fail
      refine (ubt g 0 xs.length cap j1 i y x (wr.drewN k1) hmax (by omega) (by omega) (by rw [Nat.zero_add]; exact c1) (by rw [Nat.zero_add]; exact ci)).mono ?_
      rintro e w1 ⟨rfl, k2, rfl⟩
      rw [hlt2]
      try rw [drewN_drewN]
      go_wp2_with fail
      go_ret
      exact ⟨_, rfl, (Hup.o.drewN (k1 + k2))⟩
     | true =>
      go_wp2_with fail
      refine (ubt g 0 xs.length cap j1 i y x (wr.drewN k1) hmax (by omega) (by omega) (by rw [Nat.zero_add]; exact c1) (by rw [Nat.zero_add]; exact ci)).mono ?_
      rintro e w1 ⟨rfl, k2, rfl⟩
      rw [hlt2]
      try rw [drewN_drewN]
      go_wp2_with fail
      refine (uc0 g 0 xs.length cap i j1 x y (wr.drewN (k1 + k2)) hmax (by omega) (by omega) (by rw [Nat.zero_add]; exact ci) (by rw [Nat.zero_add]; exact c1) hfr).mono ?_
      rintro e w2 ⟨rfl, ha, ht⟩
      simp only [Nat.zero_add] at ha
      have h2 := Hsw1.o _ _ ha ht
      go_wp2_with fail
      go_roundw
      case rel => exact ⟨j1, by first | rfl | (congr 1; omega) | (push_cast; rfl), by omega, UpPost.trans ((Hup.o.drewN (k1 + k2))) (by rw [hlen] at h2; exact h2) hp⟩
      case measure => simp [intOf]; omega
   ·have Hj2b := hd' hj2b
    clear hj2b
    generalize ys.getD i 0 = x at *
    generalize ys.getD j1 0 = y at *
    have hjl : j1 < n := by omega
    have hij : i < j1 := by omega
    cases hlt2 : decide (y < x) with
    | false =>
     go_wp2_with fail
     refine (ubt g 0 xs.length cap j1 i y x (wr) hmax (by omega) (by omega) (by rw [Nat.zero_add]; exact c1) (by rw [Nat.zero_add]; exact ci)).mono ?_
     rintro e w1 ⟨rfl, k2, rfl⟩
     rw [hlt2]
     try rw [drewN_drewN]
     go_wp2_with fail
     go_ret
     exact ⟨_, rfl, (Hup.o.drewN k2)⟩
    | true =>
     go_wp2_with fail
     refine (ubt g 0 xs.length cap j1 i y x (wr) hmax (by omega) (by omega) (by rw [Nat.zero_add]; exact c1) (by rw [Nat.zero_add]; exact ci)).mono ?_
     rintro e w1 ⟨rfl, k2, rfl⟩
     rw [hlt2]
     try rw [drewN_drewN]
     go_wp2_with fail
     refine (uc0 g 0 xs.length cap i j1 x y (wr.drewN k2) hmax (by omega) (by omega) (by rw [Nat.zero_add]; exact ci) (by rw [Nat.zero_add]; exact c1) hfr).mono ?_
     rintro e w2 ⟨rfl, ha, ht⟩
     simp only [Nat.zero_add] at ha
     have h2 := Hsw1.o _ _ ha ht
     go_wp2_with fail
     go_roundw
     case rel => exact ⟨j1, by first | rfl | (congr 1; omega) | (push_cast; rfl), by omega, UpPost.trans ((Hup.o.drewN k2)) (by rw [hlen] at h2; exact h2) hp⟩
     case measure => simp [intOf]; omega
def ufc (w : World) (N base : Nat) (v : Value) (x : Int) (xs : List Int) (e : Ending) (w' : World) : Prop :=
 ∃ v' ys, e = .returned (.tuple #[]) ∧ ys.Perm (x :: xs) ∧ PlAt w' N base v' ys ∧ Mod (Own2 N v) w w' ∧ Lies w v v'
theorem ug6 (w : World) (N base : Nat) (v : Value) (xs : List Int) (x : Int) (h : PlAt w N base v xs) (hn : xs.length ≤ 90000) (hbase : base ≤ w.heap.size) :
 Calls Tryz.prog 112 #[.iface 152 (.pointer (some ⟨N, 0, none⟩)), .iface 3 (iV x)] w (ufc w N base v x xs) := by
 have hnp := nil_push
 have hmp := meth_push
 have hnl := nil_len
 go_enter Tryz.func112, Tryz.ntmps112
 go_wp2_with fail
 refine (push_any w N base v xs x h (by omega) hbase).mono ?_
 rintro e w1 ⟨v1, rfl, hpl, hmod, hlies⟩
 have hc1 := hpl.cell.cell
 have hml := fun (F : Nat) => uiy hc1 F
 obtain ⟨g, cap, rfl, _, _⟩ := hpl.own.form (by simp)
 have hln : (xs ++ [x]).length = xs.length + 1 := by simp
 have hmax : (xs ++ [x]).length ≤ maxLen := by unfold maxLen; simp; omega
 rw [hln] at hml hc1
 have Hpl := hd' hpl
 clear hpl
 clear hln
 go_wp2_with fail
 refine (uf7 (some ⟨g, 0, none⟩) (xs.length + 1) cap w1 (by simpa using hmax)).mono ?_
 rintro e w2 ⟨rfl, rfl⟩
 go_wp2_with fail
 have hu := up_any w1 N base _ (xs ++ [x]) xs.length Hpl.o (by simp) (by simp; omega)
 refine hu.mono ?_
 rintro e w2 ⟨rfl, ys, hp, hpl2, hm2⟩
 have hpp : ys.Perm (x :: xs) := hp.trans (List.perm_append_singleton _ _)
 have hfin : ufc w N base v x xs (.returned (.tuple #[])) w2 := by
  refine ⟨_, ys, rfl, hpp, hpl2, hmod.trans hm2 ?_, hlies⟩
  intro k hk hown
  rcases hlies with hl | ⟨g', hl, hge⟩
  ·exact .inr (hl ▸ hown)
  ·rw [hl] at hown
   obtain rfl := Option.some.inj hown
   omega
 have Hfin := hd' hfin
 clear hfin
 go_wp2_with fail
 go_end0
 exact Hfin.o
def PopPost (w : World) (N base : Nat) (v : Value) (x : Int) (ys : List Int) (e : Ending) (w' : World) : Prop :=
 ∃ v', e = .returned (.iface 3 (iV x)) ∧ PlAt w' N base v' ys ∧ Mod (fun k => k = N) w w' ∧ v'.ownBlock = v.ownBlock
theorem pop_any (w : World) (N base : Nat) (v : Value) (ys : List Int) (x : Int) (h : PlAt w N base v (ys ++ [x])) (hn : ys.length ≤ 90000) :
 Calls Tryz.prog 136 #[.pointer (some ⟨N, 0, none⟩)] w (PopPost w N base v x ys) := by
 obtain ⟨g, cap, rfl, hbg, hgw⟩ := h.own.form (by simp)
 have hc := h.cell.cell
 have hf := h.cell.frozen
 have hlen : (ys ++ [x]).length = ys.length + 1 := by simp
 have hcap : ys.length ≤ cap := by have := uh5 h.own; omega
 have hcx := h.own.cellAt ys.length (by simp)
 have hex : (iv (ys ++ [x]))[ys.length]? = some (iV x) := by simp [iv]
 rw [hex] at hcx
 clear hex
 have Hh := hd' h
 clear h
 have Hlen := hd' hlen
 rw [hlen] at hc
 clear hlen
 go_enter Tryz.func136, Tryz.ntmps136
 go_wp2_with fail
 go_ret
 rw [Hlen.o]
 have hpl := Hh.o
 rw [Hlen.o] at hpl
 refine ⟨_, rfl, ⟨hpl.cell.set _, ?_, ?_⟩, Mod.setCell w ⟨N, 0, none⟩ _, rfl⟩
 ·have hg : g ≠ N := fun e => hpl.apart (by rw [e]; rfl)
  have hown := ownsRow_pop (n := ys.length) (size := 1) (xs := iv ys) (last := [iV x]) (by simp [iv]) (by simpa [iv] using hpl.own)
  exact uac hown (Mod.setCell w ⟨N, 0, none⟩ _) (fun k hk => by
   simp [Value.ownBlock] at hk
   subst hk
   exact hg)
 ·exact hpl.apart
def ugl (w : World) (N base : Nat) (v : Value) (xs : List Int) (e : Ending) (w' : World) : Prop :=
 ∃ v' x ys, e = .returned (.iface 3 (iV x)) ∧ xs.Perm (x :: ys) ∧ PlAt w' N base v' ys ∧ Mod (Own2 N v) w w' ∧ v'.ownBlock = v.ownBlock
theorem heap_pop (w : World) (N base : Nat) (v : Value) (xs : List Int) (h : PlAt w N base v xs) (hn : xs.length ≤ 90000) (h0 : 0 < xs.length) :
 Calls Tryz.prog 115 #[.iface 152 (.pointer (some ⟨N, 0, none⟩))] w (ugl w N base v xs) := by
 obtain ⟨g, cap, rfl, hbg, hgw⟩ := h.own.form h0
 have hc := h.cell.cell
 have hnl := nil_len
 have hns := uf5
 have hnp := nil_pop
 have hmp := meth_pop
 have hml := fun (F : Nat) => uiy (w := w) (N := N) (v := .slice (some ⟨g, 0, none⟩) xs.length cap) hc F
 have hms := fun (F : Nat) => ueu (w := w) (N := N) (v := .slice (some ⟨g, 0, none⟩) xs.length cap) hc F
 have c0 := h.own.cellAt 0 (by omega)
 have c1 := h.own.cellAt (xs.length - 1) (by omega)
 have e0 : (iv xs)[0]? = some (iV (xs.getD 0 0)) := by simp [iv, List.getD, h0]
 have e1 : (iv xs)[xs.length - 1]? = some (iV (xs.getD (xs.length - 1) 0)) := by simp [iv, List.getD, show xs.length - 1 < xs.length by omega]
 rw [e0] at c0
 rw [e1] at c1
 clear e0 e1
 obtain ⟨m, hm, hmn⟩ : ∃ m : Nat, ((xs.length : Int) - 1) = m ∧ m = xs.length - 1 := ⟨xs.length - 1, by omega, rfl⟩
 rw [← hmn] at c1
 have Hmn := hd' hmn
 clear hmn
 have hmax : xs.length ≤ maxLen := by unfold maxLen; omega
 have hfr : ∀ k, w.frozen? ⟨g, k, none⟩ = false := fun k => h.own.frozenAt k
 have Hh := hd' h
 clear h
 have hmlt : m < xs.length := by have := Hmn.o; omega
 go_enter Tryz.func115, Tryz.ntmps115
 go_wp2_with fail
 refine (uf7 (some ⟨g, 0, none⟩) xs.length cap w hmax).mono ?_
 rintro e w1 ⟨rfl, rfl⟩
 go_wp2_with fail
 refine (uc0 g 0 xs.length cap 0 m (xs.getD 0 0) (xs.getD m 0) w hmax h0 hmlt (by simpa using c0) (by simpa using c1) hfr).mono ?_
 rintro e w2 ⟨rfl, ha, ht⟩
 simp only [Nat.zero_add] at ha
 obtain ⟨ys, hp, hpl, hmod⟩ := uh3 (w := w) (w' := w2) Hh.o 0 m h0 hmlt ha ht
 clear ha ht
 have hlen := hp.length_eq
 go_wp2_with fail
 refine (down_any w2 N base _ ys m hpl (by omega) (by omega) (by omega)).mono ?_
 rintro e w3 ⟨b, rfl, zs, hp3, hpl3, hmod3⟩
 have hlz : zs.length = xs.length := hp3.length_eq.trans hlen
 obtain ⟨us, x, rfl⟩ : ∃ us x, zs = us ++ [x] := by
  rcases List.eq_nil_or_concat zs with rfl | ⟨l, b, rfl⟩
  ·simp at hlz; omega
  ·exact ⟨l, b, by simp⟩
 go_wp2_with fail
 refine (pop_any w3 N base _ us x hpl3 (by simp at hlz; omega)).mono ?_
 rintro e w4 ⟨v4, rfl, hpl4, hmod4, hob⟩
 have hfin : ugl w N base (.slice (some ⟨g, 0, none⟩) xs.length cap) xs (.returned (.iface 3 (iV x))) w4 := by
  refine ⟨v4, x, us, rfl, ?_, hpl4, ?_, hob⟩
  ·exact (hp.symm.trans hp3.symm).trans (List.perm_append_singleton _ _)
  ·refine ((hmod.imp (fun k _ hk => .inr hk)).trans hmod3 (fun k _ hk => .inr hk)).trans hmod4 (fun k _ hk => .inl hk)
 have Hfin := hd' hfin
 clear hfin
 go_wp2_with fail
 go_ret
 exact Hfin.o
end Go.Proofs.YtpbmfalokongfaaGreatDoor
namespace Go.Gou
open Go.RowKit Go.Maps Go.MapKept Go.WideShapes
open Go.WideElems (Fit rd rg pl)
def IntSet (P : Program) (k e : TypeId) (w : World) (b n : Nat) (S : List Int) : Prop :=
 ∃ D : DataW Unit, w.ownsMap P k (plainElem P e) b n D ∧ ∀ x, D.atKey (.int .i64 x) (.lit (.bool false)) = .lit (.bool (decide (x ∈ S)))
theorem IntSet.made (P : Program) (k e : TypeId) (w : World) : IntSet P k e (w.alloc (.map #[] 0)) w.heap.size 0 [] :=
 ⟨.map [], World.ownsMap_made w P k _, fun x => by simp [DataW.atKey]⟩
theorem keyOf_int {P : Program} {k : TypeId} (hk : P.underlying k = some (.int .i64)) {x : Int} (hx : (Lit.int .i64 x).wf = true) : keyOf P k (.int .i64 x) = some (.int .i64 x) := by
 exact keyOf_int_mk hk hx
theorem IntSet.look {P : Program} {k e t : TypeId} {w : World} {b n : Nat} {S : List Int} (h : IntSet P k e w b n S) (hk : P.underlying k = some (.int .i64)) (he : P.underlying e = some .bool)
 (ht : P.underlying t = some (.map k e)) (hz : (zeroValue e).run P w = .ok (.bool false) w) {x : Int} (hx : (Lit.int .i64 x).wf = true) :
 (Instr.lookup t (.map (some b)) (.int .i64 x) false).run P w = .ok (.bool (decide (x ∈ S))) w := by
 obtain ⟨D, hown, hat⟩ := h
 have hat := hat x
 obtain ⟨es, clock, hb, F, _, rfl⟩ := hown
 rcases Maps.fit_look false (int_keyed hk) ht hz hb F (keyOf_int hk hx) with ⟨hrun, _, ha⟩ | ⟨e0, y, _, _, hrun, hRv, ha, _⟩
 ·rw [ha] at hat
  simp only [DataW.lit.injEq, Lit.bool.injEq] at hat
  rw [hrun, ← hat]
  rfl
 ·rw [ha] at hat
  rw [hrun]
  unfold plainElem at hRv
  rw [he] at hRv
  cases hv : e0.val <;> rw [hv] at hRv <;> simp at hRv
  subst hRv
  simp only [DataW.lit.injEq, Lit.bool.injEq] at hat
  subst hat
  simp
theorem IntSet.put {P : Program} {k e : TypeId} {w : World} {b n : Nat} {S : List Int} {D : DataW Unit} {x : Int} (hm : IsMap D)
 (hat : ∀ x, D.atKey (.int .i64 x) (.lit (.bool false)) = .lit (.bool (decide (x ∈ S)))) (h : w.ownsMap P k (plainElem P e) b n (D.put (.int .i64 x) (.lit (.bool true)))) : IntSet P k e w b n (S ++ [x]) := by
 refine ⟨_, h, fun y => ?_⟩
 by_cases e : y = x
 ·subst e
  rw [atKey_put_same hm (by simp [WideAt.IsKeyLit])]
  simp
 ·rw [atKey_put_other (by simp [e]), hat]
  simp [e]
theorem IntSet.mod {P : Program} {k e : TypeId} {w w' : World} {b n : Nat} {S : List Int} {M : Nat → Prop} (h : IntSet P k e w b n S) (hm : Mod M w w') (hs : ¬ M b) : IntSet P k e w' b n S := by
 obtain ⟨D, ⟨es, clock, hb, r⟩, hat⟩ := h
 have hlt : b < w.heap.size := (Array.getElem?_eq_some_iff.1 hb).1
 exact ⟨D, ⟨es, clock, by rw [hm.block b hlt hs]; exact hb, r⟩, hat⟩
theorem IntSet.mono {P : Program} {k e : TypeId} {w : World} {b n n' : Nat} {S : List Int} (h : IntSet P k e w b n S) (hn : n ≤ n') : IntSet P k e w b n' S := by
 obtain ⟨D, ho, hat⟩ := h
 exact ⟨D, ho.mono hn, hat⟩
theorem IntSet.lt {P : Program} {k e : TypeId} {w : World} {b n : Nat} {S : List Int} (h : IntSet P k e w b n S) : b < w.heap.size := by
 obtain ⟨D, ⟨es, clock, hb, r⟩, hat⟩ := h
 exact (Array.getElem?_eq_some_iff.1 hb).1
end Go.Gou
namespace Go.Proofs.YtpbmfalokongfaaGreatDoor
open Go.RowKit Go.Gou
theorem uaq {a b : Bool} (h : a = b) : Ending.returned (.bool a) = .returned (.bool b) := by rw [h]
def ofS (op : Int) : (Int × Int × Int) × Bool :=
 if op = 1 then ((1, 1, 2), true) else if op = 2 then ((1, 1, 2), true) else if op = 3 then ((1, 1, 2), true) else if op = 4 then ((1, 1, 2), true)
 else if op = 5 then ((1, 1, 20), true) else if op = 6 then ((0, 0, 8), true) else if op = 7 then ((2, 2, 1), true) else if op = 8 then ((2, 2, 1), true)
 else if op = 9 then ((1, 8, 0), true) else if op = 10 then ((1, 1, 4), true) else if op = 11 then ((1, 1, 8), true) else if op = 12 then ((1, 1, 4), true)
 else ((0, 0, 0), false)
abbrev ofV (op : Int) : Value := .tuple #[.agg #[iV (ofS op).1.1, iV (ofS op).1.2.1, iV (ofS op).1.2.2], .bool (ofS op).2]
theorem of_any (op : Int) (w : World) :
 Calls Tryz.prog 102 #[iV op] w fun e w' => e = .returned (ofV op) ∧ Below w.heap.size w w' := by
 by_cases h1 : op = 1 ∨ op = 2 ∨ op = 3 ∨ op = 4 ∨ op = 5 ∨ op = 6 ∨ op = 7 ∨ op = 8 ∨ op = 9 ∨ op = 10 ∨ op = 11 ∨ op = 12
 ·rcases h1 with rfl | rfl | rfl | rfl | rfl | rfl | rfl | rfl | rfl | rfl | rfl | rfl
  all_goals
      go_enter Tryz.func102, Tryz.ntmps102
      go_wp2
      exact bpr (v := ofV _) (by simp [results, Tryz.results102, go_sem, ofV, ofS]) rfl ⟨rfl, (Below.refl _ _).alloc (Nat.le_refl _) _⟩
 ·simp only [not_or] at h1
  obtain ⟨h1, h2, h3, h4, h5, h6, h7, h8, h9, h10, h11, h12⟩ := h1
  have e1 : (op == 1) = false := by simpa using h1
  have e2 : (op == 2) = false := by simpa using h2
  have e3 : (op == 3) = false := by simpa using h3
  have e4 : (op == 4) = false := by simpa using h4
  have e5 : (op == 5) = false := by simpa using h5
  have e6 : (op == 6) = false := by simpa using h6
  have e7 : (op == 7) = false := by simpa using h7
  have e8 : (op == 8) = false := by simpa using h8
  have e9 : (op == 9) = false := by simpa using h9
  have e10 : (op == 10) = false := by simpa using h10
  have e11 : (op == 11) = false := by simpa using h11
  have e12 : (op == 12) = false := by simpa using h12
  have hof : Hid (ofV op = .tuple #[.agg #[iV 0, iV 0, iV 0], .bool false]) := by
   show _ = _
   simp [ofV, ofS, h1, h2, h3, h4, h5, h6, h7, h8, h9, h10, h11, h12]
  clear h1 h2 h3 h4 h5 h6 h7 h8 h9 h10 h11 h12
  rw [hof.out]
  go_enter Tryz.func102, Tryz.ntmps102
  go_wp2
  exact bpr (v := .tuple #[.agg #[iV 0, iV 0, iV 0], .bool false]) (by simp [results, Tryz.results102, go_sem]) rfl ⟨rfl, (Below.refl _ _).alloc (Nat.le_refl _) _⟩
def WithinQ (B : Nat) (w : World) (lo hi : Int) (v : Value) : Prop :=
 ∃ b1 b2 : Nat, v = .func (.func 116) #[] #[.pointer (some ⟨b1, 0, none⟩), .pointer (some ⟨b2, 0, none⟩)] ∧ b1 < B ∧ b2 < B ∧
     w.cell? ⟨b1, 0, none⟩ = some (iV lo) ∧ w.cell? ⟨b2, 0, none⟩ = some (iV hi)
theorem WithinQ.below {B : Nat} {w w' : World} {lo hi : Int} {v : Value} (h : WithinQ B w lo hi v) (hb : Below B w w') : WithinQ B w' lo hi v := by
 obtain ⟨b1, b2, rfl, h1, h2, c1, c2⟩ := h
 exact ⟨b1, b2, rfl, h1, h2, by rw [hb.cell (p := ⟨b1, 0, none⟩) h1]; exact c1, by rw [hb.cell (p := ⟨b2, 0, none⟩) h2]; exact c2⟩
theorem WithinQ.up {w w1 : World} {lo hi : Int} {v : Value} (h : WithinQ w.heap.size w lo hi v) (hb : Below w.heap.size w w1) : WithinQ w1.heap.size w1 lo hi v := by
 obtain ⟨b1, b2, rfl, h1, h2, c1, c2⟩ := h.below hb
 have := hb.size
 exact ⟨b1, b2, rfl, by omega, by omega, c1, c2⟩
def uj5 (w : World) (lo hi : Int) (e : Ending) (w' : World) : Prop := ∃ v, e = .returned v ∧ WithinQ w'.heap.size w' lo hi v ∧ Below w.heap.size w w'
theorem uap (lo hi : Int) (w : World) :
 Calls Tryz.prog 107 #[iV lo, iV hi] w (uj5 w lo hi) := by
 go_enter Tryz.func107, Tryz.ntmps107
 go_wp2
 go_ret
 exact ⟨_, rfl, ⟨_, _, rfl, by simp; omega, by simp, by simp [go_sem], by simp [go_sem]⟩, ((Below.refl _ _).alloc (Nat.le_refl _) _).alloc (by simp) _⟩
def uag (lo hi n : Int) : Bool := decide (lo ≤ n) && decide (n ≤ hi)
theorem uhq (lo hi n : Int) (w : World) (b1 b2 : Nat) (h1 : w.cell? ⟨b1, 0, none⟩ = some (iV lo)) (h2 : w.cell? ⟨b2, 0, none⟩ = some (iV hi)) :
 Calls Tryz.prog 116 #[iV n, .pointer (some ⟨b1, 0, none⟩), .pointer (some ⟨b2, 0, none⟩)] w
     fun e w' => e = .returned (.bool (uag lo hi n)) ∧ Below w.heap.size w w' := by
 go_enter Tryz.func116, Tryz.ntmps116
 go_wp2
 all_goals go_ret
 ·have h : lo ≤ n := by assumption
  exact ⟨uaq (by simp [uag, h]), Below.refl _ _⟩
 ·have h : n < lo := by assumption
  exact ⟨uaq (by simp [uag]; omega), Below.refl _ _⟩
theorem one1_any (count n : Int) (w : World) (b1 : Nat) (h1 : w.cell? ⟨b1, 0, none⟩ = some (iV count)) :
 Calls Tryz.prog 104 #[iV n, .pointer (some ⟨b1, 0, none⟩)] w
     fun e w' => e = .returned (.bool (uag (-1) (count - 1) n)) ∧ Below w.heap.size w w' := by
 go_enter Tryz.func104, Tryz.ntmps104
 go_wp2
 all_goals go_ret
 ·have h : -1 ≤ n := by assumption
  exact ⟨uaq (by simp [uag, h]; omega), Below.refl _ _⟩
 ·have h : n < -1 := by assumption
  exact ⟨uaq (by simp [uag]; omega), Below.refl _ _⟩
def Asks (B : Nat) (w : World) (v : Value) (xs : List Int) (q : Int → Bool) : Prop :=
 ∃ (f : FuncId) (caps : Array Value), v = .func (.func f) #[] caps ∧ (∀ (args : Array Value) (w' : World), (callFunc f args).run Tryz.prog w' = .ok (.enter f args) w') ∧ ∀ (w' : World) (n : Int), n ∈ xs → Below B w w' →
     Calls Tryz.prog f (#[iV n] ++ caps) w' fun e w'' => e = .returned (.bool (q n)) ∧ Below w'.heap.size w' w''
theorem uht (args : Array Value) (w : World) : (callFunc 116 args).run Tryz.prog w = .ok (.enter 116 args) w := by kernel_rfl
theorem run_one1 (args : Array Value) (w : World) : (callFunc 104 args).run Tryz.prog w = .ok (.enter 104 args) w := by kernel_rfl
theorem WithinQ.asks {B : Nat} {w : World} {lo hi : Int} {v : Value} (h : WithinQ B w lo hi v) (xs : List Int) : Asks B w v xs (uag lo hi) := by
 obtain ⟨b1, b2, rfl, h1, h2, c1, c2⟩ := h
 refine ⟨_, _, rfl, uht, fun w' n _ hb => ?_⟩
 exact uhq lo hi n w' b1 b2 (by rw [hb.cell (p := ⟨b1, 0, none⟩) h1]; exact c1) (by rw [hb.cell (p := ⟨b2, 0, none⟩) h2]; exact c2)
theorem List.all_take_succ {α : Type} (l : List α) (q : α → Bool) (k : Nat) (h : k < l.length) : (l.take (k + 1)).all q = ((l.take k).all q && q l[k]) := by
 rw [ltS h, List.all_append]; simp
theorem ubm (w : World) (v fv : Value) (xs : List Int) (q : Int → Bool) (hx : IntsAt w.heap.size w v xs) (hq : Asks w.heap.size w fv xs q) (hl : xs.length ≤ maxLen) :
 Calls Tryz.prog 103 #[v, fv] w fun e w' => e = .returned (.bool (xs.all q)) ∧ Below w.heap.size w w' := by
 obtain ⟨p, cap, rfl, _, hp⟩ := hx
 obtain ⟨f, caps, rfl, hcall, hf⟩ := hq
 unfold maxLen at hl
 go_enter Tryz.func103, Tryz.ntmps103
 go_wp2
 go_loopw [9] (fun i wr => ∃ k : Nat, k ≤ xs.length ∧ i = iV k ∧ (xs.take k).all q = true ∧ Below w.heap.size w wr) (fun i _ => xs.length - (intOf i).toNat)
 case atStart => exact ⟨0, Nat.zero_le _, rfl, rfl, Below.refl _ _⟩
 case round =>
  obtain ⟨k, hk, rfl, hall, hbr⟩ := hrel
  have Hall := hd' hall
  clear hall
  by_cases hlt : k < xs.length
  ·rcases hp with rfl | ⟨b, o, rfl, hb, hc⟩
   ·simp at hlt
   have hc' := hc k hlt
   rw [← hbr.cell (p := ⟨b, o + k, none⟩) hb] at hc'
   clear hc
   have hfk := hd' (hf wr xs[k] (lgM hlt) hbr)
   clear hf
   go_wp2_with (refine (hfk.out).mono ?_; rintro e w1 ⟨rfl, hb1⟩)
   ·have hqk : q xs[k] = false := by simpa using (show (!q xs[k]) = true by assumption)
    go_ret
    have hne : xs.all q = false := by
     rw [Bool.eq_false_iff]
     intro h
     rw [List.all_eq_true] at h
     have := h _ (lgM hlt)
     rw [hqk] at this
     cases this
    exact ⟨uaq hne.symm, hbr.trans (hb1.mono hbr.size)⟩
   ·have hqk : q xs[k] = true := by simpa using (show (!q xs[k]) = false by assumption)
    go_roundw
    case rel => exact ⟨k + 1, by omega, by go_num, by rw [List.all_take_succ _ _ _ hlt, Hall.o, hqk]; rfl, hbr.trans (hb1.mono hbr.size)⟩
    case measure => simp [intOf]; omega
  ·go_wp2
   go_ret
   have : xs.length = k := by omega
   exact ⟨uaq (by rw [← Hall.o, List.take_of_length_le (by omega)]), hbr⟩
end Go.Proofs.YtpbmfalokongfaaGreatDoor
