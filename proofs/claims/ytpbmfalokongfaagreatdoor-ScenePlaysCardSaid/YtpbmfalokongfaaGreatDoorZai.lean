/- Texts of the scenes' proofs, laid together: SdM, SdN, SdO, SdP. -/
import Derived.Test.YtpbmfalokongfaaGreatDoorZah
import Derived.Test.YtpbmfalokongfaaGreatDoorZab
set_option maxHeartbeats 64000000
set_option linter.unusedSimpArgs false
set_option linter.unusedVariables false
set_option linter.unusedSectionVars false
set_option linter.constructorNameAsVariable false
namespace Go.Gou
theorem TFit.get : ∀ {π : List Nat} {T s : Ly}, TFit T → T.get? π = some s → TFit s
 | [], T, s, h, hg => by cases T; cases hg; exact h
 | i :: π, T, s, h, hg => by
  rw [Ly.get?] at hg
  cases hk : T.kids[i]? with
  | none => rw [hk] at hg; cases hg
  | some k =>
   rw [hk] at hg
   cases h with
   | mk i' lk ks hl hn hks => exact TFit.get (hks k (lmG hk)) hg
theorem TFit.kid {T k : Ly} {i : Nat} (h : TFit T) (hk : T.kids[i]? = some k) : TFit k := by
 cases h with
 | mk i' lk ks hl hn hks => exact hks k (lmG hk)
theorem TFit.put {s : Ly} (hs : TFit s) : ∀ {π : List Nat} {T : Ly}, TFit T → T.get? π = some s → ∀ i, TFit (T.put π (.mk s.id s.look (s.kids.eraseIdx i)))
 | [], T, h, hg, i => by
  cases s with
  | mk j lk ks =>
   cases hs with
   | mk _ _ _ hl hn hks => rw [Ly.put]; exact .mk _ _ _ hl (Nat.le_trans (List.length_eraseIdx_le ks i) hn) (fun k hk => hks k (List.mem_of_mem_eraseIdx hk))
 | j :: π, T, h, hg, i => by
  rw [Ly.get?] at hg
  cases hk : T.kids[j]? with
  | none => rw [hk] at hg; cases hg
  | some k =>
   rw [hk] at hg
   rw [Ly.put, hk]
   cases T with
   | mk j' lk ks =>
    cases h with
    | mk _ _ _ hl hn hks =>
     refine .mk _ _ _ hl (by rw [List.length_set]; exact hn) (fun k' hk' => ?_)
     rcases List.mem_or_eq_of_mem_set hk' with hk' | rfl
     ·exact hks k' hk'
     ·exact TFit.put hs (hks k (lmG hk)) hg i
end Go.Gou
namespace Go.Proofs.YtpbmfalokongfaaGreatDoor
open Go.RowKit Go.Gou
set_option maxRecDepth 100000
def DoP (base : Nat) (s : Sn) (op : Opr) (F : List Nat) (vp vf vb : Value) (w : World) (D : Nat) (e : Ending) (w' : World) : Prop := Gou.Mod (fun x => x = D ∨ x ∈ F) w w' ∧
 e = .returned (.tuple #[.agg #[iV (doP checkS s op).2.1.1, iV (doP checkS s op).2.1.2], iV (doP checkS s op).2.2]) ∧
 ((doP checkS s op).2.2 = 0 → ∃ vg vl cur F3, ubi base w' D (doP checkS s op).1.arena (doP checkS s op).1.root F3 op vg vl vp vf vb cur)
theorem do_any (base : Nat) (w : World) (D : Nat) (s : Sn) (F : List Nat) (op : Opr) (vg vl vp vf vb : Value) (cur : Array Value) (hD : ubi base w D s.arena s.root F op vg vl vp vf vb cur) (n : Nat) (hI : Inv n s) (hn : n ≤ 100) (hft : TFit s.root) (hfit : LkFit op.look) (hwf : GrWf op.look.filt) (hwb : GrWf op.look.back) :
 Calls Tryz.prog 28 #[.pointer (some ⟨D, 0, none⟩)] w (DoP base s op F vp vf vb w D) := by
 have HD := hd' hD
 have HI := hd' hI
 have Hn := hd' hn
 have Hft := hd' hft
 have Hfit := hd' hfit
 have Hwf := hd' hwf
 have Hwb := hd' hwb
 have HDlt := hd' (Blk.lt hD.blk)
 have Hge := hd' hD.tree.ge
 have HFlt : Hid (∀ x ∈ F, x < w.heap.size) := hd' (fun x hx => by
  obtain ⟨⟨c, _, _, g1, _⟩, _, _⟩ := hD.tree
  exact (g1.rows x hx).2.1)
 obtain ⟨b0, b1, bm⟩ := uaw w 30 30 iiZ iiZ
 have HR := hd' b0
 have HN := hd' b1
 have HM := hd' bm
 go_enter Tryz.func28, Tryz.ntmps28
 go_upto_region 2 with fail
 generalize (w.alloc (.cells iiZ 30)).alloc (.cells iiZ 30) = W1 at *
 have HRD : Hid (∀ x, (x = D ∨ x ∈ F) → ¬ w.heap.size = x ∧ ¬ w.heap.size + 1 = x) := hd' (fun x hx => by
  rcases hx with rfl | hx
  ·have := HDlt.o; omega
  ·have := HFlt.o x hx; omega)
 have HD1 := hd' (HD.o.up HM.o)
 have c33 := HD1.o.cell.2.2.1
 have n0 : W1.cell? ⟨w.heap.size + 1, 0, none⟩ = some (iV 0) := HN.o.cell 0 rfl
 have n1 : W1.cell? ⟨w.heap.size + 1, 1, none⟩ = some (iV 0) := HN.o.cell 1 rfl
 have r0 : W1.cell? ⟨w.heap.size, 0, none⟩ = some (iV 0) := HR.o.cell 0 rfl
 have r1 : W1.cell? ⟨w.heap.size, 1, none⟩ = some (iV 0) := HR.o.cell 1 rfl
 have s0 := HR.o.frozen 0
 have s1 := HR.o.frozen 1
 by_cases k1 : op.kind < 1
 ·have Hl := hd' (ue5 checkS s op (.inl k1))
  have e1 : decide (op.kind < 1) = true := dqt k1
  go_wp2_with fail
  have hR := ((HR.o.set 0 (iV 0)).set 1 (iV 0))
  have hS := (Gou.Mod.set1 W1 w.heap.size 0 (iV 0)).trans' (Gou.Mod.set1 _ w.heap.size 1 (iV 0))
  refine bpr (uam rfl (ResAt.of rfl hR Tryz.underlying30 rfl uaf)) rfl ?_
  exact ⟨(HM.o.trans hS (fun k hk e => by omega)).imp (fun _ _ h => h.elim), by (rw [Hl.o]; try rfl), fun h => absurd h (by rw [Hl.o]; show ¬ ((1 : Int) = 0); decide)⟩
 ·have e1 : decide (op.kind < 1) = false := dqf k1
  by_cases k11 : 11 < op.kind
  ·have Hl := hd' (ue5 checkS s op (.inr k11))
   have e2 : decide (11 < op.kind) = true := dqt k11
   go_wp2_with fail
   have hR := ((HR.o.set 0 (iV 0)).set 1 (iV 0))
   have hS := (Gou.Mod.set1 W1 w.heap.size 0 (iV 0)).trans' (Gou.Mod.set1 _ w.heap.size 1 (iV 0))
   refine bpr (uam rfl (ResAt.of rfl hR Tryz.underlying30 rfl uaf)) rfl ?_
   exact ⟨(HM.o.trans hS (fun k hk e => by omega)).imp (fun _ _ h => h.elim), by (rw [Hl.o]; try rfl), fun h => absurd h (by rw [Hl.o]; show ¬ ((1 : Int) = 0); decide)⟩
  ·have e2 : decide (11 < op.kind) = false := dqf k11
   have HK : Hid (1 ≤ op.kind ∧ op.kind ≤ 11) := hd' (by omega)
   go_upto_region 4 with fail
   go_wp2_with fail
   refine (stale_any base _ D s.arena s.root F op vg vl vp vf vb cur HD1.o HI.o.ok.len).mono ?_
   rintro e w2 ⟨rfl, hm2⟩
   have HM2 := hd' (HM.o.trans' hm2)
   have HR2 := hd' (HR.o.up hm2)
   have HN2 := hd' (HN.o.up hm2)
   have HD2 := hd' (HD1.o.up hm2)
   have n0 : w2.cell? ⟨w.heap.size + 1, 0, none⟩ = some (iV 0) := HN2.o.cell 0 rfl
   have n1 : w2.cell? ⟨w.heap.size + 1, 1, none⟩ = some (iV 0) := HN2.o.cell 1 rfl
   have r0 : w2.cell? ⟨w.heap.size, 0, none⟩ = some (iV 0) := HR2.o.cell 0 rfl
   have r1 : w2.cell? ⟨w.heap.size, 1, none⟩ = some (iV 0) := HR2.o.cell 1 rfl
   have s0 := HR2.o.frozen 0
   have s1 := HR2.o.frozen 1
   cases hst : ubo s.arena op
   ·have Hst := hd' hst
    have c33 := HD2.o.cell.2.2.1
    by_cases k1 : op.kind = 1
    ·rw [k1] at c33
     have Hk := hd' k1
     obtain ⟨π, x, p1, p2, hl⟩ := ufr HI.o checkS op Hk.o Hst.o
     have P1 := hd' p1
     have P2 := hd' p2
     have HL := hd' hl
     have Hlen := hd' HI.o.ok.len
     have Hl0 : Hid (0 < s.arena.live.length) := hd' (lgS.1 HI.o.ok.l0).1
     have Hsm : Hid (s.arena.live.length ≤ 1024) := hd' (by have := HI.o.small; have := HI.o.ok.len; have := Hn.o; omega)
     go_wp2_with fail
     refine (ug2 base _ D s.arena s.root F op vg vl vp vf vb cur HD2.o π x P1.o P2.o (TFit.len (Hft.o.get P2.o)) (by have := HI.o.deep; omega) Hlen.o Hl0.o Hsm.o).mono ?_
     rintro e w7 ⟨hm7, hbad, hgood⟩
     have Hm7 := hd' hm7
     have HR7 := hd' (HR2.o.mod hm7 (fun h => (HRD.o _ h).1 rfl))
     have HMM := hd' ((HM2.o.imp (S' := fun x => x = D ∨ x ∈ F) (fun _ _ h => h.elim)).trans' hm7)
     have r0 : w7.cell? ⟨w.heap.size, 0, none⟩ = some (iV 0) := HR7.o.cell 0 rfl
     have r1 : w7.cell? ⟨w.heap.size, 1, none⟩ = some (iV 0) := HR7.o.cell 1 rfl
     have s0 := HR7.o.frozen 0
     have s1 := HR7.o.frozen 1
     by_cases hb : op.at_ < 0 ∨ (x.kids.length : Int) < op.at_ ∨ 64 ≤ π.length
     ·obtain rfl := hbad hb
      have Hl : Hid (doP checkS s op = (s, (0, 0), 3)) := hd' (by rw [HL.o, if_pos hb])
      go_wp2_with fail
      have hR := ((HR7.o.set 0 (iV 0)).set 1 (iV 0))
      have hS := (Gou.Mod.set1 w7 w.heap.size 0 (iV 0)).trans' (Gou.Mod.set1 _ w.heap.size 1 (iV 0))
      refine bpr (uam rfl (ResAt.of rfl hR Tryz.underlying30 rfl uaf)) rfl ?_
      exact ⟨HMM.o.trans hS (fun k hk e => by omega), by (rw [Hl.o]; try rfl), fun h => absurd h (by rw [Hl.o]; show ¬ ((3 : Int) = 0); decide)⟩
     ·obtain ⟨m, hm⟩ : ∃ m : Nat, op.at_ = m := ⟨op.at_.toNat, by omega⟩
      obtain ⟨hg1, hg2⟩ := hgood m hm (by omega) (by omega)
      have hLe := HL.o
      rw [if_neg hb] at hLe
      cases htk : s.arena.take with
      | none =>
       obtain rfl := hg1 htk
       have Hl : Hid (doP checkS s op = (s, (0, 0), 9)) := hd' (by rw [hLe, htk])
       go_wp2_with fail
       have hR := ((HR7.o.set 0 (iV 0)).set 1 (iV 0))
       have hS := (Gou.Mod.set1 w7 w.heap.size 0 (iV 0)).trans' (Gou.Mod.set1 _ w.heap.size 1 (iV 0))
       refine bpr (uam rfl (ResAt.of rfl hR Tryz.underlying30 rfl uaf)) rfl ?_
       exact ⟨HMM.o.trans hS (fun k hk e => by omega), by (rw [Hl.o]; try rfl), fun h => absurd h (by rw [Hl.o]; show ¬ ((9 : Int) = 0); decide)⟩
      | some by_ =>
       obtain ⟨b, y⟩ := by_
       obtain ⟨rfl, vg3, vl3, cur3, F3, h3⟩ := hg2 b y htk
       have Hl : Hid (doP checkS s op = (⟨b, s.root.put π (.mk x.id x.look (x.kids.take m ++ (.mk y Lk.plain []) :: x.kids.drop m))⟩, y, 0)) := hd' (by rw [hLe, htk]; simp only; rw [Ly.insAt_nat hm _ _ (by omega)])
       have H3 := hd' h3
       go_wp2_with fail
       have hR := ((HR7.o.set 0 (iV y.1)).set 1 (iV y.2))
       have hS := (Gou.Mod.set1 w7 w.heap.size 0 (iV y.1)).trans' (Gou.Mod.set1 _ w.heap.size 1 (iV y.2))
       refine bpr (uam rfl (ResAt.of rfl hR Tryz.underlying30 rfl uaf)) rfl ?_
       refine ⟨HMM.o.trans hS (fun k hk e => by omega), by (rw [Hl.o]; try rfl), fun _ => ?_⟩
       rw [Hl.o]
       exact ⟨vg3, vl3, cur3, F3, H3.o.box tI tB HR7.o (by decide) (by have := HDlt.o; omega) (by have := HDlt.o; have := Hge.o; omega) hS⟩
    ·have e1 : (op.kind == 1) = false := bqf.2 k1
     have Hk1 := hd' k1
     by_cases k5 : 4 < op.kind
     ·have e5 : decide (4 < op.kind) = true := dqt k5
      obtain ⟨π, x, p1, p2, hl⟩ := doP_set HI.o checkS op (by omega) HK.o.2 Hst.o
      have Hk5 := hd' k5
      have P1 := hd' p1
      have P2 := hd' p2
      have HL := hd' hl
      go_upto_region 9 with fail
      have HIr : Hid (w2.rangeAt D 34 [iV op.id.1, iV op.id.2]) := hd' (fun j v hv => by
       obtain ⟨_, _, _, c34, c35, _⟩ := HD2.o.cell
       match j, hv with
       | 0, hv => simp at hv; rw [← hv]; exact c34
       | 1, hv => simp at hv; rw [← hv]; exact c35)
      refine wp_region_held_drew (S := fun w' => Gou.Mod (fun _ => False) w2 w') (by kernel_rfl) (Gou.Mod.drew _ _) (fun hH => ?_)
      refine tk 0 (.pointer (some ⟨D, 0, none⟩)) hH (h := ?_)
      refine tk 1 (.pointer (some ⟨D, 0, none⟩)) hH (h := ?_)
      refine tk 2 (.pointer (some ⟨D, 0, none⟩)) hH (h := ?_)
      refine tk 3 (.pointer (some ⟨D, 2, none⟩)) hH (h := ?_)
      refine tk 4 (.pointer (some ⟨D, 0, none⟩)) hH (h := ?_)
      refine tk 5 (.pointer (some ⟨D, 0, none⟩)) hH (h := ?_)
      refine tk 6 (.pointer (some ⟨D, 33, none⟩)) hH (h := ?_)
      refine tk 7 (.pointer (some ⟨D, 34, none⟩)) hH (h := ?_)
      refine tkR 8 (.agg #[iV op.id.1, iV op.id.2]) HIr.o (fun h => h) Tryz.underlying30 uaf hH (h := ?_)
      refine rd 9 (h := fun K hK => ?_)
      go_simp
      refine (udd base op.id s.root _ D 2 F 0 (HD2.o.up hH).tree (by have := HI.o.deep; omega)).mono ?_
      rintro e w4 ⟨hm4, _, hs4⟩
      obtain ⟨b', o', F', x', rfl, hz4⟩ := hs4 _ P1.o
      have hss : x' = x := by
       have := hz4.get
       rw [P2.o] at this
       exact (Option.some.inj this).symm
      subst hss
      have M := hd' (hH.trans' hm4)
      have Hz4 := hd' hz4
      obtain ⟨dd, hdd⟩ : ∃ dd, dd = 0 + π.length := ⟨_, rfl⟩
      rw [← hdd]
      refine hK _ _ M.o (fun hH => ?_)
      refine tk 10 (.tuple #[.pointer (some ⟨b', o', none⟩), iV ((dd : Nat) : Int)]) hH (h := ?_)
      refine tk 11 (.pointer (some ⟨b', o', none⟩)) hH (h := ?_)
      refine tk 12 (iV ((dd : Nat) : Int)) hH (h := ?_)
      refine tk 13 (.pointer (some ⟨b', o', none⟩)) hH (h := ?_)
      refine tk 14 (iV ((dd : Nat) : Int)) hH (h := ?_)
      have MS := hd' hH
      refine wpAnyH_done (by kernel_rfl) ?_ _
      try simp only [Act.put]
      have HM4 := hd' (HM2.o.trans' MS.o)
      have HR4 := hd' (HR2.o.up MS.o)
      have HN4 := hd' (HN2.o.up MS.o)
      have HD4 := hd' (HD2.o.up MS.o)
      go_upto_region 10 with fail
      have HNr : Hid (w4.rangeAt (w.heap.size + 1) 0 [iV 0, iV 0]) := hd' (Blk.range (pre := []) (post := []) HN4.o (by simp) rfl)
      have HNn : Hid (¬ ((w.heap.size + 1 = D ∨ w.heap.size + 1 ∈ F) ∨ w.heap.size + 1 = w.heap.size)) := hd' (by rintro (h | h); exact (HRD.o _ h).2 rfl; omega)
      have HDq := hd' (HD4.o.up (Gou.Mod.drew (fun _ => False) w4))
      have HRq := hd' (HR4.o.up (Gou.Mod.drew (fun _ => False) w4))
      refine wp_region_held_drew (S := fun w' => Gou.Mod (fun x => (x = D ∨ x ∈ F) ∨ x = w.heap.size) w4 w') (by kernel_rfl) (Gou.Mod.drew _ _) (fun hH => ?_)
      refine tkR 0 (.agg iiZ) HNr.o HNn.o Tryz.underlying30 uaf hH (h := ?_)
      refine tk 1 (.pointer (some ⟨D, 0, none⟩)) hH (h := ?_)
      refine tk 2 (.pointer (some ⟨b', o', none⟩)) hH (h := ?_)
      refine tk 3 (.pointer (some ⟨b', o', none⟩)) hH (h := ?_)
      refine tk 4 (.pointer (some ⟨b', o' + 2, none⟩)) hH (h := ?_)
      refine rd 5 (h := fun K hK => ?_)
      go_simp
      refine (set_any base _ D s.arena s.root F op vg vl vp vf vb cur HDq.o π x' b' o' F' (Hz4.o.up (Gou.Mod.drew (fun _ => False) w4)) Hfit.o Hwf.o Hwb.o (by have := Hk5.o; omega) HK.o.2).mono ?_
      rintro e w7 ⟨hm7, rfl, hs7⟩
      have M := hd' (hH.trans' (hm7.imp (fun _ _ h => .inl h)))
      have HR7 := hd' (HRq.o.mod hm7 (fun h => (HRD.o _ h).1 rfl))
      have Hm7 := hd' hm7
      have Hs7 := hd' hs7
      refine hK _ _ M.o (fun hH => ?_)
      refine rd 6 (h := fun K hK => ?_)
      refine wp_store_mid 30 _ _ rfl w.heap.size 0 iiZ rfl rfl (HR7.o.there 0 2 (by simp)) uaf (by simp [Value.oneCell']) ?_
      have HS8 := hd' (Blk.setMod w7 w.heap.size 0 (iiZ : Array Value).toList)
      have HR8 := hd' (HR7.o.setAll iiZ rfl)
      have M := hd' (hH.trans' (HS8.o.imp (fun _ _ h => .inr h)))
      refine hK _ _ M.o (fun hH => ?_)
      refine tk 7 (iV (uas checkS x'.look op).2) hH (h := ?_)
      have MS := hd' hH
      refine wpAnyH_done (by kernel_rfl) ?_ _
      try simp only [Act.put]
      go_wp2_with fail
      refine bpr (uam rfl (ResAt.of rfl HR8.o Tryz.underlying30 rfl uaf)) rfl ?_
      have hMM := ((HM4.o.trans' (Gou.Mod.drew (fun _ => False) w4)).imp (S' := fun x => x = D ∨ x ∈ F) (fun _ _ h => h.elim)).trans' Hm7.o
      have hM8 := hMM.trans HS8.o (S' := fun k => k = w.heap.size) (fun k hk e => by omega)
      have hbox : ∀ (a2 : Ar) (T2 : Ly) (F3 : List Nat) (vg vl : Value) (cur : Array Value), ubi base w7 D a2 T2 F3 op vg vl vp vf vb cur → ubi base _ D a2 T2 F3 op vg vl vp vf vb cur := fun a2 T2 F3 vg vl cur hd => hd.box tI tB HR7.o (by decide) (by have := HDlt.o; omega) (by have := HDlt.o; have := Hge.o; omega) HS8.o
      by_cases hz : (uas checkS x'.look op).2 = 0
      ·have Hl : Hid (doP checkS s op = (⟨s.arena, s.root.put π (.mk x'.id (uas checkS x'.look op).1 x'.kids)⟩, (0, 0), 0)) := hd' (by rw [HL.o, if_neg (by simpa using hz)])
       refine ⟨hM8, by (rw [Hl.o, hz]; try rfl), fun _ => ?_⟩
       rw [Hl.o]
       obtain ⟨vg3, vl3, cur3, F3, h3⟩ := Hs7.o hz
       exact ⟨_, _, _, _, hbox _ _ _ _ _ _ h3⟩
      ·have Hl : Hid (doP checkS s op = (s, (0, 0), (uas checkS x'.look op).2)) := hd' (by rw [HL.o, if_pos hz])
       exact ⟨hM8, by (rw [Hl.o]; try rfl), fun h => absurd h (by rw [Hl.o]; exact hz)⟩
     ·have e5 : decide (4 < op.kind) = false := dqf k5
      have Hk5 : Hid (2 ≤ op.kind ∧ op.kind ≤ 4) := hd' (by have := HK.o; have := Hk1.o; omega)
      go_upto_region 11 with fail
      obtain ⟨_, _, _, c34, c35, _⟩ := HD2.o.cell
      have Hid0 := fun (w' : World) => udm op.id (0, 0) w'
      by_cases hid : op.id = (0, 0)
      ·have ez : decide (op.id = ((0 : Int), (0 : Int))) = true := dqt hid
       rw [ez] at Hid0
       have Hl := hd' (ude checkS s op Hk5.o.1 Hk5.o.2 Hst.o hid)
       go_quiet (fail)
       go_wp2_with fail
       have hR := (((HR2.o.up (Gou.Mod.drewN (fun _ => False) w2 nq)).set 0 (iV 0)).set 1 (iV 0))
       have hS := (Gou.Mod.set1 (w2.drewN nq) w.heap.size 0 (iV 0)).trans' (Gou.Mod.set1 _ w.heap.size 1 (iV 0))
       refine bpr (uam rfl (ResAt.of rfl hR Tryz.underlying30 rfl uaf)) rfl ?_
       exact ⟨((HM2.o.trans' (Gou.Mod.drewN (fun _ => False) w2 nq)).trans hS (fun k hk e => by omega)).imp (fun _ _ h => h.elim), by (rw [Hl.o]; try rfl), fun h => absurd h (by rw [Hl.o]; show ¬ ((1 : Int) = 0); decide)⟩
      ·have ez : decide (op.id = ((0 : Int), (0 : Int))) = false := dqf hid
       rw [ez] at Hid0
       have Hid1 := hd' hid
       obtain ⟨π, i, q, k, T2, hO⟩ := outAt HI.o op Hk1.o Hst.o Hid1.o
       have HO := hd' hO
       go_quiet (fail)
       go_upto_region 13 with fail
       have HM3 := hd' (HM2.o.trans' (Gou.Mod.drewN (fun _ => False) w2 nq))
       have HR3 := hd' (HR2.o.up (Gou.Mod.drewN (fun _ => False) w2 nq))
       have HN3 := hd' (HN2.o.up (Gou.Mod.drewN (fun _ => False) w2 nq))
       have HD3 := hd' (HD2.o.up (Gou.Mod.drewN (fun _ => False) w2 nq))
       generalize w2.drewN nq = W3 at *
       have c33 := HD3.o.cell.2.2.1
       have Hqk : Hid (q.kids.length ≤ 1000000) := hd' (TFit.len (Hft.o.get HO.o.get))
       have Hkf : Hid (TFit k) := hd' (TFit.kid (Hft.o.get HO.o.get) HO.o.kid)
       by_cases k2 : op.kind = 2
       ·rw [k2] at c33
        have Hk := hd' k2
        have Hl := hd' (ucl checkS op HO.o k2 Hst.o Hid1.o)
        go_upto_region 15 with fail
        have HAN : Hid (ArN s.arena 10000) := hd' ⟨HI.o.ok.len, by have := HI.o.small; have := HI.o.ok.len; have := Hn.o; omega, fun g hg => ⟨(HI.o.ok.gen g hg).1, by have h1 := (HI.o.ok.gen g hg).2; have h2 : n * n ≤ 100 * 100 := Nat.mul_le_mul Hn.o Hn.o; omega⟩⟩
        have HIL : Hid (10000 + k.ids.length ≤ 1000000000000) := hd' (by have h1 := HO.o.perm.length_eq; have h2 := HI.o.cnt; have h3 := Ar.count_le (a := s.arena); have h4 := HI.o.small; have h5 := HI.o.ok.len; have h6 := Hn.o; rw [List.length_append] at h1; omega)
        have HNr : Hid (W3.rangeAt (w.heap.size + 1) 0 [iV 0, iV 0]) := hd' (Blk.range (pre := []) (post := []) HN3.o (by simp) rfl)
        have HNn : Hid (¬ ((w.heap.size + 1 = D ∨ w.heap.size + 1 ∈ F) ∨ w.heap.size + 1 = w.heap.size)) := hd' (by rintro (h | h); exact (HRD.o _ h).2 rfl; omega)
        have HDq := hd' (HD3.o.up (Gou.Mod.drew (fun _ => False) W3))
        have HRq := hd' (HR3.o.up (Gou.Mod.drew (fun _ => False) W3))
        refine wp_region_held_drew (S := fun w' => Gou.Mod (fun x => (x = D ∨ x ∈ F) ∨ x = w.heap.size) W3 w') (by kernel_rfl) (Gou.Mod.drew _ _) (fun hH => ?_)
        refine tkR 0 (.agg iiZ) HNr.o HNn.o Tryz.underlying30 uaf hH (h := ?_)
        refine tk 1 (.pointer (some ⟨D, 0, none⟩)) hH (h := ?_)
        refine rd 2 (h := fun K hK => ?_)
        go_simp
        refine (ujg base _ D s.arena s.root F op vg vl vp vf vb cur HDq.o π i q k HO.o.par HO.o.get HO.o.kid Hqk.o Hkf.o 10000 HAN.o HIL.o).mono ?_
        rintro e w7 ⟨rfl, hs7, hm7⟩
        have M := hd' (hH.trans' (hm7.imp (fun _ _ h => .inl h)))
        have HR7 := hd' (HRq.o.mod hm7 (fun h => (HRD.o _ h).1 rfl))
        have Hm7 := hd' hm7
        have Hs7 := hd' hs7
        refine hK _ _ M.o (fun hH => ?_)
        refine rd 3 (h := fun K hK => ?_)
        refine wp_store_mid 30 _ _ rfl w.heap.size 0 iiZ rfl rfl (HR7.o.there 0 2 (by simp)) uaf (by simp [Value.oneCell']) ?_
        have HS8 := hd' (Blk.setMod w7 w.heap.size 0 (iiZ : Array Value).toList)
        have HR8 := hd' (HR7.o.setAll iiZ rfl)
        have M := hd' (hH.trans' (HS8.o.imp (fun _ _ h => .inr h)))
        refine hK _ _ M.o (fun hH => ?_)
        refine tk 4 (iV 0) hH (h := ?_)
        have MS := hd' hH
        refine wpAnyH_done (by kernel_rfl) ?_ _
        try simp only [Act.put]
        go_wp2_with fail
        refine bpr (uam rfl (ResAt.of rfl HR8.o Tryz.underlying30 rfl uaf)) rfl ?_
        have hMM := ((HM3.o.trans' (Gou.Mod.drew (fun _ => False) W3)).imp (S' := fun x => x = D ∨ x ∈ F) (fun _ _ h => h.elim)).trans' Hm7.o
        have hM8 := hMM.trans HS8.o (S' := fun k => k = w.heap.size) (fun k hk e => by omega)
        have hbox : ∀ (a2 : Ar) (T2 : Ly) (F3 : List Nat) (vg vl : Value) (cur : Array Value), ubi base w7 D a2 T2 F3 op vg vl vp vf vb cur → ubi base _ D a2 T2 F3 op vg vl vp vf vb cur := fun a2 T2 F3 vg vl cur hd => hd.box tI tB HR7.o (by decide) (by have := HDlt.o; omega) (by have := HDlt.o; have := Hge.o; omega) HS8.o
        obtain ⟨vg3, vl3, cur3, F3, h3⟩ := Hs7.o
        refine ⟨hM8, by (rw [Hl.o]; try rfl), fun _ => ?_⟩
        rw [Hl.o]
        rw [HO.o.out] at h3
        exact ⟨_, _, _, _, hbox _ _ _ _ _ _ h3⟩
       ·have e2 : (op.kind == 2) = false := bqf.2 k2
        by_cases k3 : op.kind = 3
        ·rw [k3] at c33
         have Hk := hd' k3
         go_upto_region 17 with fail
         obtain ⟨σ, x, hσ⟩ : ∃ σ x, k.pathOf op.to = none → T2.pathOf op.to = some σ ∧ T2.get? σ = some x ∧ σ.length ≤ 64 ∧ doP checkS s op = if op.at_ < 0 ∨ (x.kids.length : Int) < op.at_ ∨ 64 < σ.length + 1 + k.height then (s, (0, 0), 3) else (⟨s.arena, T2.put σ (.mk x.id x.look (Ly.insAt op.at_ k x.kids))⟩, (0, 0), 0) := by
          by_cases hto : k.pathOf op.to = none
          ·obtain ⟨σ, x, h⟩ := udu HI.o checkS op HO.o Hk.o Hst.o Hid1.o hto
           exact ⟨σ, x, fun _ => h⟩
          ·exact ⟨[], k, fun h => absurd h hto⟩
         have Hσ := hd' hσ
         have HT2 : Hid (TFit T2) := hd' (by rw [← HO.o.out]; exact TFit.put (Hft.o.get HO.o.get) Hft.o HO.o.get i)
         have HNr : Hid (W3.rangeAt (w.heap.size + 1) 0 [iV 0, iV 0]) := hd' (Blk.range (pre := []) (post := []) HN3.o (by simp) rfl)
         have HNn : Hid (¬ ((w.heap.size + 1 = D ∨ w.heap.size + 1 ∈ F) ∨ w.heap.size + 1 = w.heap.size)) := hd' (by rintro (h | h); exact (HRD.o _ h).2 rfl; omega)
         have HDq := hd' (HD3.o.up (Gou.Mod.drew (fun _ => False) W3))
         have HRq := hd' (HR3.o.up (Gou.Mod.drew (fun _ => False) W3))
         refine wp_region_held_drew (S := fun w' => Gou.Mod (fun x => (x = D ∨ x ∈ F) ∨ x = w.heap.size) W3 w') (by kernel_rfl) (Gou.Mod.drew _ _) (fun hH => ?_)
         refine tkR 0 (.agg iiZ) HNr.o HNn.o Tryz.underlying30 uaf hH (h := ?_)
         refine tk 1 (.pointer (some ⟨D, 0, none⟩)) hH (h := ?_)
         refine rd 2 (h := fun K hK => ?_)
         go_simp
         refine (ugr base _ D s.arena s.root F op vg vl vp vf vb cur HDq.o (π ++ [i]) π σ i q k x T2 HO.o.out HO.o.path HO.o.geti HO.o.par HO.o.get HO.o.kid Hqk.o (by have := HI.o.deep; omega) (by have := HO.o.kdeep; omega) (by have := HO.o.deep; omega) Hkf.o (fun h => ⟨(Hσ.o h).1, (Hσ.o h).2.1, TFit.len (HT2.o.get (Hσ.o h).2.1), by have := (Hσ.o h).2.2.1; omega⟩)).mono ?_
         rintro e w7 ⟨hm7, h5, hno⟩
         have M := hd' (hH.trans' (hm7.imp (fun _ _ h => .inl h)))
         have HR7 := hd' (HRq.o.mod hm7 (fun h => (HRD.o _ h).1 rfl))
         have Hm7 := hd' hm7
         obtain ⟨ec, rfl, hcs⟩ : ∃ ec : Int, e = .returned (iV ec) ∧ ((doP checkS s op = (s, (0, 0), ec) ∧ ¬ ec = 0) ∨ ∃ sn : Sn, doP checkS s op = (sn, (0, 0), 0) ∧ ec = 0 ∧ ∃ vg vl cur F3, ubi base w7 D sn.arena sn.root F3 op vg vl vp vf vb cur) := by
          by_cases hto : k.pathOf op.to = none
          ·obtain ⟨hn1, hn2⟩ := hno hto
           obtain ⟨_, _, _, hd⟩ := Hσ.o hto
           by_cases hb : op.at_ < 0 ∨ (x.kids.length : Int) < op.at_ ∨ 64 < σ.length + 1 + k.height
           ·exact ⟨3, hn1 hb, .inl ⟨by rw [hd, if_pos hb], by decide⟩⟩
           ·obtain ⟨m, hm⟩ : ∃ m : Nat, op.at_ = m := ⟨op.at_.toNat, by omega⟩
            obtain ⟨he, hx⟩ := hn2 m hm (by omega) (by omega)
            exact ⟨0, he, .inr ⟨_, by rw [hd, if_neg hb, Ly.insAt_nat hm _ _ (by omega)], rfl, hx⟩⟩
          ·exact ⟨5, h5 hto, .inl ⟨uhb checkS op HO.o Hk.o Hst.o Hid1.o hto, by decide⟩⟩
         have Hcs := hd' hcs
         refine hK _ _ M.o (fun hH => ?_)
         refine rd 3 (h := fun K hK => ?_)
         refine wp_store_mid 30 _ _ rfl w.heap.size 0 iiZ rfl rfl (HR7.o.there 0 2 (by simp)) uaf (by simp [Value.oneCell']) ?_
         have HS8 := hd' (Blk.setMod w7 w.heap.size 0 (iiZ : Array Value).toList)
         have HR8 := hd' (HR7.o.setAll iiZ rfl)
         have M := hd' (hH.trans' (HS8.o.imp (fun _ _ h => .inr h)))
         refine hK _ _ M.o (fun hH => ?_)
         refine tk 4 (iV ec) hH (h := ?_)
         have MS := hd' hH
         refine wpAnyH_done (by kernel_rfl) ?_ _
         try simp only [Act.put]
         go_wp2_with fail
         refine bpr (uam rfl (ResAt.of rfl HR8.o Tryz.underlying30 rfl uaf)) rfl ?_
         have hMM := ((HM3.o.trans' (Gou.Mod.drew (fun _ => False) W3)).imp (S' := fun x => x = D ∨ x ∈ F) (fun _ _ h => h.elim)).trans' Hm7.o
         have hM8 := hMM.trans HS8.o (S' := fun k => k = w.heap.size) (fun k hk e => by omega)
         have hbox : ∀ (a2 : Ar) (T2 : Ly) (F3 : List Nat) (vg vl : Value) (cur : Array Value), ubi base w7 D a2 T2 F3 op vg vl vp vf vb cur → ubi base _ D a2 T2 F3 op vg vl vp vf vb cur := fun a2 T2 F3 vg vl cur hd => hd.box tI tB HR7.o (by decide) (by have := HDlt.o; omega) (by have := HDlt.o; have := Hge.o; omega) HS8.o
         rcases Hcs.o with ⟨h1, h2⟩ | ⟨sn, h1, h2, h3⟩
         ·exact ⟨hM8, by (rw [h1]; try rfl), fun h => absurd h (by rw [h1]; exact h2)⟩
         ·obtain ⟨vg3, vl3, cur3, F3, h4⟩ := h3
          refine ⟨hM8, by (rw [h1, h2]; try rfl), fun _ => ?_⟩
          rw [h1]
          exact ⟨_, _, _, _, hbox _ _ _ _ _ _ h4⟩
        ·have e3 : (op.kind == 3) = false := bqf.2 k3
         have Hk : Hid (op.kind = 4) := hd' (by have := Hk5.o; omega)
         go_upto_region 18 with fail
         have HL := hd' (ue4 HI.o checkS op HO.o Hk.o Hst.o Hid1.o)
         have HNr : Hid (W3.rangeAt (w.heap.size + 1) 0 [iV 0, iV 0]) := hd' (Blk.range (pre := []) (post := []) HN3.o (by simp) rfl)
         have HNn : Hid (¬ ((w.heap.size + 1 = D ∨ w.heap.size + 1 ∈ F) ∨ w.heap.size + 1 = w.heap.size)) := hd' (by rintro (h | h); exact (HRD.o _ h).2 rfl; omega)
         have HDq := hd' (HD3.o.up (Gou.Mod.drew (fun _ => False) W3))
         have HRq := hd' (HR3.o.up (Gou.Mod.drew (fun _ => False) W3))
         refine wp_region_held_drew (S := fun w' => Gou.Mod (fun x => (x = D ∨ x ∈ F) ∨ x = w.heap.size) W3 w') (by kernel_rfl) (Gou.Mod.drew _ _) (fun hH => ?_)
         refine tkR 0 (.agg iiZ) HNr.o HNn.o Tryz.underlying30 uaf hH (h := ?_)
         refine tk 1 (.pointer (some ⟨D, 0, none⟩)) hH (h := ?_)
         refine rd 2 (h := fun K hK => ?_)
         go_simp
         refine (uhv base _ D s.arena s.root F op vg vl vp vf vb cur HDq.o π i q k HO.o.par HO.o.get HO.o.kid Hqk.o).mono ?_
         rintro e w7 ⟨hm7, h5, hno⟩
         have M := hd' (hH.trans' (hm7.imp (fun _ _ h => .inl h)))
         have HR7 := hd' (HRq.o.mod hm7 (fun h => (HRD.o _ h).1 rfl))
         have Hm7 := hd' hm7
         obtain ⟨ec, rfl, hcs⟩ : ∃ ec : Int, e = .returned (iV ec) ∧ ((doP checkS s op = (s, (0, 0), ec) ∧ ¬ ec = 0) ∨ ∃ sn : Sn, doP checkS s op = (sn, (0, 0), 0) ∧ ec = 0 ∧ ∃ vg vl cur F3, ubi base w7 D sn.arena sn.root F3 op vg vl vp vf vb cur) := by
          by_cases hb : op.at_ < 0 ∨ (q.kids.length : Int) ≤ op.at_
          ·exact ⟨3, h5 hb, .inl ⟨by rw [HL.o, if_pos hb], by decide⟩⟩
          ·obtain ⟨m, hm⟩ : ∃ m : Nat, op.at_ = m := ⟨op.at_.toNat, by omega⟩
           obtain ⟨he, vg3, vl3, cur3, F3, hx⟩ := hno m hm (by omega)
           have hlen : (q.kids.eraseIdx i).length = q.kids.length - 1 := by rw [List.length_eraseIdx, if_pos (lgS.1 HO.o.kid).1]
           rw [HO.o.out] at hx
           exact ⟨0, he, .inr ⟨_, by rw [HL.o, if_neg hb, Ly.insAt_nat hm _ _ (by omega)], rfl, vg3, vl3, cur3, F3, hx⟩⟩
         have Hcs := hd' hcs
         refine hK _ _ M.o (fun hH => ?_)
         refine rd 3 (h := fun K hK => ?_)
         refine wp_store_mid 30 _ _ rfl w.heap.size 0 iiZ rfl rfl (HR7.o.there 0 2 (by simp)) uaf (by simp [Value.oneCell']) ?_
         have HS8 := hd' (Blk.setMod w7 w.heap.size 0 (iiZ : Array Value).toList)
         have HR8 := hd' (HR7.o.setAll iiZ rfl)
         have M := hd' (hH.trans' (HS8.o.imp (fun _ _ h => .inr h)))
         refine hK _ _ M.o (fun hH => ?_)
         refine tk 4 (iV ec) hH (h := ?_)
         have MS := hd' hH
         refine wpAnyH_done (by kernel_rfl) ?_ _
         try simp only [Act.put]
         go_wp2_with fail
         refine bpr (uam rfl (ResAt.of rfl HR8.o Tryz.underlying30 rfl uaf)) rfl ?_
         have hMM := ((HM3.o.trans' (Gou.Mod.drew (fun _ => False) W3)).imp (S' := fun x => x = D ∨ x ∈ F) (fun _ _ h => h.elim)).trans' Hm7.o
         have hM8 := hMM.trans HS8.o (S' := fun k => k = w.heap.size) (fun k hk e => by omega)
         have hbox : ∀ (a2 : Ar) (T2 : Ly) (F3 : List Nat) (vg vl : Value) (cur : Array Value), ubi base w7 D a2 T2 F3 op vg vl vp vf vb cur → ubi base _ D a2 T2 F3 op vg vl vp vf vb cur := fun a2 T2 F3 vg vl cur hd => hd.box tI tB HR7.o (by decide) (by have := HDlt.o; omega) (by have := HDlt.o; have := Hge.o; omega) HS8.o
         rcases Hcs.o with ⟨h1, h2⟩ | ⟨sn, h1, h2, h3⟩
         ·exact ⟨hM8, by (rw [h1]; try rfl), fun h => absurd h (by rw [h1]; exact h2)⟩
         ·obtain ⟨vg3, vl3, cur3, F3, h4⟩ := h3
          refine ⟨hM8, by (rw [h1, h2]; try rfl), fun _ => ?_⟩
          rw [h1]
          exact ⟨_, _, _, _, hbox _ _ _ _ _ _ h4⟩
   ·have Hl := hd' (ub3 checkS s op HK.o.1 HK.o.2 hst)
    go_wp2_with fail
    have hR := ((HR2.o.set 0 (iV 0)).set 1 (iV 0))
    have hS := (Gou.Mod.set1 w2 w.heap.size 0 (iV 0)).trans' (Gou.Mod.set1 _ w.heap.size 1 (iV 0))
    refine bpr (uam rfl (ResAt.of rfl hR Tryz.underlying30 rfl uaf)) rfl ?_
    exact ⟨(HM2.o.trans hS (fun k hk e => by omega)).imp (fun _ _ h => h.elim), by (rw [Hl.o]; try rfl), fun h => absurd h (by rw [Hl.o]; show ¬ ((4 : Int) = 0); decide)⟩
end Go.Proofs.YtpbmfalokongfaaGreatDoor
namespace Go.Gou
open Go.RowKit
def scA (vg vl : Value) (i : Idt) (l : Lk) (vp vf vb vk : Value) : Array Value :=
 List.toArray (vg :: vl :: iV i.1 :: iV i.2 :: iV l.dx :: iV l.dy :: Value.bool l.hasClip :: iV l.clip.x0 :: iV l.clip.y0 :: iV l.clip.x1 :: iV l.clip.y1 :: iV l.opacity :: iV l.mode :: iV l.content.kind :: iV l.content.box.x0 :: iV l.content.box.y0 :: iV l.content.box.x1 :: iV l.content.box.y1 :: Value.int .u8 (l.content.px.p0 : Nat) :: Value.int .u8 (l.content.px.p1 : Nat) :: Value.int .u8 (l.content.px.p2 : Nat) :: Value.int .u8 (l.content.px.p3 : Nat) :: iV l.content.w :: iV l.content.h :: iV l.content.turn :: vp :: Value.bool l.hasFilt :: vf :: iV l.filt.out :: Value.bool l.hasBack :: vb :: iV l.back.out :: vk :: [])
@[reducible] def scZ : Array Value := scA nlS nlS (0, 0) Lk.zero nlS nlS nlS nlS
def doA (vg vl : Value) (i : Idt) (l : Lk) (vp vf vb vk : Value) (o : Opr) (wp wf wb : Value) : Array Value :=
 List.toArray (vg :: vl :: iV i.1 :: iV i.2 :: iV l.dx :: iV l.dy :: Value.bool l.hasClip :: iV l.clip.x0 :: iV l.clip.y0 :: iV l.clip.x1 :: iV l.clip.y1 :: iV l.opacity :: iV l.mode :: iV l.content.kind :: iV l.content.box.x0 :: iV l.content.box.y0 :: iV l.content.box.x1 :: iV l.content.box.y1 :: Value.int .u8 (l.content.px.p0 : Nat) :: Value.int .u8 (l.content.px.p1 : Nat) :: Value.int .u8 (l.content.px.p2 : Nat) :: Value.int .u8 (l.content.px.p3 : Nat) :: iV l.content.w :: iV l.content.h :: iV l.content.turn :: vp :: Value.bool l.hasFilt :: vf :: iV l.filt.out :: Value.bool l.hasBack :: vb :: iV l.back.out :: vk :: iV o.kind :: iV o.id.1 :: iV o.id.2 :: iV o.to.1 :: iV o.to.2 :: iV o.at_ :: iV o.look.dx :: iV o.look.dy :: Value.bool o.look.hasClip :: iV o.look.clip.x0 :: iV o.look.clip.y0 :: iV o.look.clip.x1 :: iV o.look.clip.y1 :: iV o.look.opacity :: iV o.look.mode :: iV o.look.content.kind :: iV o.look.content.box.x0 :: iV o.look.content.box.y0 :: iV o.look.content.box.x1 :: iV o.look.content.box.y1 :: Value.int .u8 (o.look.content.px.p0 : Nat) :: Value.int .u8 (o.look.content.px.p1 : Nat) :: Value.int .u8 (o.look.content.px.p2 : Nat) :: Value.int .u8 (o.look.content.px.p3 : Nat) :: iV o.look.content.w :: iV o.look.content.h :: iV o.look.content.turn :: wp :: Value.bool o.look.hasFilt :: wf :: iV o.look.filt.out :: Value.bool o.look.hasBack :: wb :: iV o.look.back.out :: [])
theorem ucd (vg vl : Value) (i : Idt) (l : Lk) (vp vf vb vk : Value) : (scA vg vl i l vp vf vb vk).toList = [vg, vl] ++ (lyA i l vp vf vb vk).toList := rfl
theorem ui5 (vg vl : Value) (i : Idt) (l : Lk) (vp vf vb vk : Value) (o : Opr) (wp wf wb : Value) : (doA vg vl i l vp vf vb vk o wp wf wb).toList = (scA vg vl i l vp vf vb vk).toList ++ (oprC o wp wf wb).toList := rfl
structure ArG (G : Nat → Prop) (w : World) (vg vl : Value) (a : Ar) : Prop where
 g : RowG G w 1 vg a.gens.length (ivs a.gens)
 l : RowG G w 1 vl a.live.length (bvs a.live)
theorem ArG.reads {G : Nat → Prop} {w : World} {vg vl : Value} {a : Ar} (h : ArG G w vg vl a) : ArR w vg vl a := ⟨h.g.imp (fun _ _ _ => trivial), h.l.imp (fun _ _ _ => trivial)⟩
def SnR (G : Nat → Prop) (w : World) (v : Value) (s : Sn) : Prop := ∃ vg vl vp vf vb vk, v = .agg (scA vg vl s.root.id s.root.look vp vf vb vk) ∧ ArG G w vg vl s.arena ∧ LyR G w (lyA s.root.id s.root.look vp vf vb vk).toList s.root
theorem SnR.mod {G S : Nat → Prop} {w w' : World} {v : Value} {s : Sn} (h : SnR G w v s) (hm : Mod S w w') (hS : ∀ k, k < w.heap.size → G k → ¬ S k) : SnR G w' v s := by
 obtain ⟨vg, vl, vp, vf, vb, vk, h1, h2, h3⟩ := h
 exact ⟨vg, vl, vp, vf, vb, vk, h1, ⟨RowG.mod h2.g hm hS, RowG.mod h2.l hm hS⟩, h3.mod hm hS⟩
theorem SnR.imp {G G' : Nat → Prop} {w : World} {v : Value} {s : Sn} (h : SnR G w v s) (hG : ∀ k, k < w.heap.size → G k → G' k) : SnR G' w v s := by
 obtain ⟨vg, vl, vp, vf, vb, vk, h1, h2, h3⟩ := h
 exact ⟨vg, vl, vp, vf, vb, vk, h1, ⟨RowG.imp h2.g hG, RowG.imp h2.l hG⟩, h3.imp hG⟩
theorem SnR.up {G : Nat → Prop} {w w' : World} {v : Value} {s : Sn} (h : SnR G w v s) (hm : Mod (fun _ => False) w w') : SnR G w' v s := h.mod hm (fun _ _ _ h => h)
structure ugk (s : Sn) : Prop where
 root : TFit s.root
 g : s.arena.gens.length ≤ 1000000
 l : s.arena.live.length ≤ 1000000
theorem ud7 (w : World) (T U V X : TypeId) (cs ds es gs : Array Value) : Blk ((((w.alloc (.cells cs T)).alloc (.cells ds U)).alloc (.cells es V)).alloc (.cells gs X)) w.heap.size T cs ∧ Blk ((((w.alloc (.cells cs T)).alloc (.cells ds U)).alloc (.cells es V)).alloc (.cells gs X)) (w.heap.size + 1) U ds ∧
 Blk ((((w.alloc (.cells cs T)).alloc (.cells ds U)).alloc (.cells es V)).alloc (.cells gs X)) (w.heap.size + 1 + 1) V es ∧ Blk ((((w.alloc (.cells cs T)).alloc (.cells ds U)).alloc (.cells es V)).alloc (.cells gs X)) (w.heap.size + 1 + 1 + 1) X gs ∧
 Mod (fun _ => False) w ((((w.alloc (.cells cs T)).alloc (.cells ds U)).alloc (.cells es V)).alloc (.cells gs X)) := by
 obtain ⟨a0, a1, am⟩ := uaw w T U cs ds
 obtain ⟨b0, b1, bm⟩ := uaw ((w.alloc (.cells cs T)).alloc (.cells ds U)) V X es gs
 have e : ((w.alloc (.cells cs T)).alloc (.cells ds U)).heap.size = w.heap.size + 1 + 1 := by simp
 rw [e] at b0 b1
 exact ⟨a0.up bm, a1.up bm, b0, b1, am.trans' bm⟩
theorem doP_err (check : Gr → Int) (s : Sn) (o : Opr) (h : (doP check s o).2.2 ≠ 0) : (doP check s o).1 = s ∧ (doP check s o).2.1 = (0, 0) := by
 revert h
 unfold doP
 repeat' (first | split | (intro h; first | exact ⟨rfl, rfl⟩ | exact absurd rfl h))
 all_goals (simp only; repeat' (first | split | (intro h; first | exact ⟨rfl, rfl⟩ | exact absurd rfl h)))
end Go.Gou
namespace Go.Proofs.YtpbmfalokongfaaGreatDoor
open Go.RowKit Go.Gou
set_option maxRecDepth 100000
def SnO (base : Nat) (w : World) (v : Value) (s : Sn) : Prop := ∃ vg vl vp vf vb vk F, v = .agg (scA vg vl s.root.id s.root.look vp vf vb vk) ∧ ArL base w vg vl s.arena ∧ LyO 45 77 base w (lyA s.root.id s.root.look vp vf vb vk).toList s.root F
theorem SnO.reads {base : Nat} {w : World} {v : Value} {s : Sn} (h : SnO base w v s) : SnR (fun b => base ≤ b) w v s := by
 obtain ⟨vg, vl, vp, vf, vb, vk, F, h1, h2, h3⟩ := h
 exact ⟨vg, vl, vp, vf, vb, vk, h1, ⟨RowG.of_own h2.g, RowG.of_own h2.l⟩, h3.reads⟩
theorem SnO.up {base : Nat} {w w' : World} {v : Value} {s : Sn} (h : SnO base w v s) (hm : Gou.Mod (fun _ => False) w w') : SnO base w' v s := by
 obtain ⟨vg, vl, vp, vf, vb, vk, F, h1, h2, h3⟩ := h
 exact ⟨vg, vl, vp, vf, vb, vk, F, h1, h2.up hm, h3.up hm⟩
theorem SnO.low {base base' : Nat} {w : World} {v : Value} {s : Sn} (h : SnO base w v s) (hb : base' ≤ base) : SnO base' w v s := by
 obtain ⟨vg, vl, vp, vf, vb, vk, F, h1, h2, h3⟩ := h
 exact ⟨vg, vl, vp, vf, vb, vk, F, h1, ⟨uaj h2.g hb, uaj h2.l hb⟩, h3.low hb⟩
theorem SnO.box {base : Nat} {w w' : World} {v : Value} {s : Sn} (h : SnO base w v s) {k : Nat} {U : TypeId} {cs : Array Value} (hk : Blk w k U cs) (hU : U ≠ 45 ∧ ¬ ucx U) (hm : Gou.Mod (fun x => x = k) w w') : SnO base w' v s := by
 obtain ⟨vg, vl, vp, vf, vb, vk, F, h1, h2, h3⟩ := h
 refine ⟨vg, vl, vp, vf, vb, vk, F, h1, ⟨uac h2.g hm (fun x hx e => ?_), uac h2.l hm (fun x hx e => ?_)⟩, h3.mod hm (fun x hx e => ?_) (fun x _ hl e => ?_)⟩
 ·exact uan h2.g hk (by intro e; exact hU.2 (.inl e.symm)) (by rw [hx, e])
 ·exact uan h2.l hk (by intro e; exact hU.2 (.inr (.inl e.symm))) (by rw [hx, e])
 ·obtain ⟨_, _, cu, g2⟩ := h3.rows x hx
  subst e
  exact hU.1 (Blk.ty hk g2)
 ·obtain ⟨cu, T', g1, _, _, hT⟩ := hl
  subst e
  exact hU.2 (Blk.ty hk g1 ▸ hT)
theorem ubf {vg vl : Value} {i : Idt} {l : Lk} {vp vf vb vk : Value} (h0 : vg.oneCell' = true) (h1 : vl.oneCell' = true) (h : ∀ d ∈ (lyA i l vp vf vb vk).toList, d.oneCell' = true) : (scA vg vl i l vp vf vb vk).all (·.oneCell') = true := uat (fun d hd => by
 rw [ucd] at hd
 rcases List.mem_append.1 hd with hd | hd
 ·simp at hd
  rcases hd with rfl | rfl
  ·exact h0
  ·exact h1
 ·exact h d hd)
def WholeP (w : World) (s : Sn) (e : Ending) (w' : World) : Prop := ∃ v', e = .returned v' ∧ SnO w.heap.size w' v' s ∧ Gou.Mod (fun _ => False) w w'
theorem ugm (w : World) (v : Value) (s : Sn) (h : SnR (fun _ => True) w v s) (hf : ugk s) : Calls Tryz.prog 27 #[v] w (WholeP w s) := by
 obtain ⟨vg, vl, vp, vf, vb, vk, rfl, har, hly⟩ := h
 obtain ⟨pg, cg, rfl⟩ := RowG.slice har.g
 obtain ⟨pl, cl, rfl⟩ := RowG.slice har.l
 have Har := hd' har
 have Hly := hd' hly
 have Hf := hd' hf
 clear har hly hf
 obtain ⟨b0, b1, bm⟩ := uaw w 47 47 (scA (.slice pg s.arena.gens.length cg) (.slice pl s.arena.live.length cl) s.root.id s.root.look vp vf vb vk) scZ
 have HB := hd' b0
 have HR := hd' b1
 have HM := hd' bm
 clear b0 b1 bm
 go_enter Tryz.func27, Tryz.ntmps27
 go_upto_region 1 with fail
 show Code.wp _ _ _ _ ((w.alloc (.cells (scA (.slice pg s.arena.gens.length cg) (.slice pl s.arena.live.length cl) s.root.id s.root.look vp vf vb vk) 47)).alloc (.cells scZ 47))
 generalize (w.alloc (.cells (scA (.slice pg s.arena.gens.length cg) (.slice pl s.arena.live.length cl) s.root.id s.root.look vp vf vb vk) 47)).alloc (.cells scZ 47) = W1 at *
 have c0 : W1.cell? ⟨w.heap.size, 0, none⟩ = some (.slice pg s.arena.gens.length cg) := HB.o.cell 0 rfl
 have c1 : W1.cell? ⟨w.heap.size, 1, none⟩ = some (.slice pl s.arena.live.length cl) := HB.o.cell 1 rfl
 have HLr : Hid (W1.rangeAt w.heap.size 2 (lyA s.root.id s.root.look vp vf vb vk).toList) := hd' (Blk.range (pre := [.slice pg s.arena.gens.length cg, .slice pl s.arena.live.length cl]) (post := []) HB.o (by rw [List.append_nil]; exact ucd _ _ _ _ _ _ _ _) rfl)
 refine wdf (S := fun w' => Gou.Mod (fun _ => False) W1 w') 13 (Gou.Mod.drew _ _) (h := fun hH => ?_)
 refine tk 0 (.pointer (some ⟨w.heap.size, 0, none⟩)) hH (h := ?_)
 refine tk 1 (.pointer (some ⟨w.heap.size, 0, none⟩)) hH (h := ?_)
 refine tkC 2 c0 (fun h => h) hH (h := ?_)
 refine tk 4 (.pointer (some ⟨w.heap.size, 0, none⟩)) hH (h := ?_)
 refine tk 5 (.pointer (some ⟨w.heap.size, 1, none⟩)) hH (h := ?_)
 refine tkC 6 c1 (fun h => h) hH (h := ?_)
 refine tk 9 (.pointer (some ⟨w.heap.size, 2, none⟩)) hH (h := ?_)
 refine tkR 10 (.agg (lyA s.root.id s.root.look vp vf vb vk)) HLr.o (fun h => h) Tryz.underlying45 uaa hH (h := ?_)
 refine rd 3 (h := fun K hK => ?_)
 go_simp
 refine (ub5 _ pg s.arena.gens.length cg (ivs s.arena.gens) (fun _ => True) (RowG.mod Har.o.g (HM.o.trans' hH) (fun _ _ _ h => h)) (uf8 _) (by have := Hf.o.g; omega)).mono ?_
 rintro e w4 ⟨p4, c4, rfl, ho4, hm4⟩
 have M := hd' (hH.trans' hm4)
 have Ho4 := hd' ho4
 clear hH ho4 hm4
 refine hK _ _ M.o (fun hH => ?_)
 clear hK K M
 try simp only [Act.put, uSa, uSb, uSc]
 refine rd 7 (h := fun K hK => ?_)
 go_simp
 refine (udf _ pl s.arena.live.length cl (bvs s.arena.live) (fun _ => True) (RowG.mod Har.o.l (HM.o.trans' hH) (fun _ _ _ h => h)) (bvs_one _) (by have := Hf.o.l; omega)).mono ?_
 rintro e w5 ⟨p5, c5, rfl, ho5, hm5⟩
 have M := hd' (hH.trans' hm5)
 have Ho5 := hd' ho5
 have Ho4b := hd' (ua4 Ho4.o hm5)
 have Hz5 := hd' hH.size
 clear hH ho5 hm5 Ho4
 refine hK _ _ M.o (fun hH => ?_)
 clear hK K M
 try simp only [Act.put, uSa, uSb, uSc]
 refine tk 8 (.agg #[.slice p4 s.arena.gens.length c4, .slice p5 s.arena.live.length c5]) hH (h := ?_)
 refine rd 11 (h := fun K hK => ?_)
 go_simp
 refine (uft s.root _ vp vf vb vk (Hly.o.mod (HM.o.trans' hH) (fun _ _ _ h => h)) Hf.o.root).mono ?_
 rintro e w6 ⟨vp6, vf6, vb6, vk6, F6, rfl, ho6, hm6⟩
 have M := hd' (hH.trans' hm6)
 have Ho6 := hd' ho6
 have Ho4c := hd' (ua4 Ho4b.o hm6)
 have Ho5c := hd' (ua4 Ho5.o hm6)
 have Hz6 := hd' hH.size
 clear hH ho6 hm6 Ho4b Ho5
 refine hK _ _ M.o (fun hH => ?_)
 clear hK K M
 try simp only [Act.put, uSa, uSb, uSc]
 refine tkK 12 (.agg (scA (.slice p4 s.arena.gens.length c4) (.slice p5 s.arena.live.length c5) s.root.id s.root.look vp6 vf6 vb6 vk6)) hH (h := ?_)
 refine tk 13 (.bool true) hH (h := ?_)
 have MS := hd' hH
 refine wpAnyH_done (by kernel_rfl) ?_ _
 clear hH
 show Oper.wp _ _ _ _ _ _
 refine wp_store_mid 47 _ _ rfl (w.heap.size + 1) 0 (scA (.slice p4 s.arena.gens.length c4) (.slice p5 s.arena.live.length c5) s.root.id s.root.look vp6 vf6 vb6 vk6) rfl rfl ((HR.o.up MS.o).there 0 33 (by simp [scA])) uah (ubf rfl rfl (LyO.one Ho6.o)) ?_
 have HS := hd' (Blk.setMod w6 (w.heap.size + 1) 0 (scA (.slice p4 s.arena.gens.length c4) (.slice p5 s.arena.live.length c5) s.root.id s.root.look vp6 vf6 vb6 vk6).toList)
 have HR2 := hd' ((HR.o.up MS.o).setAll (scA (.slice p4 s.arena.gens.length c4) (.slice p5 s.arena.live.length c5) s.root.id s.root.look vp6 vf6 vb6 vk6) rfl)
 have HM2 := hd' ((HM.o.trans' MS.o).trans HS.o (fun k hk e => by omega))
 have hsn : SnO w.heap.size w6 (.agg (scA (.slice p4 s.arena.gens.length c4) (.slice p5 s.arena.live.length c5) s.root.id s.root.look vp6 vf6 vb6 vk6)) s := ⟨_, _, _, _, _, _, F6, rfl, ⟨uaj Ho4c.o HM.o.size, uaj Ho5c.o (Nat.le_trans HM.o.size Hz5.o)⟩, Ho6.o.low (Nat.le_trans HM.o.size Hz6.o)⟩
 have HSN := hd' (hsn.box (HR.o.up MS.o) (by decide) HS.o)
 clear hsn
 generalize w6.setCells (w.heap.size + 1) 0 (scA (.slice p4 s.arena.gens.length c4) (.slice p5 s.arena.live.length c5) s.root.id s.root.look vp6 vf6 vb6 vk6).toList = W2 at *
 try simp only [Act.put]
 go_wp2_with fail
 refine bpr (results_cell_row rfl _ _ (w.heap.size + 1) 47 (scA (.slice p4 s.arena.gens.length c4) (.slice p5 s.arena.live.length c5) s.root.id s.root.look vp6 vf6 vb6 vk6) (0, 0) _ rfl HR2.o Tryz.underlying47 rfl uah) rfl ?_
 exact ⟨_, rfl, HSN.o, HM2.o⟩
end Go.Proofs.YtpbmfalokongfaaGreatDoor
namespace Go.Gou
open Go Go.RowKit
theorem uav {P : Program} {ops : Array Oper} {rest : List Oper} {o : Oper} {a : Act} {w : World} {Q : Exit → Act → World → Prop} (hg : o.guard = none) (v : Value) (hr : (execOp a.eval o).run P w = .ok (.value v) w) (h : wpList P ops Q rest (a.put o.dst v) w) : wpList P ops Q (o :: rest) a w :=
 wpList_plain hg fun K hK => by unfold Oper.wp; rw [hr]; exact hK _ _ h
end Go.Gou
namespace Go.Proofs.YtpbmfalokongfaaGreatDoor
open Go.RowKit Go.Gou
set_option maxRecDepth 100000
theorem DoerR.new {base : Nat} {w : World} {s : Sn} {op : Opr} {vg vl vp vf vb vk wp wf wb : Value} {F : List Nat} (ha : ArL base w vg vl s.arena) (hl : LyO 45 77 base w (lyA s.root.id s.root.look vp vf vb vk).toList s.root F) (ho : LookR (fun b => b < base) w op.look wp wf wb) (hb : base ≤ w.heap.size) :
 ubi base (w.alloc (.cells (doA vg vl s.root.id s.root.look vp vf vb vk op wp wf wb) 77)) w.heap.size s.arena s.root F op vg vl wp wf wb (doA vg vl s.root.id s.root.look vp vf vb vk op wp wf wb) := by
 have hm := Gou.Mod.alloc0 w (.cells (doA vg vl s.root.id s.root.look vp vf vb vk op wp wf wb) 77)
 have hB := Blk.new w 77 (doA vg vl s.root.id s.root.look vp vf vb vk op wp wf wb)
 refine ⟨⟨⟨_, _, _, hl.up hm, hB, .inr rfl, fun j hj => ?_⟩, hb, fun h => ?_⟩, hB, rfl, rfl, rfl, fun j hj => ?_, ha.up hm, ho.mod hm (fun _ _ _ h => h)⟩
 ·rw [← agT, ui5, ucd, List.append_assoc, lgR (by simp), lgL (by simp only [uew, List.length_cons, List.length_nil]; omega)]
  simp
 ·have := (hl.rows _ h).2.1
  omega
 ·rw [← agT, ui5, lgR (by rw [ucd, List.length_append, uew]; simp only [List.length_cons, List.length_nil]; omega), ← agT]
  congr 1
  rw [ucd, List.length_append, uew]
  simp only [List.length_cons, List.length_nil]
  omega
theorem DoerR.scene {base : Nat} {w : World} {D : Nat} {a : Ar} {T : Ly} {F : List Nat} {op : Opr} {vg vl vp vf vb : Value} {cur : Array Value} (h : ubi base w D a T F op vg vl vp vf vb cur) :
 ∃ up uf ub uk, w.rangeAt D 0 (scA vg vl T.id T.look up uf ub uk).toList ∧ LyO 45 77 base w (lyA T.id T.look up uf ub uk).toList T F := by
 obtain ⟨⟨c, cur', TT, h1, h2, h3, h4⟩, h5, h6⟩ := h.tree
 have hb := h.blk
 unfold Blk at hb h2
 rw [hb] at h2
 simp only [Option.some.injEq, Obj.cells.injEq] at h2
 obtain ⟨rfl, rfl, -⟩ := h2
 obtain ⟨up, uf, ub, uk, css, e, _⟩ := h1.reads.form
 subst e
 refine ⟨up, uf, ub, uk, fun j v hv => ?_, h1⟩
 rw [Nat.zero_add]
 refine h.blk.cell j ?_
 rw [ucd] at hv
 match j, hv with
 | 0, hv => rw [h.c0]; simpa using hv
 | 1, hv => rw [h.c1]; simpa using hv
 | j + 2, hv =>
  rw [lgR (by simp)] at hv
  simp only [List.length_cons, List.length_nil, Nat.add_sub_cancel] at hv
  have hj := (lgS.1 hv).1
  rw [uew] at hj
  have := h4 j hj
  rw [Nat.add_comm] at this
  rw [this]
  exact hv
theorem new_any (w : World) : Calls Tryz.prog 10 #[] w (WholeP w Sn.new) := by
 have HB := hd' (Blk.new w 47 scZ)
 have HM := hd' (Gou.Mod.alloc0 w (.cells scZ 47))
 go_enter Tryz.func10, Tryz.ntmps10
 go_upto_region 1 with fail
 show Code.wp _ _ _ _ (w.alloc (.cells scZ 47))
 generalize w.alloc (.cells scZ 47) = W1 at *
 go_wp2_with fail
 refine (arNew_any _).mono ?_
 rintro e w2 ⟨vg2, vl2, rfl, ha2, hm2⟩
 have Ha2 := hd' ha2
 have HM2 := hd' (HM.o.trans' hm2)
 have HB2 := hd' (HB.o.up hm2)
 have Hz := hd' hm2.size
 clear ha2 hm2
 go_wp2_with fail
 refine (uek _).mono ?_
 rintro e w3 ⟨rfl, hm3⟩
 have Ha3 := hd' (Ha2.o.up hm3)
 have HM3 := hd' (HM2.o.trans' hm3)
 have HB3 := hd' (HB2.o.up hm3)
 clear hm3
 go_wp2_with (first | ((with_reducible show wpList _ _ _ (⟨_, Op.build _ _, _, _, _, _⟩ :: _) _ _); refine halt ?_) | fail)
 show wpList _ _ _ _ _ _
 refine uav rfl (.agg (lyA (0, 0) Lk.plain nlS nlS nlS nlS)) (by kernel_rfl) ?_
 simp only [Act.put, List.setIfInBounds_toArray, List.set_cons_zero, List.set_cons_succ]
 refine uav rfl (.agg (scA vg2 vl2 (0, 0) Lk.plain nlS nlS nlS nlS)) (by kernel_rfl) ?_
 simp only [Act.put, List.setIfInBounds_toArray, List.set_cons_zero, List.set_cons_succ]
 refine wpList_store_mid rfl 47 _ _ rfl w.heap.size 0 (scA vg2 vl2 (0, 0) Lk.plain nlS nlS nlS nlS) rfl rfl (HB3.o.there 0 33 (by simp [scA])) uah (ubf (by obtain ⟨⟨_, _, rfl⟩, _⟩ := Ha2.o.forms; rfl) (by obtain ⟨_, _, _, rfl⟩ := Ha2.o.forms; rfl) (by simp [lyA, Value.oneCell'])) ?_
 have HS := hd' (Blk.setMod w3 w.heap.size 0 (scA vg2 vl2 (0, 0) Lk.plain nlS nlS nlS nlS).toList)
 have HB4 := hd' (HB3.o.setAll (scA vg2 vl2 (0, 0) Lk.plain nlS nlS nlS nlS) rfl)
 have HM4 := hd' (HM3.o.trans HS.o (fun k hk e => by omega))
 have hsn : SnO w.heap.size w3 (.agg (scA vg2 vl2 (0, 0) Lk.plain nlS nlS nlS nlS)) Sn.new := ⟨_, _, _, _, _, _, [], rfl, ⟨uaj Ha3.o.g HM.o.size, uaj Ha3.o.l HM.o.size⟩, LyO.mk (0, 0) Lk.plain [] _ _ _ _ [] [] ⟨PixR.nil _ _, NodesR.nil _ _, NodesR.nil _ _⟩ (World.ownsRow_nil _ _ _ _) rfl rfl (fun j c k f h => by simp at h) (by simp [Value.ownBlock])⟩
 have HSN := hd' (hsn.box HB3.o (by decide) HS.o)
 clear hsn
 generalize w3.setCells w.heap.size 0 (scA vg2 vl2 (0, 0) Lk.plain nlS nlS nlS nlS).toList = W4 at *
 go_wp2_with fail
 refine bpr (results_cell_row rfl _ _ (w.heap.size) 47 (scA vg2 vl2 (0, 0) Lk.plain nlS nlS nlS nlS) (0, 0) _ rfl HB4.o Tryz.underlying47 rfl uah) rfl ?_
 exact ⟨_, rfl, HSN.o, HM4.o⟩
def DoSP (w : World) (s : Sn) (op : Opr) (e : Ending) (w' : World) : Prop := ∃ v', e = .returned (.tuple #[v', .agg #[iV (doP checkS s op).2.1.1, iV (doP checkS s op).2.1.2], iV (doP checkS s op).2.2]) ∧ SnO w.heap.size w' v' (doP checkS s op).1 ∧ Gou.Mod (fun _ => False) w w'
theorem ue3 (w : World) (v : Value) (s : Sn) (op : Opr) (wp wf wb : Value) (h : SnR (fun _ => True) w v s) (hf : ugk s) (ho : LookR (fun _ => True) w op.look wp wf wb) (n : Nat) (hI : Inv n s) (hn : n ≤ 100) (hfit : LkFit op.look) (hwf : GrWf op.look.filt) (hwb : GrWf op.look.back) :
 Calls Tryz.prog 12 #[v, .agg (oprC op wp wf wb)] w (DoSP w s op) := by
 obtain ⟨vg, vl, vp, vf, vb, vk, rfl, har, hly⟩ := h
 obtain ⟨pg, cg, rfl⟩ := RowG.slice har.g
 obtain ⟨pl, cl, rfl⟩ := RowG.slice har.l
 obtain ⟨⟨pp, cp, rfl⟩, ⟨pf, cf, rfl⟩, ⟨pb, cb, rfl⟩⟩ := ho.forms
 have HS0 : Hid (SnR (fun b => b < w.heap.size) w (.agg (scA (.slice pg s.arena.gens.length cg) (.slice pl s.arena.live.length cl) s.root.id s.root.look vp vf vb vk)) s) := hd' (SnR.imp (G := fun _ => True) ⟨_, _, _, _, _, _, rfl, har, hly⟩ (fun k hk _ => hk))
 have Hf := hd' hf
 have Hlk : Hid (LookR (fun b => b < w.heap.size) w op.look (.slice pp op.look.content.pix.length cp) (.slice pf op.look.filt.nodes.length cf) (.slice pb op.look.back.nodes.length cb)) := hd' (ho.imp (fun k hk _ => hk))
 have HI := hd' hI
 have Hn := hd' hn
 have Hfit := hd' hfit
 have Hwf := hd' hwf
 have Hwb := hd' hwb
 obtain ⟨b0, b1, b2, b3, bm⟩ := ud7 w 47 53 47 30 (scA (.slice pg s.arena.gens.length cg) (.slice pl s.arena.live.length cl) s.root.id s.root.look vp vf vb vk) (opS op pp cp pf cf pb cb) scZ iiZ
 have HB0 := hd' b0
 have HB1 := hd' b1
 have HR := hd' b2
 have HJ := hd' b3
 have HM := hd' bm
 clear har hly hf ho hI hn hfit hwf hwb b0 b1 b2 b3 bm
 go_enter Tryz.func12, Tryz.ntmps12
 go_upto_region 1 with fail
 show Code.wp _ _ _ _ ((((w.alloc (.cells (scA (.slice pg s.arena.gens.length cg) (.slice pl s.arena.live.length cl) s.root.id s.root.look vp vf vb vk) 47)).alloc (.cells (opS op pp cp pf cf pb cb) 53)).alloc (.cells scZ 47)).alloc (.cells iiZ 30))
 generalize (((w.alloc (.cells (scA (.slice pg s.arena.gens.length cg) (.slice pl s.arena.live.length cl) s.root.id s.root.look vp vf vb vk) 47)).alloc (.cells (opS op pp cp pf cf pb cb) 53)).alloc (.cells scZ 47)).alloc (.cells iiZ 30) = W1 at *
 have HSr : Hid (W1.rangeAt w.heap.size 0 (scA (.slice pg s.arena.gens.length cg) (.slice pl s.arena.live.length cl) s.root.id s.root.look vp vf vb vk).toList) := hd' (Blk.range (pre := []) (post := []) HB0.o (by rw [List.append_nil]; rfl) rfl)
 have HOr : Hid (W1.rangeAt (w.heap.size + 1) 0 (opS op pp cp pf cf pb cb).toList) := hd' (Blk.range (pre := []) (post := []) HB1.o (by rw [List.append_nil]; rfl) rfl)
 have HW1 : Hid (w.heap.size + 4 ≤ W1.heap.size) := hd' (by have := Blk.lt HJ.o; omega)
 refine wp_region_held_drew (S := fun w' => Gou.Mod (fun _ => False) W1 w') (by kernel_rfl) (Gou.Mod.drew _ _) (fun hH => ?_)
 refine tkR 0 (.agg (scA (.slice pg s.arena.gens.length cg) (.slice pl s.arena.live.length cl) s.root.id s.root.look vp vf vb vk)) HSr.o (fun h => h) Tryz.underlying47 uah hH (h := ?_)
 refine tkR 2 (.agg (opS op pp cp pf cf pb cb)) HOr.o (fun h => h) Tryz.underlying53 ued hH (h := ?_)
 refine rd 1 (h := fun K hK => ?_)
 go_simp
 refine (ugm _ _ s ((HS0.o.up (HM.o.trans' hH)).imp (fun _ _ _ => trivial)) Hf.o).mono ?_
 rintro e w4 ⟨v4, rfl, hs4, hm4⟩
 obtain ⟨vg4, vl4, vp4, vf4, vb4, vk4, F4, rfl, ha4, hl4⟩ := hs4
 have M := hd' (hH.trans' hm4)
 have Ha4 := hd' ha4
 have Hl4 := hd' hl4
 have Hm4 := hd' ((Gou.Mod.drew (fun _ => False) W1).trans' hm4)
 clear hH ha4 hl4 hm4
 refine hK _ _ M.o (fun hH => ?_)
 clear hK K M
 try simp only [Act.put, uSa, uSb, uSc]
 refine tkK 3 (.agg (doA vg4 vl4 s.root.id s.root.look vp4 vf4 vb4 vk4 op (.slice pp op.look.content.pix.length cp) (.slice pf op.look.filt.nodes.length cf) (.slice pb op.look.back.nodes.length cb))) hH (h := ?_)
 refine rd 4 (h := fun K hK => ?_)
 go_simp
 have M := hd' (hH.trans' (Gou.Mod.alloc0 w4 (.cells (doA vg4 vl4 s.root.id s.root.look vp4 vf4 vb4 vk4 op (.slice pp op.look.content.pix.length cp) (.slice pf op.look.filt.nodes.length cf) (.slice pb op.look.back.nodes.length cb)) 77)))
 clear hH
 have hz4 := Nat.le_trans HM.o.size Hm4.o.size
 have HDn := hd' (DoerR.new (s := s) (base := w.heap.size) (op := op) ⟨uaj Ha4.o.g HM.o.size, uaj Ha4.o.l HM.o.size⟩ (Hl4.o.low HM.o.size) (Hlk.o.mod (HM.o.trans' Hm4.o) (fun _ _ _ h => h)) hz4)
 have HDge : Hid (w.heap.size + 4 ≤ w4.heap.size) := hd' (by have := HW1.o; have := Hm4.o.size; omega)
 have HFg : Hid (∀ x ∈ F4, w.heap.size + 4 ≤ x) := hd' (fun x hx => by have h1 := (Hl4.o.rows x hx).1; have h2 := HW1.o; exact Nat.le_trans h2 h1)
 have hma := Hm4.o.trans' (Gou.Mod.alloc0 w4 (.cells (doA vg4 vl4 s.root.id s.root.look vp4 vf4 vb4 vk4 op (.slice pp op.look.content.pix.length cp) (.slice pf op.look.filt.nodes.length cf) (.slice pb op.look.back.nodes.length cb)) 77))
 have HB05 := hd' (HB0.o.up hma)
 have HR5 := hd' (HR.o.up hma)
 have HJ5 := hd' (HJ.o.up hma)
 clear hz4 hma
 generalize w4.alloc (.cells (doA vg4 vl4 s.root.id s.root.look vp4 vf4 vb4 vk4 op (.slice pp op.look.content.pix.length cp) (.slice pf op.look.filt.nodes.length cf) (.slice pb op.look.back.nodes.length cb)) 77) = W5 at *
 generalize w4.heap.size = D at *
 refine hK _ _ M.o (fun hH => ?_)
 clear hK K M
 try simp only [Act.put, uSa, uSb, uSc]
 refine tk 5 (.pointer (some ⟨D, 0, none⟩)) hH (h := ?_)
 have MS := hd' hH
 refine wpAnyH_done (by kernel_rfl) ?_ _
 clear hH
 try simp only [Act.put]
 have HMk := hd' (HM.o.trans' MS.o)
 clear MS
 have HD5 : Hid (ubi w.heap.size W5 D s.arena s.root F4 op vg4 vl4 (.slice pp op.look.content.pix.length cp) (.slice pf op.look.filt.nodes.length cf) (.slice pb op.look.back.nodes.length cb) (doA vg4 vl4 s.root.id s.root.look vp4 vf4 vb4 vk4 op (.slice pp op.look.content.pix.length cp) (.slice pf op.look.filt.nodes.length cf) (.slice pb op.look.back.nodes.length cb))) := HDn
 have HDg : Hid (w.heap.size + 4 ≤ D) := HDge
 go_upto_region 2 with fail
 go_wp2_with fail
 refine (do_any w.heap.size W5 D s F4 op vg4 vl4 _ _ _ _ HD5.o n HI.o Hn.o Hf.o.root Hfit.o Hwf.o Hwb.o).mono ?_
 rintro e w6 ⟨hm6, rfl, hgood⟩
 have HX : Hid (∀ x, (x = D ∨ x ∈ F4) → w.heap.size + 4 ≤ x) := hd' (fun x hx => by
  rcases hx with rfl | hx
  ·exact HDg.o
  ·exact HFg.o x hx)
 have HM6 := hd' (HMk.o.trans hm6 (fun k hk e => by have := HX.o k e; omega))
 have HB06 := hd' (HB05.o.mod hm6 (fun e => by have := HX.o _ e; omega))
 have HR6 := hd' (HR5.o.mod hm6 (fun e => by have := HX.o _ e; omega))
 have HJ6 := hd' (HJ5.o.mod hm6 (fun e => by have := HX.o _ e; omega))
 have Hgood := hd' hgood
 clear hm6 hgood
 obtain ⟨rr, hrr⟩ : ∃ r, r = doP checkS s op := ⟨_, rfl⟩
 have Hrr := hd' hrr
 rw [← hrr] at Hgood ⊢
 clear hrr
 go_upto_region 3 with fail
 have HID := hd' (Blk.new w6 30 #[iV rr.2.1.1, iV rr.2.1.2])
 have hma := Gou.Mod.alloc0 w6 (.cells #[iV rr.2.1.1, iV rr.2.1.2] 30)
 have HM7 := hd' (HM6.o.trans' hma)
 have HB07 := hd' (HB06.o.up hma)
 have HR7 := hd' (HR6.o.up hma)
 have HJ7 := hd' (HJ6.o.up hma)
 have HG7 : Hid (rr.2.2 = 0 → ∃ vg vl cur F3, ubi w.heap.size (w6.alloc (.cells #[iV rr.2.1.1, iV rr.2.1.2] 30)) D rr.1.arena rr.1.root F3 op vg vl (.slice pp op.look.content.pix.length cp) (.slice pf op.look.filt.nodes.length cf) (.slice pb op.look.back.nodes.length cb) cur) := hd' (fun h => by
  obtain ⟨vg, vl, cur, F3, h⟩ := Hgood.o h
  exact ⟨vg, vl, cur, F3, h.up hma⟩)
 have HNid : Hid (w.heap.size + 4 ≤ w6.heap.size) := hd' (by have := HM6.o.size; have := Blk.lt HJ6.o; omega)
 clear hma HM6 HB06 HR6 HJ6 Hgood
 generalize w6.alloc (.cells #[iV rr.2.1.1, iV rr.2.1.2] 30) = W7 at *
 generalize w6.heap.size = NI at *
 by_cases hz : rr.2.2 = 0
 ·have ez : (rr.2.2 == 0) = true := beq_iff_eq.2 hz
  have Hz := hd' hz
  obtain ⟨vg8, vl8, cur8, F8, hd8⟩ := HG7.o hz
  obtain ⟨up, uf, ub, uk, hrg, hly⟩ := DoerR.scene hd8
  have HD8 := hd' hd8
  have Hly8 := hd' hly
  obtain ⟨⟨pg8, cg8, rfl⟩, pl8, cl8, rfl⟩ := hd8.ar.forms
  have Hdr := hd' hrg
  clear hz hd8 hrg hly HG7
  go_upto_region 5 with fail
  clear ez
  have HDn5 : Hid (¬ (D = w.heap.size + 1 + 1 ∨ D = w.heap.size + 1 + 1 + 1)) := hd' (by have := HDg.o; omega)
  have HNn5 : Hid (¬ (NI = w.heap.size + 1 + 1 ∨ NI = w.heap.size + 1 + 1 + 1)) := hd' (by have := HNid.o; omega)
  have HIr : Hid (W7.rangeAt NI 0 [iV rr.2.1.1, iV rr.2.1.2]) := hd' (Blk.range (pre := []) (post := []) HID.o (by simp) rfl)
  have HSq : Hid (SnO w.heap.size W7.drew (.agg (scA (.slice pg8 rr.1.arena.gens.length cg8) (.slice pl8 rr.1.arena.live.length cl8) rr.1.root.id rr.1.root.look up uf ub uk)) rr.1) := hd' (SnO.up ⟨_, _, _, _, _, _, F8, rfl, HD8.o.ar, Hly8.o⟩ (Gou.Mod.drew (fun _ => False) W7))
  have HRq := hd' (HR7.o.up (Gou.Mod.drew (fun _ => False) W7))
  have HJq := hd' (HJ7.o.up (Gou.Mod.drew (fun _ => False) W7))
  refine wp_region_held_drew (S := fun w' => Gou.Mod (fun x => x = w.heap.size + 1 + 1 ∨ x = w.heap.size + 1 + 1 + 1) W7 w') (by kernel_rfl) (Gou.Mod.drew _ _) (fun hH => ?_)
  refine tk 0 (.pointer (some ⟨D, 0, none⟩)) hH (h := ?_)
  refine tk 1 (.pointer (some ⟨D, 0, none⟩)) hH (h := ?_)
  refine tk 2 (.pointer (some ⟨D, 0, none⟩)) hH (h := ?_)
  refine tkR 3 (.agg (scA (.slice pg8 rr.1.arena.gens.length cg8) (.slice pl8 rr.1.arena.live.length cl8) rr.1.root.id rr.1.root.look up uf ub uk)) Hdr.o HDn5.o Tryz.underlying47 uah hH (h := ?_)
  refine tkR 4 (.agg #[iV rr.2.1.1, iV rr.2.1.2]) HIr.o HNn5.o Tryz.underlying30 uaf hH (h := ?_)
  refine rd 5 (h := fun K hK => ?_)
  refine wp_store_mid 47 _ _ rfl (w.heap.size + 1 + 1) 0 (scA (.slice pg8 rr.1.arena.gens.length cg8) (.slice pl8 rr.1.arena.live.length cl8) rr.1.root.id rr.1.root.look up uf ub uk) rfl rfl (HRq.o.there 0 33 (by simp [scA])) uah (ubf rfl rfl (LyO.one Hly8.o)) ?_
  have HS9 := hd' (Blk.setMod W7.drew (w.heap.size + 1 + 1) 0 (scA (.slice pg8 rr.1.arena.gens.length cg8) (.slice pl8 rr.1.arena.live.length cl8) rr.1.root.id rr.1.root.look up uf ub uk).toList)
  have HR9 := hd' (HRq.o.setAll (scA (.slice pg8 rr.1.arena.gens.length cg8) (.slice pl8 rr.1.arena.live.length cl8) rr.1.root.id rr.1.root.look up uf ub uk) rfl)
  have HJ9 := hd' (HJq.o.mod HS9.o (by omega))
  have HSN9 := hd' (HSq.o.box HRq.o (by decide) HS9.o)
  have M := hd' (hH.trans' (HS9.o.imp (fun _ _ h => .inl h)))
  clear hH
  generalize W7.drew.setCells (w.heap.size + 1 + 1) 0 (scA (.slice pg8 rr.1.arena.gens.length cg8) (.slice pl8 rr.1.arena.live.length cl8) rr.1.root.id rr.1.root.look up uf ub uk).toList = W9 at *
  refine hK _ _ M.o (fun hH => ?_)
  clear hK K M
  try simp only [Act.put, uSa, uSb, uSc]
  refine rd 6 (h := fun K hK => ?_)
  refine wp_store_mid 30 _ _ rfl (w.heap.size + 1 + 1 + 1) 0 #[iV rr.2.1.1, iV rr.2.1.2] rfl rfl (HJ9.o.there 0 2 (by simp)) uaf (by simp [Value.oneCell']) ?_
  have HS10 := hd' (Blk.setMod W9 (w.heap.size + 1 + 1 + 1) 0 (#[iV rr.2.1.1, iV rr.2.1.2] : Array Value).toList)
  have HR10 := hd' (HR9.o.mod HS10.o (by omega))
  have HJ10 := hd' (HJ9.o.setAll #[iV rr.2.1.1, iV rr.2.1.2] rfl)
  have HSN10 := hd' (HSN9.o.box HJ9.o (by decide) HS10.o)
  have M := hd' (hH.trans' (HS10.o.imp (fun _ _ h => .inr h)))
  clear hH
  generalize W9.setCells (w.heap.size + 1 + 1 + 1) 0 (#[iV rr.2.1.1, iV rr.2.1.2] : Array Value).toList = W10 at *
  refine hK _ _ M.o (fun hH => ?_)
  clear hK K M
  try simp only [Act.put, uSa, uSb, uSc]
  refine tk 7 (iV 0) hH (h := ?_)
  have MS := hd' hH
  refine wpAnyH_done (by kernel_rfl) ?_ _
  clear hH
  try simp only [Act.put]
  go_wp2_with fail
  refine bpr (ubg rfl (ResAt.of rfl HR10.o Tryz.underlying47 rfl uah) (ResAt.of rfl HJ10.o Tryz.underlying30 rfl uaf)) rfl ?_
  refine ⟨.agg (scA (.slice pg8 rr.1.arena.gens.length cg8) (.slice pl8 rr.1.arena.live.length cl8) rr.1.root.id rr.1.root.look up uf ub uk), ?_, ?_, HM7.o.trans MS.o (fun k hk e => by omega)⟩
  ·rw [← Hrr.o, Hz.o]
   rfl
  ·rw [← Hrr.o]
   exact HSN10.o
 ·have ez : (rr.2.2 == 0) = false := bqf.2 hz
  have Hz := hd' hz
  have Herr := hd' (doP_err checkS s op (by rw [← Hrr.o]; exact hz))
  clear hz
  have HS7 : Hid (SnR (fun _ => True) W7 (.agg (scA (.slice pg s.arena.gens.length cg) (.slice pl s.arena.live.length cl) s.root.id s.root.look vp vf vb vk)) s) := hd' ((HS0.o.up HM7.o).imp (fun _ _ _ => trivial))
  have HSr7 : Hid (W7.rangeAt w.heap.size 0 (scA (.slice pg s.arena.gens.length cg) (.slice pl s.arena.live.length cl) s.root.id s.root.look vp vf vb vk).toList) := hd' (Blk.range (pre := []) (post := []) HB07.o (by rw [List.append_nil]; rfl) rfl)
  go_upto_region 4 with fail
  clear ez
  go_wp2_with (first | ((with_reducible refine lT 47 ?_); refine ldA HSr7.o Tryz.underlying47 uah (h := ?_)) | fail)
  refine (ugm _ _ s HS7.o Hf.o).mono ?_
  rintro e w8 ⟨v8, rfl, hs8, hm8⟩
  obtain ⟨vg8, vl8, up, uf, ub, uk, F8, rfl, ha8, hl8⟩ := hs8
  have Ha8 := hd' ha8
  have Hl8 := hd' hl8
  have HM8 := hd' (HM7.o.trans' hm8)
  have HR8 := hd' (HR7.o.up hm8)
  have HJ8 := hd' (HJ7.o.up hm8)
  have Hz7 := hd' HM7.o.size
  have j0 : w8.cell? ⟨w.heap.size + 1 + 1 + 1, 0, none⟩ = some (iV 0) := HJ8.o.cell 0 rfl
  have j1 : w8.cell? ⟨w.heap.size + 1 + 1 + 1, 1, none⟩ = some (iV 0) := HJ8.o.cell 1 rfl
  have k0 := HJ8.o.frozen 0
  have k1 := HJ8.o.frozen 1
  have hsn : SnO w.heap.size w8 (.agg (scA vg8 vl8 s.root.id s.root.look up uf ub uk)) s := ⟨_, _, _, _, _, _, F8, rfl, ⟨uaj ha8.g Hz7.o, uaj ha8.l Hz7.o⟩, hl8.low Hz7.o⟩
  have HSN := hd' hsn
  clear hm8 ha8 hl8 hsn
  go_wp2_with (first | ((with_reducible show wpList _ _ _ (⟨none, Op.store 47 _ _, _, _, _, _⟩ :: _) _ _); refine halt ?_) | fail)
  show wpList _ _ _ _ _ _
  refine wpList_store_mid rfl 47 _ _ rfl (w.heap.size + 1 + 1) 0 (scA vg8 vl8 s.root.id s.root.look up uf ub uk) rfl rfl (HR8.o.there 0 33 (by simp [scA])) uah (ubf (by obtain ⟨⟨_, _, rfl⟩, _⟩ := Ha8.o.forms; rfl) (by obtain ⟨_, _, _, rfl⟩ := Ha8.o.forms; rfl) (LyO.one Hl8.o)) ?_
  have HS9 := hd' (Blk.setMod w8 (w.heap.size + 1 + 1) 0 (scA vg8 vl8 s.root.id s.root.look up uf ub uk).toList)
  have HR9 := hd' (HR8.o.setAll (scA vg8 vl8 s.root.id s.root.look up uf ub uk) rfl)
  have HJ9 := hd' (HJ8.o.mod HS9.o (by omega))
  have HM9 := hd' (HM8.o.trans HS9.o (fun k hk e => by omega))
  have HSN9 := hd' (HSN.o.box HR8.o (by decide) HS9.o)
  clear HSN j0 j1 k0 k1
  generalize w8.setCells (w.heap.size + 1 + 1) 0 (scA vg8 vl8 s.root.id s.root.look up uf ub uk).toList = W9 at *
  have j0 : W9.cell? ⟨w.heap.size + 1 + 1 + 1, 0, none⟩ = some (iV 0) := HJ9.o.cell 0 rfl
  have j1 : W9.cell? ⟨w.heap.size + 1 + 1 + 1, 1, none⟩ = some (iV 0) := HJ9.o.cell 1 rfl
  have k0 := HJ9.o.frozen 0
  have k1 := HJ9.o.frozen 1
  go_wp2_with fail
  have hR := (HJ9.o.set 0 (iV 0)).set 1 (iV 0)
  have hS := (Gou.Mod.set1 W9 (w.heap.size + 1 + 1 + 1) 0 (iV 0)).trans' (Gou.Mod.set1 _ (w.heap.size + 1 + 1 + 1) 1 (iV 0))
  have hRR := HR9.o.mod hS (by omega)
  have hSN := HSN9.o.box HJ9.o (by decide) hS
  refine bpr (ubg rfl (ResAt.of rfl hRR Tryz.underlying47 rfl uah) (ResAt.of rfl hR Tryz.underlying30 rfl uaf)) rfl ?_
  refine ⟨.agg (scA vg8 vl8 s.root.id s.root.look up uf ub uk), ?_, ?_, HM9.o.trans hS (fun k hk e => by omega)⟩
  ·rw [Herr.o.2, ← Hrr.o]
   rfl
  ·rw [Herr.o.1]
   exact hSN
end Go.Proofs.YtpbmfalokongfaaGreatDoor
namespace Go.Gou
open Go.RowKit
structure RdAt (w : World) (b o : Nat) (T : Ly) : Prop where
 lies : ∃ c, LyR (fun _ => True) w c T ∧ w.rangeAt b o c
 lt : b < w.heap.size
theorem RdAt.up {w w' : World} {b o : Nat} {T : Ly} (h : RdAt w b o T) (hm : Mod (fun _ => False) w w') : RdAt w' b o T := by
 obtain ⟨⟨c, h1, h2⟩, h3⟩ := h
 exact ⟨⟨c, h1.up hm, fun j v hv => (hm.cell (p := ⟨b, o + j, none⟩) h3 (fun h => h)).trans (h2 j v hv)⟩, Nat.lt_of_lt_of_le h3 hm.size⟩
theorem RdAt.kids {w : World} {b o : Nat} {T : Ly} (h : RdAt w b o T) : ∃ (p : Option Addr) (cap : Nat), w.cell? ⟨b, o + 30, none⟩ = some (.slice p T.kids.length cap) ∧ w.cell? ⟨b, o, none⟩ = some (iV T.id.1) ∧ w.cell? ⟨b, o + 1, none⟩ = some (iV T.id.2) ∧ T.kids.length ≤ cap ∧
 ∀ (i : Nat) (k : Ly), T.kids[i]? = some k → ∃ g off, p = some ⟨g, off, none⟩ ∧ RdAt w g (off + i * 31) k := by
 obtain ⟨⟨c, h1, h2⟩, h3⟩ := h
 obtain ⟨vp, vf, vb, vk, css, e, hl, hr, hn, hk⟩ := h1.form
 subst e
 obtain ⟨p, cap, rfl, hcap⟩ := RowG.form hr
 refine ⟨p, cap, h2 30 _ rfl, h2 0 _ rfl, h2 1 _ rfl, hcap, fun i k hi => ?_⟩
 have h31 := LyR.lens hn hk
 have hil := (lgS.1 hi).1
 have hci : css[i]? = some css[i] := lgE (by omega)
 obtain ⟨g, off, e, hg, _, hc⟩ := RowG.kid hr h31 hn hci
 exact ⟨g, off, e, ⟨_, hk i _ k hci hi, fun r v hv => hc r v hv⟩, hg⟩
end Go.Gou
namespace Go.Proofs.YtpbmfalokongfaaGreatDoor
open Go.RowKit Go.Gou
set_option maxRecDepth 100000
def FindR (T : Ly) (x : Idt) (w : World) (d : Nat) (e : Ending) (w' : World) : Prop := Gou.Mod (fun _ => False) w w' ∧
 (T.pathOf x = none → e = .returned (.tuple #[.pointer none, iV 0])) ∧
 (∀ π, T.pathOf x = some π → ∃ b' o' s, e = .returned (.tuple #[.pointer (some ⟨b', o', none⟩), iV ((d + π.length : Nat) : Int)]) ∧ RdAt w' b' o' s ∧ T.get? π = some s)
theorem findR_any (x : Idt) : ∀ (T : Ly) (w : World) (b o : Nat) (d : Nat), RdAt w b o T → TFit T → d + T.height ≤ 1000 →
 Calls Tryz.prog 38 #[.pointer (some ⟨b, o, none⟩), .agg #[iV x.1, iV x.2], iV d] w (FindR T x w d) := by
 intro T
 induction T using Ly.ind with
 | h i lk ks ih =>
  intro w b o d hT hft hd
  have hks : ks.length ≤ 1000000 := TFit.len hft
  have Hks := hd' hks
  have Hfk : Hid (∀ k ∈ ks, TFit k) := hd' (by cases hft; assumption)
  clear hft hks
  obtain ⟨p, cap, c30, c0, c1, hcap, hk⟩ := hT.kids
  simp only [Ly.id_mk, Ly.kids_mk] at c0 c1 c30 hk hcap
  have Hk := hd' hk
  have HT := hd' hT
  have Ih := hd' ih
  clear hk hT ih
  go_enter Tryz.func38, Tryz.ntmps38
  go_wp2_with fail
  generalize hW : w.alloc (.cells #[iV x.1, iV x.2] 30) = w1
  have Hm : Hid (Gou.Mod (fun _ => False) w w1) := hd' (hW ▸ Gou.Mod.alloc _ _ _)
  have HX : Hid (Blk w1 w.heap.size 30 #[iV x.1, iV x.2]) := hd' (hW ▸ heap_alloc_new w _)
  have hlt := HT.o.lt
  have c30' := (Hm.o.cell (p := ⟨b, o + 30, none⟩) hlt (fun h => h)).trans c30
  have c0' := (Hm.o.cell (p := ⟨b, o, none⟩) hlt (fun h => h)).trans c0
  have c1' := (Hm.o.cell (p := ⟨b, o + 1, none⟩) hlt (fun h => h)).trans c1
  have x0 := HX.o.cell 0 rfl
  have x1 := HX.o.cell 1 rfl
  clear c0 c1 hW
  obtain ⟨N, hNN⟩ : ∃ N, N = w.heap.size := ⟨_, rfl⟩
  rw [← hNN] at HX x0 x1
  rw [← hNN]
  clear hNN
  have Hid0 := fun (w' : World) => udm i x w'
  by_cases hx : i = x
  ·have e1 : decide (i = x) = true := dqt hx
   rw [e1] at Hid0
   have Hx := hd' hx
   clear hx e1
   go_quiet (fail)
   go_wp2_with fail
   refine bpr (v := .tuple #[.pointer (some ⟨b, o, none⟩), iV ((d : Nat) : Int)]) (by simp [results, Tryz.results38, go_sem]) rfl ?_
   have Hmq := Hm.o.trans' (Gou.Mod.drewN (fun _ => False) w1 nq)
   refine ⟨Hmq, fun h => ?_, fun π h => ?_⟩
   ·rw [Ly.pathOf, if_pos Hx.o] at h
    cases h
   ·rw [Ly.pathOf, if_pos Hx.o] at h
    cases h
    exact ⟨b, o, _, rfl, HT.o.up Hmq, rfl⟩
  ·have e1 : decide (i = x) = false := dqf hx
   rw [e1] at Hid0
   have Hx := hd' hx
   clear hx e1
   go_quiet (fail)
   go_wp2_with fail
   have Hm2 := hd' (Hm.o.trans' (Gou.Mod.drewN (fun _ => False) w1 nq))
   have hN := hd' (HX.o.mod (Gou.Mod.drewN (fun _ => False) w1 nq) (fun h => h))
   clear HX Hm c30' c0' c1' x0 x1
   go_loopw [24] (fun v wr => ∃ j : Nat, v = iV j ∧ j ≤ ks.length ∧ (∀ a ∈ ks.take j, a.pathOf x = none) ∧ Gou.Mod (fun _ => False) w wr ∧ Blk wr N 30 #[iV x.1, iV x.2]) (fun v _ => ks.length - (intOf v).toNat)
   case atStart => exact ⟨0, rfl, by omega, by simp, Hm2.o, hN.out⟩
   case round =>
    obtain ⟨j, rfl, hj, hall, hm, hb⟩ := hrel
    have Hall := hd' hall
    have Hm := hd' hm
    have HB := hd' hb
    clear hall hm hb Hm2 hN
    have hlt' := HT.o.lt
    by_cases hil : j < ks.length
    ·have e1 : decide ((j : Int) < (ks.length : Int)) = true := dqt (by omega)
     obtain ⟨g, off, rfl, hT'⟩ := Hk.o j ks[j] (lgE hil)
     have HT' := hd' (hT'.up Hm.o)
     have c30' := (Hm.o.cell (p := ⟨b, o + 30, none⟩) hlt' (fun h => h)).trans c30
     have x0 := HB.o.cell 0 rfl
     have x1 := HB.o.cell 1 rfl
     have hhk : Hid (d + 1 + (ks[j]).height ≤ 1000) := hd' (by
      have := (Ly.heightL_le (n := 1000 - d)).1 (by rw [Ly.height] at hd; omega) ks[j] (lgM hil)
      omega)
     clear hT'
     have Hkj : Hid (ks[j]? = some ks[j]) := hd' (lgE hil)
     have Hstep : Hid (ks[j].pathOf x = none → ∀ a ∈ ks.take (j + 1), a.pathOf x = none) := hd' (fun h a ha => by
      rw [ltS hil, List.mem_append, List.mem_singleton] at ha
      rcases ha with ha | rfl
      ·exact Hall.o a ha
      ·exact h)
     have Hik : Hid (∀ w', Gou.Mod (fun _ => False) wr w' → Calls Tryz.prog 38 #[.pointer (some ⟨g, off + j * 31, none⟩), .agg #[iV x.1, iV x.2], iV ((d : Int) + 1)] w' (FindR ks[j] x w' (d + 1))) :=
      hd' (fun w' hw' => Ih.o ks[j] (lgM hil) w' g (off + j * 31) (d + 1) (HT'.o.up hw') (Hfk.o _ (lgM hil)) hhk.out)
     have hwd : IntKind.i64.wrap ((d : Int) + 1) = (d : Int) + 1 := by rw [IntKind.wrap_i64]; have := hhk.out; omega
     have Hjl := hd' hil
     generalize ks[j] = k at *
     cases hp : k.pathOf x with
     | none =>
      have Hp := hd' hp
      clear hp
      go_wp2_with fail
      go_region_held3 (fun w' => (Gou.Mod (fun _ => False) wr w' ∧ w'.cell? ⟨b, o + 30, none⟩ = some (.slice (some ⟨g, off, none⟩) ks.length cap) ∧ w'.cell? ⟨N, 0, none⟩ = some (iV x.1) ∧ w'.cell? ⟨N, 1, none⟩ = some (iV x.2)))
          (first | exact ⟨Gou.Mod.drew _ _, c30', x0, x1⟩ | (obtain ⟨g0, g1, g2, g3⟩ := ‹Gou.Mod (fun _ => False) wr _ ∧ _›; exact ⟨g0.trans' hm4.out, (hm4.out.cell (p := ⟨b, o + 30, none⟩) (wbc _ _ g1) (fun h => h)).trans g1, (hm4.out.cell (p := ⟨N, 0, none⟩) (wbc _ _ g2) (fun h => h)).trans g2, (hm4.out.cell (p := ⟨N, 1, none⟩) (wbc _ _ g3) (fun h => h)).trans g3⟩))
          (first | (go_at_call 38; refine (Hik.o _ (by first | exact (‹Gou.Mod (fun _ => False) wr _ ∧ _›).1 | exact Gou.Mod.drew _ _)).mono ?_; rintro e w4 ⟨hm4', hn4, hs4⟩; obtain rfl := hn4 Hp.o; have hm4 := hd' hm4'; clear hn4 hs4 hm4'))
      have Hm4 := hd' (Hm.o.trans' (‹Gou.Mod (fun _ => False) wr w4 ∧ _›).1)
      have hB4 := hd' (HB.o.mod (‹Gou.Mod (fun _ => False) wr w4 ∧ _›).1 (fun h => h))
      have hwj : wrap64 ((j : Int) + 1) = ((j + 1 : Nat) : Int) := by have := Hjl.o; have := Hks.o; unfold wrap64; omega
      go_wp2_with fail
      go_roundw
      case rel => exact ⟨j + 1, by rw [← hwj], by have := Hjl.o; omega, Hstep.o Hp.o, Hm4.o, hB4.out⟩
      case measure => rw [hwj]; have := Hjl.o; simp only [intOf]; omega
     | some ρ =>
      have Hp := hd' hp
      clear hp
      go_wp2_with fail
      go_region_held3 (fun w' => (Gou.Mod (fun _ => False) wr w' ∧ w'.cell? ⟨b, o + 30, none⟩ = some (.slice (some ⟨g, off, none⟩) ks.length cap) ∧ w'.cell? ⟨N, 0, none⟩ = some (iV x.1) ∧ w'.cell? ⟨N, 1, none⟩ = some (iV x.2)))
          (first | exact ⟨Gou.Mod.drew _ _, c30', x0, x1⟩ | (obtain ⟨g0, g1, g2, g3⟩ := ‹Gou.Mod (fun _ => False) wr _ ∧ _›; exact ⟨g0.trans' hm4.out, (hm4.out.cell (p := ⟨b, o + 30, none⟩) (wbc _ _ g1) (fun h => h)).trans g1, (hm4.out.cell (p := ⟨N, 0, none⟩) (wbc _ _ g2) (fun h => h)).trans g2, (hm4.out.cell (p := ⟨N, 1, none⟩) (wbc _ _ g3) (fun h => h)).trans g3⟩))
          (first | (go_at_call 38; refine (Hik.o _ (by first | exact (‹Gou.Mod (fun _ => False) wr _ ∧ _›).1 | exact Gou.Mod.drew _ _)).mono ?_; rintro e w4 ⟨hm4', hn4, hs4⟩; obtain ⟨b', o', s, rfl, hz4, hg4⟩ := hs4 ρ Hp.o; have Hz4 := hd' (And.intro hz4 hg4); have hm4 := hd' hm4'; clear hn4 hs4 hm4' hz4 hg4))
      have Hm4 := hd' (Hm.o.trans' (‹Gou.Mod (fun _ => False) wr w4 ∧ _›).1)
      go_wp2_with fail
      refine bpr (v := .tuple #[.pointer (some ⟨b', o', none⟩), iV ((d : Int) + 1 + (ρ.length : Nat))]) (by simp [results, Tryz.results38, go_sem]) rfl ?_
      have hpp : Ly.pathOf x (.mk i lk ks) = some (j :: ρ) := by
       rw [Ly.pathOf, if_neg Hx.o, Ly.pathL_at Hall.o Hkj.o Hp.o, Nat.zero_add]
      refine ⟨Hm4.o, fun h => ?_, fun π h => ?_⟩
      ·rw [hpp] at h
       cases h
      ·rw [hpp] at h
       cases h
       have e5 : (d : Int) + 1 + (ρ.length : Nat) = ((d + (j :: ρ).length : Nat) : Int) := by simp only [List.length_cons, Int.natCast_add, Int.natCast_one]; generalize (ρ.length : Int) = rr; generalize (d : Int) = dd; omega
       exact ⟨b', o', s, by rw [e5], Hz4.o.1, by rw [Ly.get?, Ly.kids_mk, Hkj.o]; exact Hz4.o.2⟩
    ·have hil' : j = ks.length := by omega
     have e1 : decide ((j : Int) < (ks.length : Int)) = false := dqf (by omega)
     go_wp2_with fail
     refine bpr (v := .tuple #[.pointer none, iV 0]) (by simp [results, Tryz.results38, go_sem]) rfl ?_
     rw [hil', List.take_length] at Hall
     have hp : Ly.pathOf x (.mk i lk ks) = none := by
      rw [Ly.pathOf, if_neg Hx.o, Ly.pathL_none]
      exact Hall.o
     refine ⟨Hm.o, fun _ => rfl, fun π h => ?_⟩
     rw [hp] at h
     cases h
def FindSP (w : World) (s : Sn) (x : Idt) (e : Ending) (w' : World) : Prop := ∃ y F vp vf vb vk, e = .returned (.tuple #[.agg (lyA y.id y.look vp vf vb vk), .bool (s.root.find x).isSome]) ∧ y = ((s.root.find x).map (·.1)).getD Ly.zero ∧ LyO 45 77 w.heap.size w' (lyA y.id y.look vp vf vb vk).toList y F ∧ Gou.Mod (fun _ => False) w w'
theorem LyO.zero_ (base : Nat) (w : World) : LyO 45 77 base w lyZ.toList Ly.zero [] :=
 LyO.mk (0, 0) Lk.zero [] _ _ _ _ [] [] ⟨PixR.nil _ _, NodesR.nil _ _, NodesR.nil _ _⟩ (World.ownsRow_nil _ _ _ _) rfl rfl (fun j c k f h => by simp at h) (by simp [Value.ownBlock])
theorem lyO_box {base : Nat} {w w' : World} {c : List Value} {T : Ly} {F : List Nat} (h : LyO 45 77 base w c T F) {k : Nat} (hk : k < base) (hm : Gou.Mod (fun x => x = k) w w') : LyO 45 77 base w' c T F :=
 h.mod hm (fun x hx e => by have := (h.rows x hx).1; omega) (fun x hx _ e => by omega)
theorem ug7 (w : World) (v : Value) (s : Sn) (x : Idt) (h : SnR (fun _ => True) w v s) (hf : ugk s) (n : Nat) (hI : Inv n s) :
 Calls Tryz.prog 16 #[v, .agg #[iV x.1, iV x.2]] w (FindSP w s x) := by
 obtain ⟨vg, vl, vp, vf, vb, vk, rfl, har, hly⟩ := h
 obtain ⟨pg, cg, rfl⟩ := RowG.slice har.g
 obtain ⟨pl, cl, rfl⟩ := RowG.slice har.l
 have Har := hd' har
 have Hly := hd' hly
 have Hf := hd' hf
 have HI := hd' hI
 clear har hly hf hI
 obtain ⟨b0, b1, b2, bm⟩ := ubd w 47 30 45 (scA (.slice pg s.arena.gens.length cg) (.slice pl s.arena.live.length cl) s.root.id s.root.look vp vf vb vk) #[iV x.1, iV x.2] lyZ
 have HB := hd' b0
 have HX := hd' b1
 have HR := hd' b2
 have HM := hd' bm
 clear b0 b1 b2 bm
 go_enter Tryz.func16, Tryz.ntmps16
 go_upto_region 1 with fail
 show Code.wp _ _ _ _ (((w.alloc (.cells (scA (.slice pg s.arena.gens.length cg) (.slice pl s.arena.live.length cl) s.root.id s.root.look vp vf vb vk) 47)).alloc (.cells #[iV x.1, iV x.2] 30)).alloc (.cells lyZ 45))
 generalize ((w.alloc (.cells (scA (.slice pg s.arena.gens.length cg) (.slice pl s.arena.live.length cl) s.root.id s.root.look vp vf vb vk) 47)).alloc (.cells #[iV x.1, iV x.2] 30)).alloc (.cells lyZ 45) = W1 at *
 have x0 : W1.cell? ⟨w.heap.size + 1, 0, none⟩ = some (iV x.1) := HX.o.cell 0 rfl
 have x1 : W1.cell? ⟨w.heap.size + 1, 1, none⟩ = some (iV x.2) := HX.o.cell 1 rfl
 have HLr : Hid (W1.rangeAt w.heap.size 2 (lyA s.root.id s.root.look vp vf vb vk).toList) := hd' (Blk.range (pre := [.slice pg s.arena.gens.length cg, .slice pl s.arena.live.length cl]) (post := []) HB.o (by rw [List.append_nil]; exact ucd _ _ _ _ _ _ _ _) rfl)
 have Hrd : Hid (RdAt W1 w.heap.size 2 s.root) := hd' ⟨⟨_, Hly.o.up HM.o, HLr.o⟩, Blk.lt HB.o⟩
 go_wp2_with fail
 refine (findR_any x s.root _ w.heap.size 2 0 Hrd.o Hf.o.root (by have := HI.o.deep; omega)).mono ?_
 rintro e w2 ⟨hm2, hno, hyes⟩
 have HM2 := hd' (HM.o.trans' hm2)
 have HX2 := hd' (HX.o.up hm2)
 have HB2 := hd' (HB.o.up hm2)
 have HR2 := hd' (HR.o.up hm2)
 clear x0 x1 HLr Hrd hm2
 cases hp : s.root.pathOf x with
 | none =>
  obtain rfl := hno hp
  have Hfn : Hid (s.root.find x = none) := hd' (Ly.find_none.2 ((Ly.pathOf_none _).1 hp))
  clear hno hyes hp
  go_upto_region 3 with fail
  go_wp2_with (first | ((with_reducible show wpList _ _ _ (⟨_, Op.build _ _, _, _, _, _⟩ :: _) _ _); refine halt ?_) | fail)
  show wpList _ _ _ _ _ _
  refine uav rfl (.agg lyZ) (by kernel_rfl) ?_
  simp only [Act.put, List.setIfInBounds_toArray, List.set_cons_zero, List.set_cons_succ]
  refine wpList_store_mid rfl 45 _ _ rfl (w.heap.size + 1 + 1) 0 lyZ rfl rfl (HR2.o.there 0 31 (by simp [lyA])) uaa (by simp [lyA, Value.oneCell']) ?_
  have HS := hd' (Blk.setMod w2 (w.heap.size + 1 + 1) 0 lyZ.toList)
  have HR3 := hd' (HR2.o.setAll lyZ rfl)
  have HM3 := hd' (HM2.o.trans HS.o (fun k hk e => by omega))
  generalize w2.setCells (w.heap.size + 1 + 1) 0 lyZ.toList = W3 at *
  go_wp2_with fail
  refine bpr (uam rfl (ResAt.of rfl HR3.o Tryz.underlying45 rfl uaa)) rfl ?_
  refine ⟨Ly.zero, [], .slice none 0 0, .slice none 0 0, .slice none 0 0, .slice none 0 0, by rw [Hfn.o]; rfl, by rw [Hfn.o]; rfl, LyO.zero_ _ _, HM3.o⟩
 | some π =>
  obtain ⟨b', o', y, rfl, hrd, hgt⟩ := hyes π hp
  have Hrd := hd' hrd
  have Hfn : Hid (s.root.find x = some (y, π.length)) := hd' (by rw [Ly.find_eq, hp, Option.bind_some, hgt]; rfl)
  have Hyf := hd' (TFit.get Hf.o.root hgt)
  have Hhas : Hid (s.arena.has x = true) := hd' ((HI.o.iff x).1 (Classical.byContradiction fun hx => by rw [(Ly.pathOf_none _).2 hx] at hp; cases hp))
  obtain ⟨dd, hdd⟩ : ∃ dd, dd = 0 + π.length := ⟨_, rfl⟩
  rw [← hdd]
  clear hno hyes hp hrd hgt hdd
  have c0 : w2.cell? ⟨w.heap.size, 0, none⟩ = some (.slice pg s.arena.gens.length cg) := HB2.o.cell 0 rfl
  have c1 : w2.cell? ⟨w.heap.size, 1, none⟩ = some (.slice pl s.arena.live.length cl) := HB2.o.cell 1 rfl
  have x0 : w2.cell? ⟨w.heap.size + 1, 0, none⟩ = some (iV x.1) := HX2.o.cell 0 rfl
  have x1 : w2.cell? ⟨w.heap.size + 1, 1, none⟩ = some (iV x.2) := HX2.o.cell 1 rfl
  go_wp2_with fail
  refine (ucv _ pg pl cg cl s.arena x ⟨RowG.mod Har.o.g HM2.o (fun _ _ _ h => h), RowG.mod Har.o.l HM2.o (fun _ _ _ h => h)⟩ HI.o.ok.len).mono ?_
  rintro e w3 ⟨rfl, hm3⟩
  rw [Hhas.o]
  have HM3 := hd' (HM2.o.trans' hm3)
  have HR3 := hd' (HR2.o.up hm3)
  obtain ⟨⟨c, hc1, hc2⟩, _⟩ := Hrd.o.up hm3
  obtain ⟨up, uf, ub, uk, css, e, hcl, hcr, hcn, hck⟩ := hc1.form
  subst e
  have Hc1 := hd' hc1
  have Hc2 := hd' hc2
  clear c0 c1 x0 x1 hm3 hc1 hc2 hcl hcr hcn hck
  go_upto_region 4 with fail
  go_wp2_with (first | ((with_reducible refine lT 45 ?_); refine ldA Hc2.o Tryz.underlying45 uaa (h := ?_)) | fail)
  refine (uft y _ up uf ub uk Hc1.o Hyf.o).mono ?_
  rintro e w4 ⟨vp4, vf4, vb4, vk4, F4, rfl, hl4, hm4⟩
  have HM4 := hd' (HM3.o.trans' hm4)
  have HR4 := hd' (HR3.o.up hm4)
  have Hl4 := hd' hl4
  have HR3lt := hd' (Blk.lt HR3.o)
  have Hz3 := hd' HM3.o.size
  clear hl4 hm4
  go_wp2_with (first | ((with_reducible refine sT 45 ?_); refine stA (lyA y.id y.look vp4 vf4 vb4 vk4) (HR4.o.there 0 31 (by simp [lyA])) uaa (uat (LyO.one Hl4.o)) (h := ?_)) | fail)
  have HS := hd' (Blk.setMod w4 (w.heap.size + 1 + 1) 0 (lyA y.id y.look vp4 vf4 vb4 vk4).toList)
  have HR5 := hd' (HR4.o.setAll (lyA y.id y.look vp4 vf4 vb4 vk4) rfl)
  have HM5 := hd' (HM4.o.trans HS.o (fun k hk e => by omega))
  have Hl5 := hd' (lyO_box Hl4.o HR3lt.o HS.o)
  generalize w4.setCells (w.heap.size + 1 + 1) 0 (lyA y.id y.look vp4 vf4 vb4 vk4).toList = W5 at *
  refine bpr (uam rfl (ResAt.of rfl HR5.o Tryz.underlying45 rfl uaa)) rfl ?_
  refine ⟨y, F4, vp4, vf4, vb4, vk4, by rw [Hfn.o]; rfl, by rw [Hfn.o]; rfl, Hl5.o.low Hz3.o, HM5.o⟩
end Go.Proofs.YtpbmfalokongfaaGreatDoor
