/- Texts of the scenes' proofs, laid together: SeV, SeW, Rfs23. -/
import Derived.Test.YtpbmfalokongfaaGreatDoorZan
import Derived.Test.YtpbmfalokongfaaGreatDoorZap
import Derived.Test.YtpbmfalokongfaaGreatDoorZaj
import Derived.Test.YtpbmfalokongfaaGreatDoorZab
set_option maxHeartbeats 64000000
set_option linter.unusedSimpArgs false
set_option linter.unusedVariables false
set_option linter.unusedSectionVars false
set_option linter.constructorNameAsVariable false
namespace Go.Gou
theorem doP_ref (check : Gr → Int) (s : Sn) (o : Opr) : (doP check s o).2.2 = 0 ∨ doP check s o = (s, (0, 0), (doP check s o).2.2) := by
 unfold doP
 simp only
 repeat' split
 all_goals first | exact .inl rfl | exact .inr rfl
theorem uhc (check : Gr → Int) (s : Sn) (o : Opr) (h1 : o.kind ≠ 1) (h2 : o.kind ≠ 2) : (doP check s o).1.arena = s.arena := by
 unfold doP
 simp only
 repeat' split
 all_goals first | rfl | exact absurd ‹_› h1 | exact absurd ‹_› h2
theorem doP_same {n : Nat} {s : Sn} (hI : Inv n s) (check : Gr → Int) (o : Opr) (h1 : o.kind ≠ 1) (h2 : o.kind ≠ 2) : (doP check s o).1.root.ids.length = s.root.ids.length := by
 rw [(hI.do_ check o).cnt, uhc check s o h1 h2, hI.cnt]
theorem ui4 {check : Gr → Int} {s : Sn} {o : Opr} (h : (doP check s o).2.2 = 0) (h1 : 1 ≤ o.kind) (h2 : o.kind ≤ 11) : ubo s.arena o = false := by
 cases hs : ubo s.arena o with
 | false => rfl
 | true => rw [ub3 check s o h1 h2 hs] at h; exact absurd h (by simp)
theorem doP_ins {n : Nat} {s : Sn} (hI : Inv n s) (check : Gr → Int) (o : Opr) (h1 : o.kind = 1) (h : (doP check s o).2.2 = 0) :
 (doP check s o).1.arena.has (doP check s o).2.1 = true ∧ s.arena.has (doP check s o).2.1 = false ∧ (doP check s o).1.root.ids.length = s.root.ids.length + 1 := by
 have hc := (hI.do_ check o).cnt
 obtain ⟨x, d, hf, hd⟩ := doR_ins hI check o h1 (ui4 h (by omega) (by omega))
 rw [hd] at h hc ⊢
 by_cases hb : o.at_ < 0 ∨ (x.kids.length : Int) < o.at_ ∨ 64 ≤ d
 ·rw [if_pos hb] at h; exact absurd h (by simp)
 rw [if_neg hb] at h hc ⊢
 cases ht : s.arena.take with
 | none =>
  have hk : s.arena.takeO.2.2 = false := by unfold Ar.takeO; rw [ht]
  rw [if_neg (by rw [hk]; simp)] at h; exact absurd h (by simp)
 | some p =>
  obtain ⟨a, y⟩ := p
  have hk : s.arena.takeO = (a, y, true) := by unfold Ar.takeO; rw [ht]
  rw [hk] at hc ⊢
  simp only [if_true] at hc ⊢
  obtain ⟨g1, g2, g3, g4, g5⟩ := Ar.take_ok hI.ok ht
  exact ⟨(g5 y).2 (.inr rfl), g4, by rw [hc, g3, hI.cnt]⟩
theorem doP_rem {n : Nat} {s : Sn} (hI : Inv n s) (check : Gr → Int) (o : Opr) (h1 : o.kind = 2) (h : (doP check s o).2.2 = 0) :
 (doP check s o).1.arena.has o.id = false ∧ (doP check s o).1.root.ids.length < s.root.ids.length := by
 have hst := ui4 h (by omega) (by omega)
 by_cases hid : o.id = (0, 0)
 ·rw [ude check s o (by omega) (by omega) hst hid] at h; exact absurd h (by simp)
 obtain ⟨π, i, q, k, T2, hO⟩ := outAt hI o (by omega) hst hid
 have hd := ucl check o hO h1 hst hid
 have hi := (hI.do_ check o).iff o.id
 rw [hd] at hi ⊢
 have hp := hO.perm
 have hkm : o.id ∈ k.ids := by rw [← hO.id]; exact Ly.id_mem k
 refine ⟨Bool.eq_false_iff.2 (fun hh => ?_), ?_⟩
 ·have := hi.2 hh
  exact (List.nodup_append.1 (hp.nodup_iff.1 hI.nd)).2.2 o.id hkm o.id this rfl
 ·have := hp.length_eq
  rw [List.length_append] at this
  have : 0 < k.ids.length := List.length_pos_of_mem hkm
  show T2.ids.length < _
  omega
open Go.RowKit
theorem newB2 {P : Program} {k : Code} {Q : Exit → Act → World → Prop} {a : Act} {w : World} {T U : TypeId} {z y c d : Array Value} (hs : z.size = c.size) (ht : y.size = d.size) (h : ∀ W', Blk W' w.heap.size T c → Blk W' (w.heap.size + 1) U d → Gou.Mod (fun _ => False) w W' → Code.wp P k Q a W') :
 Code.wp P k Q a ((((w.alloc (.cells z T)).alloc (.cells y U)).setCells w.heap.size 0 c.toList).setCells (w.heap.size + 1) 0 d.toList) := by
 obtain ⟨b0, b1, bm⟩ := uaw w T U z y
 have h1 := Blk.setMod ((w.alloc (.cells z T)).alloc (.cells y U)) w.heap.size 0 c.toList
 have h2 := Blk.setMod (((w.alloc (.cells z T)).alloc (.cells y U)).setCells w.heap.size 0 c.toList) (w.heap.size + 1) 0 d.toList
 exact h _ ((b0.setAll c hs).mod h2 (by omega)) ((b1.mod h1 (by omega)).setAll d ht) ((bm.trans h1 (fun k hk e => by omega)).trans h2 (fun k hk e => by omega))
theorem OpsR.one {w : World} {N : Nat} {T : TypeId} {q : Opr} {vp vf vb : Value} (hb : Blk w N T (oprC q vp vf vb)) (hl : LookR (fun _ => True) w q.look vp vf vb) : OpsR w (.slice (some ⟨N, 0, none⟩) 1 1) [q] :=
 ⟨some ⟨N, 0, none⟩, 1, rfl, Nat.le_refl _, .inr ⟨N, 0, rfl, hb.lt, fun i hi => by
  obtain rfl : i = 0 := by simpa using hi
  exact ⟨vp, vf, vb, fun j u hu => by simpa using hb.cell j hu, hl⟩⟩⟩
end Go.Gou
namespace Go.Proofs.YtpbmfalokongfaaGreatDoor
open Go.RowKit Go.Gou
set_option maxRecDepth 100000
theorem T_op : RowT Tryz.prog 22 53 34 296 (.agg (oprC Opr.zero nlS nlS nlS)) := ⟨Tryz.underlying22, by kernel_rfl, rfl, by decide⟩
theorem sceneRefuses_law (w : World) (v : Value) (xs : List Opr) (h : OpsR w v xs) (hwf : (∀ a ∈ xs, LkWf a.look) ∧ xs.length ≤ maxLen) (u : Value) (q : Opr) (hu : OpV (fun _ => True) w u q) (hq : LkWf q.look) (ht : Tabs w) :
 Calls Tryz.prog 7 #[v, u] w fun e w' => e = .returned (.bool true) ∧ Gou.Mod (fun _ => False) w w' := by
 obtain ⟨wp, wf, wb, rfl, hlk⟩ := hu
 obtain ⟨⟨qp, dp, rfl⟩, ⟨qf, df, rfl⟩, ⟨qb, db, rfl⟩⟩ := hlk.forms
 obtain ⟨p, cap, rfl, _, _⟩ := id h
 have Hwf := hd' hwf.1
 have Hl := hd' hwf.2
 have Hq := hd' hq
 have Ht := hd' ht
 have HO := hd' (Blk.new w 53 (opS q qp dp qf df qb db))
 have HM := hd' (Gou.Mod.alloc0 w (.cells (opS q qp dp qf df qb db) 53))
 have Hh := hd' (h.up HM.o)
 have Hlk := hd' (hlk.mod HM.o (fun _ _ _ h => h))
 clear h hwf ht hlk hq
 go_enter Tryz.func7, Tryz.ntmps7
 go_upto_region 1 with fail
 show Code.wp _ _ _ _ (w.alloc (.cells (opS q qp dp qf df qb db) 53))
 generalize w.alloc (.cells (opS q qp dp qf df qb db) 53) = W1 at *
 go_wp2_with fail
 refine (ue9 _).mono ?_
 rintro e w1 ⟨rfl, hm⟩
 replace HM := hd' (HM.o.trans' hm)
 replace Hh := hd' (Hh.o.up hm)
 replace HO := hd' (HO.o.up hm)
 replace Hlk := hd' (Hlk.o.mod hm (fun _ _ _ h => h))
 clear hm
 go_wp2_with fail
 refine (ug9 _ _ xs Hh.o Hwf.o Hl.o).mono ?_
 rintro e w2 ⟨rfl, hm⟩
 replace HM := hd' (HM.o.trans' hm)
 replace Hh := hd' (Hh.o.up hm)
 replace HO := hd' (HO.o.up hm)
 replace Hlk := hd' (Hlk.o.mod hm (fun _ _ _ h => h))
 clear hm
 cases hfew : fewO xs
 ·clear hfew
  go_wp2_with fail
  refine (ue9 _).mono ?_
  rintro e w3 ⟨rfl, hm⟩
  replace HM := hd' (HM.o.trans' hm)
  clear hm
  go_wp2_with fail
  go_ret
  exact ⟨rfl, HM.o⟩
 have Hfew := hd' hfew
 clear hfew
 go_wp2_with (first | ((with_reducible refine lT 53 ?_); refine ldG HO.o.whole Tryz.underlying53 ued (h := ?_)) | ((with_reducible show wpList _ _ _ (⟨_, Op.buildSlice _ _ _, _, _, _, _⟩ :: _) _ _); refine halt ?_) | fail)
 show wpList _ _ _ _ _ _
 refine wpList_step (fun K hK => ?_)
 rw [if_pos (by rfl)]
 refine ua8 T_op _ rfl (opS q qp dp qf df qb db) rfl rfl (by decide) ?_
 refine hK _ _ ?_
 clear hK K
 simp only [Act.put, uSa, uSb, uSc]
 have hm := Gou.Mod.alloc0 w2 (.cells (opS q qp dp qf df qb db) 53)
 have HOp := hd' (OpsR.one (Blk.new w2 53 (opS q qp dp qf df qb db)) (Hlk.o.mod hm (fun _ _ _ h => h)))
 replace HM := hd' (HM.o.trans' hm)
 replace Hh := hd' (Hh.o.up hm)
 replace HO := hd' (HO.o.up hm)
 replace Hlk := hd' (Hlk.o.mod hm (fun _ _ _ h => h))
 clear hm
 generalize w2.alloc (.cells (opS q qp dp qf df qb db) 53) = W2 at *
 generalize w2.heap.size = N2 at *
 go_wp2_with fail
 refine (ug9 _ _ [q] HOp.o (by simpa using Hq.o) (by rw [List.length_singleton]; decide)).mono ?_
 rintro e w3 ⟨rfl, hm⟩
 replace HM := hd' (HM.o.trans' hm)
 replace Hh := hd' (Hh.o.up hm)
 replace HO := hd' (HO.o.up hm)
 replace Hlk := hd' (Hlk.o.mod hm (fun _ _ _ h => h))
 clear hm HOp
 cases hf2 : fewO [q]
 ·clear hf2
  go_wp2_with fail
  refine (ue9 _).mono ?_
  rintro e w3 ⟨rfl, hm⟩
  replace HM := hd' (HM.o.trans' hm)
  clear hm
  go_wp2_with fail
  go_ret
  exact ⟨rfl, HM.o⟩
 have Hfq := hd' ((ue2 hf2).2 q (by simp))
 clear hf2
 go_upto_region 3 with fail
 go_wp2_with fail
 refine (uhy _ _ xs Hh.o Hwf.o Hfew.o (Ht.o.below (HM.o.below (Nat.le_refl _) (fun _ _ h => h)))).mono ?_
 rintro e w4 ⟨v3, rfl, hsn, hm⟩
 have Hpl := hd' (uf3 checkS (fun o ho => ((ue2 Hfew.o).2 o ho).1) xs.length (Nat.le_refl _))
 rw [List.take_length] at Hpl
 have Hn : Hid (xs.length ≤ 100) := hd' (by have := (ue2 Hfew.o).1; omega)
 obtain ⟨S, hS⟩ : ∃ S, S = udz checkS xs := ⟨_, rfl⟩
 have HSe := hd' hS
 rw [← hS] at hsn Hpl
 have HI := hd' Hpl.o.2
 have HF := hd' (Hpl.o.2.fit Hn.o Hpl.o.1)
 have HLA := hd' Hpl.o.1
 clear hS Hpl
 replace HM := hd' (HM.o.trans' hm)
 replace HO := hd' (HO.o.up hm)
 replace Hlk := hd' (Hlk.o.mod hm (fun _ _ _ h => h))
 clear hm
 obtain ⟨vg, vl, vp, vf, vb, vk, rfl, ha, hly⟩ := hsn
 obtain ⟨⟨pg, cg, rfl⟩, ⟨pl, cl, rfl⟩⟩ := ha.reads.forms
 have Ha := hd' ha
 have Hly := hd' hly
 clear ha hly
 go_upto_region 4 with (first | ((with_reducible refine sT 47 ?_); refine stA (scA (.slice pg S.arena.gens.length cg) (.slice pl S.arena.live.length cl) S.root.id S.root.look vp vf vb vk) ((Blk.new w4 47 scZ).there 0 33 (by simp [scA, lyA, uai])) uah (ubf rfl rfl (LyR.one Hly.o)) (h := ?_)) | fail)
 refine newB rfl (fun W4 hb hm => ?_)
 have HS := hd' hb
 replace HM := hd' (HM.o.trans' hm)
 replace HO := hd' (HO.o.up hm)
 replace Hlk := hd' (Hlk.o.mod hm (fun _ _ _ h => h))
 replace Ha := hd' (Ha.o.mod hm (fun _ _ _ h => h))
 replace Hly := hd' (Hly.o.up hm)
 clear hb hm
 generalize w4.heap.size = B at *
 have Hn60 := hd' (ue2 Hfew.o).1
 clear Hh Hwf Hl Ht Hfew HSe
 go_wp2_with (first | ((with_reducible refine lT 47 ?_); refine ldA HS.o.whole Tryz.underlying47 uah (h := ?_)) | ((with_reducible refine lT 53 ?_); refine ldA HO.o.whole Tryz.underlying53 ued (h := ?_)) | fail)
 refine (ue3 _ _ S q _ _ _ ⟨_, _, _, _, _, _, rfl, Ha.o, Hly.o⟩ HF.o Hlk.o xs.length HI.o Hn.o Hfq.o.1 Hq.o.filt Hq.o.back).mono ?_
 rintro e w5 ⟨v5, rfl, hs5, hm⟩
 replace HM := hd' (HM.o.trans' hm)
 replace HO := hd' (HO.o.up hm)
 replace HS := hd' (HS.o.up hm)
 replace Ha := hd' (Ha.o.mod hm (fun _ _ _ h => h))
 replace Hly := hd' (Hly.o.up hm)
 clear hm
 obtain ⟨r, hr⟩ : ∃ r, r = doP checkS S q := ⟨_, rfl⟩
 rw [← hr] at hs5 ⊢
 have Hr := hd' hr
 clear hr
 obtain ⟨T, y, c⟩ := r
 dsimp only at hs5 ⊢
 obtain ⟨tg, tl, tp, tf, tb, tks, F, rfl, ta, tly⟩ := hs5
 have Hone := hd' (ueg ta tly)
 obtain ⟨⟨gp, gc, rfl⟩, ⟨lp, lc, rfl⟩⟩ := ta.forms
 have Hta := hd' ta.reads
 have Htl := hd' (tly.reads.imp (G' := fun _ => True) (fun _ _ _ => trivial))
 clear ta tly
 go_upto_region 5 with (first | ((with_reducible refine sT 47 ?_); refine stA (scA (.slice gp T.arena.gens.length gc) (.slice lp T.arena.live.length lc) T.root.id T.root.look tp tf tb tks) ((uaw w5 47 30 scZ iiZ).1.there 0 33 (by simp [scA, lyA])) uah Hone.o (h := ?_)) | ((with_reducible refine sT 30 ?_); refine stA (#[Value.int .i64 y.1, Value.int .i64 y.2]) (((uaw w5 47 30 scZ iiZ).2.1.mod (Blk.setMod ((w5.alloc (.cells scZ 47)).alloc (.cells iiZ 30)) w5.heap.size 0 (scA (.slice gp T.arena.gens.length gc) (.slice lp T.arena.live.length lc) T.root.id T.root.look tp tf tb tks).toList) (by omega)).there 0 2 (by simp)) uaf (by simp [Value.oneCell']) (h := ?_)) | fail)
 refine newB2 rfl rfl (fun W6 h1 h2 hm => ?_)
 have HT := hd' h1
 have HX := hd' h2
 clear h1 h2
 replace HM := hd' (HM.o.trans' hm)
 replace HO := hd' (HO.o.up hm)
 replace HS := hd' (HS.o.up hm)
 replace Ha := hd' (Ha.o.mod hm (fun _ _ _ h => h))
 replace Hly := hd' (Hly.o.up hm)
 replace Hta := hd' (Hta.o.up hm)
 replace Htl := hd' (Htl.o.up hm)
 clear hm Hone
 generalize w5.heap.size = N at *
 generalize N + 1 = N1 at *
 by_cases hc : ¬ c = 0
 ·have e1 : (c != 0) = true := bne_iff_ne.2 hc
  obtain ⟨rfl, rfl⟩ : S = T ∧ y = (0, 0) := by
   have h1 := (doP_ref checkS S q).resolve_left (by rw [← Hr.o]; exact hc)
   rw [← Hr.o] at h1
   exact ⟨(congrArg (·.1) h1).symm, congrArg (·.2.1) h1⟩
  clear hc Hr
  go_upto_region 6 with fail
  clear e1
  have e4 := fun (w' : World) => udm ((0, 0) : Idt) (0, 0) w'
  simp only [decide_true] at e4
  refine wp_region_held_drew (S := fun w' => Gou.Mod (fun _ => False) W6 w') (by kernel_rfl) (Gou.Mod.drew _ _) (fun hH => ?_)
  refine tkR 0 (.agg (scA (.slice pg S.arena.gens.length cg) (.slice pl S.arena.live.length cl) S.root.id S.root.look vp vf vb vk)) HS.o.whole (fun h => h) Tryz.underlying47 uah hH (h := ?_)
  refine tkR 1 (.agg (scA (.slice gp S.arena.gens.length gc) (.slice lp S.arena.live.length lc) S.root.id S.root.look tp tf tb tks)) HT.o.whole (fun h => h) Tryz.underlying47 uah hH (h := ?_)
  refine rd 2 (h := fun K hK => ?_)
  go_simp
  refine (uhx _ (fun _ => True) (fun _ => True) _ _ S S ⟨_, _, _, _, _, _, rfl, Ha.o.mod hH (fun _ _ _ h => h), Hly.o.up hH⟩ ⟨_, _, _, _, _, _, rfl, ⟨Hta.o.g.mod hH (fun _ _ _ h => h), Hta.o.l.mod hH (fun _ _ _ h => h)⟩, Htl.o.up hH⟩ HF.o.root HF.o.root HF.o.g HF.o.l).mono ?_
  rintro e w7 ⟨rfl, hm7⟩
  have M := hd' (hH.trans' hm7)
  rw [(Sn.sameB_iff S S).2 rfl]
  clear hH
  refine hK _ _ M.o (fun hH => ?_)
  clear hK K M
  try simp only [Act.put, uSa, uSb, uSc]
  refine tk 3 (.bool true) hH (h := ?_)
  refine tkR 4 (.agg iiZ) HX.o.whole (fun h => h) Tryz.underlying30 uaf hH (h := ?_)
  refine rd 5 (h := fun K hK => ?_)
  go_simp
  refine (uey 0 _).mono ?_
  rintro e w8 ⟨rfl, hm8⟩
  have M := hd' (hH.trans' hm8)
  clear hH
  refine hK _ _ M.o (fun hH => ?_)
  clear hK K M
  try simp only [Act.put, uSa, uSb, uSc]
  refine tk 6 (.bool true) hH (h := ?_)
  refine tk 7 (.bool true) hH (h := ?_)
  refine tk 8 (.bool true) hH (h := ?_)
  have MS := hd' hH
  refine wpAnyH_done (by kernel_rfl) ?_ _
  clear hH
  replace HM := hd' (HM.o.trans' MS.o)
  clear MS
  go_wp2_with fail
  go_ret
  exact ⟨rfl, HM.o⟩
 replace hc : c = 0 := Decidable.of_not_not hc
 have e1 : (c != 0) = false := by rw [bnf]; exact hc
 have HTe : Hid (T = (doP checkS S q).1 ∧ y = (doP checkS S q).2.1) := hd' ⟨congrArg (·.1) Hr.o, congrArg (·.2.1) Hr.o⟩
 have Hc : Hid ((doP checkS S q).2.2 = 0) := hd' (by rw [← Hr.o]; exact hc)
 have HFT : Hid (ugk T) := hd' (by rw [HTe.o.1]; exact (HI.o.do_ checkS q).fit (by have := Hn60.o; omega) (doP_lks HI.o checkS q HLA.o Hfq.o.1))
 have HIT : Hid (Inv (xs.length + 1) T) := hd' (by rw [HTe.o.1]; exact HI.o.do_ checkS q)
 have HszT : Hid (T.root.ids.length ≤ 1000 ∧ S.root.ids.length ≤ 1000) := hd' (by have := HIT.o.few; have := HI.o.few; have := Hn.o; omega)
 clear hc Hr
 have c0 := HO.o.cell 0 (u := .int .i64 q.kind) rfl
 have HTa : Hid (W6.rangeAt N 0 [.slice gp T.arena.gens.length gc, .slice lp T.arena.live.length lc]) := hd' (Blk.range (pre := []) (post := (lyA T.root.id T.root.look tp tf tb tks).toList) HT.o (by rw [List.nil_append]; rfl) rfl)
 have HTl : Hid (W6.rangeAt N 2 (lyA T.root.id T.root.look tp tf tb tks).toList) := hd' (Blk.range (pre := [.slice gp T.arena.gens.length gc, .slice lp T.arena.live.length lc]) (post := []) HT.o (by rw [List.append_nil]; rfl) rfl)
 have HSa : Hid (W6.rangeAt B 0 [.slice pg S.arena.gens.length cg, .slice pl S.arena.live.length cl]) := hd' (Blk.range (pre := []) (post := (lyA S.root.id S.root.look vp vf vb vk).toList) HS.o (by rw [List.nil_append]; rfl) rfl)
 have HSl : Hid (W6.rangeAt B 2 (lyA S.root.id S.root.look vp vf vb vk).toList) := hd' (Blk.range (pre := [.slice pg S.arena.gens.length cg, .slice pl S.arena.live.length cl]) (post := []) HS.o (by rw [List.append_nil]; rfl) rfl)
 by_cases k1 : q.kind = 1
 ·rw [k1] at c0
  have Hg : Hid (T.arena.has y = true ∧ S.arena.has y = false ∧ T.root.ids.length = S.root.ids.length + 1) := hd' (by rw [HTe.o.1, HTe.o.2]; exact doP_ins HI.o checkS q k1 Hc.o)
  clear k1
  go_upto_region 8 with fail
  clear c0 e1
  have ecnt : ((T.root.ids.length : Nat) : Int) = (S.root.ids.length : Nat) + 1 := by have := Hg.o.2.2; omega
  have hw : IntKind.i64.wrap (((S.root.ids.length : Nat) : Int) + 1) = ((S.root.ids.length : Nat) : Int) + 1 := by rw [IntKind.wrap_i64]; have := HszT.o; omega
  refine wp_region_held_drew (S := fun w' => Gou.Mod (fun _ => False) W6 w') (by kernel_rfl) (Gou.Mod.drew _ _) (fun hH => ?_)
  refine tk 0 (.pointer (some ⟨N, 0, none⟩)) hH (h := ?_)
  refine tkR 1 (.agg #[.slice gp T.arena.gens.length gc, .slice lp T.arena.live.length lc]) HTa.o (fun h => h) Tryz.underlying28 uae hH (h := ?_)
  refine tkR 2 (.agg #[.int .i64 y.1, .int .i64 y.2]) HX.o.whole (fun h => h) Tryz.underlying30 uaf hH (h := ?_)
  refine rd 3 (h := fun K hK => ?_)
  go_simp
  refine (ucv _ gp lp gc lc T.arena y (Hta.o.up hH) HIT.o.ok.len).mono ?_
  rintro e w7 ⟨rfl, hm7⟩
  have M := hd' (hH.trans' hm7)
  rw [Hg.o.1]
  clear hH
  refine hK _ _ M.o (fun hH => ?_)
  clear hK K M
  try simp only [Act.put, uSa, uSb, uSc]
  refine tk 4 (.bool true) hH (h := ?_)
  refine tk 5 (.pointer (some ⟨B, 0, none⟩)) hH (h := ?_)
  refine tkR 6 (.agg #[.slice pg S.arena.gens.length cg, .slice pl S.arena.live.length cl]) HSa.o (fun h => h) Tryz.underlying28 uae hH (h := ?_)
  refine tkR 7 (.agg #[.int .i64 y.1, .int .i64 y.2]) HX.o.whole (fun h => h) Tryz.underlying30 uaf hH (h := ?_)
  refine rd 8 (h := fun K hK => ?_)
  go_simp
  refine (ucv _ pg pl cg cl S.arena y ((Ha.o.mod hH (fun _ _ _ h => h)).reads) HI.o.ok.len).mono ?_
  rintro e w8 ⟨rfl, hm8⟩
  have M := hd' (hH.trans' hm8)
  rw [Hg.o.2.1]
  clear hH
  refine hK _ _ M.o (fun hH => ?_)
  clear hK K M
  try simp only [Act.put, uSa, uSb, uSc]
  refine tk 9 (.bool true) hH (h := ?_)
  refine tk 10 (.bool true) hH (h := ?_)
  refine tk 11 (.bool true) hH (h := ?_)
  refine tk 12 (.pointer (some ⟨N, 2, none⟩)) hH (h := ?_)
  refine tkR 13 (.agg (lyA T.root.id T.root.look tp tf tb tks)) HTl.o (fun h => h) Tryz.underlying45 uaa hH (h := ?_)
  refine tk 15 (.pointer (some ⟨B, 2, none⟩)) hH (h := ?_)
  refine tkR 16 (.agg (lyA S.root.id S.root.look vp vf vb vk)) HSl.o (fun h => h) Tryz.underlying45 uaa hH (h := ?_)
  refine rd 14 (h := fun K hK => ?_)
  go_simp
  refine (ubx T.root _ _ _ _ _ (Htl.o.up hH) (by have := HszT.o; omega) HFT.o.root).mono ?_
  rintro e w9 ⟨rfl, hm9⟩
  have M := hd' (hH.trans' hm9)
  clear hH
  refine hK _ _ M.o (fun hH => ?_)
  clear hK K M
  try simp only [Act.put, uSa, uSb, uSc]
  refine rd 17 (h := fun K hK => ?_)
  go_simp
  refine (ubx S.root _ _ _ _ _ (Hly.o.up hH) (by have := HszT.o; omega) HF.o.root).mono ?_
  rintro e w10 ⟨rfl, hm10⟩
  have M := hd' (hH.trans' hm10)
  clear hH
  refine hK _ _ M.o (fun hH => ?_)
  clear hK K M
  try simp only [Act.put, uSa, uSb, uSc]
  refine tk 18 (.int .i64 (((S.root.ids.length : Nat) : Int) + 1)) hH (h := ?_)
  refine tk 19 (.bool true) hH (h := ?_)
  refine tk 20 (.bool true) hH (h := ?_)
  refine tk 21 (.bool true) hH (h := ?_)
  have MS := hd' hH
  refine wpAnyH_done (by kernel_rfl) ?_ _
  clear hH
  replace HM := hd' (HM.o.trans' MS.o)
  clear MS
  go_wp2_with fail
  go_ret
  exact ⟨rfl, HM.o⟩
 by_cases k2 : q.kind = 2
 ·rw [k2] at c0
  have Hg : Hid (T.arena.has q.id = false ∧ T.root.ids.length < S.root.ids.length) := hd' (by rw [HTe.o.1]; exact doP_rem HI.o checkS q k2 Hc.o)
  clear k1 k2
  go_upto_region 10 with fail
  clear c0 e1
  have elt : T.root.ids.length < S.root.ids.length := Hg.o.2
  have HOi : Hid (W6.rangeAt w.heap.size 1 [.int .i64 q.id.1, .int .i64 q.id.2]) := hd' (fun j v hv => by match j, hv with | 0, hv => exact (Option.some.inj hv) ▸ HO.o.cell 1 rfl | 1, hv => exact (Option.some.inj hv) ▸ HO.o.cell 2 rfl)
  refine wp_region_held_drew (S := fun w' => Gou.Mod (fun _ => False) W6 w') (by kernel_rfl) (Gou.Mod.drew _ _) (fun hH => ?_)
  refine tk 0 (.pointer (some ⟨N, 0, none⟩)) hH (h := ?_)
  refine tkR 1 (.agg #[.slice gp T.arena.gens.length gc, .slice lp T.arena.live.length lc]) HTa.o (fun h => h) Tryz.underlying28 uae hH (h := ?_)
  refine tk 2 (.pointer (some ⟨w.heap.size, 1, none⟩)) hH (h := ?_)
  refine tkR 3 (.agg #[.int .i64 q.id.1, .int .i64 q.id.2]) HOi.o (fun h => h) Tryz.underlying30 uaf hH (h := ?_)
  refine rd 4 (h := fun K hK => ?_)
  go_simp
  refine (ucv _ gp lp gc lc T.arena q.id (Hta.o.up hH) HIT.o.ok.len).mono ?_
  rintro e w7 ⟨rfl, hm7⟩
  have M := hd' (hH.trans' hm7)
  rw [Hg.o.1]
  clear hH
  refine hK _ _ M.o (fun hH => ?_)
  clear hK K M
  try simp only [Act.put, uSa, uSb, uSc]
  refine tk 5 (.bool true) hH (h := ?_)
  refine tk 6 (.bool true) hH (h := ?_)
  refine tk 7 (.pointer (some ⟨N, 2, none⟩)) hH (h := ?_)
  refine tkR 8 (.agg (lyA T.root.id T.root.look tp tf tb tks)) HTl.o (fun h => h) Tryz.underlying45 uaa hH (h := ?_)
  refine tk 10 (.pointer (some ⟨B, 2, none⟩)) hH (h := ?_)
  refine tkR 11 (.agg (lyA S.root.id S.root.look vp vf vb vk)) HSl.o (fun h => h) Tryz.underlying45 uaa hH (h := ?_)
  refine rd 9 (h := fun K hK => ?_)
  go_simp
  refine (ubx T.root _ _ _ _ _ (Htl.o.up hH) (by have := HszT.o; omega) HFT.o.root).mono ?_
  rintro e w8 ⟨rfl, hm8⟩
  have M := hd' (hH.trans' hm8)
  clear hH
  refine hK _ _ M.o (fun hH => ?_)
  clear hK K M
  try simp only [Act.put, uSa, uSb, uSc]
  refine rd 12 (h := fun K hK => ?_)
  go_simp
  refine (ubx S.root _ _ _ _ _ (Hly.o.up hH) (by have := HszT.o; omega) HF.o.root).mono ?_
  rintro e w9 ⟨rfl, hm9⟩
  have M := hd' (hH.trans' hm9)
  clear hH
  refine hK _ _ M.o (fun hH => ?_)
  clear hK K M
  try simp only [Act.put, uSa, uSb, uSc]
  refine tk 13 (.bool true) hH (h := ?_)
  refine tk 14 (.bool true) hH (h := ?_)
  refine tk 15 (.bool true) hH (h := ?_)
  have MS := hd' hH
  refine wpAnyH_done (by kernel_rfl) ?_ _
  clear hH
  replace HM := hd' (HM.o.trans' MS.o)
  clear MS
  go_wp2_with fail
  go_ret
  exact ⟨rfl, HM.o⟩
 have e2 : (q.kind == 1) = false := bqf.2 k1
 have e3 : (q.kind == 2) = false := bqf.2 k2
 have Hg : Hid (T.arena = S.arena ∧ T.root.ids.length = S.root.ids.length) := hd' (by rw [HTe.o.1]; exact ⟨uhc checkS S q k1 k2, doP_same HI.o checkS q k1 k2⟩)
 clear k1 k2
 go_upto_region 11 with fail
 clear c0 e1 e2 e3
 have ecnt : ((T.root.ids.length : Nat) : Int) = (S.root.ids.length : Nat) := by rw [Hg.o.2]
 have eco : ((T.arena.count : Nat) : Int) = (S.arena.count : Nat) := by rw [Hg.o.1]
 refine wp_region_held_drew (S := fun w' => Gou.Mod (fun _ => False) W6 w') (by kernel_rfl) (Gou.Mod.drew _ _) (fun hH => ?_)
 refine tk 0 (.pointer (some ⟨B, 0, none⟩)) hH (h := ?_)
 refine tkR 1 (.agg #[.slice pg S.arena.gens.length cg, .slice pl S.arena.live.length cl]) HSa.o (fun h => h) Tryz.underlying28 uae hH (h := ?_)
 refine tk 3 (.pointer (some ⟨N, 0, none⟩)) hH (h := ?_)
 refine tkR 4 (.agg #[.slice gp T.arena.gens.length gc, .slice lp T.arena.live.length lc]) HTa.o (fun h => h) Tryz.underlying28 uae hH (h := ?_)
 refine rd 2 (h := fun K hK => ?_)
 go_simp
 refine (ufa _ _ _ S.arena ((Ha.o.mod hH (fun _ _ _ h => h)).reads) HF.o.l).mono ?_
 rintro e w7 ⟨rfl, hm7⟩
 have M := hd' (hH.trans' hm7)
 clear hH
 refine hK _ _ M.o (fun hH => ?_)
 clear hK K M
 try simp only [Act.put, uSa, uSb, uSc]
 refine rd 5 (h := fun K hK => ?_)
 go_simp
 refine (ufa _ _ _ T.arena (Hta.o.up hH) HFT.o.l).mono ?_
 rintro e w8 ⟨rfl, hm8⟩
 have M := hd' (hH.trans' hm8)
 clear hH
 refine hK _ _ M.o (fun hH => ?_)
 clear hK K M
 try simp only [Act.put, uSa, uSb, uSc]
 refine tk 6 (.bool true) hH (h := ?_)
 refine tk 7 (.bool true) hH (h := ?_)
 refine tk 8 (.pointer (some ⟨B, 2, none⟩)) hH (h := ?_)
 refine tkR 9 (.agg (lyA S.root.id S.root.look vp vf vb vk)) HSl.o (fun h => h) Tryz.underlying45 uaa hH (h := ?_)
 refine tk 11 (.pointer (some ⟨N, 2, none⟩)) hH (h := ?_)
 refine tkR 12 (.agg (lyA T.root.id T.root.look tp tf tb tks)) HTl.o (fun h => h) Tryz.underlying45 uaa hH (h := ?_)
 refine rd 10 (h := fun K hK => ?_)
 go_simp
 refine (ubx S.root _ _ _ _ _ (Hly.o.up hH) (by have := HszT.o; omega) HF.o.root).mono ?_
 rintro e w9 ⟨rfl, hm9⟩
 have M := hd' (hH.trans' hm9)
 clear hH
 refine hK _ _ M.o (fun hH => ?_)
 clear hK K M
 try simp only [Act.put, uSa, uSb, uSc]
 refine rd 13 (h := fun K hK => ?_)
 go_simp
 refine (ubx T.root _ _ _ _ _ (Htl.o.up hH) (by have := HszT.o; omega) HFT.o.root).mono ?_
 rintro e w10 ⟨rfl, hm10⟩
 have M := hd' (hH.trans' hm10)
 clear hH
 refine hK _ _ M.o (fun hH => ?_)
 clear hK K M
 try simp only [Act.put, uSa, uSb, uSc]
 refine tk 14 (.bool true) hH (h := ?_)
 refine tk 15 (.bool true) hH (h := ?_)
 refine tk 16 (.bool true) hH (h := ?_)
 have MS := hd' hH
 refine wpAnyH_done (by kernel_rfl) ?_ _
 clear hH
 replace HM := hd' (HM.o.trans' MS.o)
 clear MS
 go_wp2_with fail
 go_ret
 exact ⟨rfl, HM.o⟩
end Go.Proofs.YtpbmfalokongfaaGreatDoor
