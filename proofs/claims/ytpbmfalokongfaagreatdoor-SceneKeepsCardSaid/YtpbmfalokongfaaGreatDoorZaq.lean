/- Texts of the scenes' proofs, laid together: SeV, SeW, SeY, Kps23. -/
import Derived.Test.YtpbmfalokongfaaGreatDoorZan
import Derived.Test.YtpbmfalokongfaaGreatDoorZap
import Derived.Test.YtpbmfalokongfaaGreatDoorZaj
import Derived.Test.YtpbmfalokongfaaGreatDoorZab
set_option maxHeartbeats 64000000
set_option linter.unusedSimpArgs false
set_option linter.unusedVariables false
set_option linter.unusedSectionVars false
set_option linter.constructorNameAsVariable false
namespace Go.Gou
open Go.RowKit
theorem newB2 {P : Program} {k : Code} {Q : Exit → Act → World → Prop} {a : Act} {w : World} {T U : TypeId} {z y c d : Array Value} (hs : z.size = c.size) (ht : y.size = d.size) (h : ∀ W', Blk W' w.heap.size T c → Blk W' (w.heap.size + 1) U d → Gou.Mod (fun _ => False) w W' → Code.wp P k Q a W') :
 Code.wp P k Q a ((((w.alloc (.cells z T)).alloc (.cells y U)).setCells w.heap.size 0 c.toList).setCells (w.heap.size + 1) 0 d.toList) := by
 obtain ⟨b0, b1, bm⟩ := uaw w T U z y
 have h1 := Blk.setMod ((w.alloc (.cells z T)).alloc (.cells y U)) w.heap.size 0 c.toList
 have h2 := Blk.setMod (((w.alloc (.cells z T)).alloc (.cells y U)).setCells w.heap.size 0 c.toList) (w.heap.size + 1) 0 d.toList
 exact h _ ((b0.setAll c hs).mod h2 (by omega)) ((b1.mod h1 (by omega)).setAll d ht) ((bm.trans h1 (fun k hk e => by omega)).trans h2 (fun k hk e => by omega))
theorem OpsR.one {w : World} {N : Nat} {T : TypeId} {q : Opr} {vp vf vb : Value} (hb : Blk w N T (oprC q vp vf vb)) (hl : LookR (fun _ => True) w q.look vp vf vb) : OpsR w (.slice (some ⟨N, 0, none⟩) 1 1) [q] :=
 ⟨some ⟨N, 0, none⟩, 1, rfl, Nat.le_refl _, .inr ⟨N, 0, rfl, hb.lt, fun i hi => by
  obtain rfl : i = 0 := by simpa using hi
  exact ⟨vp, vf, vb, fun j u hu => by simpa using hb.cell j hu, hl⟩⟩⟩
end Go.Gou
namespace Go.Proofs.YtpbmfalokongfaaGreatDoor
open Go.RowKit Go.Gou
set_option maxRecDepth 100000
theorem T_op : RowT Tryz.prog 22 53 34 296 (.agg (oprC Opr.zero nlS nlS nlS)) := ⟨Tryz.underlying22, by kernel_rfl, rfl, by decide⟩
end Go.Proofs.YtpbmfalokongfaaGreatDoor
namespace Go.Gou
open Go.RowKit
def NB (w : World) (b : Nat) : Prop := ∃ T cur, Blk w b T cur ∧ T ≠ 45 ∧ T ≠ 47
def LB (w : World) (b : Nat) : Prop := ∃ cur, Blk w b 45 cur
theorem blk_set {w : World} {b : Nat} {T : TypeId} {cur : Array Value} (h : Blk w b T cur) (b' o : Nat) (vs : List Value) : ∃ cur', Blk (w.setCells b' o vs) b T cur' := by
 by_cases e : b = b'
 ·subst e
  exact ⟨_, h.sets o vs⟩
 ·exact ⟨_, h.mod (Blk.setMod w b' o vs) e⟩
theorem NB.set {w : World} {b : Nat} (h : NB w b) (b' o : Nat) (vs : List Value) : NB (w.setCells b' o vs) b := by
 obtain ⟨T, cur, h, h1, h2⟩ := h
 obtain ⟨c, h⟩ := blk_set h b' o vs
 exact ⟨T, c, h, h1, h2⟩
theorem LB.set {w : World} {b : Nat} (h : LB w b) (b' o : Nat) (vs : List Value) : LB (w.setCells b' o vs) b := by
 obtain ⟨cur, h⟩ := h
 exact blk_set h b' o vs
theorem NB.ne {w : World} {b b' : Nat} (h : NB w b) (h' : LB w b') : b' ≠ b := by
 rintro rfl
 obtain ⟨T, cur, h1, h2, _⟩ := h
 obtain ⟨c, h3⟩ := h'
 exact h2 (Blk.ty h1 h3)
theorem NB.box {w : World} {b b' : Nat} {cs : Array Value} (h : NB w b) (h' : Blk w b' 47 cs) : b' ≠ b := by
 rintro rfl
 obtain ⟨T, cur, h1, _, h2⟩ := h
 exact h2 (Blk.ty h1 h')
theorem LB.box {w : World} {b b' : Nat} {cs : Array Value} (h : LB w b) (h' : Blk w b' 47 cs) : b' ≠ b := by
 rintro rfl
 obtain ⟨cur, h1⟩ := h
 exact absurd (Blk.ty h1 h') (by decide)
def Pw (base : Nat) (w : World) (pp : Option Addr) (n : Nat) : Prop := ∀ k, k < n → ∃ b o, pp = some ⟨b, o, none⟩ ∧ base ≤ b ∧ NB w b ∧ w.there b (o + k * 4) 4
def Gw (base : Nat) (w : World) (pg : Option Addr) (n : Nat) : Prop := ∀ i, i < n → ∃ b, pg = some ⟨b, 0, none⟩ ∧ base ≤ b ∧ NB w b ∧ w.there b i 1
def Kw (base : Nat) (w : World) (pk : Option Addr) (n : Nat) : Prop := ∀ j, j < n → ∃ b, pk = some ⟨b, 0, none⟩ ∧ base ≤ b ∧ LB w b ∧ w.there b (j * 31) 31 ∧ ∃ pp m cap, w.cell? ⟨b, j * 31 + 23, none⟩ = some (.slice pp m cap) ∧ Pw base w pp m ∧ m ≤ 1000000000
theorem Pw.set {base : Nat} {w : World} {pp : Option Addr} {n : Nat} (h : Pw base w pp n) (b o : Nat) (vs : List Value) : Pw base (w.setCells b o vs) pp n := fun k hk => by
 obtain ⟨b1, o1, h1, h2, h3, h4⟩ := h k hk
 exact ⟨b1, o1, h1, h2, h3.set b o vs, World.there_setCells h4 b o vs⟩
theorem Gw.set {base : Nat} {w : World} {pg : Option Addr} {n : Nat} (h : Gw base w pg n) (b o : Nat) (vs : List Value) : Gw base (w.setCells b o vs) pg n := fun k hk => by
 obtain ⟨b1, h1, h2, h3, h4⟩ := h k hk
 exact ⟨b1, h1, h2, h3.set b o vs, World.there_setCells h4 b o vs⟩
theorem Kw.set {base : Nat} {w : World} {pk : Option Addr} {n : Nat} (h : Kw base w pk n) {b o : Nat} {vs : List Value} (hb : NB w b ∨ ∃ i v, o = i * 31 ∧ vs = [v]) : Kw base (w.setCells b o vs) pk n := fun k hk => by
 obtain ⟨b1, h1, h2, h3, h4, pp, m, cap, h5, h6, h7⟩ := h k hk
 refine ⟨b1, h1, h2, h3.set b o vs, World.there_setCells h4 b o vs, pp, m, cap, ?_, h6.set b o vs, h7⟩
 by_cases e : b1 = b
 ·rcases hb with hb | ⟨i, v, rfl, rfl⟩
  ·exact absurd e (hb.ne h3)
  ·subst e
   obtain ⟨cur, hc⟩ := h3
   have h8 := hc.set (i * 31) v
   show (w.setCell ⟨b1, i * 31, none⟩ v).cell? _ = _
   rw [cell_of_row _ b1 _ _ _ _ h8]
   rw [cell_of_row _ b1 _ _ _ _ hc] at h5
   rw [Array.getElem?_setIfInBounds, if_neg (by omega)]
   exact h5
 ·rw [(Blk.setMod w b o vs).cell (p := ⟨b1, k * 31 + 23, none⟩) (wbc _ _ h5) e]
  exact h5
structure Kp (base N : Nat) (cs : Array Value) (pg : Option Addr) (ng : Nat) (pk : Option Addr) (nk : Nat) (w0 w : World) : Prop where
 box : Blk w N 47 cs
 g : Gw base w pg ng
 k : Kw base w pk nk
 m : Mod (fun x => base ≤ x) w0 w
section
variable {base N : Nat} {cs : Array Value} {pg : Option Addr} {ng : Nat} {pk : Option Addr} {nk : Nat} {w0 w : World}
theorem Kp.nset (h : Kp base N cs pg ng pk nk w0 w) {b : Nat} (hb : NB w b) (hg : base ≤ b) (o : Nat) (vs : List Value) : Kp base N cs pg ng pk nk w0 (w.setCells b o vs) :=
 ⟨h.box.mod (Blk.setMod w b o vs) (hb.box h.box), h.g.set b o vs, h.k.set (.inl hb), h.m.trans (Blk.setMod w b o vs) (fun k _ e => e ▸ hg)⟩
theorem Kp.lset (h : Kp base N cs pg ng pk nk w0 w) {b : Nat} (hb : LB w b) (hg : base ≤ b) (i : Nat) (v : Value) : Kp base N cs pg ng pk nk w0 (w.setCells b (i * 31) [v]) :=
 ⟨h.box.mod (Blk.setMod w b _ _) (hb.box h.box), h.g.set b _ _, h.k.set (.inr ⟨i, v, rfl, rfl⟩), h.m.trans (Blk.setMod w b _ _) (fun k _ e => e ▸ hg)⟩
theorem Kp.drew (h : Kp base N cs pg ng pk nk w0 w) (n : Nat) : Kp base N cs pg ng pk nk w0 (w.drewN n) := by
 obtain ⟨h1, h2, h3, h4⟩ := h
 exact ⟨h1, h2, h3, h4.trans' (Mod.drewN _ w n)⟩
end
theorem Gw.of {base : Nat} {w : World} {T : TypeId} {p : Option Addr} {n c : Nat} {cs : List Value} (h : w.ownsRow base T 1 (.slice p n c) n cs) (h1 : T ≠ 45) (h2 : T ≠ 47) : Gw base w p n := fun i hi => by
 obtain ⟨g, rfl, hg, _⟩ := ub9 h (by omega)
 obtain ⟨_, _, cur, cap, hb, hv, hc, hs, _⟩ := uar h rfl
 refine ⟨g, rfl, hg, ⟨T, cur, hb, h1, h2⟩, hb.there i 1 ?_⟩
 omega
theorem Pw.of {base : Nat} {w : World} {v : Value} {l : List Pxl} (h : PixR (LookG 45 77 base w) w v l) : ∃ p c, v = .slice p l.length c ∧ Pw base w p l.length := by
 obtain ⟨hl, p, cap, rfl, hcap, h⟩ := h
 refine ⟨p, cap, rfl, fun k hk => ?_⟩
 rcases h with h | ⟨b, o, rfl, hb, ⟨hg, cur, T, h1, h2, _, h3⟩, hc⟩
 ·omega
 ·refine ⟨b, o, rfl, hg, ⟨T, cur, h1, h2, by rcases h3 with rfl | rfl | rfl | rfl <;> decide⟩, fun j hj => ⟨?_, ?_⟩⟩
  ·have hlt : k * 4 + j < l.length * 4 := by omega
   have h4 := lgE (l := _) (hl ▸ hlt)
   have h5 := hc (k * 4 + j) _ h4
   rw [← Nat.add_assoc] at h5
   rw [h5]
   rfl
  ·exact Blk.frozen (T := T) (cs := cur) h1 _
theorem Kw.of {base : Nat} {w : World} {i : Idt} {lk : Lk} {vp vf vb vk : Value} {T : Ly} {F : List Nat} (h : LyO 45 77 base w (lyA i lk vp vf vb vk).toList T F) (hT : TFit T) : ∃ p c, vk = .slice p T.kids.length c ∧ Kw base w p T.kids.length := by
 generalize hc : (lyA i lk vp vf vb vk).toList = c at h
 cases h with
 | mk i' lk' ks vp' vf' vb' vk' css fs hl hr hn hf hk hd =>
  obtain rfl : vk = vk' := Option.some.inj (congrArg (fun l : List Value => l[30]?) hc)
  obtain ⟨p, c, rfl⟩ := Gou.ownsRow_form hr
  refine ⟨p, c, rfl, fun j hj => ?_⟩
  have hj' : j < ks.length := hj
  have hj1 : j < css.length := by omega
  have h31 := LyO.lens hn hf hk
  obtain ⟨b, o, rfl, hb, hg, hcell⟩ := RowG.kid (RowG.of_own hr) h31 hn (lgE hj1)
  have hob : ∃ g, (some (⟨b, o, none⟩ : Addr)) = some ⟨g, 0, none⟩ := by
   rcases hr.2 with ⟨hv, h0⟩ | ⟨g, cap, cur, hv, _⟩
   ·cases hv
   ·simp only [Value.slice.injEq] at hv
    exact ⟨g, hv.1⟩
  obtain ⟨g, hg0⟩ := hob
  cases hg0
  obtain ⟨_, _, cur, cap, hB, hv, hcap, hs, _⟩ := uar hr rfl
  refine ⟨b, rfl, hg, ⟨cur, hB⟩, hB.there _ _ ?_, ?_⟩
  ·have : j * 31 + 31 ≤ cap * 31 := by omega
   omega
  ·have h1 := hk j css[j] ks[j] fs[j] (lgE hj1) (lgE hj') (lgE (by omega))
   have hc2 : css[j]? = some css[j] := lgE hj1
   generalize css[j] = cj at h1 hc2 hcell
   have hfit := hT.kids ks[j] (lgM hj')
   generalize ks[j] = kj at h1 hfit
   generalize fs[j] = fj at h1
   cases h1 with
   | mk i2 lk2 ks2 vp2 vf2 vb2 vk2 css2 fs2 hl2 hr2 hn2 hf2 hk2 hd2 =>
    obtain ⟨pp, cp, rfl, hp⟩ := Pw.of hl2.pix
    refine ⟨pp, _, cp, ?_, hp, Nat.le_trans (TFit.look hfit).pix (by decide)⟩
    have := hcell 23 _ rfl
    rw [Nat.zero_add] at this
    exact this
end Go.Gou
namespace Go.Proofs.YtpbmfalokongfaaGreatDoor
open Go.RowKit Go.Gou
set_option maxRecDepth 100000
theorem size_px : (Tryz.prog.info? 34).map (·.size) = some 4 := by kernel_rfl
theorem sceneKeeps_law (w : World) (v : Value) (xs : List Opr) (h : OpsR w v xs) (hwf : (∀ a ∈ xs, LkWf a.look) ∧ xs.length ≤ maxLen) (u : Value) (q : Opr) (hu : OpV (fun _ => True) w u q) (hq : LkWf q.look) (ht : Tabs w) :
 Calls Tryz.prog 6 #[v, u] w fun e w' => e = .returned (.bool true) ∧ Gou.Mod (fun _ => False) w w' := by
 obtain ⟨wp, wf, wb, rfl, hlk⟩ := hu
 obtain ⟨⟨qp, dp, rfl⟩, ⟨qf, df, rfl⟩, ⟨qb, db, rfl⟩⟩ := hlk.forms
 obtain ⟨p, cap, rfl, _, _⟩ := id h
 have Hwf := hd' hwf.1
 have Hl := hd' hwf.2
 have Hq := hd' hq
 have Ht := hd' ht
 have HO := hd' (Blk.new w 53 (opS q qp dp qf df qb db))
 have HM := hd' (Gou.Mod.alloc0 w (.cells (opS q qp dp qf df qb db) 53))
 have Hh := hd' (h.up HM.o)
 have Hlk := hd' (hlk.mod HM.o (fun _ _ _ h => h))
 clear h hwf ht hlk hq
 go_enter Tryz.func6, Tryz.ntmps6
 go_upto_region 1 with fail
 show Code.wp _ _ _ _ (w.alloc (.cells (opS q qp dp qf df qb db) 53))
 generalize w.alloc (.cells (opS q qp dp qf df qb db) 53) = W1 at *
 go_wp2_with fail
 refine (ue9 _).mono ?_
 rintro e w1 ⟨rfl, hm⟩
 replace HM := hd' (HM.o.trans' hm)
 replace Hh := hd' (Hh.o.up hm)
 replace HO := hd' (HO.o.up hm)
 replace Hlk := hd' (Hlk.o.mod hm (fun _ _ _ h => h))
 clear hm
 go_wp2_with fail
 refine (ug9 _ _ xs Hh.o Hwf.o Hl.o).mono ?_
 rintro e w2 ⟨rfl, hm⟩
 replace HM := hd' (HM.o.trans' hm)
 replace Hh := hd' (Hh.o.up hm)
 replace HO := hd' (HO.o.up hm)
 replace Hlk := hd' (Hlk.o.mod hm (fun _ _ _ h => h))
 clear hm
 cases hfew : fewO xs
 ·clear hfew
  go_wp2_with fail
  refine (ue9 _).mono ?_
  rintro e w3 ⟨rfl, hm⟩
  replace HM := hd' (HM.o.trans' hm)
  clear hm
  go_wp2_with fail
  go_ret
  exact ⟨rfl, HM.o⟩
 have Hfew := hd' hfew
 clear hfew
 go_wp2_with (first | ((with_reducible refine lT 53 ?_); refine ldG HO.o.whole Tryz.underlying53 ued (h := ?_)) | ((with_reducible show wpList _ _ _ (⟨_, Op.buildSlice _ _ _, _, _, _, _⟩ :: _) _ _); refine halt ?_) | fail)
 show wpList _ _ _ _ _ _
 refine wpList_step (fun K hK => ?_)
 rw [if_pos (by rfl)]
 refine ua8 T_op _ rfl (opS q qp dp qf df qb db) rfl rfl (by decide) ?_
 refine hK _ _ ?_
 clear hK K
 simp only [Act.put, uSa, uSb, uSc]
 have hm := Gou.Mod.alloc0 w2 (.cells (opS q qp dp qf df qb db) 53)
 have HOp := hd' (OpsR.one (Blk.new w2 53 (opS q qp dp qf df qb db)) (Hlk.o.mod hm (fun _ _ _ h => h)))
 replace HM := hd' (HM.o.trans' hm)
 replace Hh := hd' (Hh.o.up hm)
 replace HO := hd' (HO.o.up hm)
 replace Hlk := hd' (Hlk.o.mod hm (fun _ _ _ h => h))
 clear hm
 generalize w2.alloc (.cells (opS q qp dp qf df qb db) 53) = W2 at *
 generalize w2.heap.size = N2 at *
 go_wp2_with fail
 refine (ug9 _ _ [q] HOp.o (by simpa using Hq.o) (by rw [List.length_singleton]; decide)).mono ?_
 rintro e w3 ⟨rfl, hm⟩
 replace HM := hd' (HM.o.trans' hm)
 replace Hh := hd' (Hh.o.up hm)
 replace HO := hd' (HO.o.up hm)
 replace Hlk := hd' (Hlk.o.mod hm (fun _ _ _ h => h))
 clear hm HOp
 cases hf2 : fewO [q]
 ·clear hf2
  go_wp2_with fail
  refine (ue9 _).mono ?_
  rintro e w3 ⟨rfl, hm⟩
  replace HM := hd' (HM.o.trans' hm)
  clear hm
  go_wp2_with fail
  go_ret
  exact ⟨rfl, HM.o⟩
 have Hfq := hd' ((ue2 hf2).2 q (by simp))
 clear hf2
 go_upto_region 3 with fail
 go_wp2_with fail
 refine (uhy _ _ xs Hh.o Hwf.o Hfew.o (Ht.o.below (HM.o.below (Nat.le_refl _) (fun _ _ h => h)))).mono ?_
 rintro e w4 ⟨v3, rfl, hsn, hm⟩
 have Hpl := hd' (uf3 checkS (fun o ho => ((ue2 Hfew.o).2 o ho).1) xs.length (Nat.le_refl _))
 rw [List.take_length] at Hpl
 have Hn : Hid (xs.length ≤ 100) := hd' (by have := (ue2 Hfew.o).1; omega)
 obtain ⟨S, hS⟩ : ∃ S, S = udz checkS xs := ⟨_, rfl⟩
 have HSe := hd' hS
 rw [← hS] at hsn Hpl
 have HI := hd' Hpl.o.2
 have HF := hd' (Hpl.o.2.fit Hn.o Hpl.o.1)
 have HLA := hd' Hpl.o.1
 clear hS Hpl
 replace HM := hd' (HM.o.trans' hm)
 replace Hh := hd' (Hh.o.up hm)
 replace HO := hd' (HO.o.up hm)
 replace Hlk := hd' (Hlk.o.mod hm (fun _ _ _ h => h))
 clear hm
 obtain ⟨vg, vl, vp, vf, vb, vk, rfl, ha, hly⟩ := hsn
 obtain ⟨⟨pg, cg, rfl⟩, ⟨pl, cl, rfl⟩⟩ := ha.reads.forms
 have Ha := hd' ha
 have Hly := hd' hly
 clear ha hly
 go_upto_region 4 with (first | ((with_reducible refine sT 47 ?_); refine stA (scA (.slice pg S.arena.gens.length cg) (.slice pl S.arena.live.length cl) S.root.id S.root.look vp vf vb vk) ((Blk.new w4 47 scZ).there 0 33 (by simp [scA, lyA, uai])) uah (ubf rfl rfl (LyR.one Hly.o)) (h := ?_)) | fail)
 refine newB rfl (fun W4 hb hm => ?_)
 have HS := hd' hb
 replace HM := hd' (HM.o.trans' hm)
 replace Hh := hd' (Hh.o.up hm)
 replace HO := hd' (HO.o.up hm)
 replace Hlk := hd' (Hlk.o.mod hm (fun _ _ _ h => h))
 replace Ha := hd' (Ha.o.mod hm (fun _ _ _ h => h))
 replace Hly := hd' (Hly.o.up hm)
 clear hb hm
 generalize w4.heap.size = B at *
 go_wp2_with fail
 refine (uhy _ _ xs Hh.o Hwf.o Hfew.o (Ht.o.below (HM.o.below (Nat.le_refl _) (fun _ _ h => h)))).mono ?_
 rintro e w5 ⟨v3, rfl, hsn, hm⟩
 rw [← HSe.o] at hsn
 replace HM := hd' (HM.o.trans' hm)
 replace HO := hd' (HO.o.up hm)
 replace HS := hd' (HS.o.up hm)
 replace Ha := hd' (Ha.o.mod hm (fun _ _ _ h => h))
 replace Hly := hd' (Hly.o.up hm)
 replace Hlk := hd' (Hlk.o.mod hm (fun _ _ _ h => h))
 clear hm
 obtain ⟨vg, vl, vp2, vf2, vb2, vk2, rfl, ha, hly⟩ := hsn
 obtain ⟨⟨pg2, cg2, rfl⟩, ⟨pl2, cl2, rfl⟩⟩ := ha.reads.forms
 have Ha2 := hd' ha
 have Hly2 := hd' hly
 clear ha hly
 go_upto_region 5 with (first | ((with_reducible refine sT 47 ?_); refine stA (scA (.slice pg2 S.arena.gens.length cg2) (.slice pl2 S.arena.live.length cl2) S.root.id S.root.look vp2 vf2 vb2 vk2) ((Blk.new w5 47 scZ).there 0 33 (by simp [scA, lyA, uai])) uah (ubf rfl rfl (LyR.one Hly2.o)) (h := ?_)) | fail)
 refine newB rfl (fun W5 hb hm => ?_)
 have HS2 := hd' hb
 replace HM := hd' (HM.o.trans' hm)
 replace HO := hd' (HO.o.up hm)
 replace HS := hd' (HS.o.up hm)
 replace Ha := hd' (Ha.o.mod hm (fun _ _ _ h => h))
 replace Hly := hd' (Hly.o.up hm)
 replace Hlk := hd' (Hlk.o.mod hm (fun _ _ _ h => h))
 replace Ha2 := hd' (Ha2.o.mod hm (fun _ _ _ h => h))
 replace Hly2 := hd' (Hly2.o.up hm)
 clear hb hm
 generalize w5.heap.size = B2 at *
 have Hn60 := hd' (ue2 Hfew.o).1
 clear Hh Hwf Hl Ht Hfew HSe
 have HB : Hid (B < W5.heap.size ∧ B2 < W5.heap.size) := hd' ⟨HS.o.lt, HS2.o.lt⟩
 go_wp2_with (first | ((with_reducible refine lT 47 ?_); refine ldA HS.o.whole Tryz.underlying47 uah (h := ?_)) | ((with_reducible refine lT 53 ?_); refine ldA HO.o.whole Tryz.underlying53 ued (h := ?_)) | fail)
 refine (ue3 _ _ S q _ _ _ ⟨_, _, _, _, _, _, rfl, Ha.o, Hly.o⟩ HF.o Hlk.o xs.length HI.o Hn.o Hfq.o.1 Hq.o.filt Hq.o.back).mono ?_
 rintro e w5 ⟨v5, rfl, hs5, hm⟩
 have HSn : Hid (SnR (fun k => k < W5.heap.size) W5 (.agg (scA (.slice pg S.arena.gens.length cg) (.slice pl S.arena.live.length cl) S.root.id S.root.look vp vf vb vk)) S) := hd' (SnR.imp (G := fun _ => True) ⟨_, _, _, _, _, _, rfl, Ha.o.mod (Gou.Mod.refl (fun _ => False) _) (fun _ _ _ h => h), Hly.o⟩ (fun k hk _ => hk))
 have HSn2 : Hid (SnR (fun k => k < W5.heap.size) W5 (.agg (scA (.slice pg2 S.arena.gens.length cg2) (.slice pl2 S.arena.live.length cl2) S.root.id S.root.look vp2 vf2 vb2 vk2)) S) := hd' (SnR.imp (G := fun _ => True) ⟨_, _, _, _, _, _, rfl, Ha2.o.mod (Gou.Mod.refl (fun _ => False) _) (fun _ _ _ h => h), Hly2.o⟩ (fun k hk _ => hk))
 clear Ha Hly Ha2 Hly2
 have HZ : Hid (w.heap.size ≤ W5.heap.size) := hd' HM.o.size
 generalize W5.heap.size = Z at *
 replace HSn := hd' (HSn.o.mod hm (fun _ _ _ h => h))
 replace HSn2 := hd' (HSn2.o.mod hm (fun _ _ _ h => h))
 replace HM := hd' (HM.o.trans' hm)
 replace HS := hd' (HS.o.up hm)
 replace HS2 := hd' (HS2.o.up hm)
 clear hm
 obtain ⟨r, hr⟩ : ∃ r, r = doP checkS S q := ⟨_, rfl⟩
 rw [← hr] at hs5 ⊢
 have Hr := hd' hr
 clear hr
 obtain ⟨T, y, c⟩ := r
 have HFT : Hid (ugk T) := hd' (by have e := congrArg (·.1) Hr.o; simp only at e; rw [e]; exact (HI.o.do_ checkS q).fit (by have := Hn60.o; omega) (doP_lks HI.o checkS q HLA.o Hfq.o.1))
 clear Hr
 dsimp only at hs5 ⊢
 obtain ⟨tg, tl, tp, tf, tb, tks, F, rfl, ta, tly⟩ := hs5
 have Hone := hd' (ueg ta tly)
 obtain ⟨⟨gp, gc, rfl⟩, -⟩ := ta.forms
 have Hta := hd' ta
 have Htl := hd' tly
 clear ta tly
 go_upto_region 6 with (first | ((with_reducible refine sT 47 ?_); refine stA (scA (.slice gp T.arena.gens.length gc) tl T.root.id T.root.look tp tf tb tks) ((uaw w5 47 30 scZ iiZ).1.there 0 33 (by simp [scA, lyA])) uah Hone.o (h := ?_)) | ((with_reducible refine sT 30 ?_); refine stA (#[Value.int .i64 y.1, Value.int .i64 y.2]) (((uaw w5 47 30 scZ iiZ).2.1.mod (Blk.setMod ((w5.alloc (.cells scZ 47)).alloc (.cells iiZ 30)) w5.heap.size 0 (scA (.slice gp T.arena.gens.length gc) tl T.root.id T.root.look tp tf tb tks).toList) (by omega)).there 0 2 (by simp)) uaf (by simp [Value.oneCell']) (h := ?_)) | fail)
 refine newB2 rfl rfl (fun W6 h1 h2 hm => ?_)
 replace HSn := hd' (HSn.o.mod hm (fun _ _ _ h => h))
 replace HSn2 := hd' (HSn2.o.mod hm (fun _ _ _ h => h))
 replace HM := hd' (HM.o.trans' hm)
 replace HS := hd' (HS.o.up hm)
 replace HS2 := hd' (HS2.o.up hm)
 generalize w5.heap.size = N at *
 obtain ⟨pk, ck, rfl, hk⟩ := Kw.of (Htl.o.up hm) HFT.o.root
 have hg := Gw.of (Hta.o.up hm).g (by decide) (by decide)
 have HK : Hid (Kp Z N (scA (.slice gp T.arena.gens.length gc) tl T.root.id T.root.look tp tf tb (.slice pk T.root.kids.length ck)) gp T.arena.gens.length pk T.root.kids.length W6 W6) := hd' ⟨h1, hg, hk, Gou.Mod.refl _ _⟩
 have Hgl := hd' HFT.o.g
 have Hkl := hd' HFT.o.root.len
 clear h1 h2 hg hk hm Hone Hta Htl
 go_wp2_with fail
 go_loopw [10] (fun vi wr => ∃ i : Nat, vi = .int .i64 i ∧ i ≤ T.arena.gens.length ∧ Kp Z N (scA (.slice gp T.arena.gens.length gc) tl T.root.id T.root.look tp tf tb (.slice pk T.root.kids.length ck)) gp T.arena.gens.length pk T.root.kids.length W6 wr) (fun vi _ => T.arena.gens.length - (intOf vi).toNat)
 case atStart => exact ⟨0, rfl, Nat.zero_le _, HK.o⟩
 case round =>
  obtain ⟨i, rfl, hi, hk⟩ := hrel
  have k0 : wr.cell? ⟨N, 0, none⟩ = some (.slice gp T.arena.gens.length gc) := hk.box.cell 0 rfl
  have HK2 := hd' hk
  clear hk
  by_cases hil : i < T.arena.gens.length
  ·have e0 : decide ((i : Int) < (T.arena.gens.length : Int)) = true := dqt (by omega)
   obtain ⟨b, rfl, hb, hn, hth⟩ := HK2.o.g i hil
   have h0 := hth 0 (by omega)
   obtain ⟨x, hx⟩ := Option.isSome_iff_exists.1 h0.1
   have hf := h0.2
   simp only [Nat.add_zero] at hx hf
   have Hw : Hid (Kp Z N (scA (.slice (some ⟨b, 0, none⟩) T.arena.gens.length gc) tl T.root.id T.root.look tp tf tb (.slice pk T.root.kids.length ck)) (some ⟨b, 0, none⟩) T.arena.gens.length pk T.root.kids.length W6 (wr.setCell ⟨b, i, none⟩ (.int .i64 (-7)))) := hd' (HK2.o.nset hn hb i [.int .i64 (-7)])
   have hwi : wrap64 ((i : Int) + 1) = ((i + 1 : Nat) : Int) := by have := Hgl.o; unfold wrap64; omega
   clear hth h0 hn hb
   clear HK2
   go_wp2_with fail
   go_roundw
   case rel => exact ⟨i + 1, by rw [← hwi], by omega, Hw.o⟩
   case measure => rw [hwi]; simp only [intOf]; omega
  ·have e0 : decide ((i : Int) < (T.arena.gens.length : Int)) = false := dqf (by omega)
   clear HK Hgl
   go_upto_region 10 with fail
   clear k0 hi hil e0
   go_wp2_with fail
   go_loopw [11] (fun vi wr => ∃ j : Nat, vi = .int .i64 j ∧ j ≤ T.root.kids.length ∧ Kp Z N (scA (.slice gp T.arena.gens.length gc) tl T.root.id T.root.look tp tf tb (.slice pk T.root.kids.length ck)) gp T.arena.gens.length pk T.root.kids.length W6 wr) (fun vi _ => T.root.kids.length - (intOf vi).toNat)
   case atStart => exact ⟨0, rfl, Nat.zero_le _, HK2.o⟩
   case round =>
    clear HK2
    obtain ⟨j, rfl, hj, hk⟩ := hrel
    have k1 : wr.cell? ⟨N, 32, none⟩ = some (.slice pk T.root.kids.length ck) := hk.box.cell 32 rfl
    have HK2 := hd' hk
    clear hk
    by_cases hil : j < T.root.kids.length
    ·have e0 : decide ((j : Int) < (T.root.kids.length : Int)) = true := dqt (by omega)
     obtain ⟨b, rfl, hb, hn, hth, -⟩ := HK2.o.k j hil
     have h0 := hth 0 (by omega)
     obtain ⟨x, hx⟩ := Option.isSome_iff_exists.1 h0.1
     have hf := h0.2
     simp only [Nat.add_zero] at hx hf
     have Hw : Hid (Kp Z N (scA (.slice gp T.arena.gens.length gc) tl T.root.id T.root.look tp tf tb (.slice (some ⟨b, 0, none⟩) T.root.kids.length ck)) gp T.arena.gens.length (some ⟨b, 0, none⟩) T.root.kids.length W6 (wr.setCell ⟨b, j * 31, none⟩ (.int .i64 (-7)))) := hd' (HK2.o.lset hn hb j (.int .i64 (-7)))
     have Hwi : Hid (wrap64 ((j : Int) + 1) = ((j + 1 : Nat) : Int)) := hd' (by have := Hkl.o; unfold wrap64; omega)
     clear hth h0 hn hb HK2
     go_upto_region 14 with fail
     generalize wr.setCell ⟨b, j * 31, none⟩ (.int .i64 (-7)) = W7 at *
     clear k1 x hx hf wr
     obtain ⟨b', hbb, _, hn, _, pp, m, cm, hc, hp, hm⟩ := Hw.o.k j hil
     cases hbb
     have Hm := hd' hm
     go_wp2_with fail
     go_loopw [12] (fun vi wr => ∃ k : Nat, vi = .int .i64 k ∧ k ≤ m ∧ Kp Z N (scA (.slice gp T.arena.gens.length gc) tl T.root.id T.root.look tp tf tb (.slice (some ⟨b, 0, none⟩) T.root.kids.length ck)) gp T.arena.gens.length (some ⟨b, 0, none⟩) T.root.kids.length W6 wr ∧ LB wr b ∧ wr.cell? ⟨b, j * 31 + 23, none⟩ = some (.slice pp m cm) ∧ Pw Z wr pp m) (fun vi _ => m - (intOf vi).toNat)
     case atStart => exact ⟨0, rfl, Nat.zero_le _, Hw.o, hn, hc, hp⟩
     case round =>
      clear hc hp hn hm Hw
      obtain ⟨k, rfl, hk, hK, hn, hc, hp⟩ := hrel
      have k1 : wr.cell? ⟨N, 32, none⟩ = some (.slice (some ⟨b, 0, none⟩) T.root.kids.length ck) := hK.box.cell 32 rfl
      have HK2 := hd' hK
      have Hn := hd' hn
      have Hp := hd' hp
      clear hK hn hp
      by_cases hkl : k < m
      ·have e1 : decide ((k : Int) < (m : Int)) = true := dqt (by omega)
       obtain ⟨b2, o2, rfl, hb2, hn2, hth2⟩ := Hp.o k hkl
       have Hn2 := hd' hn2
       have Hb2 := hd' hb2
       have Hth2 := hd' hth2
       have Hwk : Hid (wrap64 ((k : Int) + 1) = ((k + 1 : Nat) : Int)) := hd' (by have := Hm.o; unfold wrap64; omega)
       have Hc := hd' hc
       clear hn2 hb2 hth2
       go_wp2_with (first | ((with_reducible refine sT 34 ?_); refine stA (#[Value.int .u8 9, Value.int .u8 9, Value.int .u8 9, Value.int .u8 9]) Hth2.o size_px (by simp [Value.oneCell']) (h := ?_)) | fail)
       go_roundw
       case rel => exact ⟨k + 1, by rw [← Hwk.o], by omega, HK2.o.nset Hn2.o Hb2.o _ _, Hn.o.set _ _ _, (by rw [(Blk.setMod wr b2 (o2 + k * 4) _).cell (p := ⟨b, j * 31 + 23, none⟩) (wbc _ _ Hc.o) (Hn2.o.ne Hn.o)]; exact Hc.o), Hp.o.set _ _ _⟩
       case measure => rw [Hwk.o]; simp only [intOf]; omega
      ·have e1 : decide ((k : Int) < (m : Int)) = false := dqf (by omega)
       go_wp2_with fail
       go_roundw
       case rel => exact ⟨j + 1, by rw [← Hwi.o], by omega, HK2.o⟩
       case measure => rw [Hwi.o]; simp only [intOf]; omega
    ·have e0 : decide ((j : Int) < (T.root.kids.length : Int)) = false := dqf (by omega)
     go_upto_region 18 with fail
     clear k1 e0 hj hil
     have hm := HK2.o.m
     replace HS := hd' (HS.o.mod hm (by have := HB.o; omega))
     replace HS2 := hd' (HS2.o.mod hm (by have := HB.o; omega))
     replace HSn := hd' (HSn.o.mod hm (fun k _ hk h => by omega))
     replace HSn2 := hd' (HSn2.o.mod hm (fun k _ hk h => by omega))
     replace HM := hd' (HM.o.trans hm (fun k hk h => by have := HZ.o; omega))
     clear hm HK2
     go_wp2_with (first | ((with_reducible refine lT 47 ?_); refine ldA HS.o.whole Tryz.underlying47 uah (h := ?_)) | ((with_reducible refine lT 47 ?_); refine ldA HS2.o.whole Tryz.underlying47 uah (h := ?_)) | fail)
     refine (uhx _ _ _ _ _ S S HSn.o HSn2.o HF.o.root HF.o.root HF.o.g HF.o.l).mono ?_
     rintro e w9 ⟨rfl, hm⟩
     rw [(Sn.sameB_iff S S).2 rfl]
     replace HM := hd' (HM.o.trans' hm)
     clear hm
     go_wp2_with fail
     go_ret
     exact ⟨rfl, HM.o⟩
end Go.Proofs.YtpbmfalokongfaaGreatDoor
