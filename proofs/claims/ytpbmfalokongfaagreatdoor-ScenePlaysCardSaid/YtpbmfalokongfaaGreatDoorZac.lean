/- Texts of the scenes' proofs, laid together: ScK, ScJ, ScR, ScN. -/
import Derived.Test.YtpbmfalokongfaaGreatDoorZab
import Derived.Deep.Cut
import Derived.Deep.CutBlock
import Derived.Deep.CutRange
set_option maxHeartbeats 64000000
set_option linter.unusedSimpArgs false
set_option linter.unusedVariables false
set_option linter.unusedSectionVars false
set_option linter.constructorNameAsVariable false
namespace Go.Gou
open Go.RowKit
variable {TL TD : TypeId} {base : Nat}
structure KidsO (TL TD : TypeId) (base : Nat) (w : World) (vs : Value) (n : Nat) (css : List (List Value)) (fs : List (List Nat)) (ks : List Ly) : Prop where
 own : w.ownsRow base TL 31 vs n css.flatten
 lc : css.length = n
 lf : fs.length = n
 ln : n ≤ ks.length
 kids : ∀ (j : Nat) (c : List Value) (k : Ly) (f : List Nat), css[j]? = some c → ks[j]? = some k → fs[j]? = some f → LyO TL TD base w c k f
 nd : (vs.ownBlock.toList ++ fs.flatten).Nodup
theorem KidsO.start (w : World) (ks : List Ly) : KidsO TL TD base w nlS 0 [] [] ks :=
 ⟨World.ownsRow_nil _ _ _ _, rfl, rfl, Nat.zero_le _, fun j c k f h => by simp at h, by simp [Value.ownBlock]⟩
theorem KidsO.rows {w : World} {vs : Value} {n : Nat} {css : List (List Value)} {fs : List (List Nat)} {ks : List Ly} (h : KidsO TL TD base w vs n css fs ks) : (∀ k, vs.ownBlock = some k → base ≤ k ∧ k < w.heap.size ∧ ¬ LookBlk TL TD w k) ∧ ∀ k ∈ fs.flatten, base ≤ k ∧ k < w.heap.size := by
 refine ⟨fun k hk => ?_, fun k hk => ?_⟩
 ·obtain ⟨h1, h2, cur, cap, h3, _⟩ := uar h.own hk
  refine ⟨h1, h2, ?_⟩
  rintro ⟨cur', T', g1, g2, g3⟩
  unfold Blk at h3
  rw [h3] at g1
  simp only [Option.some.injEq, Obj.cells.injEq] at g1
  exact g2 g1.2.1.symm
 ·obtain ⟨f, h1, h2⟩ := List.mem_flatten.1 hk
  obtain ⟨j, hj⟩ := List.mem_iff_getElem?.1 h1
  have hj' := (lgS.1 hj).1
  have h3 := h.lc; have h4 := h.lf; have h5 := h.ln
  obtain ⟨g1, g2, _⟩ := (h.kids j _ _ f (lgE (by omega)) (lgE (by omega)) hj).rows k h2
  exact ⟨g1, g2⟩
theorem KidsO.mod {S : Nat → Prop} {w w' : World} {vs : Value} {n : Nat} {css : List (List Value)} {fs : List (List Nat)} {ks : List Ly} (h : KidsO TL TD base w vs n css fs ks) (hm : Mod S w w') (hS : ∀ k, base ≤ k → k < w.heap.size → ¬ S k) : KidsO TL TD base w' vs n css fs ks := by
 refine ⟨uac h.own hm (fun k hk => hS k (h.rows.1 k hk).1 (h.rows.1 k hk).2.1), h.lc, h.lf, h.ln, fun j c k f h1 h2 h3 => (h.kids j c k f h1 h2 h3).mod hm (fun b hb => ?_) (fun b hb hl => ?_), h.nd⟩
 ·obtain ⟨g1, g2, _⟩ := (h.kids j c k f h1 h2 h3).rows b hb
  exact hS b g1 g2
 ·obtain ⟨cur, T, g1, _⟩ := hl
  exact hS b hb (Blk.lt g1)
theorem KidsO.up {w w' : World} {vs : Value} {n : Nat} {css : List (List Value)} {fs : List (List Nat)} {ks : List Ly} (h : KidsO TL TD base w vs n css fs ks) (hm : Mod (fun _ => False) w w') : KidsO TL TD base w' vs n css fs ks := h.mod hm (fun _ _ _ h => h)
theorem KidsO.grow {w w5 w7 : World} {vs v7 : Value} {n z : Nat} {css : List (List Value)} {fs : List (List Nat)} {ks : List Ly} {c : List Value} {f : List Nat} {k : Ly} (h : KidsO TL TD base w vs n css fs ks) (hm : Mod (fun _ => False) w w5)
 (hz : w.heap.size ≤ z) (hzb : base ≤ z) (hk : ks[n]? = some k) (hc : LyO TL TD z w5 c k f) (hg : Grown w5 base TL 31 vs (n + 1) (css.flatten ++ c) v7 w7) : KidsO TL TD base w7 v7 (n + 1) (css ++ [c]) (fs ++ [f]) ks := by
 have h5 := h.up hm
 have hrows := h.rows
 have hS : ∀ b, vs.ownBlock = some b → b < w.heap.size := fun b hb => (hrows.1 b hb).2.1
 have hlook : ∀ b, base ≤ b → LookBlk TL TD w5 b → ¬ (vs.ownBlock = some b) := fun b _ hl hb => (h5.rows.1 b hb).2.2 hl
 have hlt := (lgS.1 hk).1
 have h1 := h.lc; have h2 := h.lf
 refine ⟨?_, by simp [h1], by simp [h2], by omega, ?_, ?_⟩
 ·have := hg.own
  rw [List.flatten_append, List.flatten_cons, List.flatten_nil, List.append_nil]
  exact this
 ·intro j c' k' f' hc' hk' hf'
  by_cases hj : j < n
  ·rw [lgL (by omega)] at hc' hf'
   refine (h5.kids j c' k' f' hc' hk' hf').mod hg.mod (fun b hb hb' => ?_) hlook
   have hnd := h.nd
   rw [List.nodup_append] at hnd
   exact hnd.2.2 b (by rw [hb']; simp) b (List.mem_flatten.2 ⟨f', lmG hf', hb⟩) rfl
  ·have hjn := (lgS.1 hc').1
   simp at hjn
   obtain rfl : j = n := by omega
   rw [lgR (by omega)] at hc' hf'
   rw [h1, Nat.sub_self] at hc'
   rw [h2, Nat.sub_self] at hf'
   simp at hc' hf'
   subst hc' hf'
   rw [hk] at hk'
   cases hk'
   refine (hc.mod hg.mod (fun b hb hb' => ?_) (fun b hb hl hb' => ?_)).low hzb
   ·have := (hc.rows b hb).1
    have := hS b hb'
    omega
   ·have := hS b hb'
    omega
 ·rw [List.nodup_append]
  have hnd := h.nd
  rw [List.nodup_append] at hnd
  have hfl : (fs ++ [f]).flatten = fs.flatten ++ f := by simp
  rw [hfl]
  refine ⟨by cases v7.ownBlock <;> simp, ?_, fun b hb x hx e => ?_⟩
  ·rw [List.nodup_append]
   refine ⟨hnd.2.1, hc.nodup, fun b hb x hx e => ?_⟩
   subst e
   have := (hrows.2 b hb).2
   have := (hc.rows b hx).1
   omega
  ·subst e
   have hb' : v7.ownBlock = some b := by
    cases ho : v7.ownBlock with
    | none => rw [ho] at hb; simp at hb
    | some g => rw [ho] at hb; simp at hb; rw [hb]
   rw [List.mem_append] at hx
   rcases hg.blk b hb' with ho | ho
   ·rcases hx with hx | hx
    ·exact hnd.2.2 b (by rw [ho]; simp) b hx rfl
    ·have := (hc.rows b hx).1
     have := hS b ho
     omega
   ·rcases hx with hx | hx
    ·have := (hrows.2 b hx).2
     have := hm.size
     omega
    ·have := (hc.rows b hx).2.1
     omega
theorem KidsO.low {w : World} {vs : Value} {n base' : Nat} {css : List (List Value)} {fs : List (List Nat)} {ks : List Ly} (h : KidsO TL TD base w vs n css fs ks) (hb : base' ≤ base) : KidsO TL TD base' w vs n css fs ks :=
 ⟨uaj h.own hb, h.lc, h.lf, h.ln, fun j c k f h1 h2 h3 => (h.kids j c k f h1 h2 h3).low hb, h.nd⟩
theorem KidsO.whole {w : World} {vs : Value} {css : List (List Value)} {fs : List (List Nat)} {ks : List Ly} (h : KidsO TL TD base w vs ks.length css fs ks) (i : Idt) (lk : Lk) {vp vf vb : Value} (hl : LookR (LookG TL TD base w) w lk vp vf vb) :
 LyO TL TD base w (lyA i lk vp vf vb vs).toList (.mk i lk ks) (vs.ownBlock.toList ++ fs.flatten) :=
 .mk i lk ks vp vf vb vs css fs hl h.own h.lc h.lf h.kids h.nd
theorem Mod.allocSet (w : World) (o : Obj) (vs : List Value) : Mod (fun _ => False) w ((w.alloc o).setCells w.heap.size 0 vs) :=
 (Mod.alloc (fun _ => False) w o).trans (Blk.setMod (w.alloc o) w.heap.size 0 vs) (fun k hk e => absurd hk (by rw [e]; exact Nat.lt_irrefl _))
theorem LyR.one {G : Nat → Prop} {w : World} {vp vf vb vk : Value} {T : Ly} (h : LyR G w (lyA T.id T.look vp vf vb vk).toList T) : ∀ d ∈ (lyA T.id T.look vp vf vb vk).toList, d.oneCell' = true := by
 obtain ⟨h1, css, h2, _⟩ := h.parts
 obtain ⟨⟨p1, c1, rfl⟩, ⟨p2, c2, rfl⟩, ⟨p3, c3, rfl⟩⟩ := h1.forms
 obtain ⟨p4, c4, rfl⟩ := RowG.slice h2
 intro d hd
 simp only [lyA, List.mem_cons, List.not_mem_nil, or_false] at hd
 rcases hd with rfl | rfl | rfl | rfl | rfl | rfl | rfl | rfl | rfl | rfl | rfl | rfl | rfl | rfl | rfl | rfl | rfl | rfl | rfl | rfl | rfl | rfl | rfl | rfl | rfl | rfl | rfl | rfl | rfl | rfl | rfl <;> simp [Value.oneCell']
theorem uat {cs : Array Value} (h : ∀ d ∈ cs.toList, d.oneCell' = true) : cs.all (·.oneCell') = true := by
 rw [Array.all_eq_true]
 intro i hi
 exact h _ (by simp)
inductive TFit : Ly → Prop
 | mk (i : Idt) (lk : Lk) (ks : List Ly) (hl : LkFit lk) (hn : ks.length ≤ 1000000) (hk : ∀ k ∈ ks, TFit k) : TFit (.mk i lk ks)
theorem TFit.look {T : Ly} (h : TFit T) : LkFit T.look := by cases h; assumption
theorem TFit.len {T : Ly} (h : TFit T) : T.kids.length ≤ 1000000 := by cases h; assumption
theorem TFit.kids {T : Ly} (h : TFit T) : ∀ k ∈ T.kids, TFit k := by cases h; assumption
theorem uhn {P : Program} {o : Oper} {a : Act} {w : World} {K : Act → World → Prop} {Q : Exit → Act → World → Prop} (t e : TypeId) (x : Operand) (ho : o.op = .buildSlice t 1 #[(0, x)])
 (cs : Array Value) (hx : a.eval x = .agg cs) (ie : TypeInfo) (z : Value) (hu : P.underlying t = some (.slice e)) (hie : P.info? e = some ie) (hz : ie.zero = some z) (hs : ie.size = cs.size) (hzs : z.cells.size = cs.size) (h0 : 0 < cs.size) (hsm : cs.size ≤ 2 ^ 24)
 (h : K (a.put o.dst (.slice (some ⟨w.heap.size, 0, none⟩) 1 1)) (w.alloc (.cells cs e))) : o.wp P a w K Q := by
 refine wp_buildSlice t e 1 _ ho cs ie z hu hie hz (by omega) (by omega) ?_ h
 have := Great.fill_whole (s := cs.size) h0 [.agg cs] ((Array.range (1 * cs.size)).map (z.cells[· % z.cells.size]!)) (fun v hv => by
  simp only [List.mem_cons, List.not_mem_nil, or_false] at hv
  subst hv
  rfl) (by simp)
 rw [hs]
 simpa [hx, Value.cells] using this
theorem ua8 {P : Program} {t e : TypeId} {k bytes : Nat} {z : Value} (T : RowT P t e k bytes z) {o : Oper} {a : Act} {w : World} {K : Act → World → Prop} {Q : Exit → Act → World → Prop} (x : Operand) (ho : o.op = .buildSlice t 1 #[(0, x)])
 (cs : Array Value) (hx : a.eval x = .agg cs) (hs : cs.size = k) (hk : k ≤ 2 ^ 24) (h : K (a.put o.dst (.slice (some ⟨w.heap.size, 0, none⟩) 1 1)) (w.alloc (.cells cs e))) : o.wp P a w K Q := by
 obtain ⟨i0, hi0, hz0, hz1, hz2⟩ := info_parts T.info
 have := T.pos
 exact uhn t e x ho cs hx i0 z T.und hi0 hz0 (by rw [hz1, hs]) (by rw [T.zc, hs]) (by omega) (by omega) h
theorem LyR.kidR {G : Nat → Prop} {w : World} {p : Option Addr} {n cap : Nat} {css : List (List Value)} {ks : List Ly} (hr : RowG G w 31 (.slice p n cap) n css.flatten) (hc : css.length = ks.length) (hn : n = ks.length)
 (hk : ∀ (j : Nat) (c : List Value) (k : Ly), css[j]? = some c → ks[j]? = some k → LyR G w c k) {j : Nat} (hj : j < ks.length) :
 ∃ b o vp vf vb vk, p = some ⟨b, o, none⟩ ∧ b < w.heap.size ∧ G b ∧ w.rangeAt b (o + j * 31) (lyA ks[j].id ks[j].look vp vf vb vk).toList ∧ LyR G w (lyA ks[j].id ks[j].look vp vf vb vk).toList ks[j] := by
 have hcj : css[j]? = some css[j] := lgE (by omega)
 have h := hk j css[j] ks[j] hcj (lgE hj)
 obtain ⟨b, o, e, hb, hG, hcell⟩ := RowG.kid hr (LyR.lens hc hk) (by omega) hcj
 obtain ⟨vp, vf, vb, vk, _, e2, _⟩ := h.form
 rw [e2] at h hcell
 exact ⟨b, o, vp, vf, vb, vk, e, hb, hG, hcell, h⟩
theorem LookR.mono_look {TL TD : TypeId} {base base' : Nat} {w : World} {l : Lk} {vp vf vb : Value} (h : LookR (LookG TL TD base w) w l vp vf vb) (hb : base' ≤ base) : LookR (LookG TL TD base' w) w l vp vf vb := h.imp (fun k _ hk => ⟨Nat.le_trans hb hk.1, hk.2⟩)
end Go.Gou
namespace Go.Proofs.YtpbmfalokongfaaGreatDoor
open Go.RowKit Go.Gou
set_option maxRecDepth 100000
def CopyP (w : World) (T : Ly) (e : Ending) (w' : World) : Prop := ∃ vp vf vb vk F, e = .returned (.agg (lyA T.id T.look vp vf vb vk)) ∧ LyO 45 77 w.heap.size w' (lyA T.id T.look vp vf vb vk).toList T F ∧ Gou.Mod (fun _ => False) w w'
theorem uft : ∀ (T : Ly) (w : World) (vp vf vb vk : Value), LyR (fun _ => True) w (lyA T.id T.look vp vf vb vk).toList T → TFit T →
 Calls Tryz.prog 39 #[.agg (lyA T.id T.look vp vf vb vk)] w (CopyP w T) := by
 intro T
 induction T using Ly.ind with
 | h i lk ks ih =>
  intro w vp vf vb vk hr hft
  obtain ⟨hl, css, hrow, hcl, hk⟩ := hr.parts
  simp only [Ly.id_mk, Ly.look_mk, Ly.kids_mk] at hl hrow hcl hk ⊢
  obtain ⟨pk, ck, rfl⟩ := RowG.slice hrow
  have Hl := hd' hl
  have Hrow := hd' hrow
  have Hcl := hd' hcl
  have Hk := hd' hk
  have Hft := hd' hft
  have Ih := hd' ih
  have hlen := hft.len
  rw [Ly.kids_mk] at hlen
  have Hlen := hd' hlen
  clear hl hrow hcl hk hr hft ih hlen
  go_enter Tryz.func39, Tryz.ntmps39
  go_wp2_with fail
  rename_i K hK
  have HK := hd' hK
  clear hK
  obtain ⟨b0, b1, bm⟩ := uaw w 45 45 (lyA i lk vp vf vb (.slice pk ks.length ck)) lyL
  generalize (w.alloc (.cells (lyA i lk vp vf vb (.slice pk ks.length ck)) 45)).alloc (.cells lyL 45) = W1 at *
  have Hb0 := hd' b0
  have Hb1 := hd' b1
  have Hbm := hd' bm
  clear b0 b1 bm
  have HR0 : Hid (W1.rangeAt w.heap.size 0 [iV i.1, iV i.2]) := hd' (Blk.range (pre := []) (post := (lyA i lk vp vf vb (.slice pk ks.length ck)).toList.drop 2) Hb0.o rfl rfl)
  have HR2 : Hid (W1.rangeAt w.heap.size 2 (uai lk vp vf vb).toList) := hd' (Blk.range (pre := [iV i.1, iV i.2]) (post := [.slice pk ks.length ck]) Hb0.o rfl rfl)
  have tail : Hid (∀ (N : Nat) (w9 : World) (vp4 vf4 vb4 : Value), Blk w9 N 45 (lyA i lk vp4 vf4 vb4 nlS) → w.heap.size + 1 < N → Gou.Mod (fun _ => False) W1 w9 → LookR (LookG 45 77 w.heap.size w9) w9 lk vp4 vf4 vb4 → K (Act.mk #[.agg (lyA i lk vp vf vb (.slice pk ks.length ck)), .pointer (some ⟨w.heap.size, 0, none⟩), .pointer (some ⟨w.heap.size + 1, 0, none⟩), .pointer (some ⟨N, 0, none⟩), undef, undef, .pointer (some ⟨w.heap.size, 0, none⟩), .agg #[iV i.1, iV i.2], .pointer (some ⟨w.heap.size, 2, none⟩), .agg (uai lk vp vf vb), .agg (uai lk vp4 vf4 vb4), .agg (lyA i lk vp4 vf4 vb4 nlS), undef, undef, undef, undef, undef, undef, undef, undef, undef, undef, undef, undef, undef, undef, undef, undef] []) w9) := by
   refine hd' (fun N w9 vp4 vf4 vb4 hN hne hM hL => ?_)
   have HN := hd' hN
   have Hne := hd' hne
   have HM := hd' hM
   have HL := hd' hL
   clear hN hne hM hL
   refine HK.o _ _ ?_
   clear HK
   have HM0 := hd' (Hbm.o.trans' HM.o)
   have HP9 := hd' (Hb0.o.up HM.o)
   have HR9 := hd' (Hb1.o.up HM.o)
   have hNlt := hd' (Blk.lt HN.o)
   have hRlt := hd' (Blk.lt HR9.o)
   have c30 : w9.cell? ⟨w.heap.size, 30, none⟩ = some (.slice pk ks.length ck) := HP9.o.cell 30 rfl
   have HK0 : Hid (KidsO 45 77 w9.heap.size w9 nlS 0 [] [] ks) := hd' (KidsO.start _ _)
   go_wp2_with fail
   go_loopw [15] (fun vi wr => ∃ j : Nat, vi = iV j ∧ j ≤ ks.length ∧ ∃ vs cs fs, KidsO 45 77 w9.heap.size wr vs j cs fs ks ∧ Blk wr N 45 (lyA i lk vp4 vf4 vb4 vs) ∧ LookR (LookG 45 77 w.heap.size wr) wr lk vp4 vf4 vb4 ∧ Blk wr (w.heap.size + 1) 45 lyL ∧ Gou.Mod (fun k => k = N) w9 wr) (fun vi _ => ks.length - (intOf vi).toNat)
   case atStart => exact ⟨0, rfl, Nat.zero_le _, _, [], [], HK0.o, HN.o, HL.o, HR9.o, Gou.Mod.refl _ _⟩
   case round =>
    obtain ⟨j, rfl, hj, vs, cs, fs, hks, hbo, hlk, hbr, hm⟩ := hrel
    obtain ⟨ps, cp, rfl⟩ := Gou.ownsRow_form hks.own
    have Hks := hd' hks
    have Hbo := hd' hbo
    have Hlk := hd' hlk
    have Hbr := hd' hbr
    have Hm := hd' hm
    have HMw := hd' (HM0.o.trans hm (fun k hk e => by have := Hne.o; omega))
    clear hks hbo hlk hbr hm HK0 HN HL HR9 HP9 c30
    by_cases hil : j < ks.length
    ·obtain ⟨b, o, kp, kf, kb, kk, rfl, hbl, _, hrg, hkr⟩ := LyR.kidR Hrow.o Hcl.o rfl Hk.o hil
     have Hrg := hd' (uax hrg HMw.o (fun h => h))
     have Hkr := hd' (hkr.up HMw.o)
     have Hkj : Hid (ks[j]? = some ks[j]) := hd' (lgE hil)
     have Hik : Hid (∀ w', Gou.Mod (fun _ => False) wr w' → Calls Tryz.prog 39 #[.agg (lyA ks[j].id ks[j].look kp kf kb kk)] w' (CopyP w' ks[j])) := hd' (fun w' hw' => Ih.o ks[j] (lgM hil) w' kp kf kb kk (hkr.up (HMw.o.trans' hw')) (Hft.o.kids ks[j] (by rw [Ly.kids_mk]; exact lgM hil)))
     have Hil := hd' hil
     clear hrg hkr hbl
     generalize ks[j] = kd at *
     go_wp2_with (first | ((with_reducible refine lT 45 ?_); refine ldA Hrg.o Tryz.underlying45 uaa (h := ?_)) | ((with_reducible refine sT 45 ?_); refine stA (lyA kd.id kd.look kp kf kb kk) ((Blk.new wr 45 lyL).there 0 31 (by simp)) uaa (uat (LyR.one Hkr.o)) (h := ?_)) | fail)
     have HB5 := hd' ((Blk.new wr 45 lyL).setAll (lyA kd.id kd.look kp kf kb kk) rfl)
     have HM3 : Hid (Gou.Mod (fun _ => False) wr ((wr.alloc (.cells lyL 45)).setCells wr.heap.size 0 (lyA kd.id kd.look kp kf kb kk).toList)) := hd' (Gou.Mod.allocSet _ _ _)
     generalize (wr.alloc (.cells lyL 45)).setCells wr.heap.size 0 (lyA kd.id kd.look kp kf kb kk).toList = W3 at *
     have Hks3 := hd' (Hks.o.up HM3.o)
     have hown := hd' (fun k (hk : (Value.slice ps j cp).ownBlock = some k) => (Hks.o.rows.1 k hk))
     have o30 : W3.cell? ⟨N, 30, none⟩ = some (.slice ps j cp) := (Hbo.o.up HM3.o).cell 30 rfl
     refine wdf (S := fun w' => Gou.Mod (fun k => (Value.slice ps j cp).ownBlock = some k) W3 w') 7 (Gou.Mod.drew _ _) (h := fun hH => ?_)
     refine tk 0 (.pointer (some ⟨N, 30, none⟩)) hH (h := ?_)
     refine tkC 1 o30 (fun h => absurd (Nat.lt_of_lt_of_le hNlt.out (hown.out _ h).1) (Nat.lt_irrefl _)) hH (h := ?_)
     refine tkR 2 (.agg (lyA kd.id kd.look kp kf kb kk)) HB5.o.whole (fun h => absurd (hown.out _ h).2.1 (Nat.lt_irrefl _)) Tryz.underlying45 uaa hH (h := ?_)
     refine rd 3 (h := fun K hK => ?_)
     go_simp
     refine (Hik.o _ (HM3.o.trans' (Gou.Mod.drew _ _))).mono ?_
     rintro e w4 ⟨vp5, vf5, vb5, vk5, F5, rfl, ho5, hm5⟩
     have M := hd' (hH.trans' (hm5.imp (fun _ _ h => h.elim)))
     have HO5 := hd' ho5
     have HM5 := hd' ((Gou.Mod.drew (fun _ => False) W3).trans' hm5)
     clear hH ho5 hm5
     refine hK _ _ M.o (fun hH => ?_)
     clear hK K M
     try simp only [Act.put, uSa, uSb, uSc]
     refine rd 4 (h := fun K hK => ?_)
     refine ua8 T_ly _ rfl (lyA kd.id kd.look vp5 vf5 vb5 vk5) rfl rfl (by decide) ?_
     have M := hd' (hH.trans' (Gou.Mod.alloc (fun k => (Value.slice ps j cp).ownBlock = some k) w4 (.cells (lyA kd.id kd.look vp5 vf5 vb5 vk5) 45)))
     have HM6 := hd' (HM5.o.trans' (Gou.Mod.alloc0 w4 (.cells (lyA kd.id kd.look vp5 vf5 vb5 vk5) 45)))
     have HO6 := hd' (HO5.o.up (Gou.Mod.alloc0 w4 (.cells (lyA kd.id kd.look vp5 vf5 vb5 vk5) 45)))
     have HB6 := hd' (Blk.new w4 45 (lyA kd.id kd.look vp5 vf5 vb5 vk5))
     clear hH HO5 HM5
     refine hK _ _ M.o (fun hH => ?_)
     clear hK K M
     try simp only [Act.put, uSa, uSb, uSc]
     refine rd 5 (h := fun K hK => ?_)
     generalize w4.alloc (.cells (lyA kd.id kd.look vp5 vf5 vb5 vk5) 45) = w6 at *
     generalize w4.heap.size = N6 at *
     refine ual T_ly _ _ rfl (w9.heap.size) (.slice ps j cp) j cs.flatten (fun _ => True) (.slice (some ⟨N6, 0, none⟩) 1 1) 1 (lyA kd.id kd.look vp5 vf5 vb5 vk5).toList rfl rfl (Nat.le_trans Hm.o.size (HM3.o.trans' HM6.o).size) (Hks3.o.up HM6.o).own (RowG.of_blk HB6.o 31 1 rfl _ trivial) (LyR.one HO6.o.reads) (by have := Hil.o; have := Hlen.o; unfold maxLen; omega) (by have := Hil.o; have := Hlen.o; omega) ?_
     intro v7 w7 G7
     obtain ⟨p7, c7, rfl⟩ := Gou.ownsRow_form G7.own
     have M := hd' (hH.trans' G7.mod)
     clear hH
     refine hK _ _ M.o (fun hH => ?_)
     clear hK K M
     try simp only [Act.put, uSa, uSb, uSc]
     refine tk 6 (.pointer (some ⟨N, 30, none⟩)) hH (h := ?_)
     refine tk 7 (.bool true) hH (h := ?_)
     have MS := hd' hH
     refine wpAnyH_done (by kernel_rfl) ?_ _
     clear hH
     show Oper.wp _ _ _ _ _ _
     have HK7 := hd' (Hks3.o.grow HM6.o (Nat.le_refl _) (Nat.le_trans Hm.o.size HM3.o.size) Hkj.o HO6.o G7)
     have hnl : ∀ k, LookBlk 45 77 W3 k → ¬ ((Value.slice ps j cp).ownBlock = some k) := fun k hl hb => (Hks3.o.rows.1 k hb).2.2 hl
     have HS7 := hd' MS.o
     have hNo : Hid (¬ ((Value.slice ps j cp).ownBlock = some N)) := hd' (fun h => by have := (hown.out _ h).1; have := hNlt.out; omega)
     have hRo : Hid (¬ ((Value.slice ps j cp).ownBlock = some (w.heap.size + 1))) := hd' (fun h => by have := (hown.out _ h).1; have := hRlt.out; omega)
     have HB7 := hd' ((Hbo.o.up HM3.o).mod HS7.o hNo.out)
     have HR7 := hd' ((Hbr.o.up HM3.o).mod HS7.o hRo.out)
     have HL7 := hd' ((Hlk.o.look_mod HM3.o (fun _ _ _ h => h)).look_mod HS7.o (fun k _ hl => hnl k hl))
     have HM7 := hd' ((Hm.o.trans' (HM3.o.imp (S' := fun k => k = N) (fun _ _ h => h.elim))).trans HS7.o (fun k hk h => by have := (hown.out _ h).1; omega))
     clear hnl MS HS7 hNo hRo o30 hown Hks3 HO6 HB6 HB5 HM6 G7 Hbo Hbr Hlk Hks HM3
     have o7 : w7.cell? ⟨N, 30, none⟩ = some (.slice ps j cp) := HB7.o.cell 30 rfl
     have f7 := HB7.o.frozen 30
     go_simp
     have hwi : wrap64 ((j : Int) + 1) = ((j + 1 : Nat) : Int) := by have := Hil.o; have := Hlen.o; unfold wrap64; omega
     have HS8 := hd' (Gou.Mod.set1 w7 N 30 (.slice p7 (j + 1) c7))
     have HB8 : Hid (Blk (w7.setCell ⟨N, 30, none⟩ (.slice p7 (j + 1) c7)) N 45 (lyA i lk vp4 vf4 vb4 (.slice p7 (j + 1) c7))) := hd' (HB7.o.set 30 _)
     have HR8 := hd' (HR7.o.mod HS8.o (by have := Hne.o; omega))
     have HL8 := hd' (HL7.o.look_mod HS8.o (fun k _ hl e => by obtain ⟨cur, T', h1, h2, _⟩ := hl; rw [e] at h1; have h3 := HB7.o; unfold Blk at h3; rw [h3] at h1; simp only [Option.some.injEq, Obj.cells.injEq] at h1; exact h2 h1.2.1.symm))
     have HK8 := hd' (HK7.o.mod HS8.o (fun k hk _ e => by have := hNlt.out; omega))
     have HM8 := hd' (HM7.o.trans' HS8.o)
     clear HB7 HR7 HL7 HK7 HM7 HS8 o7 f7
     go_wp2_with fail
     go_roundw
     case rel => exact ⟨j + 1, by rw [← hwi], by have := Hil.o; omega, _, _, _, HK8.o, HB8.o, HL8.o, HR8.o, HM8.o⟩
     case measure => rw [hwi]; have := Hil.o; simp only [intOf]; omega
    ·have hil' : j = ks.length := by omega
     subst hil'
     clear hj
     have HW := hd' ((Hks.o.low (Nat.le_trans HM0.o.size (Nat.le_refl _))).whole i lk Hlk.o)
     have HBN := hd' Hbo.o.whole
     have HTh := hd' (Hbr.o.there 0 31 (by simp))
     have Hone := hd' (uat (LyR.one (T := .mk i lk ks) HW.o.reads))
     go_wp2_with (first | ((with_reducible refine lT 45 ?_); refine ldA HBN.o Tryz.underlying45 uaa (h := ?_)) | ((with_reducible refine sT 45 ?_); refine stA (lyA i lk vp4 vf4 vb4 (.slice ps ks.length cp)) HTh.o uaa Hone.o (h := ?_)) | fail)
     have HS := hd' (Blk.setMod wr (w.heap.size + 1) 0 (lyA i lk vp4 vf4 vb4 (.slice ps ks.length cp)).toList)
     have HR := Hbr.o.setAll (lyA i lk vp4 vf4 vb4 (.slice ps ks.length cp)) rfl
     refine bpr (results_cell_row rfl _ _ (w.heap.size + 1) 45 (lyA i lk vp4 vf4 vb4 (.slice ps ks.length cp)) (0, 0) _ rfl HR Tryz.underlying45 rfl uaa) rfl ?_
     refine ⟨vp4, vf4, vb4, _, _, rfl, HW.o.mod HS.o (fun k hk e => ?_) (fun k hk hl e => ?_), HMw.o.trans HS.o (fun k hk e => by omega)⟩
     ·have h1 := Hks.o.rows
      have h2 := hRlt.out
      have h3 : w9.heap.size ≤ k := by
       rw [List.mem_append] at hk
       rcases hk with hk | hk
       ·cases ho : (Value.slice ps ks.length cp).ownBlock with
        | none => rw [ho] at hk; simp at hk
        | some g => rw [ho] at hk; simp at hk; rw [hk]; exact (h1.1 g ho).1
       ·exact (h1.2 k hk).1
      omega
     ·obtain ⟨cur, T', g1, g2, _⟩ := hl
      rw [e] at g1
      have h3 := Hbr.o
      unfold Blk at h3
      rw [h3] at g1
      simp only [Option.some.injEq, Obj.cells.injEq] at g1
      exact g2 g1.2.1.symm
  refine wdf (S := fun w' => Gou.Mod (fun _ => False) W1 w') 7 (Gou.Mod.drew _ _) (h := fun hH => ?_)
  refine tk 0 (.pointer (some ⟨w.heap.size, 0, none⟩)) hH (h := ?_)
  refine tkR 1 (.agg #[iV i.1, iV i.2]) HR0.o (fun h => h) Tryz.underlying30 uaf hH (h := ?_)
  refine tk 2 (.pointer (some ⟨w.heap.size, 2, none⟩)) hH (h := ?_)
  refine tkR 3 (.agg (uai lk vp vf vb)) HR2.o (fun h => h) Tryz.underlying42 uad hH (h := ?_)
  refine rd2 4 6 (h := fun K1 hK => ?_) (g := fun K1 hK => ?_)
  ·skip
   go_simp
   refine (uiz _ vp vf vb lk (LookR.mod Hl.o (Hbm.o.trans' hH) (fun _ _ _ h => h)) Hft.o.look).mono ?_
   rintro e w4 ⟨vp4, vf4, vb4, rfl, hl4, hm4⟩
   have M := hd' (hH.trans' hm4)
   have HL4 := hd' hl4
   have HM4 := hd' hm4
   have HH4 := hd' hH
   clear hH hl4 hm4
   refine hK _ _ M.o (fun hH => ?_)
   clear hK K1 M
   try simp only [Act.put, uSa, uSb, uSc]
   refine tkK 5 (.agg (lyA i lk vp4 vf4 vb4 nlS)) hH (h := ?_)
   refine wpAnyH_ready (rs := [6]) (by kernel_rfl) (by simp) (AllReadyH.cons (o := ({ dst := some 3, op := Op.alloc 45, type := 0, pos := "scene.go:39", after := #[], guard := none } : Oper)) rfl (fun K1 hK => ?_) AllReadyH.nil)
   go_simp
   have M := hd' (hH.trans' (Gou.Mod.alloc0 (w4) (.cells lyL 45)))
   have HN6 := hd' (Blk.new (w4) 45 lyL)
   have HA6 := hd' (Gou.Mod.alloc0 (w4) (.cells lyL 45))
   have HH6 := hd' hH
   clear hH
   refine hK _ _ M.o (fun hH => ?_)
   clear hK K1 M
   try simp only [Act.put, uSa, uSb, uSc]
   refine tk 7 (.bool true) hH (h := ?_)
   have MS := hd' hH
   refine wpAnyH_done (by kernel_rfl) ?_ _
   clear hH
   show Oper.wp _ _ _ _ _ _
   refine wp_store_mid 45 _ _ rfl (w4.heap.size) 0 (lyA i lk vp4 vf4 vb4 nlS) rfl rfl (HN6.o.there 0 31 (by simp)) uaa (uat (LyR.one (T := .mk i lk []) (vk := .slice none 0 0) (LyR.mk i lk [] vp4 vf4 vb4 nlS [] HL4.o (RowG.nil _ _ _) rfl (fun j c k h => by simp at h)))) ?_
   have HS := hd' (Blk.setMod (w4.alloc (.cells lyL 45)) w4.heap.size 0 (lyA i lk vp4 vf4 vb4 nlS).toList)
   have hlt := Nat.lt_of_lt_of_le (Blk.lt Hb1.o) (HH6.o.size)
   exact tail.out w4.heap.size _ vp4 vf4 vb4 (HN6.o.setAll _ rfl) (by omega) ((HH6.o.trans' HA6.o).trans HS.o (fun k hk e => by have := HH6.o.size; omega)) (LookR.mono_look (HL4.o.look_mod (HA6.o.imp (S' := fun k => k = w4.heap.size) (fun _ _ h => h.elim) |>.trans' HS.o) (fun k _ hl e => by obtain ⟨cur, T', h1, _⟩ := hl; have := Blk.lt h1; omega)) Hbm.o.size)
  ·skip
   go_simp
   have M := hd' (hH.trans' (Gou.Mod.alloc0 (W1.drew) (.cells lyL 45)))
   have HN6 := hd' (Blk.new (W1.drew) 45 lyL)
   have HA6 := hd' (Gou.Mod.alloc0 (W1.drew) (.cells lyL 45))
   have HH6 := hd' hH
   clear hH
   refine hK _ _ M.o (fun hH => ?_)
   clear hK K1 M
   try simp only [Act.put, uSa, uSb, uSc]
   refine wpAnyH_ready (rs := [4]) (by kernel_rfl) (by simp) (AllReadyH.cons (o := ({ dst := some 10, op := Op.call { callee := Callee.value (Operand.func 56), args := #[Operand.tmp 9], argTypes := #[42] }, type := 42, pos := "scene.go:39", after := #[{ on := 3, ground := Ground.data }], guard := none } : Oper)) rfl (fun K1 hK => ?_) AllReadyH.nil)
   go_simp
   refine (uiz _ vp vf vb lk (LookR.mod Hl.o (Hbm.o.trans' hH) (fun _ _ _ h => h)) Hft.o.look).mono ?_
   rintro e w4 ⟨vp4, vf4, vb4, rfl, hl4, hm4⟩
   have M := hd' (hH.trans' hm4)
   have HL4 := hd' hl4
   have HM4 := hd' hm4
   have HH4 := hd' hH
   clear hH hl4 hm4
   refine hK _ _ M.o (fun hH => ?_)
   clear hK K1 M
   try simp only [Act.put, uSa, uSb, uSc]
   refine tkK 5 (.agg (lyA i lk vp4 vf4 vb4 nlS)) hH (h := ?_)
   refine tk 7 (.bool true) hH (h := ?_)
   have MS := hd' hH
   refine wpAnyH_done (by kernel_rfl) ?_ _
   clear hH
   show Oper.wp _ _ _ _ _ _
   refine wp_store_mid 45 _ _ rfl (W1.drew.heap.size) 0 (lyA i lk vp4 vf4 vb4 nlS) rfl rfl ((HN6.o.up HM4.o).there 0 31 (by simp)) uaa (uat (LyR.one (T := .mk i lk []) (vk := .slice none 0 0) (LyR.mk i lk [] vp4 vf4 vb4 nlS [] HL4.o (RowG.nil _ _ _) rfl (fun j c k h => by simp at h)))) ?_
   have HS := hd' (Blk.setMod w4 W1.drew.heap.size 0 (lyA i lk vp4 vf4 vb4 nlS).toList)
   have hlt : w.heap.size + 1 < W1.drew.heap.size := Blk.lt Hb1.o
   exact tail.out W1.drew.heap.size _ vp4 vf4 vb4 ((HN6.o.up HM4.o).setAll _ rfl) (by omega) (((HH6.o.trans' HA6.o).trans' HM4.o).trans HS.o (fun k hk e => absurd hk (by rw [e]; exact Nat.lt_irrefl _))) (LookR.mono_look (HL4.o.look_mod HS.o (fun k hb _ e => absurd (Nat.lt_of_lt_of_le (Blk.lt HN6.o) (e ▸ hb)) (Nat.lt_irrefl _))) (Nat.le_trans Hbm.o.size HH4.o.size))
end Go.Proofs.YtpbmfalokongfaaGreatDoor
namespace Go.Gou
open Go.RowKit
structure ResAt (P : Program) (tmps : Array Value) (w : World) (p : Tmp) (T : TypeId) (cs : Array Value) : Prop where
 run : ∃ a, tmps.getD p undef = .pointer (some a) ∧ (loadVar T a).run P w = .ok (.agg cs) w
theorem ResAt.of {P : Program} {tmps : Array Value} {w : World} {p : Tmp} {T t : TypeId} {cs : Array Value} {g : Nat} {d : TypeDesc} (hp : tmps.getD p undef = .pointer (some ⟨g, 0, none⟩)) (hg : Blk w g t cs)
 (hu : P.underlying T = some d) (hd : (match d with | .struct _ | .array _ _ => true | _ => false) = true) (hi : (P.info? T).map (·.size) = some cs.size) : ResAt P tmps w p T cs :=
 ⟨_, hp, run_loadVar_row w g t T cs (0, 0) d hg hu hd hi⟩
theorem ubg {P : Program} {fn : Func} {p q u : Tmp} {T U : TypeId} (h : fn.results = #[.cell p T, .cell q U, .tmp u]) {tmps : Array Value} {w : World} {cs ds : Array Value} (h1 : ResAt P tmps w p T cs) (h2 : ResAt P tmps w q U ds) :
 (results fn tmps).run P w = .ok (.tuple #[.agg cs, .agg ds, tmps.getD u undef]) w := by
 obtain ⟨a, e1, e2⟩ := h1.run
 obtain ⟨b, e3, e4⟩ := h2.run
 have e1' : tmps[p]?.getD undef = .pointer (some a) := by simpa using e1
 have e3' : tmps[q]?.getD undef = .pointer (some b) := by simpa using e3
 simp [results, h, e1', e2, e3', e4, asAddr, Sem.run_bind]
theorem uam {P : Program} {fn : Func} {p u : Tmp} {T : TypeId} (h : fn.results = #[.cell p T, .tmp u]) {tmps : Array Value} {w : World} {cs : Array Value} (h1 : ResAt P tmps w p T cs) :
 (results fn tmps).run P w = .ok (.tuple #[.agg cs, tmps.getD u undef]) w := by
 obtain ⟨a, e1, e2⟩ := h1.run
 have e1' : tmps[p]?.getD undef = .pointer (some a) := by simpa using e1
 simp [results, h, e1', e2, asAddr, Sem.run_bind]
structure ArO (TI TB : TypeId) (base : Nat) (w : World) (vg vl : Value) (a : Ar) : Prop where
 g : w.ownsRow base TI 1 vg a.gens.length (ivs a.gens)
 l : w.ownsRow base TB 1 vl a.live.length (bvs a.live)
theorem ArO.forms {TI TB : TypeId} {base : Nat} {w : World} {vg vl : Value} {a : Ar} (h : ArO TI TB base w vg vl a) : (∃ p c, vg = .slice p a.gens.length c) ∧ ∃ p c, vl = .slice p a.live.length c := ⟨Gou.ownsRow_form h.g, Gou.ownsRow_form h.l⟩
theorem ArO.reads {TI TB : TypeId} {base : Nat} {w : World} {vg vl : Value} {a : Ar} (h : ArO TI TB base w vg vl a) : ArR w vg vl a := ⟨RowG.own_of h.g (fun _ _ _ => trivial), RowG.own_of h.l (fun _ _ _ => trivial)⟩
theorem ArO.up {TI TB : TypeId} {base : Nat} {w w' : World} {vg vl : Value} {a : Ar} (h : ArO TI TB base w vg vl a) (hm : Mod (fun _ => False) w w') : ArO TI TB base w' vg vl a := ⟨ua4 h.g hm, ua4 h.l hm⟩
theorem ArO.mod {TI TB : TypeId} {base : Nat} {S : Nat → Prop} {w w' : World} {vg vl : Value} {a : Ar} (h : ArO TI TB base w vg vl a) (hm : Mod S w w') (h1 : ∀ k, vg.ownBlock = some k → ¬ S k) (h2 : ∀ k, vl.ownBlock = some k → ¬ S k) : ArO TI TB base w' vg vl a := ⟨uac h.g hm h1, uac h.l hm h2⟩
theorem ArO.low {TI TB : TypeId} {base base' : Nat} {w : World} {vg vl : Value} {a : Ar} (h : ArO TI TB base w vg vl a) (hb : base' ≤ base) : ArO TI TB base' w vg vl a := ⟨uaj h.g hb, uaj h.l hb⟩
theorem ArR.forms {w : World} {vg vl : Value} {a : Ar} (h : ArR w vg vl a) : (∃ p c, vg = .slice p a.gens.length c) ∧ ∃ p c, vl = .slice p a.live.length c := ⟨RowG.slice h.g, RowG.slice h.l⟩
theorem ud2 {w : World} {base : Nat} {T : TypeId} {g n c i : Nat} {cs : List Value} (h : w.ownsRow base T 1 (.slice (some ⟨g, 0, none⟩) n c) n cs) (hi : i < n) : (w.cell? ⟨g, i, none⟩).isSome = true ∧ w.frozen? ⟨g, i, none⟩ = false := by
 obtain ⟨_, _, cur, cap, h1, h2, h3, h4, _⟩ := uar h rfl
 simp only [Value.slice.injEq] at h2
 obtain ⟨-, -, rfl⟩ := h2
 have := Blk.there h1 i 1 (by omega) 0 (by omega)
 simpa using this
theorem idx_live (l : List Bool) : Lib.idxBy (fun x y => x == y) l false = (match l.findIdx? (fun q => !q) with | some i => ((i : Nat) : Int) | none => -1) := by
 have key : ∀ (l : List Bool) (s : Nat), Lib.idxByFrom (fun x y => x == y) false l s = (match l.findIdx? (fun q => !q) with | some i => ((s + i : Nat) : Int) | none => -1) := by
  intro l
  induction l with
  | nil => intro s; rfl
  | cons a l ih =>
   intro s
   rw [Lib.idxByFrom, List.findIdx?_cons]
   cases a with
   | false => simp
   | true =>
    simp only [Bool.not_true, Bool.false_eq_true, if_false]
    rw [if_neg (by decide), ih]
    cases l.findIdx? (fun q => !q) with
    | none => rfl
    | some i => simp only [Option.map_some]; congr 1; omega
 have := key l 0
 unfold Lib.idxBy
 rw [this]
 cases l.findIdx? (fun q => !q) <;> simp
theorem uep {w : World} {base base' : Nat} {e T : TypeId} {k k' n n' : Nat} {v v' : Value} {xs xs' : List Value} (h : w.ownsRow base e k v n xs) (h' : w.ownsRow base' T k' v' n' xs') (hT : e ≠ T) (b : Nat) (hb : v.ownBlock = some b) (hb' : v'.ownBlock = some b) : False := by
 obtain ⟨_, _, cur, cap, h1, _⟩ := uar h hb
 obtain ⟨_, _, cur', cap', h2, _⟩ := uar h' hb'
 exact ui6 h1 h2 hT rfl
theorem ub9 {w : World} {base : Nat} {T : TypeId} {p : Option Addr} {n c : Nat} {cs : List Value} (h : w.ownsRow base T 1 (.slice p n c) n cs) (h0 : 0 < n) : ∃ g, p = some ⟨g, 0, none⟩ ∧ base ≤ g ∧ g < w.heap.size := by
 rcases h.2 with ⟨hv, h1⟩ | ⟨g, cap, cur, hv, hb, hh, _⟩
 ·omega
 ·simp only [Value.slice.injEq] at hv
  exact ⟨g, hv.1, hb, Blk.lt hh⟩
theorem ueq {w : World} {base : Nat} {T : TypeId} {g n c i : Nat} {cs : List Value} (h : w.ownsRow base T 1 (.slice (some ⟨g, 0, none⟩) n c) n cs) {v : Value} (hi : cs[i]? = some v) : w.cell? ⟨g, i, none⟩ = some v := by
 obtain ⟨_, _, cur, cap, h1, h2, h3, h4, h5⟩ := uar h rfl
 rw [cell_of_row w g i cur T _ h1, ← agT]
 have hl := h.1
 have hlt := (lgS.1 hi).1
 rw [← h5, List.getElem?_take, if_pos (by omega)] at hi
 exact hi
theorem ucs {w : World} {base : Nat} {T : TypeId} {g n c i : Nat} {l : List Bool} (h : w.ownsRow base T 1 (.slice (some ⟨g, 0, none⟩) n c) n (bvs l)) (hi : i < l.length) : w.cell? ⟨g, i, none⟩ = some (.bool (l.getD i false)) := by
 refine ueq h ?_
 rw [bvs, List.getElem?_map, lgE hi, List.getD_eq_getElem?_getD, lgE hi]
 rfl
theorem uce {w : World} {base : Nat} {T : TypeId} {g n c i : Nat} {l : List Int} (h : w.ownsRow base T 1 (.slice (some ⟨g, 0, none⟩) n c) n (ivs l)) (hi : i < l.length) : w.cell? ⟨g, i, none⟩ = some (iV (l.getD i 0)) := by
 refine ueq h ?_
 rw [ivs, List.getElem?_map, lgE hi, List.getD_eq_getElem?_getD, lgE hi]
 rfl
theorem getElem!_bvs (l : List Bool) (j : Nat) (h : j < l.length) : (bvs l)[j]? = some (.bool l[j]!) := by
 rw [bvs, List.getElem?_map, lgE h]
 simp [h]
end Go.Gou
namespace Go.Proofs.YtpbmfalokongfaaGreatDoor
open Go.RowKit Go.Gou
set_option maxRecDepth 100000
abbrev ArL (base : Nat) (w : World) (vg vl : Value) (a : Ar) : Prop := ArO 3 4 base w vg vl a
structure TkR (w : World) (B N5 : Nat) (W : World) (x y g : Value) (n : Nat) (cs : List Value) (l : Value) (m : Nat) (ds : List Value) : Prop where
 X : Blk W N5 28 #[x, y]
 G : W.ownsRow B 3 1 g n cs
 V : W.ownsRow B 4 1 l m ds
 S1 : Blk W (w.heap.size + 1) 28 #[.slice none 0 0, .slice none 0 0]
 S2 : Blk W (w.heap.size + 1 + 1) 30 iiZ
 M : Gou.Mod (fun _ => False) w W
 b : w.heap.size + 1 + 1 < B
 c : B ≤ N5
def TkS (N5 : Nat) (p q : Value) (W3 w' : World) : Prop := Gou.Mod (fun k => k = N5 ∨ p.ownBlock = some k ∨ q.ownBlock = some k) W3 w' ∧ w'.cell? ⟨N5, 1, none⟩ = some q
section
variable {w : World} {B N5 : Nat} {W W' W3 : World} {x y g l g' l' p q : Value} {n m n' m' : Nat} {cs ds cs' ds' : List Value}
theorem TkR.quiet (h : TkR w B N5 W x y g n cs l m ds) (hm : Gou.Mod (fun _ => False) W W') : TkR w B N5 W' x y g n cs l m ds :=
 ⟨h.X.up hm, ua4 h.G hm, ua4 h.V hm, h.S1.up hm, h.S2.up hm, h.M.trans' hm, h.b, h.c⟩
theorem TkR.appG (h : TkR w B N5 W x y g n cs l m ds) (hm : Gou.Mod (fun k => g.ownBlock = some k) W W') (ho : W'.ownsRow B 3 1 g' n' cs') : TkR w B N5 W' x y g' n' cs' l m ds :=
 ⟨h.X.mod hm (uan h.G h.X (by decide)), ho, uac h.V hm (fun k hk hs => uep h.V h.G (by decide) k hk hs), h.S1.mod hm (uan h.G h.S1 (by decide)), h.S2.mod hm (uan h.G h.S2 (by decide)), h.M.trans hm (fun k hk e => by have := uba h.G k e; have := h.b; omega), h.b, h.c⟩
theorem TkR.appV (h : TkR w B N5 W x y g n cs l m ds) (hm : Gou.Mod (fun k => l.ownBlock = some k) W W') (ho : W'.ownsRow B 4 1 l' m' ds') : TkR w B N5 W' x y g n cs l' m' ds' :=
 ⟨h.X.mod hm (uan h.V h.X (by decide)), uac h.G hm (fun k hk hs => uep h.G h.V (by decide) k hk hs), ho, h.S1.mod hm (uan h.V h.S1 (by decide)), h.S2.mod hm (uan h.V h.S2 (by decide)), h.M.trans hm (fun k hk e => by have := uba h.V k e; have := h.b; omega), h.b, h.c⟩
theorem TkR.set0 (h : TkR w B N5 W x y g n cs l m ds) (v : Value) : TkR w B N5 (W.setCell ⟨N5, 0, none⟩ v) v y g n cs l m ds :=
 have hq := Gou.Mod.set1 W N5 0 v
 ⟨h.X.set 0 v, uac h.G hq (fun k hk e => uan h.G h.X (by decide) (by rw [hk, e])), uac h.V hq (fun k hk e => uan h.V h.X (by decide) (by rw [hk, e])), h.S1.mod hq (by have := h.b; have := h.c; omega), h.S2.mod hq (by have := h.b; have := h.c; omega), h.M.trans hq (fun k hk e => by have := h.b; have := h.c; omega), h.b, h.c⟩
theorem TkR.set1 (h : TkR w B N5 W x y g n cs l m ds) (v : Value) : TkR w B N5 (W.setCell ⟨N5, 1, none⟩ v) x v g n cs l m ds :=
 have hq := Gou.Mod.set1 W N5 1 v
 ⟨h.X.set 1 v, uac h.G hq (fun k hk e => uan h.G h.X (by decide) (by rw [hk, e])), uac h.V hq (fun k hk e => uan h.V h.X (by decide) (by rw [hk, e])), h.S1.mod hq (by have := h.b; have := h.c; omega), h.S2.mod hq (by have := h.b; have := h.c; omega), h.M.trans hq (fun k hk e => by have := h.b; have := h.c; omega), h.b, h.c⟩
theorem TkS.quiet (h : TkS N5 p q W3 W) (hm : Gou.Mod (fun _ => False) W W') : TkS N5 p q W3 W' :=
 ⟨h.1.trans' (hm.imp (fun _ _ h => h.elim)), (hm.cell (p := ⟨N5, 1, none⟩) (wbc _ _ h.2) (fun h => h)).trans h.2⟩
theorem TkS.appG (t : TkR w B N5 W x y p n cs l m ds) (h : TkS N5 p q W3 W) (hm : Gou.Mod (fun k => p.ownBlock = some k) W W') : TkS N5 p q W3 W' :=
 ⟨h.1.trans' (hm.imp (fun _ _ h => .inr (.inl h))), (hm.cell (p := ⟨N5, 1, none⟩) (wbc _ _ h.2) (uan t.G t.X (by decide))).trans h.2⟩
theorem TkS.appV (t : TkR w B N5 W x y g n cs q m ds) (h : TkS N5 p q W3 W) (hm : Gou.Mod (fun k => q.ownBlock = some k) W W') : TkS N5 p q W3 W' :=
 ⟨h.1.trans' (hm.imp (fun _ _ h => .inr (.inr h))), (hm.cell (p := ⟨N5, 1, none⟩) (wbc _ _ h.2) (uan t.V t.X (by decide))).trans h.2⟩
theorem TkS.set0 (t : TkR w B N5 W x q g n cs l m ds) (h : TkS N5 p q W3 W) (v : Value) : TkS N5 p q W3 (W.setCell ⟨N5, 0, none⟩ v) :=
 ⟨h.1.trans' ((Gou.Mod.set1 W N5 0 v).imp (fun k _ h => .inl h)), Blk.cell (t.X.set 0 v) 1 rfl⟩
end
def ArP (w : World) (a : Ar) (e : Ending) (w' : World) : Prop := ∃ vg vl, e = .returned (.agg #[vg, vl]) ∧ ArL w.heap.size w' vg vl a ∧ Gou.Mod (fun _ => False) w w'
theorem arNew_any (w : World) : Calls Tryz.prog 25 #[] w (ArP w Ar.new) := by
 go_enter Tryz.func25, Tryz.ntmps25
 go_wp2_with fail
 obtain ⟨b0, b1, b2, bm⟩ := ubd w 28 3 4 #[.slice (some ⟨w.heap.size + 1, 0, none⟩) 1 1, .slice (some ⟨w.heap.size + 1 + 1, 0, none⟩) 1 1] #[iV 0] #[.bool true]
 refine bpr (results_cell_row rfl _ _ (w.heap.size) 28 #[.slice (some ⟨w.heap.size + 1, 0, none⟩) 1 1, .slice (some ⟨w.heap.size + 1 + 1, 0, none⟩) 1 1] (0, 0) _ rfl b0 Tryz.underlying28 rfl uae) rfl ?_
 exact ⟨_, _, rfl, ⟨⟨rfl, .inr ⟨_, 1, _, rfl, by omega, b1, Nat.le_refl _, by decide, rfl, rfl⟩⟩, ⟨rfl, .inr ⟨_, 1, _, rfl, by omega, b2, Nat.le_refl _, by decide, rfl, rfl⟩⟩⟩, bm⟩
theorem ugb (w : World) (p : Option Addr) (c : Nat) (l : List Bool) (h : RowG (fun _ => True) w 1 (.slice p l.length c) l.length (bvs l)) (h0 : 0 < l.length) (hn : l.length ≤ 1000000) :
 Calls Tryz.prog 77 #[.slice p l.length c, .bool false] w fun e w' => e = .returned (iV (match l.findIdx? (fun q => !q) with | some i => ((i : Nat) : Int) | none => -1)) ∧ w' = w := by
 obtain ⟨b, o, rfl, hb, hc⟩ := RowG.cell1 h h0
 have h1 := AnyE.slices_Index indexBool Value.bool (fun x y => x == y) (EqlAt.bool _ Tryz.underlying4) b o l.length c l false w (Nat.le_refl _) (by omega) (fun j hj => by
  have := hc j (by simpa using hj)
  rw [this]
  have h2 := getElem!_bvs l j hj
  rw [lgE (by simpa using hj)] at h2
  exact h2)
 rw [List.take_length, idx_live] at h1
 exact h1
theorem udx (w : World) (vg vl : Value) (a : Ar) (h : ArR w vg vl a) (h1 : a.gens.length ≤ 1000000) (h2 : a.live.length ≤ 1000000) :
 Calls Tryz.prog 76 #[.agg #[vg, vl]] w (ArP w a) := by
 obtain ⟨⟨pg, cg, rfl⟩, ⟨pl, cl, rfl⟩⟩ := h.forms
 have Hh := hd' h
 have H1 := hd' h1
 have H2 := hd' h2
 obtain ⟨b0, b1, bm⟩ := uaw w 28 28 #[.slice pg a.gens.length cg, .slice pl a.live.length cl] #[.slice none 0 0, .slice none 0 0]
 have Hb0 := hd' b0
 have Hb1 := hd' b1
 have Hbm := hd' bm
 go_enter Tryz.func76, Tryz.ntmps76
 go_wp2_with fail
 generalize (w.alloc (.cells #[.slice pg a.gens.length cg, .slice pl a.live.length cl] 28)).alloc (.cells #[.slice none 0 0, .slice none 0 0] 28) = W1 at *
 have c0 : W1.cell? ⟨w.heap.size, 0, none⟩ = some (.slice pg a.gens.length cg) := Hb0.o.cell 0 rfl
 have c1 : W1.cell? ⟨w.heap.size, 1, none⟩ = some (.slice pl a.live.length cl) := Hb0.o.cell 1 rfl
 have Ha := hd' (Hh.o.up Hbm.o)
 refine wdf (S := fun w' => Gou.Mod (fun _ => False) W1 w') 7 (Gou.Mod.drew _ _) (h := fun hH => ?_)
 refine tk 0 (.pointer (some ⟨w.heap.size, 0, none⟩)) hH (h := ?_)
 refine tkC 1 c0 (fun h => h) hH (h := ?_)
 refine tk 3 (.pointer (some ⟨w.heap.size, 1, none⟩)) hH (h := ?_)
 refine tkC 4 c1 (fun h => h) hH (h := ?_)
 refine rd 2 (h := fun K hK => ?_)
 go_simp
 refine (ub5 _ pg a.gens.length cg (ivs a.gens) (fun _ => True) (Ha.o.g.under hH) (uf8 _) (by have := H1.o; omega)).mono ?_
 rintro e w4 ⟨p4, c4, rfl, ho4, hm4⟩
 have M := hd' (hH.trans' hm4)
 have Ho4 := hd' ho4
 refine hK _ _ M.o (fun hH => ?_)
 refine rd 5 (h := fun K hK => ?_)
 go_simp
 refine (udf _ pl a.live.length cl (bvs a.live) (fun _ => True) (Ha.o.l.under hH) (bvs_one _) (by have := H2.o; omega)).mono ?_
 rintro e w5 ⟨p5, c5, rfl, ho5, hm5⟩
 have M := hd' (hH.trans' hm5)
 have Ho5 := hd' ho5
 have Ho4b := hd' (ua4 Ho4.o hm5)
 have Hz := hd' hH.size
 refine hK _ _ M.o (fun hH => ?_)
 refine tk 6 (.agg #[.slice p4 a.gens.length c4, .slice p5 a.live.length c5]) hH (h := ?_)
 refine tk 7 (.bool true) hH (h := ?_)
 have MS := hd' hH
 refine wpAnyH_done (by kernel_rfl) ?_ _
 show Oper.wp _ _ _ _ _ _
 refine wp_store_mid 28 _ _ rfl (w.heap.size + 1) 0 #[.slice p4 a.gens.length c4, .slice p5 a.live.length c5] rfl rfl ((Hb1.o.up MS.o).there 0 2 (by simp)) uae (by simp [Value.oneCell']) ?_
 have HS := hd' (Blk.setMod w5 (w.heap.size + 1) 0 [.slice p4 a.gens.length c4, .slice p5 a.live.length c5])
 have HB := hd' ((Hb1.o.up MS.o).setAll #[.slice p4 a.gens.length c4, .slice p5 a.live.length c5] rfl)
 have HA : Hid (ArL w.heap.size (w5.setCells (w.heap.size + 1) 0 [.slice p4 a.gens.length c4, .slice p5 a.live.length c5]) (.slice p4 a.gens.length c4) (.slice p5 a.live.length c5) a) := hd' ⟨uaj (uac Ho4b.o HS.o (fun k hk e => uan Ho4b.o (Hb1.o.up MS.o) (by decide) (by rw [hk, e]))) Hbm.o.size, uaj (uac Ho5.o HS.o (fun k hk e => uan Ho5.o (Hb1.o.up MS.o) (by decide) (by rw [hk, e]))) (Nat.le_trans Hbm.o.size Hz.o)⟩
 have HM := hd' ((Hbm.o.trans' MS.o).trans HS.o (fun k hk e => by omega))
 try simp only [Act.put]
 go_wp2_with fail
 refine bpr (results_cell_row rfl _ _ (w.heap.size + 1) 28 #[.slice p4 a.gens.length c4, .slice p5 a.live.length c5] (0, 0) _ rfl HB.o Tryz.underlying28 rfl uae) rfl ?_
 exact ⟨_, _, rfl, HA.o, HM.o⟩
def TakeP (w : World) (a : Ar) (e : Ending) (w' : World) : Prop := Gou.Mod (fun _ => False) w w' ∧ ∃ vg vl, (∀ b y, a.take = some (b, y) → e = .returned (.tuple #[.agg #[vg, vl], .agg #[iV y.1, iV y.2], .bool true]) ∧ ArL w.heap.size w' vg vl b) ∧
 (a.take = none → e = .returned (.tuple #[.agg #[vg, vl], .agg iiZ, .bool false]) ∧ (∃ p n c, vg = .slice p n c) ∧ ∃ p n c, vl = .slice p n c)
theorem uj1 (w : World) (vg vl : Value) (a : Ar) (h : ArR w vg vl a) (hlen : a.gens.length = a.live.length) (h0 : 0 < a.live.length) (hn : a.live.length ≤ 1024) :
 Calls Tryz.prog 59 #[.agg #[vg, vl]] w (TakeP w a) := by
 obtain ⟨⟨pg, cg, rfl⟩, ⟨pl, cl, rfl⟩⟩ := h.forms
 have Hh := hd' h
 have Hlen := hd' hlen
 have H0 := hd' h0
 have Hn := hd' hn
 clear h hlen h0 hn
 obtain ⟨b0, b1, b2, bm⟩ := ubd w 28 28 30 #[.slice pg a.gens.length cg, .slice pl a.live.length cl] #[.slice none 0 0, .slice none 0 0] iiZ
 go_enter Tryz.func59, Tryz.ntmps59
 have Hb0 := hd' b0
 have Hb1 := hd' b1
 have Hb2 := hd' b2
 have Hbm := hd' bm
 have c0 := b0.cell 0 rfl
 have c1 := b0.cell 1 rfl
 clear b0 b1 b2 bm
 go_wp2_with fail
 generalize ((w.alloc (.cells #[.slice pg a.gens.length cg, .slice pl a.live.length cl] 28)).alloc (.cells #[.slice none 0 0, .slice none 0 0] 28)).alloc (.cells iiZ 30) = W1 at *
 refine (udx _ _ _ a (Hh.o.up Hbm.o) (by have := Hlen.o; have := Hn.o; omega) (by have := Hn.o; omega)).mono ?_
 rintro e w2 ⟨vg, vl, rfl, ha, hm2⟩
 obtain ⟨⟨p2, c2, rfl⟩, ⟨q2, d2, rfl⟩⟩ := ha.forms
 have Ha := hd' ha
 have Hm2 := hd' hm2
 clear ha hm2 c0 c1
 go_wp2_with fail
 have HB5 := hd' (Blk.new w2 28 #[.slice p2 a.gens.length c2, .slice q2 a.live.length d2])
 have HMa := hd' (Gou.Mod.alloc0 w2 (.cells #[.slice p2 a.gens.length c2, .slice q2 a.live.length d2] 28))
 have Ha3 := hd' (Ha.o.up HMa.o)
 have HR1 := hd' ((Hb1.o.up Hm2.o).up HMa.o)
 have HR2 := hd' ((Hb2.o.up Hm2.o).up HMa.o)
 have HM3 := hd' ((Hbm.o.trans' Hm2.o).trans' HMa.o)
 have HRlt := hd' (Blk.lt Hb2.o)
 have HNlt : Hid (W1.heap.size ≤ w2.heap.size) := hd' Hm2.o.size
 clear Ha Hb0 Hb1 Hb2 Hm2 HMa
 generalize w2.alloc (.cells #[.slice p2 a.gens.length c2, .slice q2 a.live.length d2] 28) = W3 at *
 generalize w2.heap.size = N5 at *
 have c51 : W3.cell? ⟨N5, 1, none⟩ = some (.slice q2 a.live.length d2) := HB5.o.cell 1 rfl
 refine (ugb _ q2 d2 a.live (Ha3.o.reads.l) H0.o (by have := Hn.o; omega)).mono ?_
 rintro e w' ⟨rfl, hw'⟩
 have hw' := hw'.symm
 subst hw'
 have HTk : Hid (a.take = a.take) := hd' rfl
 cases hf : a.live.findIdx? (fun q => !q) with
 | some i =>
  obtain ⟨hil, hiv, _⟩ := List.findIdx?_eq_some_iff_getElem.1 hf
  have Hf := hd' hf
  have Hil := hd' hil
  clear hf hiv
  simp only
  obtain ⟨gg, rfl, hgg, _⟩ := ub9 Ha3.o.g (by have := Hil.o; have := Hlen.o; omega)
  obtain ⟨gl, rfl, hgl, _⟩ := ub9 Ha3.o.l (by have := Hil.o; have := Hlen.o; omega)
  have Hgg := hd' hgg
  have Hgl := hd' hgl
  have kl : W3.cell? ⟨gl, i, none⟩ = some (.bool (a.live.getD (i) false)) := ucs Ha3.o.l (by have := Hil.o; have := Hlen.o; omega)
  have kf := (ud2 Ha3.o.l (i := i) (by have := Hil.o; have := Hlen.o; omega)).2
  have kg : W3.cell? ⟨gg, i, none⟩ = some (iV (a.gens.getD (i) 0)) := uce Ha3.o.g (by have := Hil.o; have := Hlen.o; omega)
  have c50 : W3.cell? ⟨N5, 0, none⟩ = some (.slice (some ⟨gg, 0, none⟩) a.gens.length c2) := HB5.o.cell 0 rfl
  have c51 : W3.cell? ⟨N5, 1, none⟩ = some (.slice (some ⟨gl, 0, none⟩) a.live.length d2) := HB5.o.cell 1 rfl
  have hlt1 : decide ((0 : Int) ≤ (i : Nat)) = true := dqt (by omega)
  have hib2 : i < a.live.length := by have := Hil.o; have := Hlen.o; omega
  have e0 : decide ((i : Int) < 0) = false := dqf (by omega)
  go_wp2_with fail
  have HS8 := hd' (Gou.Mod.set1 W3 gl i (.bool true))
  have Hl8 : Hid ((W3.setCell ⟨gl, i, none⟩ (.bool true)).ownsRow W1.heap.size 4 1 (.slice (some ⟨gl, 0, none⟩) a.live.length d2) a.live.length (bvs ((a.live).set (i) true))) := hd' (by have h := ueo Ha3.o.l (i) (.bool true); rw [bvs, List.map_set]; exact h)
  have Hg8 := hd' (uac Ha3.o.g HS8.o (fun k hk e => ubq (base' := 0) Ha3.o.g (T := 4) (by decide) k ⟨Nat.zero_le _, by obtain ⟨_, _, cur, cap, h1, _⟩ := uar Ha3.o.l rfl; rw [e]; exact ⟨cur, h1⟩⟩ hk))
  have hNl : Hid (N5 ≠ gl) := hd' (fun e => uan Ha3.o.l HB5.o (by decide) (by rw [e]; rfl))
  have HB8 := hd' (HB5.o.mod HS8.o hNl.out)
  have HR18 := hd' (HR1.o.mod HS8.o (by have := Hgl.o; have := HRlt.o; omega))
  have HR28 := hd' (HR2.o.mod HS8.o (by have := Hgl.o; have := HRlt.o; omega))
  have HM8 := hd' (HM3.o.trans HS8.o (fun k hk e => by have := Hgl.o; have := HRlt.o; omega))
  have hgN : Hid (gg ≠ w.heap.size + 1 ∧ gg ≠ w.heap.size + 1 + 1 ∧ gl ≠ w.heap.size + 1 ∧ gl ≠ w.heap.size + 1 + 1 ∧ N5 ≠ w.heap.size + 1 ∧ N5 ≠ w.heap.size + 1 + 1) := hd' (by have := Hgl.o; have := Hgg.o; have := HRlt.o; have := HNlt.o; omega)
  have hN5 : Hid (¬ (N5 = w.heap.size + 1 ∨ N5 = w.heap.size + 1 + 1)) := hd' (by have := hgN.out; omega)
  have hgg5 : Hid (¬ (gg = w.heap.size + 1 ∨ gg = w.heap.size + 1 + 1)) := hd' (by have := hgN.out; omega)
  have Hfin : Hid (a.take = some (Ar.mk (a.gens) ((a.live).set (i) true), (((i : Nat) : Int), (a.gens).getD (i) 0))) := hd' (by unfold Ar.take; rw [Hf.o])
  clear kl kf c50 c51
  have kg8 : (W3.setCell ⟨gl, i, none⟩ (.bool true)).cell? ⟨gg, i, none⟩ = some (iV ((a.gens).getD (i) 0)) := uce Hg8.o (by have := Hil.o; have := Hlen.o; omega)
  have c50 : (W3.setCell ⟨gl, i, none⟩ (.bool true)).cell? ⟨N5, 0, none⟩ = some (.slice (some ⟨gg, 0, none⟩) a.gens.length c2) := HB8.o.cell 0 rfl
  have hib : i < a.gens.length := by have := Hil.o; have := Hlen.o; omega
  clear kg
  generalize W3.setCell ⟨gl, i, none⟩ (.bool true) = W8 at *
  generalize (a.gens).getD (i) 0 = gv at *
  refine wp_region_held_drew (S := fun w' => Gou.Mod (fun k => k = w.heap.size + 1 ∨ k = w.heap.size + 1 + 1) W8 w') (by kernel_rfl) (Gou.Mod.drew _ _) (fun hH => ?_)
  refine tkR 0 (.agg #[.slice (some ⟨gg, 0, none⟩) a.gens.length c2, .slice (some ⟨gl, 0, none⟩) a.live.length d2]) HB8.o.whole hN5.out Tryz.underlying28 uae hH (h := ?_)
  refine tk 1 (iV ((i : Nat) : Int)) hH (h := ?_)
  refine tk 2 (.pointer (some ⟨N5, 0, none⟩)) hH (h := ?_)
  refine tkC 3 c50 hN5.out hH (h := ?_)
  refine tk 4 (iV ((i : Nat) : Int)) hH (h := ?_)
  refine tk 5 (.pointer (some ⟨gg, i, none⟩)) hH (h := ?_)
  refine tkC 6 kg8 hgg5.out hH (h := ?_)
  refine tk 7 (.agg #[iV ((i : Nat) : Int), iV gv]) hH (h := ?_)
  refine rd 8 (h := fun K hK => ?_)
  refine wp_store_mid 28 _ _ rfl (w.heap.size + 1) 0 #[.slice (some ⟨gg, 0, none⟩) a.gens.length c2, .slice (some ⟨gl, 0, none⟩) a.live.length d2] rfl rfl ((HR18.o.up (Gou.Mod.drew (fun _ => False) W8)).there 0 2 (by simp)) uae (by simp [Value.oneCell']) ?_
  have HT9 := hd' (Blk.setMod W8.drew (w.heap.size + 1) 0 (#[.slice (some ⟨gg, 0, none⟩) a.gens.length c2, .slice (some ⟨gl, 0, none⟩) a.live.length d2] : Array Value).toList)
  have HR19 := hd' ((HR18.o.up (Gou.Mod.drew (fun _ => False) W8)).setAll #[.slice (some ⟨gg, 0, none⟩) a.gens.length c2, .slice (some ⟨gl, 0, none⟩) a.live.length d2] rfl)
  have HR29 := hd' ((HR28.o.up (Gou.Mod.drew (fun _ => False) W8)).mod HT9.o (by omega))
  have M := hd' (hH.trans' (HT9.o.imp (fun k _ h => .inl h)))
  have HQ9 := hd' ((Gou.Mod.drew (fun k => k = w.heap.size + 1) W8).trans' HT9.o)
  clear hH HT9
  generalize W8.drew.setCells (w.heap.size + 1) 0 (#[.slice (some ⟨gg, 0, none⟩) a.gens.length c2, .slice (some ⟨gl, 0, none⟩) a.live.length d2] : Array Value).toList = W9 at *
  refine hK _ _ M.o (fun hH => ?_)
  clear hK K M
  refine rd 9 (h := fun K hK => ?_)
  refine wp_store_mid 30 _ _ rfl (w.heap.size + 1 + 1) 0 #[iV ((i : Nat) : Int), iV gv] rfl rfl (HR29.o.there 0 2 (by simp)) uaf (by simp [Value.oneCell']) ?_
  have HT10 := hd' (Blk.setMod W9 (w.heap.size + 1 + 1) 0 (#[iV ((i : Nat) : Int), iV gv] : Array Value).toList)
  have HR110 := hd' (HR19.o.mod HT10.o (by omega))
  have HR210 := hd' (HR29.o.setAll #[iV ((i : Nat) : Int), iV gv] rfl)
  have M := hd' (hH.trans' (HT10.o.imp (fun k _ h => .inr h)))
  have HQ10 := hd' ((HQ9.o.imp (S' := fun k => k = w.heap.size + 1 ∨ k = w.heap.size + 1 + 1) (fun k _ h => .inl h)).trans' (HT10.o.imp (S' := fun k => k = w.heap.size + 1 ∨ k = w.heap.size + 1 + 1) (fun k _ h => .inr h)))
  clear hH HT10
  generalize W9.setCells (w.heap.size + 1 + 1) 0 (#[iV ((i : Nat) : Int), iV gv] : Array Value).toList = W10 at *
  refine hK _ _ M.o (fun hH => ?_)
  clear hK K M
  refine tk 10 (.bool true) hH (h := ?_)
  have MS := hd' hH
  refine wpAnyH_done (by kernel_rfl) ?_ _
  clear hH
  go_wp2_with fail
  refine bpr (ubg rfl (ResAt.of rfl HR110.o Tryz.underlying28 rfl uae) (ResAt.of rfl HR210.o Tryz.underlying30 rfl uaf)) rfl ?_
  have hne8 : ∀ k, W1.heap.size ≤ k → ¬ (k = w.heap.size + 1 ∨ k = w.heap.size + 1 + 1) := fun k hk h => by have := HRlt.o; omega
  have HM10 := hd' (HM8.o.trans HQ10.o (fun k hk h => by omega))
  refine ⟨HM10.o, .slice (some ⟨gg, 0, none⟩) a.gens.length c2, .slice (some ⟨gl, 0, none⟩) a.live.length d2, fun b y hby => ?_, fun hno => by rw [Hfin.o] at hno; cases hno⟩
  rw [Hfin.o] at hby
  cases hby
  exact ⟨rfl, ⟨uaj (uac Hg8.o HQ10.o (fun k hk => hne8 k (uba Hg8.o k hk))) (by have := HRlt.o; omega), uaj (uac (by simpa using Hl8.o) HQ10.o (fun k hk => hne8 k (uba Hl8.o k hk))) (by have := HRlt.o; omega)⟩⟩
 | none =>
  have Hf := hd' hf
  clear hf
  simp only
  by_cases hfull : a.live.length = 1024
  ·have Hfull := hd' hfull
   have e1 : decide ((1024 : Int) ≤ (a.live.length : Int)) = true := dqt (by omega)
   have Hfin : Hid (a.take = none) := hd' (by unfold Ar.take; rw [Hf.o]; simp [hfull])
   clear hfull
   have c50 : W3.cell? ⟨N5, 0, none⟩ = some (.slice p2 a.gens.length c2) := HB5.o.cell 0 rfl
   have r10 := HR1.o.cell 0 rfl
   have r11 := HR1.o.cell 1 rfl
   have r20 := HR2.o.cell 0 rfl
   have r21 := HR2.o.cell 1 rfl
   have s10 := HR1.o.frozen 0
   have s11 := HR1.o.frozen 1
   have s20 := HR2.o.frozen 0
   have s21 := HR2.o.frozen 1
   go_wp2_with fail
   have HA1 := (HR1.o.set 0 (.slice p2 a.gens.length c2)).set 1 (.slice q2 a.live.length d2)
   have hm1 := (Gou.Mod.set1 W3 (w.heap.size + 1) 0 (.slice p2 a.gens.length c2)).trans' (Gou.Mod.set1 _ (w.heap.size + 1) 1 (.slice q2 a.live.length d2))
   have HI1 := ((HR2.o.mod hm1 (by omega)).set 0 (iV 0)).set 1 (iV 0)
   have hm2 := (Gou.Mod.set1 ((W3.setCell ⟨w.heap.size + 1, 0, none⟩ (.slice p2 a.gens.length c2)).setCell ⟨w.heap.size + 1, 1, none⟩ (.slice q2 a.live.length d2)) (w.heap.size + 1 + 1) 0 (iV 0)).trans' (Gou.Mod.set1 _ (w.heap.size + 1 + 1) 1 (iV 0))
   have HA2 := HA1.mod hm2 (by omega)
   refine bpr (ubg rfl (ResAt.of rfl HA2 Tryz.underlying28 rfl uae) (ResAt.of rfl HI1 Tryz.underlying30 rfl uaf)) rfl ?_
   refine ⟨(HM3.o.trans hm1 (fun k hk e => by omega)).trans hm2 (fun k hk e => by omega), .slice p2 a.gens.length c2, .slice q2 a.live.length d2, ?_, fun _ => ⟨rfl, ⟨_, _, _, rfl⟩, _, _, _, rfl⟩⟩
   intro b y hby
   rw [Hfin.o] at hby
   cases hby
  ·have Hfull := hd' hfull
   have e1 : decide ((1024 : Int) ≤ (a.live.length : Int)) = false := dqf (by have := Hn.o; omega)
   clear hfull
   go_upto_region 7 with fail
   go_cut [] from 23 to 32 (fun wx => ∃ (G : List Int) (L : List Bool) (pg' : Option Addr) (cg' : Nat) (pl' : Option Addr) (cl' : Nat), G = a.gens ++ [0] ∧ L = a.live ++ [false] ∧ Blk wx N5 28 #[.slice pg' G.length cg', .slice pl' L.length cl'] ∧ ArO 3 4 W1.heap.size wx (.slice pg' G.length cg') (.slice pl' L.length cl') ⟨G, L⟩ ∧ Blk wx (w.heap.size + 1) 28 #[.slice none 0 0, .slice none 0 0] ∧ Blk wx (w.heap.size + 1 + 1) 30 iiZ ∧ Gou.Mod (fun _ => False) w wx)
   case first =>
    have c51 : W3.cell? ⟨N5, 1, none⟩ = some (.slice q2 a.live.length d2) := HB5.o.cell 1 rfl
    have hdr := Gou.Mod.drew (fun _ => False) W3
    have HT : Hid (TkR w W1.heap.size N5 W3.drew (.slice p2 a.gens.length c2) (.slice q2 a.live.length d2) (.slice p2 a.gens.length c2) a.gens.length (ivs a.gens) (.slice q2 a.live.length d2) a.live.length (bvs a.live)) := hd' ⟨HB5.o.up hdr, ua4 Ha3.o.g hdr, ua4 Ha3.o.l hdr, HR1.o.up hdr, HR2.o.up hdr, HM3.o.trans' hdr, HRlt.o, Nat.le_trans HNlt.o (Nat.le_refl _)⟩
    clear hdr
    refine wdf (S := fun w' => TkS N5 (.slice p2 a.gens.length c2) (.slice q2 a.live.length d2) W3 w') 11 ⟨Gou.Mod.drew _ _, c51⟩ (h := fun hH => ?_)
    refine tk 0 (.pointer (some ⟨N5, 0, none⟩)) hH (h := ?_)
    refine tk 4 (.pointer (some ⟨N5, 1, none⟩)) hH (h := ?_)
    refine wpAnyH_take (i := 5) (oi := ({ dst := some 28, op := Op.load 26 (Operand.tmp 27), type := 26, pos := "arena.go:52", after := #[{ on := 4, ground := Ground.data }], guard := none } : Oper)) (v := .slice q2 a.live.length d2) rfl (by kernel_rfl) (by kernel_rfl) (by kernel_rfl) (fun _ _ _ h => h) (Or.inl ⟨by rfl, ?_⟩) hH ?_
    ·(intro w' hSw; (try dsimp only at hSw); have g := hSw.2; clear hSw hH; go_simp; (try with_reducible rfl))
    refine wpAnyH_ready (rs := [1, 2, 6]) (by kernel_rfl) (by simp) (AllReadyH.cons (o := ({ dst := some 24, op := Op.load 25 (Operand.tmp 23), type := 25, pos := "arena.go:52", after := #[{ on := 0, ground := Ground.data }], guard := none } : Oper)) rfl (fun K11 hK => ?_) (AllReadyH.cons (o := ({ dst := some 25, op := Op.buildSlice 25 1 #[(0, Operand.const (Value.int IntKind.i64 0))], type := 25, pos := "arena.go:52", after := #[], guard := none } : Oper)) rfl (fun K11 hK => ?_) (AllReadyH.cons (o := ({ dst := some 29, op := Op.buildSlice 26 1 #[(0, Operand.const (Value.bool false))], type := 26, pos := "arena.go:52", after := #[], guard := none } : Oper)) rfl (fun K11 hK => ?_) AllReadyH.nil)))
    ·skip
     have g0 := HT.o.X.cell 0 rfl
     go_simp
     clear g0
     have M := hd' hH
     clear hH
     refine hK _ _ M.o (fun hH => ?_)
     clear hK K11 M
     refine rd2 2 6 (h := fun K12 hK => ?_) (g := fun K12 hK => ?_)
     ·skip
      go_simp
      have hq : Gou.Mod (fun _ => False) (W3.drew) ((W3.alloc (.cells #[iV 0] 3)).drew) := Gou.Mod.alloc0 (W3.drew) (.cells #[iV 0] 3)
      have HE2 : Hid (Blk ((W3.alloc (.cells #[iV 0] 3)).drew) (W3.heap.size) 3 #[iV 0]) := hd' (Blk.new (W3.drew) 3 #[iV 0])
      replace HT := hd' (HT.o.quiet hq)
      have M := hd' (TkS.quiet hH hq)
      clear hH hq
      obtain ⟨V2_1, hv⟩ : ∃ x, x = (W3.alloc (.cells #[iV 0] 3)).drew := ⟨_, rfl⟩
      obtain ⟨N_V2_1, hn⟩ : ∃ x, x = W3.heap.size := ⟨_, rfl⟩
      rw [← hn] at HE2
      rw [← hn]
      rw [← hv] at HT M HE2
      rw [← hv]
      clear hv hn
      refine hK _ _ M.o (fun hH => ?_)
      clear hK K12 M
      refine rd2 3 6 (h := fun K13 hK => ?_) (g := fun K13 hK => ?_)
      ·skip
       skip
       refine ual ud0 _ _ rfl (W1.heap.size) (.slice p2 a.gens.length c2) (a.gens.length) (ivs a.gens) (fun _ => True) (.slice (some ⟨N_V2_1, 0, none⟩) 1 1) 1 [iV 0] rfl rfl (by have := HT.o.c; have := HT.o.X.lt; omega) HT.o.G (RowG.of_blk HE2.o 1 1 rfl _ trivial) (by simp [Value.oneCell']) (by have := Hlen.o; have := Hn.o; unfold maxLen; omega) (by have := Hlen.o; have := Hn.o; omega) ?_
       intro v7 V3_2 G7
       obtain ⟨pG, cG, rfl⟩ := Gou.ownsRow_form G7.own
       have M := hd' (TkS.appG HT.o hH G7.mod)
       replace HT := hd' (HT.o.appG G7.mod G7.own)
       clear HE2 G7 hH
       refine hK _ _ M.o (fun hH => ?_)
       clear hK K13 M
       refine tk 8 (.pointer (some ⟨N5, 0, none⟩)) hH (h := ?_)
       refine rd 6 (h := fun K hK => ?_)
       go_simp
       have hq : Gou.Mod (fun _ => False) (V3_2) (V3_2.alloc (.cells #[.bool false] 4)) := Gou.Mod.alloc0 (V3_2) (.cells #[.bool false] 4)
       have HE6 : Hid (Blk (V3_2.alloc (.cells #[.bool false] 4)) (V3_2.heap.size) 4 #[.bool false]) := hd' (Blk.new (V3_2) 4 #[.bool false])
       replace HT := hd' (HT.o.quiet hq)
       have M := hd' (TkS.quiet hH hq)
       clear hH hq
       obtain ⟨V6_3, hv⟩ : ∃ x, x = V3_2.alloc (.cells #[.bool false] 4) := ⟨_, rfl⟩
       obtain ⟨N_V6_3, hn⟩ : ∃ x, x = V3_2.heap.size := ⟨_, rfl⟩
       rw [← hn] at HE6
       rw [← hn]
       rw [← hv] at HT M HE6
       rw [← hv]
       clear hv hn
       refine hK _ _ M.o (fun hH => ?_)
       clear hK K M
       refine rd 7 (h := fun K hK => ?_)
       refine ual ucg _ _ rfl (W1.heap.size) (.slice q2 a.live.length d2) (a.live.length) (bvs a.live) (fun _ => True) (.slice (some ⟨N_V6_3, 0, none⟩) 1 1) 1 [.bool false] rfl rfl (by have := HT.o.c; have := HT.o.X.lt; omega) HT.o.V (RowG.of_blk HE6.o 1 1 rfl _ trivial) (by simp [Value.oneCell']) (by have := Hlen.o; have := Hn.o; unfold maxLen; omega) (by have := Hlen.o; have := Hn.o; omega) ?_
       intro v7 V7_4 G7
       obtain ⟨pL, cL, rfl⟩ := Gou.ownsRow_form G7.own
       have M := hd' (TkS.appV HT.o hH G7.mod)
       replace HT := hd' (HT.o.appV G7.mod G7.own)
       clear HE6 G7 hH
       refine hK _ _ M.o (fun hH => ?_)
       clear hK K M
       refine rd 9 (h := fun K hK => ?_)
       have g0 := HT.o.X.cell 0 rfl
       have g1 := HT.o.X.frozen 0
       go_simp
       clear g0 g1
       have M := hd' (TkS.set0 HT.o hH (.slice pG (a.gens.length + 1) cG))
       replace HT := hd' (HT.o.set0 (.slice pG (a.gens.length + 1) cG))
       clear hH
       refine hK _ _ M.o (fun hH => ?_)
       clear hK K M
       refine tk 10 (.pointer (some ⟨N5, 1, none⟩)) hH (h := ?_)
       refine tk 11 (.bool true) hH (h := ?_)
       have MS := hd' hH
       refine wpAnyH_done (by kernel_rfl) ?_ _
       clear hH
       show Oper.wp _ _ _ _ _ _
       have g0 := HT.o.X.cell 1 rfl
       have g1 := HT.o.X.frozen 1
       clear MS
       go_simp
       clear g0 g1
       have hT := HT.o.set1 (.slice pL (a.live.length + 1) cL)
       go_wp2_with fail
       go_meet
       case rel => exact ⟨_, _, pG, cG, pL, cL, rfl, rfl, by simpa using hT.X, ⟨by simpa [ivs] using hT.G, by simpa [bvs] using hT.V⟩, hT.S1, hT.S2, hT.M⟩
      ·skip
       go_simp
       have hq : Gou.Mod (fun _ => False) (V2_1) (V2_1.alloc (.cells #[.bool false] 4)) := Gou.Mod.alloc0 (V2_1) (.cells #[.bool false] 4)
       have HE6 : Hid (Blk (V2_1.alloc (.cells #[.bool false] 4)) (V2_1.heap.size) 4 #[.bool false]) := hd' (Blk.new (V2_1) 4 #[.bool false])
       replace HT := hd' (HT.o.quiet hq)
       replace HE2 := hd' (HE2.o.up hq)
       have M := hd' (TkS.quiet hH hq)
       clear hH hq
       obtain ⟨V6_2, hv⟩ : ∃ x, x = V2_1.alloc (.cells #[.bool false] 4) := ⟨_, rfl⟩
       obtain ⟨N_V6_2, hn⟩ : ∃ x, x = V2_1.heap.size := ⟨_, rfl⟩
       rw [← hn] at HE6
       rw [← hn]
       rw [← hv] at HT M HE2 HE6
       rw [← hv]
       clear hv hn
       refine hK _ _ M.o (fun hH => ?_)
       clear hK K13 M
       refine rd 3 (h := fun K hK => ?_)
       refine ual ud0 _ _ rfl (W1.heap.size) (.slice p2 a.gens.length c2) (a.gens.length) (ivs a.gens) (fun _ => True) (.slice (some ⟨N_V2_1, 0, none⟩) 1 1) 1 [iV 0] rfl rfl (by have := HT.o.c; have := HT.o.X.lt; omega) HT.o.G (RowG.of_blk HE2.o 1 1 rfl _ trivial) (by simp [Value.oneCell']) (by have := Hlen.o; have := Hn.o; unfold maxLen; omega) (by have := Hlen.o; have := Hn.o; omega) ?_
       intro v7 V3_3 G7
       obtain ⟨pG, cG, rfl⟩ := Gou.ownsRow_form G7.own
       have M := hd' (TkS.appG HT.o hH G7.mod)
       replace HE6 := hd' (HE6.o.mod G7.mod (uan HT.o.G HE6.o (by decide)))
       replace HT := hd' (HT.o.appG G7.mod G7.own)
       clear HE2 G7 hH
       refine hK _ _ M.o (fun hH => ?_)
       clear hK K M
       refine tk 8 (.pointer (some ⟨N5, 0, none⟩)) hH (h := ?_)
       refine rd 7 (h := fun K hK => ?_)
       refine ual ucg _ _ rfl (W1.heap.size) (.slice q2 a.live.length d2) (a.live.length) (bvs a.live) (fun _ => True) (.slice (some ⟨N_V6_2, 0, none⟩) 1 1) 1 [.bool false] rfl rfl (by have := HT.o.c; have := HT.o.X.lt; omega) HT.o.V (RowG.of_blk HE6.o 1 1 rfl _ trivial) (by simp [Value.oneCell']) (by have := Hlen.o; have := Hn.o; unfold maxLen; omega) (by have := Hlen.o; have := Hn.o; omega) ?_
       intro v7 V7_4 G7
       obtain ⟨pL, cL, rfl⟩ := Gou.ownsRow_form G7.own
       have M := hd' (TkS.appV HT.o hH G7.mod)
       replace HT := hd' (HT.o.appV G7.mod G7.own)
       clear HE6 G7 hH
       refine hK _ _ M.o (fun hH => ?_)
       clear hK K M
       refine rd 9 (h := fun K hK => ?_)
       have g0 := HT.o.X.cell 0 rfl
       have g1 := HT.o.X.frozen 0
       go_simp
       clear g0 g1
       have M := hd' (TkS.set0 HT.o hH (.slice pG (a.gens.length + 1) cG))
       replace HT := hd' (HT.o.set0 (.slice pG (a.gens.length + 1) cG))
       clear hH
       refine hK _ _ M.o (fun hH => ?_)
       clear hK K M
       refine tk 10 (.pointer (some ⟨N5, 1, none⟩)) hH (h := ?_)
       refine tk 11 (.bool true) hH (h := ?_)
       have MS := hd' hH
       refine wpAnyH_done (by kernel_rfl) ?_ _
       clear hH
       show Oper.wp _ _ _ _ _ _
       have g0 := HT.o.X.cell 1 rfl
       have g1 := HT.o.X.frozen 1
       clear MS
       go_simp
       clear g0 g1
       have hT := HT.o.set1 (.slice pL (a.live.length + 1) cL)
       go_wp2_with fail
       go_meet
       case rel => exact ⟨_, _, pG, cG, pL, cL, rfl, rfl, by simpa using hT.X, ⟨by simpa [ivs] using hT.G, by simpa [bvs] using hT.V⟩, hT.S1, hT.S2, hT.M⟩
     ·skip
      go_simp
      have hq : Gou.Mod (fun _ => False) (W3.drew) ((W3.alloc (.cells #[.bool false] 4)).drew) := Gou.Mod.alloc0 (W3.drew) (.cells #[.bool false] 4)
      have HE6 : Hid (Blk ((W3.alloc (.cells #[.bool false] 4)).drew) (W3.heap.size) 4 #[.bool false]) := hd' (Blk.new (W3.drew) 4 #[.bool false])
      replace HT := hd' (HT.o.quiet hq)
      have M := hd' (TkS.quiet hH hq)
      clear hH hq
      obtain ⟨V6_1, hv⟩ : ∃ x, x = (W3.alloc (.cells #[.bool false] 4)).drew := ⟨_, rfl⟩
      obtain ⟨N_V6_1, hn⟩ : ∃ x, x = W3.heap.size := ⟨_, rfl⟩
      rw [← hn] at HE6
      rw [← hn]
      rw [← hv] at HT M HE6
      rw [← hv]
      clear hv hn
      refine hK _ _ M.o (fun hH => ?_)
      clear hK K12 M
      refine rd 2 (h := fun K hK => ?_)
      go_simp
      have hq : Gou.Mod (fun _ => False) (V6_1) (V6_1.alloc (.cells #[iV 0] 3)) := Gou.Mod.alloc0 (V6_1) (.cells #[iV 0] 3)
      have HE2 : Hid (Blk (V6_1.alloc (.cells #[iV 0] 3)) (V6_1.heap.size) 3 #[iV 0]) := hd' (Blk.new (V6_1) 3 #[iV 0])
      replace HT := hd' (HT.o.quiet hq)
      replace HE6 := hd' (HE6.o.up hq)
      have M := hd' (TkS.quiet hH hq)
      clear hH hq
      obtain ⟨V2_2, hv⟩ : ∃ x, x = V6_1.alloc (.cells #[iV 0] 3) := ⟨_, rfl⟩
      obtain ⟨N_V2_2, hn⟩ : ∃ x, x = V6_1.heap.size := ⟨_, rfl⟩
      rw [← hn] at HE2
      rw [← hn]
      rw [← hv] at HT M HE6 HE2
      rw [← hv]
      clear hv hn
      refine hK _ _ M.o (fun hH => ?_)
      clear hK K M
      refine rd 3 (h := fun K hK => ?_)
      refine ual ud0 _ _ rfl (W1.heap.size) (.slice p2 a.gens.length c2) (a.gens.length) (ivs a.gens) (fun _ => True) (.slice (some ⟨N_V2_2, 0, none⟩) 1 1) 1 [iV 0] rfl rfl (by have := HT.o.c; have := HT.o.X.lt; omega) HT.o.G (RowG.of_blk HE2.o 1 1 rfl _ trivial) (by simp [Value.oneCell']) (by have := Hlen.o; have := Hn.o; unfold maxLen; omega) (by have := Hlen.o; have := Hn.o; omega) ?_
      intro v7 V3_3 G7
      obtain ⟨pG, cG, rfl⟩ := Gou.ownsRow_form G7.own
      have M := hd' (TkS.appG HT.o hH G7.mod)
      replace HE6 := hd' (HE6.o.mod G7.mod (uan HT.o.G HE6.o (by decide)))
      replace HT := hd' (HT.o.appG G7.mod G7.own)
      clear HE2 G7 hH
      refine hK _ _ M.o (fun hH => ?_)
      clear hK K M
      refine tk 8 (.pointer (some ⟨N5, 0, none⟩)) hH (h := ?_)
      refine rd 7 (h := fun K hK => ?_)
      refine ual ucg _ _ rfl (W1.heap.size) (.slice q2 a.live.length d2) (a.live.length) (bvs a.live) (fun _ => True) (.slice (some ⟨N_V6_1, 0, none⟩) 1 1) 1 [.bool false] rfl rfl (by have := HT.o.c; have := HT.o.X.lt; omega) HT.o.V (RowG.of_blk HE6.o 1 1 rfl _ trivial) (by simp [Value.oneCell']) (by have := Hlen.o; have := Hn.o; unfold maxLen; omega) (by have := Hlen.o; have := Hn.o; omega) ?_
      intro v7 V7_4 G7
      obtain ⟨pL, cL, rfl⟩ := Gou.ownsRow_form G7.own
      have M := hd' (TkS.appV HT.o hH G7.mod)
      replace HT := hd' (HT.o.appV G7.mod G7.own)
      clear HE6 G7 hH
      refine hK _ _ M.o (fun hH => ?_)
      clear hK K M
      refine rd 9 (h := fun K hK => ?_)
      have g0 := HT.o.X.cell 0 rfl
      have g1 := HT.o.X.frozen 0
      go_simp
      clear g0 g1
      have M := hd' (TkS.set0 HT.o hH (.slice pG (a.gens.length + 1) cG))
      replace HT := hd' (HT.o.set0 (.slice pG (a.gens.length + 1) cG))
      clear hH
      refine hK _ _ M.o (fun hH => ?_)
      clear hK K M
      refine tk 10 (.pointer (some ⟨N5, 1, none⟩)) hH (h := ?_)
      refine tk 11 (.bool true) hH (h := ?_)
      have MS := hd' hH
      refine wpAnyH_done (by kernel_rfl) ?_ _
      clear hH
      show Oper.wp _ _ _ _ _ _
      have g0 := HT.o.X.cell 1 rfl
      have g1 := HT.o.X.frozen 1
      clear MS
      go_simp
      clear g0 g1
      have hT := HT.o.set1 (.slice pL (a.live.length + 1) cL)
      go_wp2_with fail
      go_meet
      case rel => exact ⟨_, _, pG, cG, pL, cL, rfl, rfl, by simpa using hT.X, ⟨by simpa [ivs] using hT.G, by simpa [bvs] using hT.V⟩, hT.S1, hT.S2, hT.M⟩
    ·skip
     go_simp
     have hq : Gou.Mod (fun _ => False) (W3.drew) ((W3.alloc (.cells #[iV 0] 3)).drew) := Gou.Mod.alloc0 (W3.drew) (.cells #[iV 0] 3)
     have HE2 : Hid (Blk ((W3.alloc (.cells #[iV 0] 3)).drew) (W3.heap.size) 3 #[iV 0]) := hd' (Blk.new (W3.drew) 3 #[iV 0])
     replace HT := hd' (HT.o.quiet hq)
     have M := hd' (TkS.quiet hH hq)
     clear hH hq
     obtain ⟨V2_1, hv⟩ : ∃ x, x = (W3.alloc (.cells #[iV 0] 3)).drew := ⟨_, rfl⟩
     obtain ⟨N_V2_1, hn⟩ : ∃ x, x = W3.heap.size := ⟨_, rfl⟩
     rw [← hn] at HE2
     rw [← hn]
     rw [← hv] at HT M HE2
     rw [← hv]
     clear hv hn
     refine hK _ _ M.o (fun hH => ?_)
     clear hK K11 M
     refine rd2 1 6 (h := fun K14 hK => ?_) (g := fun K14 hK => ?_)
     ·skip
      have g0 := HT.o.X.cell 0 rfl
      go_simp
      clear g0
      have M := hd' hH
      clear hH
      refine hK _ _ M.o (fun hH => ?_)
      clear hK K14 M
      refine rd2 3 6 (h := fun K15 hK => ?_) (g := fun K15 hK => ?_)
      ·skip
       skip
       refine ual ud0 _ _ rfl (W1.heap.size) (.slice p2 a.gens.length c2) (a.gens.length) (ivs a.gens) (fun _ => True) (.slice (some ⟨N_V2_1, 0, none⟩) 1 1) 1 [iV 0] rfl rfl (by have := HT.o.c; have := HT.o.X.lt; omega) HT.o.G (RowG.of_blk HE2.o 1 1 rfl _ trivial) (by simp [Value.oneCell']) (by have := Hlen.o; have := Hn.o; unfold maxLen; omega) (by have := Hlen.o; have := Hn.o; omega) ?_
       intro v7 V3_2 G7
       obtain ⟨pG, cG, rfl⟩ := Gou.ownsRow_form G7.own
       have M := hd' (TkS.appG HT.o hH G7.mod)
       replace HT := hd' (HT.o.appG G7.mod G7.own)
       clear HE2 G7 hH
       refine hK _ _ M.o (fun hH => ?_)
       clear hK K15 M
       refine tk 8 (.pointer (some ⟨N5, 0, none⟩)) hH (h := ?_)
       refine rd 6 (h := fun K hK => ?_)
       go_simp
       have hq : Gou.Mod (fun _ => False) (V3_2) (V3_2.alloc (.cells #[.bool false] 4)) := Gou.Mod.alloc0 (V3_2) (.cells #[.bool false] 4)
       have HE6 : Hid (Blk (V3_2.alloc (.cells #[.bool false] 4)) (V3_2.heap.size) 4 #[.bool false]) := hd' (Blk.new (V3_2) 4 #[.bool false])
       replace HT := hd' (HT.o.quiet hq)
       have M := hd' (TkS.quiet hH hq)
       clear hH hq
       obtain ⟨V6_3, hv⟩ : ∃ x, x = V3_2.alloc (.cells #[.bool false] 4) := ⟨_, rfl⟩
       obtain ⟨N_V6_3, hn⟩ : ∃ x, x = V3_2.heap.size := ⟨_, rfl⟩
       rw [← hn] at HE6
       rw [← hn]
       rw [← hv] at HT M HE6
       rw [← hv]
       clear hv hn
       refine hK _ _ M.o (fun hH => ?_)
       clear hK K M
       refine rd 7 (h := fun K hK => ?_)
       refine ual ucg _ _ rfl (W1.heap.size) (.slice q2 a.live.length d2) (a.live.length) (bvs a.live) (fun _ => True) (.slice (some ⟨N_V6_3, 0, none⟩) 1 1) 1 [.bool false] rfl rfl (by have := HT.o.c; have := HT.o.X.lt; omega) HT.o.V (RowG.of_blk HE6.o 1 1 rfl _ trivial) (by simp [Value.oneCell']) (by have := Hlen.o; have := Hn.o; unfold maxLen; omega) (by have := Hlen.o; have := Hn.o; omega) ?_
       intro v7 V7_4 G7
       obtain ⟨pL, cL, rfl⟩ := Gou.ownsRow_form G7.own
       have M := hd' (TkS.appV HT.o hH G7.mod)
       replace HT := hd' (HT.o.appV G7.mod G7.own)
       clear HE6 G7 hH
       refine hK _ _ M.o (fun hH => ?_)
       clear hK K M
       refine rd 9 (h := fun K hK => ?_)
       have g0 := HT.o.X.cell 0 rfl
       have g1 := HT.o.X.frozen 0
       go_simp
       clear g0 g1
       have M := hd' (TkS.set0 HT.o hH (.slice pG (a.gens.length + 1) cG))
       replace HT := hd' (HT.o.set0 (.slice pG (a.gens.length + 1) cG))
       clear hH
       refine hK _ _ M.o (fun hH => ?_)
       clear hK K M
       refine tk 10 (.pointer (some ⟨N5, 1, none⟩)) hH (h := ?_)
       refine tk 11 (.bool true) hH (h := ?_)
       have MS := hd' hH
       refine wpAnyH_done (by kernel_rfl) ?_ _
       clear hH
       show Oper.wp _ _ _ _ _ _
       have g0 := HT.o.X.cell 1 rfl
       have g1 := HT.o.X.frozen 1
       clear MS
       go_simp
       clear g0 g1
       have hT := HT.o.set1 (.slice pL (a.live.length + 1) cL)
       go_wp2_with fail
       go_meet
       case rel => exact ⟨_, _, pG, cG, pL, cL, rfl, rfl, by simpa using hT.X, ⟨by simpa [ivs] using hT.G, by simpa [bvs] using hT.V⟩, hT.S1, hT.S2, hT.M⟩
      ·skip
       go_simp
       have hq : Gou.Mod (fun _ => False) (V2_1) (V2_1.alloc (.cells #[.bool false] 4)) := Gou.Mod.alloc0 (V2_1) (.cells #[.bool false] 4)
       have HE6 : Hid (Blk (V2_1.alloc (.cells #[.bool false] 4)) (V2_1.heap.size) 4 #[.bool false]) := hd' (Blk.new (V2_1) 4 #[.bool false])
       replace HT := hd' (HT.o.quiet hq)
       replace HE2 := hd' (HE2.o.up hq)
       have M := hd' (TkS.quiet hH hq)
       clear hH hq
       obtain ⟨V6_2, hv⟩ : ∃ x, x = V2_1.alloc (.cells #[.bool false] 4) := ⟨_, rfl⟩
       obtain ⟨N_V6_2, hn⟩ : ∃ x, x = V2_1.heap.size := ⟨_, rfl⟩
       rw [← hn] at HE6
       rw [← hn]
       rw [← hv] at HT M HE2 HE6
       rw [← hv]
       clear hv hn
       refine hK _ _ M.o (fun hH => ?_)
       clear hK K15 M
       refine rd 3 (h := fun K hK => ?_)
       refine ual ud0 _ _ rfl (W1.heap.size) (.slice p2 a.gens.length c2) (a.gens.length) (ivs a.gens) (fun _ => True) (.slice (some ⟨N_V2_1, 0, none⟩) 1 1) 1 [iV 0] rfl rfl (by have := HT.o.c; have := HT.o.X.lt; omega) HT.o.G (RowG.of_blk HE2.o 1 1 rfl _ trivial) (by simp [Value.oneCell']) (by have := Hlen.o; have := Hn.o; unfold maxLen; omega) (by have := Hlen.o; have := Hn.o; omega) ?_
       intro v7 V3_3 G7
       obtain ⟨pG, cG, rfl⟩ := Gou.ownsRow_form G7.own
       have M := hd' (TkS.appG HT.o hH G7.mod)
       replace HE6 := hd' (HE6.o.mod G7.mod (uan HT.o.G HE6.o (by decide)))
       replace HT := hd' (HT.o.appG G7.mod G7.own)
       clear HE2 G7 hH
       refine hK _ _ M.o (fun hH => ?_)
       clear hK K M
       refine tk 8 (.pointer (some ⟨N5, 0, none⟩)) hH (h := ?_)
       refine rd 7 (h := fun K hK => ?_)
       refine ual ucg _ _ rfl (W1.heap.size) (.slice q2 a.live.length d2) (a.live.length) (bvs a.live) (fun _ => True) (.slice (some ⟨N_V6_2, 0, none⟩) 1 1) 1 [.bool false] rfl rfl (by have := HT.o.c; have := HT.o.X.lt; omega) HT.o.V (RowG.of_blk HE6.o 1 1 rfl _ trivial) (by simp [Value.oneCell']) (by have := Hlen.o; have := Hn.o; unfold maxLen; omega) (by have := Hlen.o; have := Hn.o; omega) ?_
       intro v7 V7_4 G7
       obtain ⟨pL, cL, rfl⟩ := Gou.ownsRow_form G7.own
       have M := hd' (TkS.appV HT.o hH G7.mod)
       replace HT := hd' (HT.o.appV G7.mod G7.own)
       clear HE6 G7 hH
       refine hK _ _ M.o (fun hH => ?_)
       clear hK K M
       refine rd 9 (h := fun K hK => ?_)
       have g0 := HT.o.X.cell 0 rfl
       have g1 := HT.o.X.frozen 0
       go_simp
       clear g0 g1
       have M := hd' (TkS.set0 HT.o hH (.slice pG (a.gens.length + 1) cG))
       replace HT := hd' (HT.o.set0 (.slice pG (a.gens.length + 1) cG))
       clear hH
       refine hK _ _ M.o (fun hH => ?_)
       clear hK K M
       refine tk 10 (.pointer (some ⟨N5, 1, none⟩)) hH (h := ?_)
       refine tk 11 (.bool true) hH (h := ?_)
       have MS := hd' hH
       refine wpAnyH_done (by kernel_rfl) ?_ _
       clear hH
       show Oper.wp _ _ _ _ _ _
       have g0 := HT.o.X.cell 1 rfl
       have g1 := HT.o.X.frozen 1
       clear MS
       go_simp
       clear g0 g1
       have hT := HT.o.set1 (.slice pL (a.live.length + 1) cL)
       go_wp2_with fail
       go_meet
       case rel => exact ⟨_, _, pG, cG, pL, cL, rfl, rfl, by simpa using hT.X, ⟨by simpa [ivs] using hT.G, by simpa [bvs] using hT.V⟩, hT.S1, hT.S2, hT.M⟩
     ·skip
      go_simp
      have hq : Gou.Mod (fun _ => False) (V2_1) (V2_1.alloc (.cells #[.bool false] 4)) := Gou.Mod.alloc0 (V2_1) (.cells #[.bool false] 4)
      have HE6 : Hid (Blk (V2_1.alloc (.cells #[.bool false] 4)) (V2_1.heap.size) 4 #[.bool false]) := hd' (Blk.new (V2_1) 4 #[.bool false])
      replace HT := hd' (HT.o.quiet hq)
      replace HE2 := hd' (HE2.o.up hq)
      have M := hd' (TkS.quiet hH hq)
      clear hH hq
      obtain ⟨V6_2, hv⟩ : ∃ x, x = V2_1.alloc (.cells #[.bool false] 4) := ⟨_, rfl⟩
      obtain ⟨N_V6_2, hn⟩ : ∃ x, x = V2_1.heap.size := ⟨_, rfl⟩
      rw [← hn] at HE6
      rw [← hn]
      rw [← hv] at HT M HE2 HE6
      rw [← hv]
      clear hv hn
      refine hK _ _ M.o (fun hH => ?_)
      clear hK K14 M
      refine rd 1 (h := fun K hK => ?_)
      have g0 := HT.o.X.cell 0 rfl
      go_simp
      clear g0
      have M := hd' hH
      clear hH
      refine hK _ _ M.o (fun hH => ?_)
      clear hK K M
      refine rd 3 (h := fun K hK => ?_)
      refine ual ud0 _ _ rfl (W1.heap.size) (.slice p2 a.gens.length c2) (a.gens.length) (ivs a.gens) (fun _ => True) (.slice (some ⟨N_V2_1, 0, none⟩) 1 1) 1 [iV 0] rfl rfl (by have := HT.o.c; have := HT.o.X.lt; omega) HT.o.G (RowG.of_blk HE2.o 1 1 rfl _ trivial) (by simp [Value.oneCell']) (by have := Hlen.o; have := Hn.o; unfold maxLen; omega) (by have := Hlen.o; have := Hn.o; omega) ?_
      intro v7 V3_3 G7
      obtain ⟨pG, cG, rfl⟩ := Gou.ownsRow_form G7.own
      have M := hd' (TkS.appG HT.o hH G7.mod)
      replace HE6 := hd' (HE6.o.mod G7.mod (uan HT.o.G HE6.o (by decide)))
      replace HT := hd' (HT.o.appG G7.mod G7.own)
      clear HE2 G7 hH
      refine hK _ _ M.o (fun hH => ?_)
      clear hK K M
      refine tk 8 (.pointer (some ⟨N5, 0, none⟩)) hH (h := ?_)
      refine rd 7 (h := fun K hK => ?_)
      refine ual ucg _ _ rfl (W1.heap.size) (.slice q2 a.live.length d2) (a.live.length) (bvs a.live) (fun _ => True) (.slice (some ⟨N_V6_2, 0, none⟩) 1 1) 1 [.bool false] rfl rfl (by have := HT.o.c; have := HT.o.X.lt; omega) HT.o.V (RowG.of_blk HE6.o 1 1 rfl _ trivial) (by simp [Value.oneCell']) (by have := Hlen.o; have := Hn.o; unfold maxLen; omega) (by have := Hlen.o; have := Hn.o; omega) ?_
      intro v7 V7_4 G7
      obtain ⟨pL, cL, rfl⟩ := Gou.ownsRow_form G7.own
      have M := hd' (TkS.appV HT.o hH G7.mod)
      replace HT := hd' (HT.o.appV G7.mod G7.own)
      clear HE6 G7 hH
      refine hK _ _ M.o (fun hH => ?_)
      clear hK K M
      refine rd 9 (h := fun K hK => ?_)
      have g0 := HT.o.X.cell 0 rfl
      have g1 := HT.o.X.frozen 0
      go_simp
      clear g0 g1
      have M := hd' (TkS.set0 HT.o hH (.slice pG (a.gens.length + 1) cG))
      replace HT := hd' (HT.o.set0 (.slice pG (a.gens.length + 1) cG))
      clear hH
      refine hK _ _ M.o (fun hH => ?_)
      clear hK K M
      refine tk 10 (.pointer (some ⟨N5, 1, none⟩)) hH (h := ?_)
      refine tk 11 (.bool true) hH (h := ?_)
      have MS := hd' hH
      refine wpAnyH_done (by kernel_rfl) ?_ _
      clear hH
      show Oper.wp _ _ _ _ _ _
      have g0 := HT.o.X.cell 1 rfl
      have g1 := HT.o.X.frozen 1
      clear MS
      go_simp
      clear g0 g1
      have hT := HT.o.set1 (.slice pL (a.live.length + 1) cL)
      go_wp2_with fail
      go_meet
      case rel => exact ⟨_, _, pG, cG, pL, cL, rfl, rfl, by simpa using hT.X, ⟨by simpa [ivs] using hT.G, by simpa [bvs] using hT.V⟩, hT.S1, hT.S2, hT.M⟩
    ·skip
     go_simp
     have hq : Gou.Mod (fun _ => False) (W3.drew) ((W3.alloc (.cells #[.bool false] 4)).drew) := Gou.Mod.alloc0 (W3.drew) (.cells #[.bool false] 4)
     have HE6 : Hid (Blk ((W3.alloc (.cells #[.bool false] 4)).drew) (W3.heap.size) 4 #[.bool false]) := hd' (Blk.new (W3.drew) 4 #[.bool false])
     replace HT := hd' (HT.o.quiet hq)
     have M := hd' (TkS.quiet hH hq)
     clear hH hq
     obtain ⟨V6_1, hv⟩ : ∃ x, x = (W3.alloc (.cells #[.bool false] 4)).drew := ⟨_, rfl⟩
     obtain ⟨N_V6_1, hn⟩ : ∃ x, x = W3.heap.size := ⟨_, rfl⟩
     rw [← hn] at HE6
     rw [← hn]
     rw [← hv] at HT M HE6
     rw [← hv]
     clear hv hn
     refine hK _ _ M.o (fun hH => ?_)
     clear hK K11 M
     refine rd2 1 2 (h := fun K16 hK => ?_) (g := fun K16 hK => ?_)
     ·skip
      have g0 := HT.o.X.cell 0 rfl
      go_simp
      clear g0
      have M := hd' hH
      clear hH
      refine hK _ _ M.o (fun hH => ?_)
      clear hK K16 M
      refine rd 2 (h := fun K hK => ?_)
      go_simp
      have hq : Gou.Mod (fun _ => False) (V6_1) (V6_1.alloc (.cells #[iV 0] 3)) := Gou.Mod.alloc0 (V6_1) (.cells #[iV 0] 3)
      have HE2 : Hid (Blk (V6_1.alloc (.cells #[iV 0] 3)) (V6_1.heap.size) 3 #[iV 0]) := hd' (Blk.new (V6_1) 3 #[iV 0])
      replace HT := hd' (HT.o.quiet hq)
      replace HE6 := hd' (HE6.o.up hq)
      have M := hd' (TkS.quiet hH hq)
      clear hH hq
      obtain ⟨V2_2, hv⟩ : ∃ x, x = V6_1.alloc (.cells #[iV 0] 3) := ⟨_, rfl⟩
      obtain ⟨N_V2_2, hn⟩ : ∃ x, x = V6_1.heap.size := ⟨_, rfl⟩
      rw [← hn] at HE2
      rw [← hn]
      rw [← hv] at HT M HE6 HE2
      rw [← hv]
      clear hv hn
      refine hK _ _ M.o (fun hH => ?_)
      clear hK K M
      refine rd 3 (h := fun K hK => ?_)
      refine ual ud0 _ _ rfl (W1.heap.size) (.slice p2 a.gens.length c2) (a.gens.length) (ivs a.gens) (fun _ => True) (.slice (some ⟨N_V2_2, 0, none⟩) 1 1) 1 [iV 0] rfl rfl (by have := HT.o.c; have := HT.o.X.lt; omega) HT.o.G (RowG.of_blk HE2.o 1 1 rfl _ trivial) (by simp [Value.oneCell']) (by have := Hlen.o; have := Hn.o; unfold maxLen; omega) (by have := Hlen.o; have := Hn.o; omega) ?_
      intro v7 V3_3 G7
      obtain ⟨pG, cG, rfl⟩ := Gou.ownsRow_form G7.own
      have M := hd' (TkS.appG HT.o hH G7.mod)
      replace HE6 := hd' (HE6.o.mod G7.mod (uan HT.o.G HE6.o (by decide)))
      replace HT := hd' (HT.o.appG G7.mod G7.own)
      clear HE2 G7 hH
      refine hK _ _ M.o (fun hH => ?_)
      clear hK K M
      refine tk 8 (.pointer (some ⟨N5, 0, none⟩)) hH (h := ?_)
      refine rd 7 (h := fun K hK => ?_)
      refine ual ucg _ _ rfl (W1.heap.size) (.slice q2 a.live.length d2) (a.live.length) (bvs a.live) (fun _ => True) (.slice (some ⟨N_V6_1, 0, none⟩) 1 1) 1 [.bool false] rfl rfl (by have := HT.o.c; have := HT.o.X.lt; omega) HT.o.V (RowG.of_blk HE6.o 1 1 rfl _ trivial) (by simp [Value.oneCell']) (by have := Hlen.o; have := Hn.o; unfold maxLen; omega) (by have := Hlen.o; have := Hn.o; omega) ?_
      intro v7 V7_4 G7
      obtain ⟨pL, cL, rfl⟩ := Gou.ownsRow_form G7.own
      have M := hd' (TkS.appV HT.o hH G7.mod)
      replace HT := hd' (HT.o.appV G7.mod G7.own)
      clear HE6 G7 hH
      refine hK _ _ M.o (fun hH => ?_)
      clear hK K M
      refine rd 9 (h := fun K hK => ?_)
      have g0 := HT.o.X.cell 0 rfl
      have g1 := HT.o.X.frozen 0
      go_simp
      clear g0 g1
      have M := hd' (TkS.set0 HT.o hH (.slice pG (a.gens.length + 1) cG))
      replace HT := hd' (HT.o.set0 (.slice pG (a.gens.length + 1) cG))
      clear hH
      refine hK _ _ M.o (fun hH => ?_)
      clear hK K M
      refine tk 10 (.pointer (some ⟨N5, 1, none⟩)) hH (h := ?_)
      refine tk 11 (.bool true) hH (h := ?_)
      have MS := hd' hH
      refine wpAnyH_done (by kernel_rfl) ?_ _
      clear hH
      show Oper.wp _ _ _ _ _ _
      have g0 := HT.o.X.cell 1 rfl
      have g1 := HT.o.X.frozen 1
      clear MS
      go_simp
      clear g0 g1
      have hT := HT.o.set1 (.slice pL (a.live.length + 1) cL)
      go_wp2_with fail
      go_meet
      case rel => exact ⟨_, _, pG, cG, pL, cL, rfl, rfl, by simpa using hT.X, ⟨by simpa [ivs] using hT.G, by simpa [bvs] using hT.V⟩, hT.S1, hT.S2, hT.M⟩
     ·skip
      go_simp
      have hq : Gou.Mod (fun _ => False) (V6_1) (V6_1.alloc (.cells #[iV 0] 3)) := Gou.Mod.alloc0 (V6_1) (.cells #[iV 0] 3)
      have HE2 : Hid (Blk (V6_1.alloc (.cells #[iV 0] 3)) (V6_1.heap.size) 3 #[iV 0]) := hd' (Blk.new (V6_1) 3 #[iV 0])
      replace HT := hd' (HT.o.quiet hq)
      replace HE6 := hd' (HE6.o.up hq)
      have M := hd' (TkS.quiet hH hq)
      clear hH hq
      obtain ⟨V2_2, hv⟩ : ∃ x, x = V6_1.alloc (.cells #[iV 0] 3) := ⟨_, rfl⟩
      obtain ⟨N_V2_2, hn⟩ : ∃ x, x = V6_1.heap.size := ⟨_, rfl⟩
      rw [← hn] at HE2
      rw [← hn]
      rw [← hv] at HT M HE6 HE2
      rw [← hv]
      clear hv hn
      refine hK _ _ M.o (fun hH => ?_)
      clear hK K16 M
      refine rd 1 (h := fun K hK => ?_)
      have g0 := HT.o.X.cell 0 rfl
      go_simp
      clear g0
      have M := hd' hH
      clear hH
      refine hK _ _ M.o (fun hH => ?_)
      clear hK K M
      refine rd 3 (h := fun K hK => ?_)
      refine ual ud0 _ _ rfl (W1.heap.size) (.slice p2 a.gens.length c2) (a.gens.length) (ivs a.gens) (fun _ => True) (.slice (some ⟨N_V2_2, 0, none⟩) 1 1) 1 [iV 0] rfl rfl (by have := HT.o.c; have := HT.o.X.lt; omega) HT.o.G (RowG.of_blk HE2.o 1 1 rfl _ trivial) (by simp [Value.oneCell']) (by have := Hlen.o; have := Hn.o; unfold maxLen; omega) (by have := Hlen.o; have := Hn.o; omega) ?_
      intro v7 V3_3 G7
      obtain ⟨pG, cG, rfl⟩ := Gou.ownsRow_form G7.own
      have M := hd' (TkS.appG HT.o hH G7.mod)
      replace HE6 := hd' (HE6.o.mod G7.mod (uan HT.o.G HE6.o (by decide)))
      replace HT := hd' (HT.o.appG G7.mod G7.own)
      clear HE2 G7 hH
      refine hK _ _ M.o (fun hH => ?_)
      clear hK K M
      refine tk 8 (.pointer (some ⟨N5, 0, none⟩)) hH (h := ?_)
      refine rd 7 (h := fun K hK => ?_)
      refine ual ucg _ _ rfl (W1.heap.size) (.slice q2 a.live.length d2) (a.live.length) (bvs a.live) (fun _ => True) (.slice (some ⟨N_V6_1, 0, none⟩) 1 1) 1 [.bool false] rfl rfl (by have := HT.o.c; have := HT.o.X.lt; omega) HT.o.V (RowG.of_blk HE6.o 1 1 rfl _ trivial) (by simp [Value.oneCell']) (by have := Hlen.o; have := Hn.o; unfold maxLen; omega) (by have := Hlen.o; have := Hn.o; omega) ?_
      intro v7 V7_4 G7
      obtain ⟨pL, cL, rfl⟩ := Gou.ownsRow_form G7.own
      have M := hd' (TkS.appV HT.o hH G7.mod)
      replace HT := hd' (HT.o.appV G7.mod G7.own)
      clear HE6 G7 hH
      refine hK _ _ M.o (fun hH => ?_)
      clear hK K M
      refine rd 9 (h := fun K hK => ?_)
      have g0 := HT.o.X.cell 0 rfl
      have g1 := HT.o.X.frozen 0
      go_simp
      clear g0 g1
      have M := hd' (TkS.set0 HT.o hH (.slice pG (a.gens.length + 1) cG))
      replace HT := hd' (HT.o.set0 (.slice pG (a.gens.length + 1) cG))
      clear hH
      refine hK _ _ M.o (fun hH => ?_)
      clear hK K M
      refine tk 10 (.pointer (some ⟨N5, 1, none⟩)) hH (h := ?_)
      refine tk 11 (.bool true) hH (h := ?_)
      have MS := hd' hH
      refine wpAnyH_done (by kernel_rfl) ?_ _
      clear hH
      show Oper.wp _ _ _ _ _ _
      have g0 := HT.o.X.cell 1 rfl
      have g1 := HT.o.X.frozen 1
      clear MS
      go_simp
      clear g0 g1
      have hT := HT.o.set1 (.slice pL (a.live.length + 1) cL)
      go_wp2_with fail
      go_meet
      case rel => exact ⟨_, _, pG, cG, pL, cL, rfl, rfl, by simpa using hT.X, ⟨by simpa [ivs] using hT.G, by simpa [bvs] using hT.V⟩, hT.S1, hT.S2, hT.M⟩
   case rest =>
    obtain ⟨G, L, pG, cG, pL, cL, hG, hL, hX, hA, h1, h2, hM⟩ := hcut
    have HX := hd' hX
    have HA := hd' hA
    have HS1 := hd' h1
    have HS2 := hd' h2
    have HMM := hd' hM
    have HGe := hd' hG
    have HLe := hd' hL
    have Hl1 : Hid (L.length = a.live.length + 1 ∧ G.length = a.gens.length + 1) := hd' (by rw [hG, hL]; simp)
    have hfin : a.take = some (Ar.mk G (L.set a.live.length true), (((a.live.length : Nat) : Int), G.getD a.live.length 0)) := by
     unfold Ar.take
     rw [Hf.o, hG, hL]
     simp only
     rw [if_neg Hfull.o, List.set_append_right _ _ (Nat.le_refl _)]
     simp [List.getD_eq_getElem?_getD, Hlen.o.symm]
    have Hfin0 := hd' hfin
    clear hX hA h1 h2 hM HB5 Ha3 HR1 HR2 HM3 hG hL hfin
    obtain ⟨gg, rfl, hgg, _⟩ := ub9 HA.o.g (by have := Hl1.o; have := Hlen.o; omega)
    obtain ⟨gl, rfl, hgl, _⟩ := ub9 HA.o.l (by have := Hl1.o; have := Hlen.o; omega)
    have Hgg := hd' hgg
    have Hgl := hd' hgl
    have kl : wc.cell? ⟨gl, a.live.length, none⟩ = some (.bool (L.getD (a.live.length) false)) := ucs HA.o.l (by have := Hl1.o; have := Hlen.o; omega)
    have kf := (ud2 HA.o.l (i := a.live.length) (by have := Hl1.o; have := Hlen.o; omega)).2
    have kg : wc.cell? ⟨gg, a.live.length, none⟩ = some (iV (G.getD (a.live.length) 0)) := uce HA.o.g (by have := Hl1.o; have := Hlen.o; omega)
    have c50 : wc.cell? ⟨N5, 0, none⟩ = some (.slice (some ⟨gg, 0, none⟩) G.length cG) := HX.o.cell 0 rfl
    have c51 : wc.cell? ⟨N5, 1, none⟩ = some (.slice (some ⟨gl, 0, none⟩) L.length cL) := HX.o.cell 1 rfl
    have hlt1 : decide ((0 : Int) ≤ (a.live.length : Nat)) = true := dqt (by omega)
    have hib2 : a.live.length < L.length := by have := Hl1.o; have := Hlen.o; omega
    go_wp2_with fail
    have HS8 := hd' (Gou.Mod.set1 wc gl a.live.length (.bool true))
    have Hl8 : Hid ((wc.setCell ⟨gl, a.live.length, none⟩ (.bool true)).ownsRow W1.heap.size 4 1 (.slice (some ⟨gl, 0, none⟩) L.length cL) L.length (bvs ((L).set (a.live.length) true))) := hd' (by have h := ueo HA.o.l (a.live.length) (.bool true); rw [bvs, List.map_set]; exact h)
    have Hg8 := hd' (uac HA.o.g HS8.o (fun k hk e => ubq (base' := 0) HA.o.g (T := 4) (by decide) k ⟨Nat.zero_le _, by obtain ⟨_, _, cur, cap, h1, _⟩ := uar HA.o.l rfl; rw [e]; exact ⟨cur, h1⟩⟩ hk))
    have hNl : Hid (N5 ≠ gl) := hd' (fun e => uan HA.o.l HX.o (by decide) (by rw [e]; rfl))
    have HB8 := hd' (HX.o.mod HS8.o hNl.out)
    have HR18 := hd' (HS1.o.mod HS8.o (by have := Hgl.o; have := HRlt.o; omega))
    have HR28 := hd' (HS2.o.mod HS8.o (by have := Hgl.o; have := HRlt.o; omega))
    have HM8 := hd' (HMM.o.trans HS8.o (fun k hk e => by have := Hgl.o; have := HRlt.o; omega))
    have hgN : Hid (gg ≠ w.heap.size + 1 ∧ gg ≠ w.heap.size + 1 + 1 ∧ gl ≠ w.heap.size + 1 ∧ gl ≠ w.heap.size + 1 + 1 ∧ N5 ≠ w.heap.size + 1 ∧ N5 ≠ w.heap.size + 1 + 1) := hd' (by have := Hgl.o; have := Hgg.o; have := HRlt.o; have := HNlt.o; omega)
    have hN5 : Hid (¬ (N5 = w.heap.size + 1 ∨ N5 = w.heap.size + 1 + 1)) := hd' (by have := hgN.out; omega)
    have hgg5 : Hid (¬ (gg = w.heap.size + 1 ∨ gg = w.heap.size + 1 + 1)) := hd' (by have := hgN.out; omega)
    have Hfin : Hid (a.take = some (Ar.mk (G) ((L).set (a.live.length) true), (((a.live.length : Nat) : Int), (G).getD (a.live.length) 0))) := hd' Hfin0.o
    clear kl kf c50 c51
    have kg8 : (wc.setCell ⟨gl, a.live.length, none⟩ (.bool true)).cell? ⟨gg, a.live.length, none⟩ = some (iV ((G).getD (a.live.length) 0)) := uce Hg8.o (by have := Hl1.o; have := Hlen.o; omega)
    have c50 : (wc.setCell ⟨gl, a.live.length, none⟩ (.bool true)).cell? ⟨N5, 0, none⟩ = some (.slice (some ⟨gg, 0, none⟩) G.length cG) := HB8.o.cell 0 rfl
    have hib : a.live.length < G.length := by have := Hl1.o; have := Hlen.o; omega
    clear kg
    generalize wc.setCell ⟨gl, a.live.length, none⟩ (.bool true) = W8 at *
    generalize (G).getD (a.live.length) 0 = gv at *
    refine wp_region_held_drew (S := fun w' => Gou.Mod (fun k => k = w.heap.size + 1 ∨ k = w.heap.size + 1 + 1) W8 w') (by kernel_rfl) (Gou.Mod.drew _ _) (fun hH => ?_)
    refine tkR 0 (.agg #[.slice (some ⟨gg, 0, none⟩) G.length cG, .slice (some ⟨gl, 0, none⟩) L.length cL]) HB8.o.whole hN5.out Tryz.underlying28 uae hH (h := ?_)
    refine tk 1 (iV ((a.live.length : Nat) : Int)) hH (h := ?_)
    refine tk 2 (.pointer (some ⟨N5, 0, none⟩)) hH (h := ?_)
    refine tkC 3 c50 hN5.out hH (h := ?_)
    refine tk 4 (iV ((a.live.length : Nat) : Int)) hH (h := ?_)
    refine tk 5 (.pointer (some ⟨gg, a.live.length, none⟩)) hH (h := ?_)
    refine tkC 6 kg8 hgg5.out hH (h := ?_)
    refine tk 7 (.agg #[iV ((a.live.length : Nat) : Int), iV gv]) hH (h := ?_)
    refine rd 8 (h := fun K hK => ?_)
    refine wp_store_mid 28 _ _ rfl (w.heap.size + 1) 0 #[.slice (some ⟨gg, 0, none⟩) G.length cG, .slice (some ⟨gl, 0, none⟩) L.length cL] rfl rfl ((HR18.o.up (Gou.Mod.drew (fun _ => False) W8)).there 0 2 (by simp)) uae (by simp [Value.oneCell']) ?_
    have HT9 := hd' (Blk.setMod W8.drew (w.heap.size + 1) 0 (#[.slice (some ⟨gg, 0, none⟩) G.length cG, .slice (some ⟨gl, 0, none⟩) L.length cL] : Array Value).toList)
    have HR19 := hd' ((HR18.o.up (Gou.Mod.drew (fun _ => False) W8)).setAll #[.slice (some ⟨gg, 0, none⟩) G.length cG, .slice (some ⟨gl, 0, none⟩) L.length cL] rfl)
    have HR29 := hd' ((HR28.o.up (Gou.Mod.drew (fun _ => False) W8)).mod HT9.o (by omega))
    have M := hd' (hH.trans' (HT9.o.imp (fun k _ h => .inl h)))
    have HQ9 := hd' ((Gou.Mod.drew (fun k => k = w.heap.size + 1) W8).trans' HT9.o)
    clear hH HT9
    generalize W8.drew.setCells (w.heap.size + 1) 0 (#[.slice (some ⟨gg, 0, none⟩) G.length cG, .slice (some ⟨gl, 0, none⟩) L.length cL] : Array Value).toList = W9 at *
    refine hK _ _ M.o (fun hH => ?_)
    clear hK K M
    refine rd 9 (h := fun K hK => ?_)
    refine wp_store_mid 30 _ _ rfl (w.heap.size + 1 + 1) 0 #[iV ((a.live.length : Nat) : Int), iV gv] rfl rfl (HR29.o.there 0 2 (by simp)) uaf (by simp [Value.oneCell']) ?_
    have HT10 := hd' (Blk.setMod W9 (w.heap.size + 1 + 1) 0 (#[iV ((a.live.length : Nat) : Int), iV gv] : Array Value).toList)
    have HR110 := hd' (HR19.o.mod HT10.o (by omega))
    have HR210 := hd' (HR29.o.setAll #[iV ((a.live.length : Nat) : Int), iV gv] rfl)
    have M := hd' (hH.trans' (HT10.o.imp (fun k _ h => .inr h)))
    have HQ10 := hd' ((HQ9.o.imp (S' := fun k => k = w.heap.size + 1 ∨ k = w.heap.size + 1 + 1) (fun k _ h => .inl h)).trans' (HT10.o.imp (S' := fun k => k = w.heap.size + 1 ∨ k = w.heap.size + 1 + 1) (fun k _ h => .inr h)))
    clear hH HT10
    generalize W9.setCells (w.heap.size + 1 + 1) 0 (#[iV ((a.live.length : Nat) : Int), iV gv] : Array Value).toList = W10 at *
    refine hK _ _ M.o (fun hH => ?_)
    clear hK K M
    refine tk 10 (.bool true) hH (h := ?_)
    have MS := hd' hH
    refine wpAnyH_done (by kernel_rfl) ?_ _
    clear hH
    go_wp2_with fail
    refine bpr (ubg rfl (ResAt.of rfl HR110.o Tryz.underlying28 rfl uae) (ResAt.of rfl HR210.o Tryz.underlying30 rfl uaf)) rfl ?_
    have hne8 : ∀ k, W1.heap.size ≤ k → ¬ (k = w.heap.size + 1 ∨ k = w.heap.size + 1 + 1) := fun k hk h => by have := HRlt.o; omega
    have HM10 := hd' (HM8.o.trans HQ10.o (fun k hk h => by omega))
    refine ⟨HM10.o, .slice (some ⟨gg, 0, none⟩) G.length cG, .slice (some ⟨gl, 0, none⟩) L.length cL, fun b y hby => ?_, fun hno => by rw [Hfin.o] at hno; cases hno⟩
    rw [Hfin.o] at hby
    cases hby
    exact ⟨rfl, ⟨uaj (uac Hg8.o HQ10.o (fun k hk => hne8 k (uba Hg8.o k hk))) (by have := HRlt.o; omega), uaj (uac (by simpa using Hl8.o) HQ10.o (fun k hk => hne8 k (uba Hl8.o k hk))) (by have := HRlt.o; omega)⟩⟩
end Go.Proofs.YtpbmfalokongfaaGreatDoor
