/- Texts of the scenes' proofs, laid together: SeQ, SeR, SeS, SeB. -/
import Derived.Test.YtpbmfalokongfaaGreatDoorZam
import Derived.Test.YtpbmfalokongfaaGreatDoorZab
import Derived.Test.YtpbmfalokongfaaGreatDoorZaj
set_option maxHeartbeats 64000000
set_option linter.unusedSimpArgs false
set_option linter.unusedVariables false
set_option linter.unusedSectionVars false
set_option linter.constructorNameAsVariable false
namespace Go.Gou
theorem Ly.sameL_of {P : List Ly} : ∀ {Q : List Ly}, P.length = Q.length → (∀ (j : Nat) (a b : Ly), P[j]? = some a → Q[j]? = some b → a.same b = true) → Ly.sameL P Q = true := by
 induction P with
 | nil => intro Q h _; cases Q with
  | nil => rfl
  | cons => simp at h
 | cons a P ih =>
  intro Q h hh
  cases Q with
  | nil => simp at h
  | cons b Q =>
   rw [Ly.sameL, hh 0 a b rfl rfl, ih (by simpa using h) (fun j x y hx hy => hh (j + 1) x y (by simpa using hx) (by simpa using hy))]
   rfl
theorem Ly.sameL_not {P : List Ly} : ∀ {Q : List Ly} {j : Nat} {a b : Ly}, P[j]? = some a → Q[j]? = some b → a.same b = false → Ly.sameL P Q = false := by
 induction P with
 | nil => intro Q j a b h; simp at h
 | cons p P ih =>
  intro Q j a b ha hb hs
  cases Q with
  | nil => simp at hb
  | cons q Q =>
   cases j with
   | zero =>
    simp at ha hb
    subst ha hb
    rw [Ly.sameL, hs]; rfl
   | succ j =>
    rw [Ly.sameL, ih (by simpa using ha) (by simpa using hb) hs, Bool.and_false]
theorem Ly.sameL_len {P : List Ly} : ∀ {Q : List Ly}, P.length ≠ Q.length → Ly.sameL P Q = false := by
 induction P with
 | nil => intro Q h; cases Q with
  | nil => exact absurd rfl h
  | cons => rfl
 | cons a P ih =>
  intro Q h
  cases Q with
  | nil => rfl
  | cons b Q => rw [Ly.sameL, ih (fun e => h (by simp [e])), Bool.and_false]
theorem LkFit.borne {l : Lk} (h : LkFit l) : ufb l := ⟨by have := h.pix; omega, ⟨by have := h.filt.1; omega, fun i n hn => by have := h.filt.2 n (lmG hn); omega⟩, ⟨by have := h.back.1; omega, fun i n hn => by have := h.back.2 n (lmG hn); omega⟩⟩
end Go.Gou
namespace Go.Proofs.YtpbmfalokongfaaGreatDoor
open Go.RowKit Go.Gou
set_option maxRecDepth 100000
theorem udy : ∀ (T U : Ly) (G1 G2 : Nat → Prop) (w : World) (vp vf vb vk up uf ub uk : Value), LyR G1 w (lyA T.id T.look vp vf vb vk).toList T → LyR G2 w (lyA U.id U.look up uf ub uk).toList U → TFit T → TFit U →
 Calls Tryz.prog 18 #[.agg (lyA T.id T.look vp vf vb vk), .agg (lyA U.id U.look up uf ub uk)] w fun e w' => e = .returned (.bool (T.same U)) ∧ Gou.Mod (fun _ => False) w w' := by
 intro T
 induction T using Ly.ind with
 | h i lk ks ih =>
  intro U G1 G2 w vp vf vb vk up uf ub uk hr hs hft hfu
  obtain ⟨u, lu, us⟩ := U
  obtain ⟨hl, css, hrow, hcl, hk⟩ := hr.parts
  obtain ⟨hlu, csu, hrou, hcu, hku⟩ := hs.parts
  simp only [Ly.id_mk, Ly.look_mk, Ly.kids_mk] at hl hrow hcl hk hlu hrou hcu hku ⊢
  obtain ⟨pk, ck, rfl⟩ := RowG.slice hrow
  obtain ⟨qk, dk, rfl⟩ := RowG.slice hrou
  obtain ⟨⟨pp, cp, rfl⟩, ⟨pf, cf, rfl⟩, ⟨pb, cb, rfl⟩⟩ := hl.forms
  obtain ⟨⟨qp, dp, rfl⟩, ⟨qf, df, rfl⟩, ⟨qb, db, rfl⟩⟩ := hlu.forms
  have Hl := hd' hl
  have Hlu := hd' hlu
  have Hrow := hd' hrow
  have Hrou := hd' hrou
  have Hcl := hd' hcl
  have Hcu := hd' hcu
  have Hk := hd' hk
  have Hku := hd' hku
  have Hft := hd' hft
  have Hfu := hd' hfu
  have Ih := hd' ih
  have hlen := hft.len
  rw [Ly.kids_mk] at hlen
  have Hlen := hd' hlen
  have Hsame : Hid ((Ly.mk i lk ks).same (.mk u lu us) = (decide (i = u) && (decide (lk = lu) && Ly.sameL ks us))) := hd' (by rw [Ly.same])
  obtain ⟨b0, b1, bm⟩ := uaw w 45 45 (lyS i lk pp cp pf cf pb cb (.slice pk ks.length ck)) (lyS u lu qp dp qf df qb db (.slice qk us.length dk))
  have HB := hd' b0
  have HU := hd' b1
  have HM := hd' bm
  clear hl hlu hrow hrou hcl hcu hk hku hr hs hft hfu ih hlen b0 b1 bm
  go_enter Tryz.func18, Tryz.ntmps18
  go_upto_region 1 with fail
  show Code.wp _ _ _ _ ((w.alloc (.cells (lyS i lk pp cp pf cf pb cb (.slice pk ks.length ck)) 45)).alloc (.cells (lyS u lu qp dp qf df qb db (.slice qk us.length dk)) 45))
  generalize (w.alloc (.cells (lyS i lk pp cp pf cf pb cb (.slice pk ks.length ck)) 45)).alloc (.cells (lyS u lu qp dp qf df qb db (.slice qk us.length dk)) 45) = W1 at *
  have c0 : W1.cell? ⟨w.heap.size, 0, none⟩ = some (iV i.1) := HB.o.cell 0 rfl
  have c1 : W1.cell? ⟨w.heap.size, 1, none⟩ = some (iV i.2) := HB.o.cell 1 rfl
  have d0 : W1.cell? ⟨w.heap.size + 1, 0, none⟩ = some (iV u.1) := HU.o.cell 0 rfl
  have d1 : W1.cell? ⟨w.heap.size + 1, 1, none⟩ = some (iV u.2) := HU.o.cell 1 rfl
  have hid := fun (w' : World) => id_ne i u w'
  by_cases hiu : i = u
  ·have ez : (!decide (i = u)) = false := by simp [hiu]
   rw [ez] at hid
   have Hiu := hd' hiu
   clear ez hiu
   have HLr : Hid (W1.rangeAt w.heap.size 2 (lkS lk pp cp pf cf pb cb).toList) := hd' (Blk.range (pre := [iV i.1, iV i.2]) (post := [.slice pk ks.length ck]) HB.o rfl rfl)
   have HUr : Hid (W1.rangeAt (w.heap.size + 1) 2 (lkS lu qp dp qf df qb db).toList) := hd' (Blk.range (pre := [iV u.1, iV u.2]) (post := [.slice qk us.length dk]) HU.o rfl rfl)
   go_wp2_with (first | ((with_reducible refine lT 42 ?_); refine ldG HLr.o Tryz.underlying42 uad (h := ?_)) | ((with_reducible refine lT 42 ?_); refine ldG HUr.o Tryz.underlying42 uad (h := ?_)) | fail)
   refine (lookR_any _ G1 G2 pp pf pb qp qf qb cp cf cb dp df db lk lu (Hl.o.mod HM.o (fun _ _ _ h => h)) (Hlu.o.mod HM.o (fun _ _ _ h => h)) Hft.o.look.borne Hfu.o.look.borne).mono ?_
   rintro e w2 ⟨rfl, hm2⟩
   have HM2 := hd' (HM.o.trans' hm2)
   have HB2 := hd' (HB.o.up hm2)
   have HU2 := hd' (HU.o.up hm2)
   clear hm2 c0 c1 d0 d1 hid HLr HUr HB HU HM
   have c30 : w2.cell? ⟨w.heap.size, 30, none⟩ = some (.slice pk ks.length ck) := HB2.o.cell 30 rfl
   have d30 : w2.cell? ⟨w.heap.size + 1, 30, none⟩ = some (.slice qk us.length dk) := HU2.o.cell 30 rfl
   by_cases hlk : lk = lu
   ·rw [dqt hlk]
    have Hs2 : Hid ((Ly.mk i lk ks).same (.mk u lu us) = Ly.sameL ks us) := hd' (by rw [Hsame.o, dqt Hiu.o, dqt hlk]; rfl)
    clear hlk
    by_cases hn : ks.length = us.length
    ·have e1 : ((ks.length : Int) != (us.length : Int)) = false := by rw [bnf]; omega
     have Hn := hd' hn
     clear hn
     go_upto_region 3 with fail
     clear e1 c30 d30
     go_wp2_with fail
     go_loopw [5] (fun vi wr => ∃ j : Nat, vi = iV j ∧ j ≤ ks.length ∧ (∀ (t : Nat) (a b : Ly), t < j → ks[t]? = some a → us[t]? = some b → a.same b = true) ∧ Gou.Mod (fun _ => False) w2 wr) (fun vi _ => ks.length - (intOf vi).toNat)
     case atStart => exact ⟨0, rfl, Nat.zero_le _, fun t a b h => absurd h (Nat.not_lt_zero _), Gou.Mod.refl _ _⟩
     case round =>
      obtain ⟨j, rfl, hj, hall, hm⟩ := hrel
      have Hall := hd' hall
      have Hm := hd' hm
      have HMw := hd' (HM2.o.trans' hm)
      have c30 : wr.cell? ⟨w.heap.size, 30, none⟩ = some (.slice pk ks.length ck) := (HB2.o.up hm).cell 30 rfl
      have d30 : wr.cell? ⟨w.heap.size + 1, 30, none⟩ = some (.slice qk us.length dk) := (HU2.o.up hm).cell 30 rfl
      clear hm hall
      by_cases hil : j < ks.length
      ·have hil2 : j < us.length := by rw [← Hn.o]; exact hil
       obtain ⟨b, o, kp, kf, kb, kk, rfl, hbl, _, hrg, hkr⟩ := LyR.kidR Hrow.o Hcl.o rfl Hk.o hil
       obtain ⟨b', o', ep, ef, eb, ek, rfl, hbl', _, hrg', hkr'⟩ := LyR.kidR Hrou.o Hcu.o rfl Hku.o hil2
       have Hrg := hd' (uax hrg HMw.o (fun h => h))
       have Hrg' := hd' (uax hrg' HMw.o (fun h => h))
       have Hik : Hid (∀ w', Gou.Mod (fun _ => False) wr w' → Calls Tryz.prog 18 #[.agg (lyA ks[j].id ks[j].look kp kf kb kk), .agg (lyA us[j].id us[j].look ep ef eb ek)] w' fun e w4 => e = .returned (.bool (ks[j].same us[j])) ∧ Gou.Mod (fun _ => False) w' w4) := hd' (fun w' hw' =>
        Ih.o ks[j] (lgM hil) us[j] G1 G2 w' kp kf kb kk ep ef eb ek (hkr.up (HMw.o.trans' hw')) (hkr'.up (HMw.o.trans' hw')) (Hft.o.kids _ (by rw [Ly.kids_mk]; exact lgM hil)) (Hfu.o.kids _ (by rw [Ly.kids_mk]; exact lgM hil2)))
       have Hyes : Hid (ks[j].same us[j] = true → ∀ (t : Nat) (a b : Ly), t < j + 1 → ks[t]? = some a → us[t]? = some b → a.same b = true) := hd' (fun h t a b ht ha hb => by
        by_cases he : t = j
        ·subst he
         rw [lgE hil, Option.some.injEq] at ha
         rw [lgE hil2, Option.some.injEq] at hb
         rw [← ha, ← hb]; exact h
        ·exact Hall.o t a b (by omega) ha hb)
       have Hno : Hid (ks[j].same us[j] = false → (Ly.mk i lk ks).same (.mk u lu us) = false) := hd' (fun h => by rw [Hs2.o]; exact Ly.sameL_not (lgE hil) (lgE hil2) h)
       have hwi : wrap64 ((j : Int) + 1) = ((j + 1 : Nat) : Int) := by have := Hlen.o; unfold wrap64; omega
       have Hil := hd' hil
       have Hil2 : Hid ((j : Int) < (us.length : Int)) := hd' (by omega)
       have hj2 := Hil2.o
       clear hrg hrg' hkr hkr' hbl hbl'
       generalize ks[j] = kd at *
       generalize us[j] = ke at *
       go_upto_region 6 with fail
       refine wp_region_held_drew (S := fun w' => Gou.Mod (fun _ => False) wr w') (by kernel_rfl) (Gou.Mod.drew _ _) (fun hH => ?_)
       refine tk 0 (.pointer (some ⟨w.heap.size, 30, none⟩)) hH (h := ?_)
       refine tkC 1 c30 (fun h => h) hH (h := ?_)
       refine tk 2 (iV (j : Int)) hH (h := ?_)
       refine tk 3 (.pointer (some ⟨b, o + j * 31, none⟩)) hH (h := ?_)
       refine tkR 4 (.agg (lyA kd.id kd.look kp kf kb kk)) Hrg.o (fun h => h) Tryz.underlying45 uaa hH (h := ?_)
       refine tk 5 (.pointer (some ⟨(w.heap.size + 1), 30, none⟩)) hH (h := ?_)
       refine tkC 6 d30 (fun h => h) hH (h := ?_)
       refine tk 7 (iV (j : Int)) hH (h := ?_)
       refine tk 8 (.pointer (some ⟨b', o' + j * 31, none⟩)) hH (h := ?_)
       refine tkR 9 (.agg (lyA ke.id ke.look ep ef eb ek)) Hrg'.o (fun h => h) Tryz.underlying45 uaa hH (h := ?_)
       refine rd 10 (h := fun K hK => ?_)
       go_simp
       refine (Hik.o _ (Gou.Mod.drew _ _)).mono ?_
       rintro e w4 ⟨rfl, hm4⟩
       have HM4 := hd' ((Gou.Mod.drew (fun _ => False) wr).trans' hm4)
       have M := hd' (hH.trans' hm4)
       clear hH hm4
       refine hK _ _ M.o (fun hH => ?_)
       clear hK K M
       try simp only [Act.put, uSa, uSb, uSc]
       refine tk 11 (.bool (!kd.same ke)) hH (h := ?_)
       have MS := hd' hH
       refine wpAnyH_done (by kernel_rfl) ?_ _
       clear hH
       clear MS
       cases hs : kd.same ke
       ·have Hf := hd' (Hno.o hs)
        clear hs
        go_wp2_with fail
        go_ret
        exact ⟨by rw [Hf.o]; rfl, HMw.o.trans' HM4.o⟩
       ·have Hy := hd' (Hyes.o hs)
        clear hs
        go_wp2_with fail
        go_roundw
        case rel => exact ⟨j + 1, by rw [← hwi], by have := Hil.o; omega, Hy.o, Hm.o.trans' HM4.o⟩
        case measure => rw [hwi]; have := Hil.o; simp only [intOf]; omega
      ·have hje : j = ks.length := by omega
       subst hje
       have Ht : Hid ((Ly.mk i lk ks).same (.mk u lu us) = true) := hd' (by
        rw [Hs2.o]
        exact Ly.sameL_of Hn.o (fun t a b ha hb => Hall.o t a b (lgS.1 ha).1 ha hb))
       clear hj hil
       go_wp2_with fail
       go_ret
       exact ⟨by rw [Ht.o]; rfl, HMw.o⟩
    ·have e1 : ((ks.length : Int) != (us.length : Int)) = true := by rw [bne_iff_ne]; omega
     have Hf : Hid ((Ly.mk i lk ks).same (.mk u lu us) = false) := hd' (by rw [Hs2.o, Ly.sameL_len hn])
     clear hn
     go_wp2_with fail
     go_ret
     exact ⟨by rw [Hf.o]; rfl, HM2.o⟩
   ·rw [dqf hlk]
    have Hf : Hid ((Ly.mk i lk ks).same (.mk u lu us) = false) := hd' (by rw [Hsame.o, dqf hlk]; simp)
    clear hlk
    go_wp2_with fail
    go_ret
    exact ⟨by rw [Hf.o]; rfl, HM2.o⟩
  ·have ez : (!decide (i = u)) = true := by simp [hiu]
   rw [ez] at hid
   have Hf : Hid ((Ly.mk i lk ks).same (.mk u lu us) = false) := hd' (by rw [Hsame.o, dqf hiu]; rfl)
   clear ez hiu
   go_wp2_with fail
   go_ret
   exact ⟨by rw [Hf.o]; rfl, HM.o⟩
end Go.Proofs.YtpbmfalokongfaaGreatDoor
namespace Go.Gou
def Sn.sameB (s t : Sn) : Bool := decide (s.arena = t.arena) && s.root.same t.root
theorem Sn.sameB_iff (s t : Sn) : s.sameB t = true ↔ s = t := by
 unfold Sn.sameB
 rw [Bool.and_eq_true, decide_eq_true_eq, Ly.same_iff]
 cases s; cases t
 simp
end Go.Gou
namespace Go.Proofs.YtpbmfalokongfaaGreatDoor
open Go.RowKit Go.Gou
set_option maxRecDepth 100000
theorem uhx (w : World) (G1 G2 : Nat → Prop) (v u : Value) (s t : Sn) (hs : SnR G1 w v s) (ht : SnR G2 w u t) (hfs : TFit s.root) (hft : TFit t.root) (hn : s.arena.gens.length ≤ 1000000) (hl : s.arena.live.length ≤ 1000000) :
 Calls Tryz.prog 14 #[v, u] w fun e w' => e = .returned (.bool (s.sameB t)) ∧ Gou.Mod (fun _ => False) w w' := by
 obtain ⟨vg, vl, vp, vf, vb, vk, rfl, ha, hr⟩ := hs
 obtain ⟨ug, ul, up, uf, ub, uk, rfl, hb, hu⟩ := ht
 have Hb : Hid (s.sameB t = (decide (s.arena = t.arena) && s.root.same t.root)) := hd' rfl
 have Ha := hd' ha
 have Hr := hd' hr
 have Hbb := hd' hb
 have Hu := hd' hu
 have Hfs := hd' hfs
 have Hft := hd' hft
 have Hn := hd' hn
 have Hl := hd' hl
 obtain ⟨b0, b1, bm⟩ := uaw w 47 47 (scA vg vl s.root.id s.root.look vp vf vb vk) (scA ug ul t.root.id t.root.look up uf ub uk)
 have HS := hd' b0
 have HT := hd' b1
 have HM := hd' bm
 clear ha hr hb hu hfs hft hn hl b0 b1 bm
 go_enter Tryz.func14, Tryz.ntmps14
 go_upto_region 1 with fail
 show Code.wp _ _ _ _ ((w.alloc (.cells (scA vg vl s.root.id s.root.look vp vf vb vk) 47)).alloc (.cells (scA ug ul t.root.id t.root.look up uf ub uk) 47))
 generalize (w.alloc (.cells (scA vg vl s.root.id s.root.look vp vf vb vk) 47)).alloc (.cells (scA ug ul t.root.id t.root.look up uf ub uk) 47) = W1 at *
 have c0 : W1.cell? ⟨w.heap.size, 0, none⟩ = some vg := HS.o.cell 0 rfl
 have c1 : W1.cell? ⟨w.heap.size, 1, none⟩ = some vl := HS.o.cell 1 rfl
 have d0 : W1.cell? ⟨w.heap.size + 1, 0, none⟩ = some ug := HT.o.cell 0 rfl
 have d1 : W1.cell? ⟨w.heap.size + 1, 1, none⟩ = some ul := HT.o.cell 1 rfl
 go_wp2_with fail
 refine (sameA_any _ _ _ _ _ s.arena t.arena (Ha.o.reads.up HM.o) (Hbb.o.reads.up HM.o) Hn.o Hl.o).mono ?_
 rintro e w2 ⟨rfl, hm2⟩
 have HM2 := hd' (HM.o.trans' hm2)
 have HSr : Hid (w2.rangeAt w.heap.size 2 (lyA s.root.id s.root.look vp vf vb vk).toList) := hd' (Blk.range (pre := [vg, vl]) (post := []) (HS.o.up hm2) (by rw [List.append_nil]; rfl) rfl)
 have HTr : Hid (w2.rangeAt (w.heap.size + 1) 2 (lyA t.root.id t.root.look up uf ub uk).toList) := hd' (Blk.range (pre := [ug, ul]) (post := []) (HT.o.up hm2) (by rw [List.append_nil]; rfl) rfl)
 clear hm2 c0 c1 d0 d1
 by_cases he : s.arena = t.arena
 ·rw [dqt he] at Hb ⊢
  clear he
  go_wp2_with (first | ((with_reducible refine lT 45 ?_); refine ldG HSr.o Tryz.underlying45 uaa (h := ?_)) | ((with_reducible refine lT 45 ?_); refine ldG HTr.o Tryz.underlying45 uaa (h := ?_)) | fail)
  refine (udy s.root t.root G1 G2 _ _ _ _ _ _ _ _ _ (Hr.o.up HM2.o) (Hu.o.up HM2.o) Hfs.o Hft.o).mono ?_
  rintro e w3 ⟨rfl, hm3⟩
  have HM3 := hd' (HM2.o.trans' hm3)
  clear hm3
  go_wp2_with fail
  go_ret
  exact ⟨by rw [Hb.o]; rfl, HM3.o⟩
 ·rw [dqf he] at Hb ⊢
  clear he
  go_wp2_with fail
  go_ret
  exact ⟨by rw [Hb.o]; rfl, HM2.o⟩
end Go.Proofs.YtpbmfalokongfaaGreatDoor
namespace Go.Gou
theorem doR_set {n : Nat} {s : Sn} (hI : Inv n s) (check : Gr → Int) (o : Opr) (h1 : 5 ≤ o.kind) (h2 : o.kind ≤ 11) (h : ubo s.arena o = false) : ∃ x d, s.root.find o.id = some (x, d) ∧
 doP check s o = if (uas check x.look o).2 ≠ 0 then (s, (0, 0), (uas check x.look o).2) else (⟨s.arena, s.root.looks o.id (uas check x.look o).1⟩, (0, 0), 0) := by
 obtain ⟨π, x, p1, p2, p3, p4⟩ := Ly.findable ((hI.iff o.id).2 (uc1 h (by omega)))
 refine ⟨x, π.length, p3, ?_⟩
 unfold doP
 rw [if_neg (by omega), if_neg (by rw [h]; simp), if_pos (by omega), p3]
theorem doR_ins {n : Nat} {s : Sn} (hI : Inv n s) (check : Gr → Int) (o : Opr) (h1 : o.kind = 1) (h : ubo s.arena o = false) : ∃ x d, s.root.find o.to = some (x, d) ∧
 doP check s o = if o.at_ < 0 ∨ (x.kids.length : Int) < o.at_ ∨ 64 ≤ d then (s, (0, 0), 3) else if s.arena.takeO.2.2 = true then (⟨s.arena.takeO.1, s.root.with_ o.to o.at_ (.mk s.arena.takeO.2.1 Lk.plain [])⟩, s.arena.takeO.2.1, 0) else (s, (0, 0), 9) := by
 obtain ⟨π, x, p1, p2, p3, p4⟩ := Ly.findable ((hI.iff o.to).2 (ud1 h (.inl h1)))
 refine ⟨x, π.length, p3, ?_⟩
 unfold doP Ar.takeO
 rw [if_neg (by omega), if_neg (by rw [h]; simp), if_neg (by omega), if_pos h1, p3]
 cases s.arena.take with
 | none => simp
 | some p => obtain ⟨a, y⟩ := p; simp
theorem doR_rem {s : Sn} (check : Gr → Int) (o : Opr) {π : List Nat} {i : Nat} {q k T2 : Ly} (hO : OutAt s o π i q k T2) (hk : o.kind = 2) (h : ubo s.arena o = false) (hid : o.id ≠ (0, 0)) : doP check s o = (⟨k.ids.foldl Ar.free s.arena, s.root.without o.id⟩, (0, 0), 0) := by
 rw [hO.rest]; exact ucl check o hO hk h hid
theorem doR_reo {n : Nat} {s : Sn} (hI : Inv n s) (check : Gr → Int) (o : Opr) {π : List Nat} {i : Nat} {q k T2 : Ly} (hO : OutAt s o π i q k T2) (hk : o.kind = 4) (h : ubo s.arena o = false) (hid : o.id ≠ (0, 0)) :
 ∃ x d, s.root.parent o.id = some q ∧ (s.root.without o.id).find q.id = some (x, d) ∧ d ≤ 64 ∧ doP check s o = if o.at_ < 0 ∨ (x.kids.length : Int) < o.at_ ∨ 64 < d + 1 + k.height then (s, (0, 0), 3) else (⟨s.arena, (s.root.without o.id).with_ q.id o.at_ k⟩, (0, 0), 0) := by
 have hp : s.root.parent o.id = some q := by rw [Ly.parent_eq, hO.par]; simp only [Option.bind_some, hO.get]
 have hg : T2.get? π = some (.mk q.id q.look (q.kids.eraseIdx i)) := by
  obtain ⟨p', q', k', g1, g2, g3, g4, g5, g6, g7, g8, g9, g10⟩ := Ly.without_facts hI.nd ((hI.iff o.id).2 (uc1 h (by omega))) (fun e => hid (by rw [← e, hI.root]))
  rw [hO.par] at g1
  cases g1
  rw [hO.get] at g2
  cases g2
  rw [hO.rest] at g10
  exact g10
 have hf := Ly.find_of_get (x := q.id) hO.nd hg rfl
 refine ⟨_, _, hp, by rw [hO.rest]; exact hf, by have := hO.kdeep; omega, ?_⟩
 unfold doP
 rw [if_neg (by omega), if_neg (by rw [h]; simp), if_neg (by omega), if_neg (by omega), if_neg hid, hO.found]
 simp only
 rw [if_neg (by omega), if_neg (by omega), hp]
 simp only
 rw [hO.rest, hf]
theorem doR_cyc {s : Sn} (check : Gr → Int) (o : Opr) {π : List Nat} {i : Nat} {q k T2 : Ly} (hO : OutAt s o π i q k T2) (hk : o.kind = 3) (h : ubo s.arena o = false) (hid : o.id ≠ (0, 0)) {x : Ly × Nat} (hto : k.find o.to = some x) : doP check s o = (s, (0, 0), 5) := by
 unfold doP
 rw [if_neg (by omega), if_neg (by rw [h]; simp), if_neg (by omega), if_neg (by omega), if_neg hid, hO.found]
 simp only
 rw [if_neg (by omega), if_pos hk, if_pos (by rw [hto]; rfl)]
theorem doR_rep {n : Nat} {s : Sn} (hI : Inv n s) (check : Gr → Int) (o : Opr) {π : List Nat} {i : Nat} {q k T2 : Ly} (hO : OutAt s o π i q k T2) (hk : o.kind = 3) (h : ubo s.arena o = false) (hid : o.id ≠ (0, 0)) (hto : k.find o.to = none) :
 ∃ x d, (s.root.without o.id).find o.to = some (x, d) ∧ d ≤ 64 ∧ doP check s o = if o.at_ < 0 ∨ (x.kids.length : Int) < o.at_ ∨ 64 < d + 1 + k.height then (s, (0, 0), 3) else (⟨s.arena, (s.root.without o.id).with_ o.to o.at_ k⟩, (0, 0), 0) := by
 have hin := (hI.iff o.to).2 (ud1 h (.inr hk))
 have hin2 : o.to ∈ T2.ids := by
  rcases List.mem_append.1 (hO.perm.mem_iff.1 hin) with hh | hh
  ·exact absurd hh (Ly.find_none.1 hto)
  ·exact hh
 obtain ⟨σ, x, p1, p2, p3, p4⟩ := Ly.findable hin2
 have hl := Ly.get_height p2
 have hd := hO.deep
 refine ⟨x, σ.length, by rw [hO.rest]; exact p3, by omega, ?_⟩
 unfold doP
 rw [if_neg (by omega), if_neg (by rw [h]; simp), if_neg (by omega), if_neg (by omega), if_neg hid, hO.found]
 simp only
 rw [if_neg (by omega), if_pos hk, if_neg (by rw [hto]; simp), hO.rest, p3]
theorem OutAt.lks {s : Sn} {o : Opr} {π : List Nat} {i : Nat} {q k T2 : Ly} (hO : OutAt s o π i q k T2) (hs : uij s) : ∀ x ∈ (s.root.without o.id).lks, LkFit x := by
 rw [hO.rest, ← hO.out]
 intro x hx
 rcases Ly.lks_put hO.get x hx with hx | hx
 ·exact hs x hx
 ·rw [Ly.lks_mk, List.mem_cons] at hx
  rcases hx with rfl | hx
  ·refine hs _ (Ly.lks_get hO.get _ ?_)
   cases q; rw [Ly.lks_mk]; exact List.mem_cons_self ..
  ·exact hs _ (Ly.lks_get hO.get _ (Ly.kids_lks (Ly.lks_erase hx)))
theorem OutAt.fit {s : Sn} {o : Opr} {π : List Nat} {i : Nat} {q k T2 : Ly} (hO : OutAt s o π i q k T2) (hs : uij s) (hn : s.root.ids.length ≤ 1000) : TFit (s.root.without o.id) ∧ (s.root.without o.id).height ≤ 1000 :=
 ⟨Ly.fit_of _ (hO.lks hs) (by have := hO.perm.length_eq; rw [List.length_append] at this; rw [hO.rest]; omega), by rw [hO.rest]; have := hO.deep; omega⟩
theorem uee (vg vl : Value) (i : Idt) (l : Lk) (vp vf vb vk ug ul : Value) : uao (scA vg vl i l vp vf vb vk) 0 [ug, ul] = scA ug ul i l vp vf vb vk := by
 simp only [uao, scA, List.setIfInBounds_toArray, List.set_cons_succ, List.set_cons_zero]
theorem uby (vg vl : Value) (i j : Idt) (l m : Lk) (vp vf vb vk up uf ub uk : Value) : uao (scA vg vl i l vp vf vb vk) 2 (lyA j m up uf ub uk).toList = scA vg vl j m up uf ub uk := by
 simp only [lyA, uao, scA, List.setIfInBounds_toArray, List.set_cons_succ, List.set_cons_zero]
end Go.Gou
namespace Go.Proofs.YtpbmfalokongfaaGreatDoor
open Go.RowKit Go.Gou
set_option maxRecDepth 100000
def DoRP (G : Nat → Prop) (w : World) (r : Sn × Idt × Int) (e : Ending) (w' : World) : Prop := ∃ v', e = .returned (.tuple #[v', .agg #[iV r.2.1.1, iV r.2.1.2], iV r.2.2]) ∧ SnR (fun b => G b ∨ w.heap.size ≤ b) w' v' r.1 ∧ Gou.Mod (fun _ => False) w w'
structure DoB (G : Nat → Prop) (w W : World) (N : Nat) (s : Sn) (o : Opr) (vg vl vp vf vb vk wp wf wb : Value) : Prop where
 sc : Blk W w.heap.size 47 (scA vg vl s.root.id s.root.look vp vf vb vk)
 oc : Blk W (w.heap.size + 1) 53 (oprC o wp wf wb)
 r1 : Blk W (w.heap.size + 1 + 1) 47 scZ
 r2 : Blk W (w.heap.size + 1 + 1 + 1) 30 iiZ
 n : Blk W N 30 iiZ
 lt : w.heap.size + 1 + 1 + 1 < N
 m : Gou.Mod (fun _ => False) w W
 g : ∀ b, G b → b < w.heap.size
 ar : ArG G W vg vl s.arena
 ly : LyR G W (lyA s.root.id s.root.look vp vf vb vk).toList s.root
 lk : LookR G W o.look wp wf wb
section
variable {G : Nat → Prop} {w W W' : World} {N : Nat} {s : Sn} {o : Opr} {vg vl vp vf vb vk wp wf wb : Value}
theorem DoB.mod {S : Nat → Prop} (h : DoB G w W N s o vg vl vp vf vb vk wp wf wb) (hm : Gou.Mod S W W') (hS : ∀ k, S k → N < k) : DoB G w W' N s o vg vl vp vf vb vk wp wf wb := by
 have hl := h.lt
 have hz := h.g
 exact ⟨h.sc.mod hm (fun e => by have := hS _ e; omega), h.oc.mod hm (fun e => by have := hS _ e; omega), h.r1.mod hm (fun e => by have := hS _ e; omega), h.r2.mod hm (fun e => by have := hS _ e; omega), h.n.mod hm (fun e => by have := hS _ e; omega), hl, h.m.trans hm (fun k hk e => by have := hS _ e; omega), hz,
     h.ar.mod hm (fun k _ hg e => by have := hS _ e; have := hz _ hg; omega), h.ly.mod hm (fun k _ hg e => by have := hS _ e; have := hz _ hg; omega), h.lk.mod hm (fun k _ hg e => by have := hS _ e; have := hz _ hg; omega)⟩
theorem DoB.up (h : DoB G w W N s o vg vl vp vf vb vk wp wf wb) (hm : Gou.Mod (fun _ => False) W W') : DoB G w W' N s o vg vl vp vf vb vk wp wf wb := h.mod hm (fun _ e => e.elim)
theorem DoB.root (h : DoB G w W N s o vg vl vp vf vb vk wp wf wb) : W.rangeAt w.heap.size 2 (lyA s.root.id s.root.look vp vf vb vk).toList := Blk.range (pre := [vg, vl]) (post := []) h.sc (by rw [List.append_nil]; rfl) rfl
theorem DoB.s0 (h : DoB G w W N s o vg vl vp vf vb vk wp wf wb) : W.cell? ⟨w.heap.size, 0, none⟩ = some (vg) := h.sc.cell 0 rfl
theorem DoB.s1 (h : DoB G w W N s o vg vl vp vf vb vk wp wf wb) : W.cell? ⟨w.heap.size, 1, none⟩ = some (vl) := h.sc.cell 1 rfl
theorem DoB.c0 (h : DoB G w W N s o vg vl vp vf vb vk wp wf wb) : W.cell? ⟨w.heap.size + 1, 0, none⟩ = some (iV o.kind) := h.oc.cell 0 rfl
theorem DoB.i0 (h : DoB G w W N s o vg vl vp vf vb vk wp wf wb) : W.cell? ⟨w.heap.size + 1, 1, none⟩ = some (iV o.id.1) := h.oc.cell 1 rfl
theorem DoB.i1 (h : DoB G w W N s o vg vl vp vf vb vk wp wf wb) : W.cell? ⟨w.heap.size + 1, 2, none⟩ = some (iV o.id.2) := h.oc.cell 2 rfl
theorem DoB.t0 (h : DoB G w W N s o vg vl vp vf vb vk wp wf wb) : W.cell? ⟨w.heap.size + 1, 3, none⟩ = some (iV o.to.1) := h.oc.cell 3 rfl
theorem DoB.t1 (h : DoB G w W N s o vg vl vp vf vb vk wp wf wb) : W.cell? ⟨w.heap.size + 1, 4, none⟩ = some (iV o.to.2) := h.oc.cell 4 rfl
theorem DoB.a0 (h : DoB G w W N s o vg vl vp vf vb vk wp wf wb) : W.cell? ⟨w.heap.size + 1, 5, none⟩ = some (iV o.at_) := h.oc.cell 5 rfl
theorem DoB.n0 (h : DoB G w W N s o vg vl vp vf vb vk wp wf wb) : W.cell? ⟨N, 0, none⟩ = some (iV 0) := h.n.cell 0 rfl
theorem DoB.n1 (h : DoB G w W N s o vg vl vp vf vb vk wp wf wb) : W.cell? ⟨N, 1, none⟩ = some (iV 0) := h.n.cell 1 rfl
theorem DoB.gw (h : DoB G w W N s o vg vl vp vf vb vk wp wf wb) : ∀ b, G b → b < W.heap.size := fun b hb => Nat.lt_of_lt_of_le (h.g b hb) h.m.size
theorem DoB.sn (h : DoB G w W N s o vg vl vp vf vb vk wp wf wb) : SnR (fun b => G b ∨ w.heap.size + 1 + 1 + 1 < b) W (.agg (scA vg vl s.root.id s.root.look vp vf vb vk)) s :=
 ⟨_, _, _, _, _, _, rfl, h.ar.imp (fun _ h => .inl h), h.ly.imp (fun _ _ h => .inl h)⟩
theorem DoB.fin {c : Array Value} {r : Sn × Idt × Int} {i : Idt} {y : Int} {W9 : World} (h : DoB G w W N s o vg vl vp vf vb vk wp wf wb) (hs : SnR (fun b => G b ∨ w.heap.size + 1 + 1 + 1 < b) W (.agg c) r.1) (hm : Gou.Mod (fun k => k = w.heap.size + 1 + 1 ∨ k = w.heap.size + 1 + 1 + 1) W W9) (hi : r.2.1 = i) (hy : r.2.2 = y) :
 DoRP G w r (.returned (.tuple #[.agg c, .agg #[iV i.1, iV i.2], iV y])) W9 := by
 subst hi hy
 refine ⟨_, rfl, (hs.mod hm (fun k _ hg e => ?_)).imp (fun k _ hg => ?_), h.m.trans hm (fun k hk e => by omega)⟩
 ·rcases hg with hg | hg
  ·have := h.g _ hg; omega
  ·omega
 ·rcases hg with hg | hg
  ·exact .inl hg
  ·exact .inr (by omega)
end
theorem ubh {fn : Func} {p q u : Tmp} {a : Act} {w : World} {b c : Nat} {cs ds : Array Value} {R : Ending → World → Prop} (hr : fn.results = #[.cell p 47, .cell q 30, .tmp u]) (hp : a.tmps.getD p undef = .pointer (some ⟨b, 0, none⟩)) (hq : a.tmps.getD q undef = .pointer (some ⟨c, 0, none⟩)) (hd : a.defers = []) (h1 : Blk w b 47 cs) (h2 : Blk w c 30 ds) (n1 : cs.size = 33) (n2 : ds.size = 2)
 (h : R (.returned (.tuple #[.agg cs, .agg ds, a.tmps.getD u undef])) w) : bodyPost Tryz.prog fn R .ret a w :=
 bpr (ubg hr (ResAt.of hp h1 Tryz.underlying47 rfl (by rw [n1]; exact uah)) (ResAt.of hq h2 Tryz.underlying30 rfl (by rw [n2]; exact uaf))) hd h
theorem ujd {Q : Exit → Act → World → Prop} {id : Nat} {a : Act} {W : World} {b N r1 r2 d0 d1 d4 x0 x1 y0 y1 : Nat} {TS TI t0 t1 t2 t3 t4 : TypeId} {p0 p1 p2 p3 p4 : String} {e0 e1 e2 e3 e4 : Array Edge} {num : Value} {cs z : Array Value} {dS dI : TypeDesc}
 (HS : W.rangeAt b 0 cs.toList) (HN : W.rangeAt N 0 z.toList) (h1 : Blk W r1 TS scZ) (h2 : Blk W r2 TI iiZ) (hb : ¬ (b = r1 ∨ b = r2)) (hN : ¬ (N = r1 ∨ N = r2)) (h12 : r1 ≠ r2) (uS : Tryz.prog.underlying TS = some dS) (uI : Tryz.prog.underlying TI = some dI)
 (hdS : dS.isRow = true) (hdI : dI.isRow = true) (zS : (Tryz.prog.info? TS).map (·.size) = some cs.size) (zI : (Tryz.prog.info? TI).map (·.size) = some z.size) (nS : cs.size = 33) (nI : z.size = 2) (oS : cs.all (·.oneCell') = true) (oI : z.all (·.oneCell') = true)
 {l : List Oper} (hl : l = [({ dst := some d0, op := .load TS (.tmp x0), type := t0, pos := p0, after := e0, guard := none } : Oper), ({ dst := some d1, op := .load TI (.tmp x1), type := t1, pos := p1, after := e1, guard := none } : Oper), ({ dst := none, op := .store TS (.tmp y0) (.tmp d0), type := t2, pos := p2, after := e2, guard := none } : Oper), ({ dst := none, op := .store TI (.tmp y1) (.tmp d1), type := t3, pos := p3, after := e3, guard := none } : Oper), ({ dst := some d4, op := .assign (.const num), type := t4, pos := p4, after := e4, guard := none } : Oper)] := by rfl)
 (c0 : Region.free .any l.toArray (Array.replicate 5 false) 0 = true := by kernel_rfl) (c1 : (Region.ready .any l.toArray (Array.replicate 5 false)).contains 0 = true := by kernel_rfl)
 (c2 : Region.free .any l.toArray ((Array.replicate 5 false).setIfInBounds 0 true) 1 = true := by kernel_rfl) (c3 : (Region.ready .any l.toArray ((Array.replicate 5 false).setIfInBounds 0 true)).contains 1 = true := by kernel_rfl)
 (c4 : Region.ready .any l.toArray (((Array.replicate 5 false).setIfInBounds 0 true).setIfInBounds 1 true) = [2] := by kernel_rfl) (c5 : Region.ready .any l.toArray ((((Array.replicate 5 false).setIfInBounds 0 true).setIfInBounds 1 true).setIfInBounds 2 true) = [3] := by kernel_rfl)
 (c6 : Region.free .any l.toArray (((((Array.replicate 5 false).setIfInBounds 0 true).setIfInBounds 1 true).setIfInBounds 2 true).setIfInBounds 3 true) 4 = true := by kernel_rfl) (c7 : (Region.ready .any l.toArray (((((Array.replicate 5 false).setIfInBounds 0 true).setIfInBounds 1 true).setIfInBounds 2 true).setIfInBounds 3 true)).contains 4 = true := by kernel_rfl)
 (c8 : Region.ready .any l.toArray ((((((Array.replicate 5 false).setIfInBounds 0 true).setIfInBounds 1 true).setIfInBounds 2 true).setIfInBounds 3 true).setIfInBounds 4 true) = [] := by kernel_rfl)
 (v0 : a.eval (.tmp x0) = .pointer (some ⟨b, 0, none⟩) := by rfl) (v1 : (a.put (some d0) (.agg cs)).eval (.tmp x1) = .pointer (some ⟨N, 0, none⟩) := by rfl)
 (v2 : ((a.put (some d0) (.agg cs)).put (some d1) (.agg z)).eval (.tmp y0) = .pointer (some ⟨r1, 0, none⟩) := by rfl) (v3 : ((a.put (some d0) (.agg cs)).put (some d1) (.agg z)).eval (.tmp d0) = .agg cs := by rfl)
 (v4 : ((a.put (some d0) (.agg cs)).put (some d1) (.agg z)).eval (.tmp y1) = .pointer (some ⟨r2, 0, none⟩) := by rfl) (v5 : ((a.put (some d0) (.agg cs)).put (some d1) (.agg z)).eval (.tmp d1) = .agg z := by rfl)
 (hQ : ∀ c a d v w, Q (.panic c) (a.put (some d) v) w → Q (.panic c) a w := by exact fun _ _ _ _ _ h => h)
 (h : ∀ W9, Blk W9 r1 TS cs → Blk W9 r2 TI z → Gou.Mod (fun k => k = r1 ∨ k = r2) W W9 → Q .normal (((a.put (some d0) (.agg cs)).put (some d1) (.agg z)).put (some d4) num) W9) : (Code.region id l.toArray true).wp Tryz.prog Q a W := by
 subst hl
 refine wp_region_held_drew (S := fun w' => Gou.Mod (fun k => k = r1 ∨ k = r2) W w') (by kernel_rfl) (Gou.Mod.drew _ _) (fun hH => ?_)
 refine tkR 0 (.agg cs) HS hb uS (by rw [Array.length_toList]; exact zS) hH (hf := c0) (hr := c1) (hx := v0) (hd := hdS) (hv := rfl) (hQ := fun c a w g => hQ c _ _ _ w g) (h := ?_)
 refine tkR 1 (.agg z) HN hN uI (by rw [Array.length_toList]; exact zI) hH (hf := c2) (hr := c3) (hx := v1) (hd := hdI) (hv := rfl) (hQ := fun c a w g => hQ c _ _ _ w g) (h := ?_)
 refine stR 2 r1 0 cs hH (.inl rfl) ((h1.up (Gou.Mod.drew _ _)).there 0 _ (by rw [nS]; exact Nat.le_refl _)) zS oS (hr := c4) (hx := v2) (hy := v3) (h := fun hH => ?_)
 have g1 := (h1.up (Gou.Mod.drew (fun _ => False) W)).setAll cs (by rw [nS]; rfl)
 have g2 := (h2.up (Gou.Mod.drew (fun _ => False) W)).mod (Blk.setMod W.drew r1 0 cs.toList) (Ne.symm h12)
 refine stR 3 r2 0 z hH (.inr rfl) (g2.there 0 _ (by rw [nI]; exact Nat.le_refl _)) zI oI (hr := c5) (hx := v4) (hy := v5) (h := fun hH => ?_)
 have f1 := g1.mod (Blk.setMod _ r2 0 z.toList) h12
 have f2 := g2.setAll z (by rw [nI]; rfl)
 refine tk 4 num hH (hf := c6) (hr := c7) (hw := rfl) (hy := fun _ => rfl) (hQ := fun c a w g => hQ c _ _ _ w g) (h := ?_)
 exact dn hH c8 (h _ f1 f2 hH)
theorem DoB.tl {G : Nat → Prop} {w W : World} {N : Nat} {s : Sn} {o : Opr} {pg pl : Option Addr} {cg cl : Nat} {vp vf vb vk wp wf wb : Value} (hB : DoB G w W N s o (.slice pg s.arena.gens.length cg) (.slice pl s.arena.live.length cl) vp vf vb vk wp wf wb) {Q : Exit → Act → World → Prop} {id : Nat} {a : Act} {d0 d1 d4 x0 x1 y0 y1 : Nat} {t0 t1 t2 t3 t4 : TypeId} {p0 p1 p2 p3 p4 : String} {e0 e1 e2 e3 e4 : Array Edge} {num : Value}
 {l : List Oper} (hl : l = [({ dst := some d0, op := .load 47 (.tmp x0), type := t0, pos := p0, after := e0, guard := none } : Oper), ({ dst := some d1, op := .load 30 (.tmp x1), type := t1, pos := p1, after := e1, guard := none } : Oper), ({ dst := none, op := .store 47 (.tmp y0) (.tmp d0), type := t2, pos := p2, after := e2, guard := none } : Oper), ({ dst := none, op := .store 30 (.tmp y1) (.tmp d1), type := t3, pos := p3, after := e3, guard := none } : Oper), ({ dst := some d4, op := .assign (.const num), type := t4, pos := p4, after := e4, guard := none } : Oper)] := by rfl)
 (c0 : Region.free .any l.toArray (Array.replicate 5 false) 0 = true := by kernel_rfl) (c1 : (Region.ready .any l.toArray (Array.replicate 5 false)).contains 0 = true := by kernel_rfl)
 (c2 : Region.free .any l.toArray ((Array.replicate 5 false).setIfInBounds 0 true) 1 = true := by kernel_rfl) (c3 : (Region.ready .any l.toArray ((Array.replicate 5 false).setIfInBounds 0 true)).contains 1 = true := by kernel_rfl)
 (c4 : Region.ready .any l.toArray (((Array.replicate 5 false).setIfInBounds 0 true).setIfInBounds 1 true) = [2] := by kernel_rfl) (c5 : Region.ready .any l.toArray ((((Array.replicate 5 false).setIfInBounds 0 true).setIfInBounds 1 true).setIfInBounds 2 true) = [3] := by kernel_rfl)
 (c6 : Region.free .any l.toArray (((((Array.replicate 5 false).setIfInBounds 0 true).setIfInBounds 1 true).setIfInBounds 2 true).setIfInBounds 3 true) 4 = true := by kernel_rfl) (c7 : (Region.ready .any l.toArray (((((Array.replicate 5 false).setIfInBounds 0 true).setIfInBounds 1 true).setIfInBounds 2 true).setIfInBounds 3 true)).contains 4 = true := by kernel_rfl)
 (c8 : Region.ready .any l.toArray ((((((Array.replicate 5 false).setIfInBounds 0 true).setIfInBounds 1 true).setIfInBounds 2 true).setIfInBounds 3 true).setIfInBounds 4 true) = [] := by kernel_rfl)
 (v0 : a.eval (.tmp x0) = .pointer (some ⟨w.heap.size, 0, none⟩) := by rfl) (v1 : (a.put (some d0) (.agg (scA (.slice pg s.arena.gens.length cg) (.slice pl s.arena.live.length cl) s.root.id s.root.look vp vf vb vk))).eval (.tmp x1) = .pointer (some ⟨N, 0, none⟩) := by rfl)
 (v2 : ((a.put (some d0) (.agg (scA (.slice pg s.arena.gens.length cg) (.slice pl s.arena.live.length cl) s.root.id s.root.look vp vf vb vk))).put (some d1) (.agg iiZ)).eval (.tmp y0) = .pointer (some ⟨w.heap.size + 1 + 1, 0, none⟩) := by rfl) (v3 : ((a.put (some d0) (.agg (scA (.slice pg s.arena.gens.length cg) (.slice pl s.arena.live.length cl) s.root.id s.root.look vp vf vb vk))).put (some d1) (.agg iiZ)).eval (.tmp d0) = .agg (scA (.slice pg s.arena.gens.length cg) (.slice pl s.arena.live.length cl) s.root.id s.root.look vp vf vb vk) := by rfl)
 (v4 : ((a.put (some d0) (.agg (scA (.slice pg s.arena.gens.length cg) (.slice pl s.arena.live.length cl) s.root.id s.root.look vp vf vb vk))).put (some d1) (.agg iiZ)).eval (.tmp y1) = .pointer (some ⟨w.heap.size + 1 + 1 + 1, 0, none⟩) := by rfl) (v5 : ((a.put (some d0) (.agg (scA (.slice pg s.arena.gens.length cg) (.slice pl s.arena.live.length cl) s.root.id s.root.look vp vf vb vk))).put (some d1) (.agg iiZ)).eval (.tmp d1) = .agg iiZ := by rfl)
 (hQ : ∀ c a d v w, Q (.panic c) (a.put (some d) v) w → Q (.panic c) a w := by exact fun _ _ _ _ _ h => h)
 (h : ∀ W9, Blk W9 (w.heap.size + 1 + 1) 47 (scA (.slice pg s.arena.gens.length cg) (.slice pl s.arena.live.length cl) s.root.id s.root.look vp vf vb vk) → Blk W9 (w.heap.size + 1 + 1 + 1) 30 iiZ → Gou.Mod (fun k => k = w.heap.size + 1 + 1 ∨ k = w.heap.size + 1 + 1 + 1) W W9 → Q .normal (((a.put (some d0) (.agg (scA (.slice pg s.arena.gens.length cg) (.slice pl s.arena.live.length cl) s.root.id s.root.look vp vf vb vk))).put (some d1) (.agg iiZ)).put (some d4) num) W9) : (Code.region id l.toArray true).wp Tryz.prog Q a W := by
 exact ujd hB.sc.whole hB.n.whole hB.r1 hB.r2 (by omega) (by have := hB.lt; omega) (by omega) Tryz.underlying47 Tryz.underlying30 rfl rfl uah uaf rfl rfl (ubf rfl rfl (LyR.one hB.ly)) (by simp [Value.oneCell']) hl c0 c1 c2 c3 c4 c5 c6 c7 c8 v0 v1 v2 v3 v4 v5 hQ h
theorem tail6 {Q : Exit → Act → World → Prop} {id : Nat} {a : Act} {W : World} {b N r1 r2 d0 d1 d2 d4 x0 x1 x2 y0 y1 : Nat} {TS TI t0 t1 t2 t3 t4 t5 : TypeId} {p0 p1 p2 p3 p4 p5 : String} {e0 e1 e2 e3 e4 e5 : Array Edge} {num : Value} {cs z : Array Value} {dS dI : TypeDesc}
 (HS : W.rangeAt b 0 cs.toList) (HN : W.rangeAt N 0 z.toList) (h1 : Blk W r1 TS scZ) (h2 : Blk W r2 TI iiZ) (hb : ¬ (b = r1 ∨ b = r2)) (hN : ¬ (N = r1 ∨ N = r2)) (h12 : r1 ≠ r2) (uS : Tryz.prog.underlying TS = some dS) (uI : Tryz.prog.underlying TI = some dI)
 (hdS : dS.isRow = true) (hdI : dI.isRow = true) (zS : (Tryz.prog.info? TS).map (·.size) = some cs.size) (zI : (Tryz.prog.info? TI).map (·.size) = some z.size) (nS : cs.size = 33) (nI : z.size = 2) (oS : cs.all (·.oneCell') = true) (oI : z.all (·.oneCell') = true)
 {l : List Oper} (hl : l = [({ dst := some d0, op := .load TS (.tmp x0), type := t0, pos := p0, after := e0, guard := none } : Oper), ({ dst := some d1, op := .load TI (.tmp x1), type := t1, pos := p1, after := e1, guard := none } : Oper), ({ dst := some d2, op := .move (.tmp x2), type := t5, pos := p5, after := e5, guard := none } : Oper), ({ dst := none, op := .store TS (.tmp y0) (.tmp d0), type := t2, pos := p2, after := e2, guard := none } : Oper), ({ dst := none, op := .store TI (.tmp y1) (.tmp d1), type := t3, pos := p3, after := e3, guard := none } : Oper), ({ dst := some d4, op := .assign (.tmp d2), type := t4, pos := p4, after := e4, guard := none } : Oper)] := by rfl)
 (c0 : Region.free .any l.toArray (Array.replicate 6 false) 0 = true := by kernel_rfl) (r0' : (Region.ready .any l.toArray (Array.replicate 6 false)).contains 0 = true := by kernel_rfl)
 (c1 : Region.free .any l.toArray ((Array.replicate 6 false).setIfInBounds 0 true) 1 = true := by kernel_rfl) (r1' : (Region.ready .any l.toArray ((Array.replicate 6 false).setIfInBounds 0 true)).contains 1 = true := by kernel_rfl)
 (c2 : Region.free .any l.toArray (((Array.replicate 6 false).setIfInBounds 0 true).setIfInBounds 1 true) 2 = true := by kernel_rfl) (r2' : (Region.ready .any l.toArray (((Array.replicate 6 false).setIfInBounds 0 true).setIfInBounds 1 true)).contains 2 = true := by kernel_rfl)
 (c3 : Region.ready .any l.toArray ((((Array.replicate 6 false).setIfInBounds 0 true).setIfInBounds 1 true).setIfInBounds 2 true) = [3] := by kernel_rfl) (c4 : Region.ready .any l.toArray (((((Array.replicate 6 false).setIfInBounds 0 true).setIfInBounds 1 true).setIfInBounds 2 true).setIfInBounds 3 true) = [4] := by kernel_rfl)
 (c5 : Region.free .any l.toArray ((((((Array.replicate 6 false).setIfInBounds 0 true).setIfInBounds 1 true).setIfInBounds 2 true).setIfInBounds 3 true).setIfInBounds 4 true) 5 = true := by kernel_rfl) (c7 : (Region.ready .any l.toArray ((((((Array.replicate 6 false).setIfInBounds 0 true).setIfInBounds 1 true).setIfInBounds 2 true).setIfInBounds 3 true).setIfInBounds 4 true)).contains 5 = true := by kernel_rfl)
 (c8 : Region.ready .any l.toArray (((((((Array.replicate 6 false).setIfInBounds 0 true).setIfInBounds 1 true).setIfInBounds 2 true).setIfInBounds 3 true).setIfInBounds 4 true).setIfInBounds 5 true) = [] := by kernel_rfl)
 (v0 : a.eval (.tmp x0) = .pointer (some ⟨b, 0, none⟩) := by rfl) (v1 : (a.put (some d0) (.agg cs)).eval (.tmp x1) = .pointer (some ⟨N, 0, none⟩) := by rfl)
 (v6 : ((a.put (some d0) (.agg cs)).put (some d1) (.agg z)).eval (.tmp x2) = num := by rfl) (v7 : (((a.put (some d0) (.agg cs)).put (some d1) (.agg z)).put (some d2) num).eval (.tmp d2) = num := by rfl) (v2 : (((a.put (some d0) (.agg cs)).put (some d1) (.agg z)).put (some d2) num).eval (.tmp y0) = .pointer (some ⟨r1, 0, none⟩) := by rfl) (v3 : (((a.put (some d0) (.agg cs)).put (some d1) (.agg z)).put (some d2) num).eval (.tmp d0) = .agg cs := by rfl)
 (v4 : (((a.put (some d0) (.agg cs)).put (some d1) (.agg z)).put (some d2) num).eval (.tmp y1) = .pointer (some ⟨r2, 0, none⟩) := by rfl) (v5 : (((a.put (some d0) (.agg cs)).put (some d1) (.agg z)).put (some d2) num).eval (.tmp d1) = .agg z := by rfl)
 (hQ : ∀ c a d v w, Q (.panic c) (a.put (some d) v) w → Q (.panic c) a w := by exact fun _ _ _ _ _ h => h)
 (h : ∀ W9, Blk W9 r1 TS cs → Blk W9 r2 TI z → Gou.Mod (fun k => k = r1 ∨ k = r2) W W9 → Q .normal ((((a.put (some d0) (.agg cs)).put (some d1) (.agg z)).put (some d2) num).put (some d4) num) W9) : (Code.region id l.toArray true).wp Tryz.prog Q a W := by
 subst hl
 refine wp_region_held_drew (S := fun w' => Gou.Mod (fun k => k = r1 ∨ k = r2) W w') (by kernel_rfl) (Gou.Mod.drew _ _) (fun hH => ?_)
 refine tkR 0 (.agg cs) HS hb uS (by rw [Array.length_toList]; exact zS) hH (hf := c0) (hr := r0') (hx := v0) (hd := hdS) (hv := rfl) (hQ := fun c a w g => hQ c _ _ _ w g) (h := ?_)
 refine tkR 1 (.agg z) HN hN uI (by rw [Array.length_toList]; exact zI) hH (hf := c1) (hr := r1') (hx := v1) (hd := hdI) (hv := rfl) (hQ := fun c a w g => hQ c _ _ _ w g) (h := ?_)
 refine tk 2 num hH (hf := c2) (hr := r2') (hw := rfl) (hy := by intro w'; exact congrArg (fun u => Result.ok (Next.value u) w') v6) (hQ := fun c a w g => hQ c _ _ _ w g) (h := ?_)
 refine stR 3 r1 0 cs hH (.inl rfl) ((h1.up (Gou.Mod.drew _ _)).there 0 _ (by rw [nS]; exact Nat.le_refl _)) zS oS (hr := c3) (hx := v2) (hy := v3) (h := fun hH => ?_)
 have g1 := (h1.up (Gou.Mod.drew (fun _ => False) W)).setAll cs (by rw [nS]; rfl)
 have g2 := (h2.up (Gou.Mod.drew (fun _ => False) W)).mod (Blk.setMod W.drew r1 0 cs.toList) (Ne.symm h12)
 refine stR 4 r2 0 z hH (.inr rfl) (g2.there 0 _ (by rw [nI]; exact Nat.le_refl _)) zI oI (hr := c4) (hx := v4) (hy := v5) (h := fun hH => ?_)
 have f1 := g1.mod (Blk.setMod _ r2 0 z.toList) h12
 have f2 := g2.setAll z (by rw [nI]; rfl)
 refine tk 5 num hH (hf := c5) (hr := c7) (hw := rfl) (hy := by intro w'; exact congrArg (fun u => Result.ok (Next.value u) w') v7) (hQ := fun c a w g => hQ c _ _ _ w g) (h := ?_)
 exact dn hH c8 (h _ f1 f2 hH)
end Go.Proofs.YtpbmfalokongfaaGreatDoor
namespace Go.Gou
theorem Ly.findL_none {x : Idt} {ks : List Ly} (h : ∀ k ∈ ks, k.find x = none) : uff x ks = none := by
 induction ks with
 | nil => rfl
 | cons k ks ih => rw [uff, h k (by simp)]; exact ih (fun a ha => h a (by simp [ha]))
theorem Ly.findL_at {x : Idt} {ks : List Ly} {j : Nat} {k : Ly} {r : Ly × Nat} (h : ∀ a ∈ ks.take j, a.find x = none) (hk : ks[j]? = some k) (hr : k.find x = some r) : uff x ks = some r := by
 induction ks generalizing j with
 | nil => simp at hk
 | cons a ks ih =>
  cases j with
  | zero =>
   simp at hk
   subst hk
   rw [uff, hr]
  | succ j =>
   rw [uff, h a (by simp)]
   exact ih (j := j) (fun b hb => h b (by simp [hb])) (by simpa using hk)
theorem Ly.parentL_none {x : Idt} {self : Ly} {ks : List Ly} (h : ∀ k ∈ ks, k.id ≠ x ∧ k.parent x = none) : ub0 x self ks = none := by
 induction ks with
 | nil => rfl
 | cons k ks ih => rw [ub0, if_neg (h k (by simp)).1, (h k (by simp)).2]; exact ih (fun a ha => h a (by simp [ha]))
theorem Ly.parentL_at {x : Idt} {self : Ly} {ks : List Ly} {j : Nat} {k r : Ly} (h : ∀ a ∈ ks.take j, a.id ≠ x ∧ a.parent x = none) (hk : ks[j]? = some k) (hr : (k.id = x ∧ r = self) ∨ (k.id ≠ x ∧ k.parent x = some r)) : ub0 x self ks = some r := by
 induction ks generalizing j with
 | nil => simp at hk
 | cons a ks ih =>
  cases j with
  | zero =>
   simp at hk
   subst hk
   rcases hr with ⟨h1, rfl⟩ | ⟨h1, h2⟩
   ·rw [ub0, if_pos h1]
   ·rw [ub0, if_neg h1, h2]
  | succ j =>
   rw [ub0, if_neg (h a (by simp)).1, (h a (by simp)).2]
   exact ih (j := j) (fun b hb => h b (by simp [hb])) (by simpa using hk)
theorem LyR.boxed {G : Nat → Prop} {w w' : World} {c : List Value} {T : Ly} {B : Nat} (h : LyR G w c T) (hG : ∀ b, G b → b < B) {k : Nat} (hk : B ≤ k) (hm : Mod (fun x => x = k) w w') : LyR G w' c T := h.mod hm (fun b _ hb e => by have := hG b hb; omega)
end Go.Gou
namespace Go.Proofs.YtpbmfalokongfaaGreatDoor
open Go.RowKit Go.Gou
set_option maxRecDepth 100000
def FindQ (G : Nat → Prop) (r : Option (Ly × Nat)) (w : World) (e : Ending) (w' : World) : Prop := Gou.Mod (fun _ => False) w w' ∧ (r = none → e = .returned (.tuple #[.agg lyZ, iV (-1)])) ∧
 ∀ y d, r = some (y, d) → ∃ yp yf yb yk, e = .returned (.tuple #[.agg (lyA y.id y.look yp yf yb yk), iV ((d : Nat) : Int)]) ∧ LyR G w' (lyA y.id y.look yp yf yb yk).toList y
def ParQ (G : Nat → Prop) (r : Option Ly) (w : World) (e : Ending) (w' : World) : Prop := Gou.Mod (fun _ => False) w w' ∧ (r = none → e = .returned (.tuple #[.agg lyZ, .bool false])) ∧
 ∀ y, r = some y → ∃ yp yf yb yk, e = .returned (.tuple #[.agg (lyA y.id y.look yp yf yb yk), .bool true]) ∧ LyR G w' (lyA y.id y.look yp yf yb yk).toList y
theorem ubl (x : Idt) : ∀ (T : Ly) (G : Nat → Prop) (w : World) (vp vf vb vk : Value), (∀ b, G b → b < w.heap.size) → LyR G w (lyA T.id T.look vp vf vb vk).toList T → TFit T → T.height ≤ 1000 →
 Calls Tryz.prog 17 #[.agg (lyA T.id T.look vp vf vb vk), .agg #[iV x.1, iV x.2]] w (FindQ G (T.find x) w) := by
 intro T
 induction T using Ly.ind with
 | h i lk ks ih =>
  intro G w vp vf vb vk hG hr hft hh
  have Hrr := hd' hr
  obtain ⟨hl, css, hrow, hcl, hk⟩ := hr.parts
  simp only [Ly.id_mk, Ly.look_mk, Ly.kids_mk] at hl hrow hcl hk Hrr ⊢
  obtain ⟨pk, ck, rfl⟩ := RowG.slice hrow
  have HG := hd' hG
  have Hrow := hd' hrow
  have Hcl := hd' hcl
  have Hk := hd' hk
  have Hft := hd' hft
  have Hh := hd' hh
  have Ih := hd' ih
  have hlen := hft.len
  rw [Ly.kids_mk] at hlen
  have Hlen := hd' hlen
  obtain ⟨b0, b1, b2, bm⟩ := ubd w 45 30 45 (lyA i lk vp vf vb (.slice pk ks.length ck)) #[iV x.1, iV x.2] lyL
  have HB := hd' b0
  have HX := hd' b1
  have HR := hd' b2
  have HMa := hd' bm
  clear hl hrow hcl hk hr hft ih hlen hG b0 b1 b2 bm hh
  go_enter Tryz.func17, Tryz.ntmps17
  go_upto_region 1 with fail
  generalize ((w.alloc (.cells (lyA i lk vp vf vb (.slice pk ks.length ck)) 45)).alloc (.cells #[iV x.1, iV x.2] 30)).alloc (.cells lyL 45) = W1 at *
  have HBw := hd' HB.o.whole
  have c0 : W1.cell? ⟨w.heap.size, 0, none⟩ = some (iV i.1) := HB.o.cell 0 rfl
  have c1 : W1.cell? ⟨w.heap.size, 1, none⟩ = some (iV i.2) := HB.o.cell 1 rfl
  have x0 : W1.cell? ⟨w.heap.size + 1, 0, none⟩ = some (iV x.1) := HX.o.cell 0 rfl
  have x1 : W1.cell? ⟨w.heap.size + 1, 1, none⟩ = some (iV x.2) := HX.o.cell 1 rfl
  have hid := fun (w' : World) => udm i x w'
  by_cases hix : i = x
  ·have e1 : decide (i = x) = true := dqt hix
   rw [e1] at hid
   have Hq : Hid (Ly.find x (.mk i lk ks) = some (.mk i lk ks, 0)) := hd' (by rw [Ly.find, if_pos hix])
   clear hix e1
   go_upto_region 2 with fail
   go_wp2_with (first | ((with_reducible refine lT 45 ?_); refine ldA HBw.o Tryz.underlying45 uaa (h := ?_)) | ((with_reducible refine sT 45 ?_); refine stA (lyA i lk vp vf vb (.slice pk ks.length ck)) ((HR.o).there 0 31 (by simp)) uaa (uat (LyR.one (T := .mk i lk ks) Hrr.o)) (h := ?_)) | fail)
   have HS := hd' (Blk.setMod W1 (w.heap.size + 1 + 1) 0 (lyA i lk vp vf vb (.slice pk ks.length ck)).toList)
   have hR := HR.o.setAll (lyA i lk vp vf vb (.slice pk ks.length ck)) rfl
   refine bpr (uam rfl (ResAt.of rfl hR Tryz.underlying45 rfl uaa)) rfl ?_
   refine ⟨HMa.o.trans HS.o (fun k hk e => by omega), fun h => by (rw [Hq.o] at h; cases h), fun y d h => ?_⟩
   rw [Hq.o] at h
   cases h
   exact ⟨vp, vf, vb, _, rfl, (Hrr.o.up HMa.o).boxed HG.o (by omega) HS.o⟩
  have Hix := hd' hix
  have e1 : decide (i = x) = false := dqf hix
  rw [e1] at hid
  go_upto_region 3 with fail
  go_wp2_with fail
  go_loopw [6] (fun vi wr => ∃ j : Nat, vi = iV j ∧ j ≤ ks.length ∧ (∀ a ∈ ks.take j, a.find x = none) ∧ Gou.Mod (fun _ => False) W1 wr) (fun vi _ => ks.length - (intOf vi).toNat)
  case atStart => exact ⟨0, rfl, Nat.zero_le _, by simp, Gou.Mod.refl _ _⟩
  case round =>
   obtain ⟨j, rfl, hj, hall, hm⟩ := hrel
   have Hm := hd' hm
   have Hall := hd' hall
   have HMw := hd' (HMa.o.trans' hm)
   have HBr := hd' (HB.o.up hm)
   have HXr := hd' (HX.o.up hm)
   have HRr := hd' (HR.o.up hm)
   have c30 : wr.cell? ⟨w.heap.size, 30, none⟩ = some (.slice pk ks.length ck) := HBr.o.cell 30 rfl
   clear hm hall
   by_cases hil : j < ks.length
   ·obtain ⟨b, o, kp, kf, kb, kk, rfl, hbl, _, hrg, hkr⟩ := LyR.kidR Hrow.o Hcl.o rfl Hk.o hil
    have Hrg := hd' (uax hrg HMw.o (fun h => h))
    have Hkj : Hid (ks[j]? = some ks[j]) := hd' (lgE hil)
    have hstep : ∀ {p : Ly → Prop}, (∀ a ∈ ks.take j, p a) → p ks[j] → ∀ a ∈ ks.take (j + 1), p a := fun h1 h2 a ha => by
     rw [ltS hil, List.mem_append, List.mem_singleton] at ha
     rcases ha with ha | rfl
     ·exact h1 a ha
     ·exact h2
    have Hstep : Hid (∀ {p : Ly → Prop}, (∀ a ∈ ks.take j, p a) → p ks[j] → ∀ a ∈ ks.take (j + 1), p a) := hd' hstep
    have Hik : Hid (∀ w', Gou.Mod (fun _ => False) wr w' → Calls Tryz.prog 17 #[.agg (lyA ks[j].id ks[j].look kp kf kb kk), .agg #[iV x.1, iV x.2]] w' (FindQ G (ks[j].find x) w')) := hd' (fun w' hw' => Ih.o ks[j] (lgM hil) G w' kp kf kb kk (fun b hb => Nat.lt_of_lt_of_le (HG.o b hb) (HMw.o.trans' hw').size) (hkr.up (HMw.o.trans' hw')) (Hft.o.kids ks[j] (by rw [Ly.kids_mk]; exact lgM hil)) (by have := Hh.o; rw [Ly.height] at this; have := (Ly.heightL_le.1 this) _ (lgM hil); omega))
    have Hkh : Hid (ks[j].height ≤ 1000) := hd' (by have := Hh.o; rw [Ly.height] at this; have := (Ly.heightL_le.1 this) _ (lgM hil); omega)
    have Hil := hd' hil
    have hwi : wrap64 ((j : Int) + 1) = ((j + 1 : Nat) : Int) := by have := Hlen.o; unfold wrap64; omega
    clear hrg hkr hbl hstep
    generalize ks[j] = kd at *
    have HXq : Hid (wr.rangeAt (w.heap.size + 1) 0 [iV x.1, iV x.2]) := hd' (Blk.range (pre := []) (post := []) HXr.o (by simp) rfl)
    cases hf : kd.find x with
    | none =>
     have Hf := hd' hf
     clear hf
     go_upto_region 6 with fail
     refine wp_region_held_drew (S := fun w' => Gou.Mod (fun _ => False) wr w') (by kernel_rfl) (Gou.Mod.drew _ _) (fun hH => ?_)
     refine tk 0 (.pointer (some ⟨w.heap.size, 30, none⟩)) hH (h := ?_)
     refine tkC 1 c30 (fun h => h) hH (h := ?_)
     refine tk 2 (iV (j : Int)) hH (h := ?_)
     refine tk 3 (.pointer (some ⟨b, o + j * 31, none⟩)) hH (h := ?_)
     refine tkR 4 (.agg (lyA kd.id kd.look kp kf kb kk)) Hrg.o (fun h => h) Tryz.underlying45 uaa hH (h := ?_)
     refine tkR 5 (.agg #[iV x.1, iV x.2]) HXq.o (fun h => h) Tryz.underlying30 uaf hH (h := ?_)
     refine rd2 6 10 (h := fun K11 hK => ?_) (g := fun K11 hK => ?_)
     ·skip
      go_simp
      refine (Hik.o _ hH).mono ?_
      rintro e w4 ⟨hm4, hq4, hf4⟩
      obtain rfl := hq4 Hf.o
      have M := hd' (hH.trans' hm4)
      clear hH hm4 hq4 hf4
      refine hK _ _ M.o (fun hH => ?_)
      clear hK K11 M
      refine tk 7 (.tuple #[.agg lyZ, iV (-1)]) hH (h := ?_)
      refine tk 8 (.agg lyZ) hH (h := ?_)
      refine tk 9 (iV (-1)) hH (h := ?_)
      refine rd 10 (h := fun K hK => ?_)
      go_simp
      have M := hd' (hH.trans' (Gou.Mod.alloc0 w4 (.cells lyL 45)))
      have HN4 := hd' (Blk.new w4 45 lyL)
      obtain ⟨N, hN⟩ : ∃ N, N = w4.heap.size := ⟨_, rfl⟩
      have HNN : Hid (wr.heap.size ≤ N) := hd' (by rw [hN]; exact hH.size)
      rw [← hN] at HN4
      try rw [← hN]
      clear hH hN
      generalize w4.alloc (.cells lyL 45) = W0 at *
      refine hK _ _ M.o (fun hH => ?_)
      clear hK K M
      refine rd 11 (h := fun K hK => ?_)
      refine wp_store_mid 45 _ _ rfl N 0 lyZ rfl rfl (HN4.o.there 0 31 (by simp)) uaa (by simp [lyA, Value.oneCell']) ?_
      have HS := hd' (Blk.setMod W0 N 0 lyZ.toList)
      have HN5 := hd' (HN4.o.setAll lyZ rfl)
      have M := hd' (hH.trans HS.o (fun k hk e => by have := HNN.o; omega))
      clear hH HS
      generalize W0.setCells N 0 lyZ.toList = W5 at *
      refine hK _ _ M.o (fun hH => ?_)
      clear hK K M
      refine tk 12 (iV (-1)) hH (h := ?_)
      have MS := hd' hH
      refine wpAnyH_done (by kernel_rfl) ?_ _
      clear hH
      try simp only [Act.put]
      have HM5 := hd' (Hm.o.trans' MS.o)
      clear MS
      go_wp2_with fail
      go_roundw
      case rel => exact ⟨j + 1, by rw [← hwi], by have := Hil.o; omega, Hstep.o Hall.o Hf.o, HM5.o⟩
      case measure => rw [hwi]; have := Hil.o; simp only [intOf]; omega
     ·skip
      go_simp
      have hma : Gou.Mod (fun _ => False) wr (wr.alloc (.cells lyL 45)).drew := (Gou.Mod.alloc0 wr (.cells lyL 45)).trans' (Gou.Mod.drew _ _)
      have M := hd' hma
      have HN0 := hd' ((Blk.new wr 45 lyL).up (Gou.Mod.drew (fun _ => False) _))
      obtain ⟨N, hN⟩ : ∃ N, N = wr.heap.size := ⟨_, rfl⟩
      have HNN : Hid (wr.heap.size ≤ N) := hd' (by rw [hN]; exact Nat.le_refl _)
      rw [← hN] at HN0
      try rw [← hN]
      clear hH hN hma
      generalize (wr.alloc (.cells lyL 45)).drew = W0 at *
      refine hK _ _ M.o (fun hH => ?_)
      clear hK K11 M
      refine rd 6 (h := fun K hK => ?_)
      go_simp
      refine (Hik.o _ hH).mono ?_
      rintro e w4 ⟨hm4, hq4, hf4⟩
      obtain rfl := hq4 Hf.o
      have M := hd' (hH.trans' hm4)
      have HN4 := hd' (HN0.o.up hm4)
      clear hH hm4 hq4 hf4
      refine hK _ _ M.o (fun hH => ?_)
      clear hK K M
      refine tk 7 (.tuple #[.agg lyZ, iV (-1)]) hH (h := ?_)
      refine tk 8 (.agg lyZ) hH (h := ?_)
      refine tk 9 (iV (-1)) hH (h := ?_)
      refine rd 11 (h := fun K hK => ?_)
      refine wp_store_mid 45 _ _ rfl N 0 lyZ rfl rfl (HN4.o.there 0 31 (by simp)) uaa (by simp [lyA, Value.oneCell']) ?_
      have HS := hd' (Blk.setMod w4 N 0 lyZ.toList)
      have HN5 := hd' (HN4.o.setAll lyZ rfl)
      have M := hd' (hH.trans HS.o (fun k hk e => by have := HNN.o; omega))
      clear hH HS
      generalize w4.setCells N 0 lyZ.toList = W5 at *
      refine hK _ _ M.o (fun hH => ?_)
      clear hK K M
      refine tk 12 (iV (-1)) hH (h := ?_)
      have MS := hd' hH
      refine wpAnyH_done (by kernel_rfl) ?_ _
      clear hH
      try simp only [Act.put]
      have HM5 := hd' (Hm.o.trans' MS.o)
      clear MS
      go_wp2_with fail
      go_roundw
      case rel => exact ⟨j + 1, by rw [← hwi], by have := Hil.o; omega, Hstep.o Hall.o Hf.o, HM5.o⟩
      case measure => rw [hwi]; have := Hil.o; simp only [intOf]; omega
    | some yd =>
     obtain ⟨y, d⟩ := yd
     have Hf := hd' hf
     have Hq : Hid (Ly.find x (.mk i lk ks) = some (y, d + 1)) := hd' (by rw [Ly.find, if_neg Hix.o, Ly.findL_at Hall.o Hkj.o hf]; rfl)
     have Hd : Hid (d ≤ 1000) := hd' (by obtain ⟨π, _, h2, rfl, _⟩ := Ly.find_some hf; have := Ly.get_height h2; have := Hkh.o; omega)
     clear hf
     go_upto_region 6 with fail
     refine wp_region_held_drew (S := fun w' => Gou.Mod (fun _ => False) wr w') (by kernel_rfl) (Gou.Mod.drew _ _) (fun hH => ?_)
     refine tk 0 (.pointer (some ⟨w.heap.size, 30, none⟩)) hH (h := ?_)
     refine tkC 1 c30 (fun h => h) hH (h := ?_)
     refine tk 2 (iV (j : Int)) hH (h := ?_)
     refine tk 3 (.pointer (some ⟨b, o + j * 31, none⟩)) hH (h := ?_)
     refine tkR 4 (.agg (lyA kd.id kd.look kp kf kb kk)) Hrg.o (fun h => h) Tryz.underlying45 uaa hH (h := ?_)
     refine tkR 5 (.agg #[iV x.1, iV x.2]) HXq.o (fun h => h) Tryz.underlying30 uaf hH (h := ?_)
     refine rd2 6 10 (h := fun K12 hK => ?_) (g := fun K12 hK => ?_)
     ·skip
      go_simp
      refine (Hik.o _ hH).mono ?_
      rintro e w4 ⟨hm4, hq4, hf4⟩
      obtain ⟨yp, yf, yb, yk, rfl, hy4⟩ := hf4 y d Hf.o
      have HY := hd' hy4
      clear hy4
      have M := hd' (hH.trans' hm4)
      clear hH hm4 hq4 hf4
      refine hK _ _ M.o (fun hH => ?_)
      clear hK K12 M
      refine tk 7 (.tuple #[.agg (lyA y.id y.look yp yf yb yk), iV ((d : Nat) : Int)]) hH (h := ?_)
      refine tk 8 (.agg (lyA y.id y.look yp yf yb yk)) hH (h := ?_)
      refine tk 9 (iV ((d : Nat) : Int)) hH (h := ?_)
      refine rd 10 (h := fun K hK => ?_)
      go_simp
      have M := hd' (hH.trans' (Gou.Mod.alloc0 w4 (.cells lyL 45)))
      have HN4 := hd' (Blk.new w4 45 lyL)
      obtain ⟨N, hN⟩ : ∃ N, N = w4.heap.size := ⟨_, rfl⟩
      have HNN : Hid (wr.heap.size ≤ N) := hd' (by rw [hN]; exact hH.size)
      rw [← hN] at HN4
      try rw [← hN]
      have HY0 := hd' (HY.o.up (Gou.Mod.alloc0 w4 (.cells lyL 45)))
      clear HY
      have HY := HY0
      clear hH hN
      generalize w4.alloc (.cells lyL 45) = W0 at *
      refine hK _ _ M.o (fun hH => ?_)
      clear hK K M
      refine rd 11 (h := fun K hK => ?_)
      refine wp_store_mid 45 _ _ rfl N 0 (lyA y.id y.look yp yf yb yk) rfl rfl (HN4.o.there 0 31 (by simp)) uaa (uat (LyR.one HY.o)) ?_
      have HS := hd' (Blk.setMod W0 N 0 (lyA y.id y.look yp yf yb yk).toList)
      have HN5 := hd' (HN4.o.setAll (lyA y.id y.look yp yf yb yk) rfl)
      have M := hd' (hH.trans HS.o (fun k hk e => by have := HNN.o; omega))
      have HY5 := hd' (HY.o.boxed HG.o (by have := HNN.o; have := HMw.o.size; omega) HS.o)
      clear HY
      clear hH HS
      generalize W0.setCells N 0 (lyA y.id y.look yp yf yb yk).toList = W5 at *
      refine hK _ _ M.o (fun hH => ?_)
      clear hK K M
      refine tk 12 (iV ((d : Nat) : Int)) hH (h := ?_)
      have MS := hd' hH
      refine wpAnyH_done (by kernel_rfl) ?_ _
      clear hH
      try simp only [Act.put]
      have HM5 := hd' (HMw.o.trans' MS.o)
      have HR5 := hd' (HRr.o.up MS.o)
      have HN5w := hd' HN5.o.whole
      clear MS
      have hwd : IntKind.i64.wrap ((d : Int) + 1) = ((d + 1 : Nat) : Int) := by rw [IntKind.wrap_i64]; have := Hd.o; omega
      go_wp2_with (first | ((with_reducible refine lT 45 ?_); refine ldA HN5w.o Tryz.underlying45 uaa (h := ?_)) | ((with_reducible refine sT 45 ?_); refine stA (lyA y.id y.look yp yf yb yk) (HR5.o.there 0 31 (by simp)) uaa (uat (LyR.one HY5.o)) (h := ?_)) | fail)
      have HS := hd' (Blk.setMod W5 (w.heap.size + 1 + 1) 0 (lyA y.id y.look yp yf yb yk).toList)
      have hR := HR5.o.setAll (lyA y.id y.look yp yf yb yk) rfl
      refine bpr (uam rfl (ResAt.of rfl hR Tryz.underlying45 rfl uaa)) rfl ?_
      refine ⟨HM5.o.trans HS.o (fun k hk e => by omega), fun h => by (rw [Hq.o] at h; cases h), fun y' d' h => ?_⟩
      rw [Hq.o] at h
      cases h
      exact ⟨yp, yf, yb, yk, rfl, HY5.o.boxed HG.o (by omega) HS.o⟩
     ·skip
      go_simp
      have hma : Gou.Mod (fun _ => False) wr (wr.alloc (.cells lyL 45)).drew := (Gou.Mod.alloc0 wr (.cells lyL 45)).trans' (Gou.Mod.drew _ _)
      have M := hd' hma
      have HN0 := hd' ((Blk.new wr 45 lyL).up (Gou.Mod.drew (fun _ => False) _))
      obtain ⟨N, hN⟩ : ∃ N, N = wr.heap.size := ⟨_, rfl⟩
      have HNN : Hid (wr.heap.size ≤ N) := hd' (by rw [hN]; exact Nat.le_refl _)
      rw [← hN] at HN0
      try rw [← hN]
      clear hH hN hma
      generalize (wr.alloc (.cells lyL 45)).drew = W0 at *
      refine hK _ _ M.o (fun hH => ?_)
      clear hK K12 M
      refine rd 6 (h := fun K hK => ?_)
      go_simp
      refine (Hik.o _ hH).mono ?_
      rintro e w4 ⟨hm4, hq4, hf4⟩
      obtain ⟨yp, yf, yb, yk, rfl, hy4⟩ := hf4 y d Hf.o
      have HY := hd' hy4
      clear hy4
      have M := hd' (hH.trans' hm4)
      have HN4 := hd' (HN0.o.up hm4)
      clear hH hm4 hq4 hf4
      refine hK _ _ M.o (fun hH => ?_)
      clear hK K M
      refine tk 7 (.tuple #[.agg (lyA y.id y.look yp yf yb yk), iV ((d : Nat) : Int)]) hH (h := ?_)
      refine tk 8 (.agg (lyA y.id y.look yp yf yb yk)) hH (h := ?_)
      refine tk 9 (iV ((d : Nat) : Int)) hH (h := ?_)
      refine rd 11 (h := fun K hK => ?_)
      refine wp_store_mid 45 _ _ rfl N 0 (lyA y.id y.look yp yf yb yk) rfl rfl (HN4.o.there 0 31 (by simp)) uaa (uat (LyR.one HY.o)) ?_
      have HS := hd' (Blk.setMod w4 N 0 (lyA y.id y.look yp yf yb yk).toList)
      have HN5 := hd' (HN4.o.setAll (lyA y.id y.look yp yf yb yk) rfl)
      have M := hd' (hH.trans HS.o (fun k hk e => by have := HNN.o; omega))
      have HY5 := hd' (HY.o.boxed HG.o (by have := HNN.o; have := HMw.o.size; omega) HS.o)
      clear HY
      clear hH HS
      generalize w4.setCells N 0 (lyA y.id y.look yp yf yb yk).toList = W5 at *
      refine hK _ _ M.o (fun hH => ?_)
      clear hK K M
      refine tk 12 (iV ((d : Nat) : Int)) hH (h := ?_)
      have MS := hd' hH
      refine wpAnyH_done (by kernel_rfl) ?_ _
      clear hH
      try simp only [Act.put]
      have HM5 := hd' (HMw.o.trans' MS.o)
      have HR5 := hd' (HRr.o.up MS.o)
      have HN5w := hd' HN5.o.whole
      clear MS
      have hwd : IntKind.i64.wrap ((d : Int) + 1) = ((d + 1 : Nat) : Int) := by rw [IntKind.wrap_i64]; have := Hd.o; omega
      go_wp2_with (first | ((with_reducible refine lT 45 ?_); refine ldA HN5w.o Tryz.underlying45 uaa (h := ?_)) | ((with_reducible refine sT 45 ?_); refine stA (lyA y.id y.look yp yf yb yk) (HR5.o.there 0 31 (by simp)) uaa (uat (LyR.one HY5.o)) (h := ?_)) | fail)
      have HS := hd' (Blk.setMod W5 (w.heap.size + 1 + 1) 0 (lyA y.id y.look yp yf yb yk).toList)
      have hR := HR5.o.setAll (lyA y.id y.look yp yf yb yk) rfl
      refine bpr (uam rfl (ResAt.of rfl hR Tryz.underlying45 rfl uaa)) rfl ?_
      refine ⟨HM5.o.trans HS.o (fun k hk e => by omega), fun h => by (rw [Hq.o] at h; cases h), fun y' d' h => ?_⟩
      rw [Hq.o] at h
      cases h
      exact ⟨yp, yf, yb, yk, rfl, HY5.o.boxed HG.o (by omega) HS.o⟩
   ·have hil' : j = ks.length := by omega
    subst hil'
    rw [List.take_length] at Hall
    have Hq : Hid (Ly.find x (.mk i lk ks) = none) := hd' (by rw [Ly.find, if_neg Hix.o, Ly.findL_none Hall.o]; rfl)
    go_wp2_with (first | ((with_reducible show wpList _ _ _ (⟨_, Op.build _ _, _, _, _, _⟩ :: _) _ _); refine halt ?_) | fail)
    show wpList _ _ _ _ _ _
    refine uav rfl (.agg lyZ) (by kernel_rfl) ?_
    simp only [Act.put, List.setIfInBounds_toArray, List.set_cons_zero, List.set_cons_succ]
    refine wpList_store_mid rfl 45 _ _ rfl (w.heap.size + 1 + 1) 0 lyZ rfl rfl (HRr.o.there 0 31 (by simp)) uaa (by simp [lyA, Value.oneCell']) ?_
    have HS := hd' (Blk.setMod wr (w.heap.size + 1 + 1) 0 lyZ.toList)
    have hR := HRr.o.setAll lyZ rfl
    generalize wr.setCells (w.heap.size + 1 + 1) 0 lyZ.toList = W9 at *
    go_wp2_with fail
    refine bpr (uam rfl (ResAt.of rfl hR Tryz.underlying45 rfl uaa)) rfl ?_
    exact ⟨HMw.o.trans HS.o (fun k hk e => by omega), fun _ => rfl, fun y d h => by (rw [Hq.o] at h; cases h)⟩
theorem ufz (x : Idt) : ∀ (T : Ly) (G : Nat → Prop) (w : World) (vp vf vb vk : Value), (∀ b, G b → b < w.heap.size) → LyR G w (lyA T.id T.look vp vf vb vk).toList T → TFit T →
 Calls Tryz.prog 19 #[.agg (lyA T.id T.look vp vf vb vk), .agg #[iV x.1, iV x.2]] w (ParQ G (T.parent x) w) := by
 intro T
 induction T using Ly.ind with
 | h i lk ks ih =>
  intro G w vp vf vb vk hG hr hft
  have Hrr := hd' hr
  obtain ⟨hl, css, hrow, hcl, hk⟩ := hr.parts
  simp only [Ly.id_mk, Ly.look_mk, Ly.kids_mk] at hl hrow hcl hk Hrr ⊢
  obtain ⟨pk, ck, rfl⟩ := RowG.slice hrow
  have HG := hd' hG
  have Hrow := hd' hrow
  have Hcl := hd' hcl
  have Hk := hd' hk
  have Hft := hd' hft
  have Ih := hd' ih
  have hlen := hft.len
  rw [Ly.kids_mk] at hlen
  have Hlen := hd' hlen
  obtain ⟨b0, b1, b2, bm⟩ := ubd w 45 30 45 (lyA i lk vp vf vb (.slice pk ks.length ck)) #[iV x.1, iV x.2] lyL
  have HB := hd' b0
  have HX := hd' b1
  have HR := hd' b2
  have HMa := hd' bm
  clear hl hrow hcl hk hr hft ih hlen hG b0 b1 b2 bm
  go_enter Tryz.func19, Tryz.ntmps19
  go_upto_region 1 with fail
  generalize ((w.alloc (.cells (lyA i lk vp vf vb (.slice pk ks.length ck)) 45)).alloc (.cells #[iV x.1, iV x.2] 30)).alloc (.cells lyL 45) = W1 at *
  have HBw := hd' HB.o.whole
  go_wp2_with fail
  go_loopw [6] (fun vi wr => ∃ j : Nat, vi = iV j ∧ j ≤ ks.length ∧ (∀ a ∈ ks.take j, a.id ≠ x ∧ a.parent x = none) ∧ Gou.Mod (fun _ => False) W1 wr) (fun vi _ => ks.length - (intOf vi).toNat)
  case atStart => exact ⟨0, rfl, Nat.zero_le _, by simp, Gou.Mod.refl _ _⟩
  case round =>
   obtain ⟨j, rfl, hj, hall, hm⟩ := hrel
   have Hm := hd' hm
   have Hall := hd' hall
   have HMw := hd' (HMa.o.trans' hm)
   have HBr := hd' (HB.o.up hm)
   have HXr := hd' (HX.o.up hm)
   have HRr := hd' (HR.o.up hm)
   have c30 : wr.cell? ⟨w.heap.size, 30, none⟩ = some (.slice pk ks.length ck) := HBr.o.cell 30 rfl
   clear hm hall
   by_cases hil : j < ks.length
   ·obtain ⟨b, o, kp, kf, kb, kk, rfl, hbl, _, hrg, hkr⟩ := LyR.kidR Hrow.o Hcl.o rfl Hk.o hil
    have Hrg := hd' (uax hrg HMw.o (fun h => h))
    have Hkj : Hid (ks[j]? = some ks[j]) := hd' (lgE hil)
    have hstep : ∀ {p : Ly → Prop}, (∀ a ∈ ks.take j, p a) → p ks[j] → ∀ a ∈ ks.take (j + 1), p a := fun h1 h2 a ha => by
     rw [ltS hil, List.mem_append, List.mem_singleton] at ha
     rcases ha with ha | rfl
     ·exact h1 a ha
     ·exact h2
    have Hstep : Hid (∀ {p : Ly → Prop}, (∀ a ∈ ks.take j, p a) → p ks[j] → ∀ a ∈ ks.take (j + 1), p a) := hd' hstep
    have Hik : Hid (∀ w', Gou.Mod (fun _ => False) wr w' → Calls Tryz.prog 19 #[.agg (lyA ks[j].id ks[j].look kp kf kb kk), .agg #[iV x.1, iV x.2]] w' (ParQ G (ks[j].parent x) w')) := hd' (fun w' hw' => Ih.o ks[j] (lgM hil) G w' kp kf kb kk (fun b hb => Nat.lt_of_lt_of_le (HG.o b hb) (HMw.o.trans' hw').size) (hkr.up (HMw.o.trans' hw')) (Hft.o.kids ks[j] (by rw [Ly.kids_mk]; exact lgM hil)))
    have Hil := hd' hil
    have hwi : wrap64 ((j : Int) + 1) = ((j + 1 : Nat) : Int) := by have := Hlen.o; unfold wrap64; omega
    clear hrg hkr hbl hstep
    generalize ks[j] = kd at *
    have k0 : wr.cell? ⟨b, o + j * 31, none⟩ = some (iV kd.id.1) := Hrg.o 0 _ rfl
    have k1 : wr.cell? ⟨b, o + j * 31 + 1, none⟩ = some (iV kd.id.2) := Hrg.o 1 _ rfl
    have x0 : wr.cell? ⟨w.heap.size + 1, 0, none⟩ = some (iV x.1) := HXr.o.cell 0 rfl
    have x1 : wr.cell? ⟨w.heap.size + 1, 1, none⟩ = some (iV x.2) := HXr.o.cell 1 rfl
    have hid := fun (w' : World) => udm kd.id x w'
    go_upto_region 4 with fail
    by_cases hkx : kd.id = x
    ·have ez : decide (kd.id = x) = true := dqt hkx
     rw [ez] at hid
     have Hq : Hid (Ly.parent x (.mk i lk ks) = some (.mk i lk ks)) := hd' (by rw [Ly.parent]; exact Ly.parentL_at Hall.o Hkj.o (.inl ⟨hkx, rfl⟩))
     clear hkx ez
     go_quiet (fail)
     have HQ := hd' (Gou.Mod.drewN (fun _ => False) wr nq)
     have HBq := hd' (HBr.o.up HQ.o).whole
     have HRq := hd' (HRr.o.up HQ.o)
     go_upto_region 5 with fail
     clear k0 k1 x0 x1 hid c30
     generalize wr.drewN nq = wq at *
     go_wp2_with (first | ((with_reducible refine lT 45 ?_); refine ldA HBq.o Tryz.underlying45 uaa (h := ?_)) | ((with_reducible refine sT 45 ?_); refine stA (lyA i lk vp vf vb (.slice (some ⟨b, o, none⟩) ks.length ck)) ((HRq.o).there 0 31 (by simp)) uaa (uat (LyR.one (T := .mk i lk ks) Hrr.o)) (h := ?_)) | fail)
     have HS := hd' (Blk.setMod wq (w.heap.size + 1 + 1) 0 (lyA i lk vp vf vb (.slice (some ⟨b, o, none⟩) ks.length ck)).toList)
     have hR := HRq.o.setAll (lyA i lk vp vf vb (.slice (some ⟨b, o, none⟩) ks.length ck)) rfl
     refine bpr (uam rfl (ResAt.of rfl hR Tryz.underlying45 rfl uaa)) rfl ?_
     refine ⟨(HMw.o.trans' HQ.o).trans HS.o (fun k hk e => by omega), fun h => by (rw [Hq.o] at h; cases h), fun y h => ?_⟩
     rw [Hq.o] at h
     cases h
     exact ⟨vp, vf, vb, _, rfl, (Hrr.o.up (HMw.o.trans' HQ.o)).boxed HG.o (by omega) HS.o⟩
    ·have ez : decide (kd.id = x) = false := dqf hkx
     rw [ez] at hid
     have Hnx := hd' hkx
     clear hkx ez
     go_quiet (fail)
     go_upto_region 6 with fail
     have hq := Gou.Mod.drewN (fun _ => False) wr nq
     replace Hm := hd' (Hm.o.trans' hq)
     replace HMw := hd' (HMw.o.trans' hq)
     replace Hrg := hd' (uax Hrg.o hq (fun h => h))
     replace HBr := hd' (HBr.o.up hq)
     replace HXr := hd' (HXr.o.up hq)
     replace HRr := hd' (HRr.o.up hq)
     replace Hik : Hid (∀ w', Gou.Mod (fun _ => False) (wr.drewN nq) w' → Calls Tryz.prog 19 #[.agg (lyA kd.id kd.look kp kf kb kk), .agg #[iV x.1, iV x.2]] w' (ParQ G (kd.parent x) w')) := hd' (fun w' hw' => Hik.o w' (hq.trans' hw'))
     clear k0 k1 x0 x1 hid c30 hq
     generalize wr.drewN nq = wq at *
     have c30 : wq.cell? ⟨w.heap.size, 30, none⟩ = some (.slice (some ⟨b, o, none⟩) ks.length ck) := HBr.o.cell 30 rfl
     have HXq : Hid (wq.rangeAt (w.heap.size + 1) 0 [iV x.1, iV x.2]) := hd' (Blk.range (pre := []) (post := []) HXr.o (by simp) rfl)
     cases hf : kd.parent x with
     | none =>
      have Hf := hd' hf
      clear hf
      refine wp_region_held_drew (S := fun w' => Gou.Mod (fun _ => False) wq w') (by kernel_rfl) (Gou.Mod.drew _ _) (fun hH => ?_)
      refine tk 0 (.pointer (some ⟨w.heap.size, 30, none⟩)) hH (h := ?_)
      refine tkC 1 c30 (fun h => h) hH (h := ?_)
      refine tk 2 (iV (j : Int)) hH (h := ?_)
      refine tk 3 (.pointer (some ⟨b, o + j * 31, none⟩)) hH (h := ?_)
      refine tkR 4 (.agg (lyA kd.id kd.look kp kf kb kk)) Hrg.o (fun h => h) Tryz.underlying45 uaa hH (h := ?_)
      refine tkR 5 (.agg #[iV x.1, iV x.2]) HXq.o (fun h => h) Tryz.underlying30 uaf hH (h := ?_)
      refine rd2 6 10 (h := fun K13 hK => ?_) (g := fun K13 hK => ?_)
      ·skip
       go_simp
       refine (Hik.o _ hH).mono ?_
       rintro e w4 ⟨hm4, hq4, hf4⟩
       obtain rfl := hq4 Hf.o
       have M := hd' (hH.trans' hm4)
       clear hH hm4 hq4 hf4
       refine hK _ _ M.o (fun hH => ?_)
       clear hK K13 M
       refine tk 7 (.tuple #[.agg lyZ, .bool false]) hH (h := ?_)
       refine tk 8 (.agg lyZ) hH (h := ?_)
       refine tk 9 (.bool false) hH (h := ?_)
       refine rd 10 (h := fun K hK => ?_)
       go_simp
       have M := hd' (hH.trans' (Gou.Mod.alloc0 w4 (.cells lyL 45)))
       have HN4 := hd' (Blk.new w4 45 lyL)
       obtain ⟨N, hN⟩ : ∃ N, N = w4.heap.size := ⟨_, rfl⟩
       have HNN : Hid (wq.heap.size ≤ N) := hd' (by rw [hN]; exact hH.size)
       rw [← hN] at HN4
       try rw [← hN]
       clear hH hN
       generalize w4.alloc (.cells lyL 45) = W0 at *
       refine hK _ _ M.o (fun hH => ?_)
       clear hK K M
       refine rd 11 (h := fun K hK => ?_)
       refine wp_store_mid 45 _ _ rfl N 0 lyZ rfl rfl (HN4.o.there 0 31 (by simp)) uaa (by simp [lyA, Value.oneCell']) ?_
       have HS := hd' (Blk.setMod W0 N 0 lyZ.toList)
       have HN5 := hd' (HN4.o.setAll lyZ rfl)
       have M := hd' (hH.trans HS.o (fun k hk e => by have := HNN.o; omega))
       clear hH HS
       generalize W0.setCells N 0 lyZ.toList = W5 at *
       refine hK _ _ M.o (fun hH => ?_)
       clear hK K M
       refine tk 12 (.bool false) hH (h := ?_)
       have MS := hd' hH
       refine wpAnyH_done (by kernel_rfl) ?_ _
       clear hH
       try simp only [Act.put]
       have HM5 := hd' (Hm.o.trans' MS.o)
       clear MS
       go_wp2_with fail
       go_roundw
       case rel => exact ⟨j + 1, by rw [← hwi], by have := Hil.o; omega, Hstep.o Hall.o ⟨Hnx.o, Hf.o⟩, HM5.o⟩
       case measure => rw [hwi]; have := Hil.o; simp only [intOf]; omega
      ·skip
       go_simp
       have hma : Gou.Mod (fun _ => False) wq (wq.alloc (.cells lyL 45)).drew := (Gou.Mod.alloc0 wq (.cells lyL 45)).trans' (Gou.Mod.drew _ _)
       have M := hd' hma
       have HN0 := hd' ((Blk.new wq 45 lyL).up (Gou.Mod.drew (fun _ => False) _))
       obtain ⟨N, hN⟩ : ∃ N, N = wq.heap.size := ⟨_, rfl⟩
       have HNN : Hid (wq.heap.size ≤ N) := hd' (by rw [hN]; exact Nat.le_refl _)
       rw [← hN] at HN0
       try rw [← hN]
       clear hH hN hma
       generalize (wq.alloc (.cells lyL 45)).drew = W0 at *
       refine hK _ _ M.o (fun hH => ?_)
       clear hK K13 M
       refine rd 6 (h := fun K hK => ?_)
       go_simp
       refine (Hik.o _ hH).mono ?_
       rintro e w4 ⟨hm4, hq4, hf4⟩
       obtain rfl := hq4 Hf.o
       have M := hd' (hH.trans' hm4)
       have HN4 := hd' (HN0.o.up hm4)
       clear hH hm4 hq4 hf4
       refine hK _ _ M.o (fun hH => ?_)
       clear hK K M
       refine tk 7 (.tuple #[.agg lyZ, .bool false]) hH (h := ?_)
       refine tk 8 (.agg lyZ) hH (h := ?_)
       refine tk 9 (.bool false) hH (h := ?_)
       refine rd 11 (h := fun K hK => ?_)
       refine wp_store_mid 45 _ _ rfl N 0 lyZ rfl rfl (HN4.o.there 0 31 (by simp)) uaa (by simp [lyA, Value.oneCell']) ?_
       have HS := hd' (Blk.setMod w4 N 0 lyZ.toList)
       have HN5 := hd' (HN4.o.setAll lyZ rfl)
       have M := hd' (hH.trans HS.o (fun k hk e => by have := HNN.o; omega))
       clear hH HS
       generalize w4.setCells N 0 lyZ.toList = W5 at *
       refine hK _ _ M.o (fun hH => ?_)
       clear hK K M
       refine tk 12 (.bool false) hH (h := ?_)
       have MS := hd' hH
       refine wpAnyH_done (by kernel_rfl) ?_ _
       clear hH
       try simp only [Act.put]
       have HM5 := hd' (Hm.o.trans' MS.o)
       clear MS
       go_wp2_with fail
       go_roundw
       case rel => exact ⟨j + 1, by rw [← hwi], by have := Hil.o; omega, Hstep.o Hall.o ⟨Hnx.o, Hf.o⟩, HM5.o⟩
       case measure => rw [hwi]; have := Hil.o; simp only [intOf]; omega
     | some y =>
      have Hf := hd' hf
      have Hq : Hid (Ly.parent x (.mk i lk ks) = some y) := hd' (by rw [Ly.parent]; exact Ly.parentL_at Hall.o Hkj.o (.inr ⟨Hnx.o, hf⟩))
      clear hf
      refine wp_region_held_drew (S := fun w' => Gou.Mod (fun _ => False) wq w') (by kernel_rfl) (Gou.Mod.drew _ _) (fun hH => ?_)
      refine tk 0 (.pointer (some ⟨w.heap.size, 30, none⟩)) hH (h := ?_)
      refine tkC 1 c30 (fun h => h) hH (h := ?_)
      refine tk 2 (iV (j : Int)) hH (h := ?_)
      refine tk 3 (.pointer (some ⟨b, o + j * 31, none⟩)) hH (h := ?_)
      refine tkR 4 (.agg (lyA kd.id kd.look kp kf kb kk)) Hrg.o (fun h => h) Tryz.underlying45 uaa hH (h := ?_)
      refine tkR 5 (.agg #[iV x.1, iV x.2]) HXq.o (fun h => h) Tryz.underlying30 uaf hH (h := ?_)
      refine rd2 6 10 (h := fun K14 hK => ?_) (g := fun K14 hK => ?_)
      ·skip
       go_simp
       refine (Hik.o _ hH).mono ?_
       rintro e w4 ⟨hm4, hq4, hf4⟩
       obtain ⟨yp, yf, yb, yk, rfl, hy4⟩ := hf4 y Hf.o
       have HY := hd' hy4
       clear hy4
       have M := hd' (hH.trans' hm4)
       clear hH hm4 hq4 hf4
       refine hK _ _ M.o (fun hH => ?_)
       clear hK K14 M
       refine tk 7 (.tuple #[.agg (lyA y.id y.look yp yf yb yk), .bool true]) hH (h := ?_)
       refine tk 8 (.agg (lyA y.id y.look yp yf yb yk)) hH (h := ?_)
       refine tk 9 (.bool true) hH (h := ?_)
       refine rd 10 (h := fun K hK => ?_)
       go_simp
       have M := hd' (hH.trans' (Gou.Mod.alloc0 w4 (.cells lyL 45)))
       have HN4 := hd' (Blk.new w4 45 lyL)
       obtain ⟨N, hN⟩ : ∃ N, N = w4.heap.size := ⟨_, rfl⟩
       have HNN : Hid (wq.heap.size ≤ N) := hd' (by rw [hN]; exact hH.size)
       rw [← hN] at HN4
       try rw [← hN]
       have HY0 := hd' (HY.o.up (Gou.Mod.alloc0 w4 (.cells lyL 45)))
       clear HY
       have HY := HY0
       clear hH hN
       generalize w4.alloc (.cells lyL 45) = W0 at *
       refine hK _ _ M.o (fun hH => ?_)
       clear hK K M
       refine rd 11 (h := fun K hK => ?_)
       refine wp_store_mid 45 _ _ rfl N 0 (lyA y.id y.look yp yf yb yk) rfl rfl (HN4.o.there 0 31 (by simp)) uaa (uat (LyR.one HY.o)) ?_
       have HS := hd' (Blk.setMod W0 N 0 (lyA y.id y.look yp yf yb yk).toList)
       have HN5 := hd' (HN4.o.setAll (lyA y.id y.look yp yf yb yk) rfl)
       have M := hd' (hH.trans HS.o (fun k hk e => by have := HNN.o; omega))
       have HY5 := hd' (HY.o.boxed HG.o (by have := HNN.o; have := HMw.o.size; omega) HS.o)
       clear HY
       clear hH HS
       generalize W0.setCells N 0 (lyA y.id y.look yp yf yb yk).toList = W5 at *
       refine hK _ _ M.o (fun hH => ?_)
       clear hK K M
       refine tk 12 (.bool true) hH (h := ?_)
       have MS := hd' hH
       refine wpAnyH_done (by kernel_rfl) ?_ _
       clear hH
       try simp only [Act.put]
       have HM5 := hd' (HMw.o.trans' MS.o)
       have HR5 := hd' (HRr.o.up MS.o)
       have HN5w := hd' HN5.o.whole
       clear MS
       go_wp2_with (first | ((with_reducible refine lT 45 ?_); refine ldA HN5w.o Tryz.underlying45 uaa (h := ?_)) | ((with_reducible refine sT 45 ?_); refine stA (lyA y.id y.look yp yf yb yk) (HR5.o.there 0 31 (by simp)) uaa (uat (LyR.one HY5.o)) (h := ?_)) | fail)
       have HS := hd' (Blk.setMod W5 (w.heap.size + 1 + 1) 0 (lyA y.id y.look yp yf yb yk).toList)
       have hR := HR5.o.setAll (lyA y.id y.look yp yf yb yk) rfl
       refine bpr (uam rfl (ResAt.of rfl hR Tryz.underlying45 rfl uaa)) rfl ?_
       refine ⟨HM5.o.trans HS.o (fun k hk e => by omega), fun h => by (rw [Hq.o] at h; cases h), fun y' h => ?_⟩
       rw [Hq.o] at h
       cases h
       exact ⟨yp, yf, yb, yk, rfl, HY5.o.boxed HG.o (by omega) HS.o⟩
      ·skip
       go_simp
       have hma : Gou.Mod (fun _ => False) wq (wq.alloc (.cells lyL 45)).drew := (Gou.Mod.alloc0 wq (.cells lyL 45)).trans' (Gou.Mod.drew _ _)
       have M := hd' hma
       have HN0 := hd' ((Blk.new wq 45 lyL).up (Gou.Mod.drew (fun _ => False) _))
       obtain ⟨N, hN⟩ : ∃ N, N = wq.heap.size := ⟨_, rfl⟩
       have HNN : Hid (wq.heap.size ≤ N) := hd' (by rw [hN]; exact Nat.le_refl _)
       rw [← hN] at HN0
       try rw [← hN]
       clear hH hN hma
       generalize (wq.alloc (.cells lyL 45)).drew = W0 at *
       refine hK _ _ M.o (fun hH => ?_)
       clear hK K14 M
       refine rd 6 (h := fun K hK => ?_)
       go_simp
       refine (Hik.o _ hH).mono ?_
       rintro e w4 ⟨hm4, hq4, hf4⟩
       obtain ⟨yp, yf, yb, yk, rfl, hy4⟩ := hf4 y Hf.o
       have HY := hd' hy4
       clear hy4
       have M := hd' (hH.trans' hm4)
       have HN4 := hd' (HN0.o.up hm4)
       clear hH hm4 hq4 hf4
       refine hK _ _ M.o (fun hH => ?_)
       clear hK K M
       refine tk 7 (.tuple #[.agg (lyA y.id y.look yp yf yb yk), .bool true]) hH (h := ?_)
       refine tk 8 (.agg (lyA y.id y.look yp yf yb yk)) hH (h := ?_)
       refine tk 9 (.bool true) hH (h := ?_)
       refine rd 11 (h := fun K hK => ?_)
       refine wp_store_mid 45 _ _ rfl N 0 (lyA y.id y.look yp yf yb yk) rfl rfl (HN4.o.there 0 31 (by simp)) uaa (uat (LyR.one HY.o)) ?_
       have HS := hd' (Blk.setMod w4 N 0 (lyA y.id y.look yp yf yb yk).toList)
       have HN5 := hd' (HN4.o.setAll (lyA y.id y.look yp yf yb yk) rfl)
       have M := hd' (hH.trans HS.o (fun k hk e => by have := HNN.o; omega))
       have HY5 := hd' (HY.o.boxed HG.o (by have := HNN.o; have := HMw.o.size; omega) HS.o)
       clear HY
       clear hH HS
       generalize w4.setCells N 0 (lyA y.id y.look yp yf yb yk).toList = W5 at *
       refine hK _ _ M.o (fun hH => ?_)
       clear hK K M
       refine tk 12 (.bool true) hH (h := ?_)
       have MS := hd' hH
       refine wpAnyH_done (by kernel_rfl) ?_ _
       clear hH
       try simp only [Act.put]
       have HM5 := hd' (HMw.o.trans' MS.o)
       have HR5 := hd' (HRr.o.up MS.o)
       have HN5w := hd' HN5.o.whole
       clear MS
       go_wp2_with (first | ((with_reducible refine lT 45 ?_); refine ldA HN5w.o Tryz.underlying45 uaa (h := ?_)) | ((with_reducible refine sT 45 ?_); refine stA (lyA y.id y.look yp yf yb yk) (HR5.o.there 0 31 (by simp)) uaa (uat (LyR.one HY5.o)) (h := ?_)) | fail)
       have HS := hd' (Blk.setMod W5 (w.heap.size + 1 + 1) 0 (lyA y.id y.look yp yf yb yk).toList)
       have hR := HR5.o.setAll (lyA y.id y.look yp yf yb yk) rfl
       refine bpr (uam rfl (ResAt.of rfl hR Tryz.underlying45 rfl uaa)) rfl ?_
       refine ⟨HM5.o.trans HS.o (fun k hk e => by omega), fun h => by (rw [Hq.o] at h; cases h), fun y' h => ?_⟩
       rw [Hq.o] at h
       cases h
       exact ⟨yp, yf, yb, yk, rfl, HY5.o.boxed HG.o (by omega) HS.o⟩
   ·have hil' : j = ks.length := by omega
    subst hil'
    rw [List.take_length] at Hall
    have Hq : Hid (Ly.parent x (.mk i lk ks) = none) := hd' (by rw [Ly.parent]; exact Ly.parentL_none Hall.o)
    go_wp2_with (first | ((with_reducible show wpList _ _ _ (⟨_, Op.build _ _, _, _, _, _⟩ :: _) _ _); refine halt ?_) | fail)
    show wpList _ _ _ _ _ _
    refine uav rfl (.agg lyZ) (by kernel_rfl) ?_
    simp only [Act.put, List.setIfInBounds_toArray, List.set_cons_zero, List.set_cons_succ]
    refine wpList_store_mid rfl 45 _ _ rfl (w.heap.size + 1 + 1) 0 lyZ rfl rfl (HRr.o.there 0 31 (by simp)) uaa (by simp [lyA, Value.oneCell']) ?_
    have HS := hd' (Blk.setMod wr (w.heap.size + 1 + 1) 0 lyZ.toList)
    have hR := HRr.o.setAll lyZ rfl
    generalize wr.setCells (w.heap.size + 1 + 1) 0 lyZ.toList = W9 at *
    go_wp2_with fail
    refine bpr (uam rfl (ResAt.of rfl hR Tryz.underlying45 rfl uaa)) rfl ?_
    exact ⟨HMw.o.trans HS.o (fun k hk e => by omega), fun _ => rfl, fun y h => by (rw [Hq.o] at h; cases h)⟩
end Go.Proofs.YtpbmfalokongfaaGreatDoor
