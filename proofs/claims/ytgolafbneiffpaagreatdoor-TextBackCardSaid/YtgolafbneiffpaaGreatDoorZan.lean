/- Texts of the scenes' proofs, laid together: TyM, TyN, TyO, TyP, TyQ, TyR, TyS, TyT, TyU. -/
import Derived.Test.YtgolafbneiffpaaGreatDoorZam
import Derived.Lib.ConvBytes
import Derived.Laws.Rows
import Derived.Test.YtgolafbneiffpaaGreatDoorZaj
import Derived.Laws.Strings
import Derived.Lib.SlicesS
set_option maxHeartbeats 64000000
set_option linter.unusedSimpArgs false
set_option linter.unusedVariables false
set_option linter.unusedSectionVars false
set_option linter.constructorNameAsVariable false
namespace Go.Proofs.YtgolafbneiffpaaGreatDoor
open Go.RowKit Go.Gou Go.Txt
set_option maxRecDepth 100000
theorem str_ne {x u : Wd} (h : x ≠ u) : (⟨x.toArray⟩ : ByteArray) ≠ ⟨u.toArray⟩ := fun e => h (by
 have := congrArg (fun b => b.data.toList) e
 simpa using this)
theorem next_end {w : World} {R : Nat} {vs : Value} {ws : List Wd} (h : RdW w R vs ws ws.length) (u : Wd) :
  Calls Tryz.prog 118 #[.pointer (some ⟨R, 0, none⟩), .string ⟨u.toArray⟩] w fun e w' => e = .returned (.bool false) ∧ RdW w' R vs ws ws.length ∧ Gou.Mod (fun k => k = R) w w' := by
 have H := hd' h
 obtain ⟨p, cap, rfl, -⟩ := RowG.form h.row
 have c0 := h.box.cell 0 rfl
 have c1 := h.box.cell 1 rfl
 have hl := h.len
 clear h
 go_enter Tryz.func118, Tryz.ntmps118
 go_wp2_with fail
 have hd : decide ((ws.length : Int) < (ws.length : Int)) = false := by simp
 go_quiet (fail)
 go_wp2_with fail
 go_ret
 exact ⟨rfl, H.o.other (Gou.Mod.drewN (fun _ => False) w nq), (Gou.Mod.drewN (fun _ => False) w nq).imp fun _ _ h => h.elim⟩
theorem next_not {w : World} {R : Nat} {vs : Value} {ws : List Wd} {n : Nat} (h : RdW w R vs ws n) (hn : n < ws.length) (u : Wd) (hu : ws[n] ≠ u) :
  Calls Tryz.prog 118 #[.pointer (some ⟨R, 0, none⟩), .string ⟨u.toArray⟩] w fun e w' => e = .returned (.bool false) ∧ RdW w' R vs ws n ∧ Gou.Mod (fun k => k = R) w w' := by
 have H := hd' h
 obtain ⟨b, o, cap, rfl, hcap, hb, hbR, hx⟩ := h.word hn
 have c0 := h.box.cell 0 rfl
 have c1 := h.box.cell 1 rfl
 have hl := h.len
 clear h
 have hnI : (n : Int) < (ws.length : Int) := by omega
 have hn0 : (0 : Int) ≤ (n : Int) := by omega
 have hd : decide ((n : Int) < (ws.length : Int)) = true := by simp [hnI]
 generalize ws[n] = x at *
 have hs : ((⟨x.toArray⟩ : ByteArray).toList == (⟨u.toArray⟩ : ByteArray).toList) = false := by
  rw [bqf, ByteArray.toList_eq, ByteArray.toList_eq]
  simpa using hu
 generalize (⟨x.toArray⟩ : ByteArray) = X at *
 generalize (⟨u.toArray⟩ : ByteArray) = U at *
 clear hu
 go_enter Tryz.func118, Tryz.ntmps118
 go_wp2_with fail
 go_quiet (fail)
 go_wp2_with fail
 go_ret
 exact ⟨rfl, H.o.other (Gou.Mod.drewN (fun _ => False) w nq), (Gou.Mod.drewN (fun _ => False) w nq).imp fun _ _ h => h.elim⟩
theorem next_yes {w : World} {R : Nat} {vs : Value} {ws : List Wd} {n : Nat} (h : RdW w R vs ws n) (hn : n < ws.length) :
  Calls Tryz.prog 118 #[.pointer (some ⟨R, 0, none⟩), .string ⟨(ws[n]).toArray⟩] w fun e w' => e = .returned (.bool true) ∧ RdW w' R vs ws (n + 1) ∧ Gou.Mod (fun k => k = R) w w' := by
 have H := hd' h
 obtain ⟨b, o, cap, rfl, hcap, hb, hbR, hx⟩ := h.word hn
 have c0 := h.box.cell 0 rfl
 have c1 := h.box.cell 1 rfl
 have f1 := h.box.frozen 1
 have hl := h.len
 clear h
 have hnI : (n : Int) < (ws.length : Int) := by omega
 have hn0 : (0 : Int) ≤ (n : Int) := by omega
 have hd : decide ((n : Int) < (ws.length : Int)) = true := by simp [hnI]
 have hw1 : wrap64 ((n : Int) + 1) = (n : Int) + 1 := IntWalk.wrap64_in _ (by omega)
 generalize ws[n] = x at *
 generalize (⟨x.toArray⟩ : ByteArray) = X at *
 go_enter Tryz.func118, Tryz.ntmps118
 go_wp2_with fail
 go_quiet (fail)
 obtain ⟨nq1, rfl⟩ : ∃ q : Nat, q = nq := ⟨_, rfl⟩
 go_wp2_with fail
 go_ret
 refine ⟨rfl, ?_, ?_⟩
 ·have h1 := (H.o.other (Gou.Mod.drewN (fun _ => False) w nq1)).setAt (n + 1) (by omega)
  simpa using h1
 ·exact ((Gou.Mod.drewN (fun _ => False) w nq1).imp fun _ _ h => h.elim).trans' (Gou.Mod.setCell (w.drewN nq1) ⟨R, 1, none⟩ _)
theorem unq {w : World} {R : Nat} {vs : Value} {ws : List Wd} {n : Nat} (h : RdW w R vs ws n) (u : Wd) :
  Calls Tryz.prog 118 #[.pointer (some ⟨R, 0, none⟩), .string ⟨u.toArray⟩] w fun e w' => e = .returned (.bool (decide ((ws.drop n).head? = some u))) ∧ (∃ m, RdW w' R vs ws m ∧ ws.drop m = (if (ws.drop n).head? = some u then (ws.drop n).drop 1 else ws.drop n)) ∧ Gou.Mod (fun k => k = R) w w' := by
 by_cases hn : n < ws.length
 ·rw [ulv hn]
  by_cases hu : ws[n] = u
  ·subst hu
   refine (next_yes h hn).mono ?_
   rintro e w' ⟨rfl, hr, hm⟩
   exact ⟨by simp, ⟨n + 1, hr, by simp⟩, hm⟩
  ·refine (next_not h hn u hu).mono ?_
   rintro e w' ⟨rfl, hr, hm⟩
   exact ⟨by rw [List.head?_cons, dqf (by simpa using hu)], ⟨n, hr, by rw [List.head?_cons, if_neg (by simpa using hu)]; exact ulv hn⟩, hm⟩
 ·obtain rfl : n = ws.length := by have := h.le; omega
  rw [List.drop_length]
  refine (next_end h u).mono ?_
  rintro e w' ⟨rfl, hr, hm⟩
  exact ⟨by simp, ⟨ws.length, hr, by simp⟩, hm⟩
theorem uqo (w : World) (e : TypeId) (t : ByteArray) : Gou.Mod (fun _ => False) w (Lib.bytesWorld w e t) := by
 have h := (Gou.Mod.drew (fun _ => False) w).trans' (Gou.Mod.alloc0 w.drew (.cells (Lib.bytesCells w e t) e))
 have hz : (Lib.bytesWorld w e t).heap.size = ((w.drew.alloc (.cells (Lib.bytesCells w e t) e))).heap.size := by
  unfold Lib.bytesWorld World.freeze
  split
  ·rfl
  ·simp
 refine ⟨?_, ?_, ?_, by rw [hz]; exact h.4, fun k hk hs => ?_⟩
 ·rw [← h.1]
  unfold Lib.bytesWorld World.freeze
  split <;> rfl
 ·rw [← h.2]
  unfold Lib.bytesWorld World.freeze
  split <;> rfl
 ·rw [← h.3]
  unfold Lib.bytesWorld World.freeze
  split <;> rfl
 ·rw [← h.5 k hk hs]
  unfold Lib.bytesWorld World.freeze
  split
  ·rfl
  ·simp only [Array.getElem?_modify]
   rw [if_neg (by omega)]
theorem atoi_any (u : Wd) (hu : u.length ≤ 1000000000) (w : World) (ht : LT w) :
  Calls Tryz.prog 142 #[.string ⟨u.toArray⟩] w fun e w' => Gou.Mod (fun _ => False) w w' ∧ match Lib.atoiAll u with
   | .ok n => e = .returned (.tuple #[iV n, .nilIface])
   | _ => ∃ x tp p, e = .returned (.tuple #[iV x, .iface tp p]) := by
 have hsz : (⟨u.toArray⟩ : ByteArray).size = u.length := by simp [ByteArray.size]
 rcases ha : Lib.atoiAll u with n | _ | _
 ·refine (Tryz.strconv_Atoi_ok ⟨u.toArray⟩ (by omega) n (by simpa using ha) w).mono ?_
  rintro e w' ⟨rfl, rfl | ⟨t, rfl⟩⟩
  ·exact ⟨Gou.Mod.refl _ _, rfl⟩
  ·exact ⟨uqo _ _ _, rfl⟩
 ·obtain ⟨tp, p, hv⟩ := ht.errS
  refine (Tryz.strconv_Atoi_bad_var ⟨u.toArray⟩ (by omega) (by constructor <;> simp [ha]) tp p w hv).mono ?_
  rintro e w' ⟨N, rfl, -, -, hb⟩
  exact ⟨Gou.Mod.of_below hb _, _, _, _, rfl⟩
 ·obtain ⟨tp, p, hv⟩ := ht.errR
  refine (Tryz.strconv_Atoi_range_var ⟨u.toArray⟩ (by omega) (by simpa using ha) tp p w hv).mono ?_
  rintro e w' ⟨N, rfl, -, -, hb⟩
  exact ⟨Gou.Mod.of_below hb _, _, _, _, rfl⟩
theorem uk3 {w : World} {R : Nat} {vs : Value} {ws : List Wd} {n : Nat} (h : RdW w R vs ws n) :
  Calls Tryz.prog 116 #[.pointer (some ⟨R, 0, none⟩)] w (RP w R vs ws VNum (numP (ws.drop n))) := by
 generalize hP : numP (ws.drop n) = PP
 have HP := hd' hP
 have H := hd' h
 clear hP h
 go_enter Tryz.func116, Tryz.ntmps116
 go_wp2_with fail
 by_cases hn : n < ws.length
 ·have Hd := hd' (ulv hn)
  have Hn := hd' hn
  have Hu := hd' (H.o.lim _ (lgM hn))
  refine (uor H.o hn).mono ?_
  rintro e w1 ⟨rfl, h1, hm1⟩
  have H1 := hd' h1
  have HM1 := hd' hm1
  rw [Hd.o] at HP
  generalize ws[n] = u at *
  clear h1 hm1 hn Hd
  go_wp2_with fail
  refine (atoi_any u Hu.o _ H1.o.lt).mono ?_
  rintro e w2 ⟨hm2, h2⟩
  have H2 := hd' (H1.o.other hm2)
  have HM2 := hd' (HM1.o.trans' (hm2.imp fun _ _ h => h.elim))
  clear hm2
  rcases ha : Lib.atoiAll u with x | _ | _
  ·rw [ha] at h2
   subst h2
   have Ha := hd' ha
   clear ha
   by_cases h0 : -2147483648 ≤ x
   ·by_cases h1 : x ≤ 2147483647
    ·have d0 : decide (-2147483648 ≤ x) = true := dqt h0
     have d1 : decide (x ≤ 2147483647) = true := dqt h1
     have Hx := hd' (And.intro h0 h1)
     clear h0 h1
     go_wp2_with fail
     refine (uvb x (by have := Hx.o; omega) (by have := Hx.o; omega) _ H2.o.lt).mono ?_
     rintro e w3 ⟨rfl, hm3⟩
     have H3 := hd' (H2.o.other hm3)
     have HM3 := hd' (HM2.o.trans' (hm3.imp fun _ _ h => h.elim))
     clear hm3
     by_cases he : Lib.itoa x = u
     ·have hcmp : (Lib.itoa x == u) = true := beq_iff_eq.2 he
      have Hres : Hid (PP = some (x, ws.drop (n + 1))) := hd' (by rw [← HP.o]; simp only [numP, numT, Ha.o]; rw [if_pos ⟨Hx.o.1, Hx.o.2, he⟩]; rfl)
      clear he
      go_wp2_with fail
      refine (ulo _).mono ?_
      rintro e w' ⟨rfl, hww⟩
      subst hww
      go_wp2_with fail
      go_ret
      refine ⟨HM3.o, ?_⟩
      rw [Hres.o]
      exact ⟨_, n + 1, rfl, rfl, H3.o, rfl⟩
     ·have hcmp : (Lib.itoa x == u) = false := bqf.2 he
      have Hres : Hid (PP = none) := hd' (by rw [← HP.o]; simp only [numP, numT, Ha.o]; rw [if_neg (fun h => he h.2.2)]; rfl)
      clear he
      go_wp2_with fail
      refine (ukv _).mono ?_
      rintro e w' ⟨rfl, hww⟩
      subst hww
      refine ⟨rfl, HM3.o, ?_⟩
      rw [Hres.o]
    ·have d0 : decide (-2147483648 ≤ x) = true := dqt h0
     have d1 : decide (x ≤ 2147483647) = false := dqf h1
     have Hres : Hid (PP = none) := hd' (by rw [← HP.o]; simp only [numP, numT, Ha.o]; rw [if_neg (fun h => h1 h.2.1)]; rfl)
     clear h0 h1
     go_wp2_with fail
     refine (ukv _).mono ?_
     rintro e w' ⟨rfl, hww⟩
     subst hww
     refine ⟨rfl, HM2.o, ?_⟩
     rw [Hres.o]
   ·have d0 : decide (-2147483648 ≤ x) = false := dqf h0
    have Hres : Hid (PP = none) := hd' (by rw [← HP.o]; simp only [numP, numT, Ha.o]; rw [if_neg (fun h => h0 h.1)]; rfl)
    clear h0
    go_wp2_with fail
    refine (ukv _).mono ?_
    rintro e w' ⟨rfl, hww⟩
    subst hww
    refine ⟨rfl, HM2.o, ?_⟩
    rw [Hres.o]
  all_goals
      rw [ha] at h2
      obtain ⟨x, tp, p, rfl⟩ := h2
      have Hres : Hid (PP = none) := hd' (by rw [← HP.o]; simp only [numP, numT, ha]; rfl)
      clear ha
      go_wp2_with fail
      refine (ukv _).mono ?_
      rintro e w' ⟨rfl, hww⟩
      subst hww
      refine ⟨rfl, HM2.o, ?_⟩
      rw [Hres.o]
 ·obtain rfl : n = ws.length := by have := H.o.le; omega
  refine (ups H.o).mono ?_
  rintro e w' ⟨rfl, hm⟩
  refine ⟨rfl, hm, ?_⟩
  rw [← HP.o, List.drop_length]
  rfl
theorem ulh {w w' : World} {R : Nat} {b : Nat} {T : TypeId} {cs : Array Value} (h : Blk w b T cs) (hm : Gou.Mod (fun k => k = R) w w') (hb : b ≠ R) : Blk w' b T cs := h.mod hm hb
theorem size_idT : (Tryz.prog.info? 23).map (·.size) = some 2 := by kernel_rfl
theorem size_rcT : (Tryz.prog.info? 25).map (·.size) = some 4 := by kernel_rfl
def VId (x : Int × Int) (_ : World) (v : Value) : Prop := v = .agg #[iV x.1, iV x.2]
def VRc (x : Rc) (_ : World) (v : Value) : Prop := v = .agg #[iV x.x0, iV x.y0, iV x.x1, iV x.y1]
theorem ul5 {w : World} {R : Nat} {vs : Value} {ws : List Wd} {n : Nat} (h : RdW w R vs ws n) :
  Calls Tryz.prog 115 #[.pointer (some ⟨R, 0, none⟩)] w (RP w R vs ws VId (idP (ws.drop n))) := by
 generalize hP : idP (ws.drop n) = PP
 have HP := hd' hP
 have H0 := hd' (h.other (Gou.Mod.alloc0 w (.cells iiZ 23)))
 have HB0 := hd' (Blk.new w 23 iiZ)
 have HM0 := hd' (Gou.Mod.alloc (fun k => k = R) w (.cells iiZ 23))
 have HR := hd' (Blk.lt h.box)
 clear hP h
 go_enter Tryz.func115, Tryz.ntmps115
 go_wp2_with fail
 refine (uk3 H0.o).mono ?_
 rintro e w1 ⟨hm1, h1⟩
 have HM1 := hd' (HM0.o.trans' hm1)
 have HB1 := hd' (ulh HB0.o hm1 (by have := HR.o; omega))
 rcases hr1 : numP (ws.drop n) with _ | ⟨x1, q1⟩
 ·rw [hr1] at h1
  subst h1
  refine ⟨rfl, HM1.o, ?_⟩
  rw [← HP.o]
  simp [idP, hr1]
 rw [hr1] at h1
 obtain ⟨_, n1, rfl, rfl, h1, rfl⟩ := h1
 have H1 := hd' h1
 have R1 := hd' hr1
 clear h1 hr1 hm1
 go_wp2_with fail
 refine (uk3 H1.o).mono ?_
 rintro e w2 ⟨hm2, h2⟩
 have HM2 := hd' (HM1.o.trans' hm2)
 have HB2 := hd' (ulh HB1.o hm2 (by have := HR.o; omega))
 rcases hr2 : numP (ws.drop n1) with _ | ⟨x2, q2⟩
 ·rw [hr2] at h2
  subst h2
  refine ⟨rfl, HM2.o, ?_⟩
  rw [← HP.o]
  simp [idP, R1.o, hr2]
 rw [hr2] at h2
 obtain ⟨_, n2, rfl, rfl, h2, rfl⟩ := h2
 have H2 := hd' h2
 have R2 := hd' hr2
 clear h2 hr2 hm2
 have cHB2_0 : (w2).cell? ⟨w.heap.size, 0, none⟩ = some (iV 0) := HB2.o.cell 0 rfl
 have fHB2_0 := HB2.o.frozen 0
 have cHB2_1 : (w2).cell? ⟨w.heap.size, 1, none⟩ = some (iV 0) := HB2.o.cell 1 rfl
 have fHB2_1 := HB2.o.frozen 1
 have H2s := hd' ((H2.o.own ⟨w.heap.size, 0, none⟩ (iV x1) (by have := HR.o; exact this)).own ⟨w.heap.size, 1, none⟩ (iV x2) (by have := HR.o; exact this))
 have HM2s := hd' ((HM2.o.own ⟨w.heap.size, 0, none⟩ (iV x1) (Nat.le_refl _)).own ⟨w.heap.size, 1, none⟩ (iV x2) (Nat.le_refl _))
 have HB2s := hd' ((HB2.o.set 0 (iV x1)).set 1 (iV x2))
 have Hres : Hid (PP = some ((x1, x2), ws.drop n2)) := hd' (by rw [← HP.o]; simp [idP, R1.o, R2.o])
 go_wp2_with fail
 refine bpr (results_cell_row rfl _ _ w.heap.size 23 #[iV x1, iV x2] (0, 0) _ rfl HB2s.o Tryz.underlying23 rfl size_idT) rfl ?_
 refine ⟨HM2s.o, ?_⟩
 rw [Hres.o]
 exact ⟨_, n2, rfl, rfl, H2s.o, rfl⟩
def uqn : Nat → List Wd → Option (List Int × List Wd)
 | 0, l => some ([], l)
 | k + 1, l => (uqn k l).bind fun p => (numP p.2).map fun q => (p.1 ++ [q.1], q.2)
theorem uq6 {l r : List Wd} {k : Nat} {xs : List Int} (h : uqn k l = some (xs, r)) (hn : numP r = none) : ∀ j, uqn (k + 1 + j) l = none
 | 0 => by simp [uqn, h, hn]
 | j + 1 => by
  have := uq6 h hn j
  rw [show k + 1 + (j + 1) = (k + 1 + j) + 1 by omega, uqn, this]
  rfl
theorem boxP_four (l : List Wd) : boxP l = (uqn 4 l).map fun p => (Rc.of p.1, p.2) := by
 unfold boxP
 simp only [uqn, Option.bind_some]
 rcases h1 : numP l with _ | ⟨a, r1⟩
 ·rfl
 simp only [Option.map_some, Option.bind_some]
 rcases h2 : numP r1 with _ | ⟨b, r2⟩
 ·rfl
 simp only [Option.map_some, Option.bind_some]
 rcases h3 : numP r2 with _ | ⟨c, r3⟩
 ·rfl
 simp only [Option.map_some, Option.bind_some]
 rcases h4 : numP r3 with _ | ⟨d, r4⟩
 ·rfl
 rfl
def arr4 (xs : List Int) : Array Value := (ivs xs ++ List.replicate (4 - xs.length) (iV 0)).toArray
theorem arr4_set (xs : List Int) (x : Int) (h : xs.length < 4) : (arr4 xs).setIfInBounds xs.length (iV x) = arr4 (xs ++ [x]) := by
 match xs, h with
 | [], _ => rfl
 | [a], _ => rfl
 | [a, b], _ => rfl
 | [a, b, c], _ => rfl
 | _ :: _ :: _ :: _ :: _, h => simp at h <;> omega
theorem arr4_get (xs : List Int) (h : xs.length < 4) : (arr4 xs)[xs.length]? = some (iV 0) := by
 match xs, h with
 | [], _ => rfl
 | [a], _ => rfl
 | [a, b], _ => rfl
 | [a, b, c], _ => rfl
 | _ :: _ :: _ :: _ :: _, h => simp at h <;> omega
theorem uuv {w : World} {R : Nat} {vs : Value} {ws : List Wd} {n : Nat} (h : RdW w R vs ws n) :
  Calls Tryz.prog 119 #[.pointer (some ⟨R, 0, none⟩)] w (RP w R vs ws VRc (boxP (ws.drop n))) := by
 generalize hP : boxP (ws.drop n) = PP
 rw [boxP_four] at hP
 have HP := hd' hP
 have H0 := hd' ((h.other (Gou.Mod.alloc0 w (.cells #[iV 0, iV 0, iV 0, iV 0] 25))).other (Gou.Mod.alloc0 _ (.cells #[iV 0, iV 0, iV 0, iV 0] 188)))
 have HA0 := hd' ((Blk.new w 25 #[iV 0, iV 0, iV 0, iV 0]).mod (Gou.Mod.alloc0 _ (.cells #[iV 0, iV 0, iV 0, iV 0] 188)) (fun h => h))
 have HB0 : Hid (Blk ((w.alloc (.cells #[iV 0, iV 0, iV 0, iV 0] 25)).alloc (.cells #[iV 0, iV 0, iV 0, iV 0] 188)) (w.heap.size + 1) 188 #[iV 0, iV 0, iV 0, iV 0]) := hd' (by
  have := Blk.new (w.alloc (.cells #[iV 0, iV 0, iV 0, iV 0] 25)) 188 #[iV 0, iV 0, iV 0, iV 0]
  rwa [World.size_alloc] at this)
 have HM0 := hd' ((Gou.Mod.alloc (fun k => k = R) w (.cells #[iV 0, iV 0, iV 0, iV 0] 25)).trans' (Gou.Mod.alloc _ _ (.cells #[iV 0, iV 0, iV 0, iV 0] 188)))
 have HR := hd' (Blk.lt h.box)
 clear hP h
 go_enter Tryz.func119, Tryz.ntmps119
 go_wp2_with fail
 generalize ((w.alloc (.cells #[iV 0, iV 0, iV 0, iV 0] 25)).alloc (.cells #[iV 0, iV 0, iV 0, iV 0] 188)) = w0 at *
 go_loopw [5] (fun vi wr => ∃ (xs : List Int) (m : Nat), vi = iV xs.length ∧ xs.length ≤ 4 ∧ uqn xs.length (ws.drop n) = some (xs, ws.drop m) ∧ RdW wr R vs ws m ∧ Gou.Mod (fun k => k = R) w wr ∧ Blk wr w.heap.size 25 #[iV 0, iV 0, iV 0, iV 0] ∧ Blk wr (w.heap.size + 1) 188 (arr4 xs)) (fun vi _ => 4 - (intOf vi).toNat)
 case atStart => exact ⟨[], n, rfl, by simp, rfl, H0.o, HM0.o, HA0.o, HB0.o⟩
 case round =>
  obtain ⟨xs, m, rfl, hl, hnx, hrd, hm, ha, hb⟩ := hrel
  have HX := hd' hnx
  have H1 := hd' hrd
  have HM1 := hd' hm
  have HA1 := hd' ha
  have HB1 := hd' hb
  have hj1 : wrap64 ((xs.length : Int) + 1) = (xs.length : Int) + 1 := IntWalk.wrap64_in _ (by omega)
  clear hnx hrd hm ha hb HA0 HB0 H0 HM0
  by_cases h4 : xs.length < 4
  ·have t1 : decide ((xs.length : Int) < 4) = true := dqt (by omega)
   have j0 : (0 : Int) ≤ (xs.length : Int) := by omega
   have j1 : (xs.length : Int) < 4 := by omega
   have H4 := hd' h4
   go_wp2_with fail
   refine (uk3 H1.o).mono ?_
   rintro e w2 ⟨hm2, h2⟩
   have HM2 := hd' (HM1.o.trans' hm2)
   have HA2 := hd' (ulh HA1.o hm2 (by have := HR.o; omega))
   have HB2 := hd' (ulh HB1.o hm2 (by have := HR.o; omega))
   rcases hr2 : numP (ws.drop m) with _ | ⟨x, q2⟩
   ·rw [hr2] at h2
    subst h2
    refine ⟨rfl, HM2.o, ?_⟩
    rw [← HP.o, show (4 : Nat) = xs.length + 1 + (3 - xs.length) by have := H4.o; omega, uq6 HX.o hr2]
    rfl
   rw [hr2] at h2
   obtain ⟨_, n2, rfl, rfl, h2, rfl⟩ := h2
   have HX2 : Hid (uqn (xs ++ [x]).length (ws.drop n) = some (xs ++ [x], ws.drop n2)) := hd' (by
    rw [List.length_append]
    simp [uqn, HX.o, hr2])
   have H2 := hd' (h2.own ⟨w.heap.size + 1, xs.length, none⟩ (iV x) (by have := HR.o; show R < w.heap.size + 1; omega))
   have HM3 := hd' (HM2.o.own ⟨w.heap.size + 1, xs.length, none⟩ (iV x) (by show w.heap.size ≤ w.heap.size + 1; omega))
   have HB3 := hd' (HB2.o.set xs.length (iV x))
   have HA3 := hd' (HA2.o.mod (Gou.Mod.setCell w2 ⟨w.heap.size + 1, xs.length, none⟩ (iV x)) (fun e => by simp at e))
   have cB := HB2.o.cell xs.length (arr4_get xs h4)
   have fB := HB2.o.frozen xs.length
   clear h2 hr2 hm2 HX
   go_wp2_with fail
   clear cB fB
   go_roundw
   case rel => exact ⟨xs ++ [x], n2, by rw [List.length_append]; go_num, by rw [List.length_append]; have := H4.o; simp; omega, HX2.o, H2.o, HM3.o, HA3.o, by rw [← arr4_set xs x H4.o]; exact HB3.o⟩
   case measure => first | exact ury H4.o | exact up5 H4.o hj1
  ·obtain ⟨a, b, c, d, rfl⟩ : ∃ a b c d, xs = [a, b, c, d] := by
    match xs, hl, h4 with
    | [a, b, c, d], _, _ => exact ⟨a, b, c, d, rfl⟩
    | [], _, h => simp at h
    | [_], _, h => simp at h
    | [_, _], _, h => simp at h
    | [_, _, _], _, h => simp at h
    | _ :: _ :: _ :: _ :: _ :: _, h, _ => simp at h <;> omega
   have t1 : decide ((([a, b, c, d] : List Int).length : Int) < 4) = false := rfl
   have c0 : wr.cell? ⟨w.heap.size + 1, 0, none⟩ = some (iV a) := HB1.o.cell 0 rfl
   have c1 : wr.cell? ⟨w.heap.size + 1, 1, none⟩ = some (iV b) := HB1.o.cell 1 rfl
   have c2 : wr.cell? ⟨w.heap.size + 1, 2, none⟩ = some (iV c) := HB1.o.cell 2 rfl
   have c3 : wr.cell? ⟨w.heap.size + 1, 3, none⟩ = some (iV d) := HB1.o.cell 3 rfl
   clear hj1 hl h4
   have cHA1_0 : (wr).cell? ⟨w.heap.size, 0, none⟩ = some (iV 0) := HA1.o.cell 0 rfl
   have fHA1_0 := HA1.o.frozen 0
   have cHA1_1 : (wr).cell? ⟨w.heap.size, 1, none⟩ = some (iV 0) := HA1.o.cell 1 rfl
   have fHA1_1 := HA1.o.frozen 1
   have cHA1_2 : (wr).cell? ⟨w.heap.size, 2, none⟩ = some (iV 0) := HA1.o.cell 2 rfl
   have fHA1_2 := HA1.o.frozen 2
   have cHA1_3 : (wr).cell? ⟨w.heap.size, 3, none⟩ = some (iV 0) := HA1.o.cell 3 rfl
   have fHA1_3 := HA1.o.frozen 3
   have H1s := hd' ((((H1.o.own ⟨w.heap.size, 0, none⟩ (iV a) (by have := HR.o; exact this)).own ⟨w.heap.size, 1, none⟩ (iV b) (by have := HR.o; exact this)).own ⟨w.heap.size, 2, none⟩ (iV c) (by have := HR.o; exact this)).own ⟨w.heap.size, 3, none⟩ (iV d) (by have := HR.o; exact this))
   have HM1s := hd' ((((HM1.o.own ⟨w.heap.size, 0, none⟩ (iV a) (Nat.le_refl _)).own ⟨w.heap.size, 1, none⟩ (iV b) (Nat.le_refl _)).own ⟨w.heap.size, 2, none⟩ (iV c) (Nat.le_refl _)).own ⟨w.heap.size, 3, none⟩ (iV d) (Nat.le_refl _))
   have HA1s := hd' ((((HA1.o.set 0 (iV a)).set 1 (iV b)).set 2 (iV c)).set 3 (iV d))
   have Hres : Hid (PP = some (⟨a, b, c, d⟩, ws.drop m)) := hd' (by rw [← HP.o, show (4 : Nat) = ([a, b, c, d] : List Int).length from rfl, HX.o]; rfl)
   go_wp2_with fail
   refine bpr (results_cell_row rfl _ _ w.heap.size 25 #[iV a, iV b, iV c, iV d] (0, 0) _ rfl HA1s.o Tryz.underlying25 rfl size_rcT) rfl ?_
   refine ⟨HM1s.o, ?_⟩
   rw [Hres.o]
   exact ⟨_, m, rfl, rfl, H1s.o, rfl⟩
theorem ur6 (c : UInt8) (d : Nat) (h : digT c = some d) (w : World) : Calls Tryz.prog 143 #[.int .u8 (c.toNat : Int)] w fun e w' => e = .returned (.int .u8 (d : Int)) ∧ w' = w := by
 have hc := c.toNat_lt
 unfold digT at h
 generalize c.toNat = n at *
 by_cases h1 : 48 ≤ n ∧ n ≤ 57
 ·rw [if_pos h1] at h
  obtain rfl : n - 48 = d := by simpa using h
  have a0 : decide ((48 : Int) ≤ (n : Int)) = true := dqt (by omega)
  have a1 : decide ((n : Int) ≤ 57) = true := dqt (by omega)
  have a2 : IntKind.u8.wrap ((n : Int) - 48) = ((n - 48 : Nat) : Int) := by rw [IntWalk.u8_in _ (by omega)]; omega
  clear h h1
  go_enter Tryz.func143, Tryz.ntmps143
  go_wp2_with fail
  go_ret
  exact ⟨rfl, rfl⟩
 ·rw [if_neg h1] at h
  have h2 : 97 ≤ n ∧ n ≤ 102 := by
   rcases Classical.em (97 ≤ n ∧ n ≤ 102) with h2 | h2
   ·exact h2
   ·rw [if_neg h2] at h
    cases h
  rw [if_pos h2] at h
  obtain rfl : n - 87 = d := by simpa using h
  have a0 : decide ((48 : Int) ≤ (n : Int)) = true := dqt (by omega)
  have a1 : decide ((n : Int) ≤ 57) = false := dqf (by omega)
  have a3 : decide ((97 : Int) ≤ (n : Int)) = true := dqt (by omega)
  have a4 : decide ((n : Int) ≤ 102) = true := dqt (by omega)
  have a2 : IntKind.u8.wrap ((n : Int) - 97) = (n : Int) - 97 := IntWalk.u8_in _ (by omega)
  have a5 : IntKind.u8.wrap ((n : Int) - 97 + 10) = ((n - 87 : Nat) : Int) := by rw [IntWalk.u8_in _ (by omega)]; omega
  clear h h1 h2
  go_enter Tryz.func143, Tryz.ntmps143
  go_wp2_with fail
  go_ret
  exact ⟨rfl, rfl⟩
theorem uvi (c : UInt8) (h : digT c = none) (w : World) : Calls Tryz.prog 143 #[.int .u8 (c.toNat : Int)] w fun e w' => e = .panicked ute ∧ w' = w := by
 have hc := c.toNat_lt
 unfold digT at h
 generalize c.toNat = n at *
 have h1 : ¬ (48 ≤ n ∧ n ≤ 57) := fun h1 => by rw [if_pos h1] at h; cases h
 rw [if_neg h1] at h
 have h2 : ¬ (97 ≤ n ∧ n ≤ 102) := fun h2 => by rw [if_pos h2] at h; cases h
 clear h
 go_enter Tryz.func143, Tryz.ntmps143
 by_cases b0 : 48 ≤ n
 ·have a0 : decide ((48 : Int) ≤ (n : Int)) = true := dqt (by omega)
  have a1 : decide ((n : Int) ≤ 57) = false := dqf (by omega)
  by_cases b1 : 97 ≤ n
  ·have a3 : decide ((97 : Int) ≤ (n : Int)) = true := dqt (by omega)
   have a4 : decide ((n : Int) ≤ 102) = false := dqf (by omega)
   clear h1 h2 b0 b1
   go_wp2_with fail
   exact ⟨rfl, rfl, rfl⟩
  ·have a3 : decide ((97 : Int) ≤ (n : Int)) = false := dqf (by omega)
   clear h1 h2 b0 b1
   go_wp2_with fail
   exact ⟨rfl, rfl, rfl⟩
 ·have a0 : decide ((48 : Int) ≤ (n : Int)) = false := dqf (by omega)
  have a3 : decide ((97 : Int) ≤ (n : Int)) = false := dqf (by omega)
  clear h1 h2 b0
  go_wp2_with fail
  exact ⟨rfl, rfl, rfl⟩
theorem size_pxT : (Tryz.prog.info? 27).map (·.size) = some 4 := by kernel_rfl
def VPx (p : Pxl) (_ : World) (v : Value) : Prop := v = .agg #[.int .u8 (p.p0 : Nat), .int .u8 (p.p1 : Nat), .int .u8 (p.p2 : Nat), .int .u8 (p.p3 : Nat)]
theorem upv {u : Wd} {j : Nat} (h : j < u.length) (z : Int) (hz : z = j) (w : World) : (Instr.index 9 (.string ⟨u.toArray⟩) (iV z)).run Tryz.prog w = .ok (.int .u8 (((u.getD j 0).toNat : Nat) : Int)) w := by
 subst hz
 rw [run_index_string (P := Tryz.prog) w 9 ⟨u.toArray⟩ .i64 (j : Int) Tryz.underlying9, dif_pos ⟨by omega, by simpa [ByteArray.size] using h⟩]
 simp [List.getD, h, ByteArray.getElem_eq_getElem_data]
def pxN (u : Wd) : Nat → Option (List Nat)
 | 0 => some []
 | k + 1 => (pxN u k).bind fun l => (uns (u.getD (2 * k) 0) (u.getD (2 * k + 1) 0)).map fun b => l ++ [b]
theorem uu2 {u : Wd} {k : Nat} {l : List Nat} (h : pxN u k = some l) (hn : uns (u.getD (2 * k) 0) (u.getD (2 * k + 1) 0) = none) : ∀ j, pxN u (k + 1 + j) = none
 | 0 => by simp only [pxN, h, Option.bind_some, hn, Option.map_none]
 | j + 1 => by
  have := uu2 h hn j
  rw [show k + 1 + (j + 1) = (k + 1 + j) + 1 by omega, pxN, this]
  rfl
theorem pxT_four {u : Wd} (h : u.length = 8) : pxT u = (pxN u 4).map Pxl.of := by
 rw [pxT, if_pos h]
 simp only [pxN, Option.bind_some]
 rcases uns (u.getD (2 * 0) 0) (u.getD (2 * 0 + 1) 0) with _ | a
 ·rfl
 simp only [Option.map_some, Option.bind_some]
 rcases uns (u.getD (2 * 1) 0) (u.getD (2 * 1 + 1) 0) with _ | b
 ·rfl
 simp only [Option.map_some, Option.bind_some]
 rcases uns (u.getD (2 * 2) 0) (u.getD (2 * 2 + 1) 0) with _ | c
 ·rfl
 simp only [Option.map_some, Option.bind_some]
 rcases uns (u.getD (2 * 3) 0) (u.getD (2 * 3 + 1) 0) with _ | d
 ·rfl
 rfl
def arr8 (xs : List Nat) : Array Value := ((u8s xs : List Value) ++ List.replicate (4 - xs.length) (Value.int .u8 0)).toArray
theorem arr8_set (xs : List Nat) (x : Nat) (h : xs.length < 4) : (arr8 xs).setIfInBounds xs.length (.int .u8 ((x : Nat) : Int)) = arr8 (xs ++ [x]) := by
 match xs, h with
 | [], _ => rfl
 | [a], _ => rfl
 | [a, b], _ => rfl
 | [a, b, c], _ => rfl
 | _ :: _ :: _ :: _ :: _, h => simp at h <;> omega
theorem uvo (xs : List Nat) (h : xs.length < 4) : (arr8 xs)[xs.length]? = some (.int .u8 0) := by
 match xs, h with
 | [], _ => rfl
 | [a], _ => rfl
 | [a, b], _ => rfl
 | [a, b, c], _ => rfl
 | _ :: _ :: _ :: _ :: _, h => simp at h <;> omega
theorem upa {c : UInt8} {d : Nat} (h : digT c = some d) : d < 16 := by
 unfold digT at h
 split at h
 ·simp at h; omega
 ·split at h
  ·simp at h; omega
  ·cases h
theorem tpx_any {w : World} {R : Nat} {vs : Value} {ws : List Wd} {n : Nat} (h : RdW w R vs ws n) :
  Calls Tryz.prog 120 #[.pointer (some ⟨R, 0, none⟩)] w (RP w R vs ws VPx (pxP (ws.drop n))) := by
 generalize hP : pxP (ws.drop n) = PP
 have HP := hd' hP
 have H0 := hd' (h.other (Gou.Mod.alloc0 w (.cells #[.int .u8 0, .int .u8 0, .int .u8 0, .int .u8 0] 27)))
 have HA0 := hd' (Blk.new w 27 #[.int .u8 0, .int .u8 0, .int .u8 0, .int .u8 0])
 have HM0 := hd' (Gou.Mod.alloc (fun k => k = R) w (.cells #[.int .u8 0, .int .u8 0, .int .u8 0, .int .u8 0] 27))
 have HR := hd' (Blk.lt h.box)
 clear hP h
 go_enter Tryz.func120, Tryz.ntmps120
 go_wp2_with fail
 generalize (w.alloc (.cells #[.int .u8 0, .int .u8 0, .int .u8 0, .int .u8 0] 27)) = w0 at *
 by_cases hn : n < ws.length
 ·have Hd := hd' (ulv hn)
  have Hn := hd' hn
  have Hu := hd' (H0.o.lim _ (lgM hn))
  refine (uor H0.o hn).mono ?_
  rintro e w1 ⟨rfl, h1, hm1⟩
  have H1 := hd' h1
  have HM1 := hd' (HM0.o.trans' hm1)
  have HA1 := hd' (ulh HA0.o hm1 (by have := HR.o; omega))
  rw [Hd.o] at HP
  generalize ws[n] = u at *
  clear h1 hm1 hn Hd H0 HA0 HM0
  have hsz : (⟨u.toArray⟩ : ByteArray).size = u.length := by simp [ByteArray.size]
  by_cases h8 : u.length = 8
  ·have e8 : ((u.length : Int) == 8) = true := by rw [beq_iff_eq]; omega
   have H8 := hd' h8
   have HP8 : Hid ((pxN u 4).map (fun l => (Pxl.of l, ws.drop (n + 1))) = PP) := hd' (by rw [← HP.o]; simp only [pxP, pxT_four h8]; cases pxN u 4 <;> rfl)
   clear h8 hsz
   go_wp2_with fail
   refine (ulo _).mono ?_
   rintro e w' ⟨rfl, hww⟩
   obtain rfl : w1 = w' := hww.symm
   clear hww
   have HAa := hd' (HA1.o.mod (Gou.Mod.alloc0 w1 (.cells #[.int .u8 0, .int .u8 0, .int .u8 0, .int .u8 0] 27)) (fun h => h))
   have HBa := hd' (Blk.new w1 27 #[.int .u8 0, .int .u8 0, .int .u8 0, .int .u8 0])
   have Ha := hd' (H1.o.other (Gou.Mod.alloc0 w1 (.cells #[.int .u8 0, .int .u8 0, .int .u8 0, .int .u8 0] 27)))
   have HMa := hd' (HM1.o.trans' (Gou.Mod.alloc (fun k => k = R) w1 (.cells #[.int .u8 0, .int .u8 0, .int .u8 0, .int .u8 0] 27)))
   have HwB := hd' (show w.heap.size < w1.heap.size from Blk.lt HA1.o)
   clear HA1 H1 HM1
   go_wp2_with fail
   try generalize (w1.alloc (.cells #[.int .u8 0, .int .u8 0, .int .u8 0, .int .u8 0] 27)) = w2 at *
   go_loopw [12] (fun vi wr => ∃ (xs : List Nat), vi = iV xs.length ∧ xs.length ≤ 4 ∧ pxN u xs.length = some xs ∧ RdW wr R vs ws (n + 1) ∧ Gou.Mod (fun k => k = R) w wr ∧ Blk wr w.heap.size 27 #[.int .u8 0, .int .u8 0, .int .u8 0, .int .u8 0] ∧ Blk wr w1.heap.size 27 (arr8 xs)) (fun vi _ => 4 - (intOf vi).toNat)
   case atStart => exact ⟨[], rfl, by simp, rfl, Ha.o, HMa.o, HAa.o, HBa.o⟩
   case round =>
    obtain ⟨xs, rfl, hl, hnx, hrd, hm, ha, hb⟩ := hrel
    have HX := hd' hnx
    have H1 := hd' hrd
    have HM1 := hd' hm
    have HA1 := hd' ha
    have HB1 := hd' hb
    have hj1 : wrap64 ((xs.length : Int) + 1) = (xs.length : Int) + 1 := IntWalk.wrap64_in _ (by omega)
    clear hnx hrd hm ha hb Ha HMa HAa HBa
    by_cases h4 : xs.length < 4
    ·have t1 : decide ((xs.length : Int) < 4) = true := dqt (by omega)
     have j0 : (0 : Int) ≤ (xs.length : Int) := by omega
     have j1 : (xs.length : Int) < 4 := by omega
     have H4 := hd' h4
     have cB := HB1.o.cell xs.length (uvo xs h4)
     have fB := HB1.o.frozen xs.length
     obtain ⟨i, hi⟩ : ∃ i, i = xs.length := ⟨_, rfl⟩
     have Hi := hd' hi
     rw [← hi] at t1 j0 j1 cB fB hj1
     have h4i : i < 4 := by omega
     have q2 : wrap64 (2 * (i : Int)) = 2 * (i : Int) := IntWalk.wrap64_in _ (by omega)
     have q3 : wrap64 (2 * (i : Int) + 1) = 2 * (i : Int) + 1 := IntWalk.wrap64_in _ (by omega)
     have q4 : IntKind.i64.wrap (2 * (i : Int)) = 2 * (i : Int) := IntWalk.i64_in _ (by omega)
     have q5 : IntKind.i64.wrap (2 * (i : Int) + 1) = 2 * (i : Int) + 1 := IntWalk.i64_in _ (by omega)
     have dI0 := fun w' => upv (u := u) (j := 2 * i) (by have := H8.o; omega) (2 * (i : Int)) (by omega) w'
     have dI1 := fun w' => upv (u := u) (j := 2 * i + 1) (by have := H8.o; omega) (2 * (i : Int) + 1) (by omega) w'
     have Hst : Hid (∀ b, uns (u.getD (2 * i) 0) (u.getD (2 * i + 1) 0) = some b → pxN u (i + 1) = some (xs ++ [b])) := hd' (by
      intro b hb
      have hX := HX.o
      rw [← hi] at hX
      simp only [pxN, hX, Option.bind_some, hb, Option.map_some])
     have Hnn : Hid (uns (u.getD (2 * i) 0) (u.getD (2 * i + 1) 0) = none → PP = none) := hd' (by
      intro hb
      have hX := HX.o
      rw [← hi] at hX
      rw [← HP8.o, show (4 : Nat) = i + 1 + (3 - i) by omega, uu2 hX hb]
      rfl)
     generalize u.getD (2 * i) 0 = c0 at *
     generalize u.getD (2 * i + 1) 0 = c1 at *
     rw [← hi]
     clear hi
     rcases hd0 : digT c0 with _ | x
     ·have Hno : Hid (PP = none) := hd' (Hnn.o (by simp [uns, hd0]))
      go_wp2_with fail
      refine wdf (S := fun w' => Gou.Mod (fun _ => False) wr w') 15 (Gou.Mod.drew _ _) (h := fun hH => ?_)
      refine tk 0 (iV (i : Nat)) hH (h := ?_)
      refine tk 1 (.string ⟨u.toArray⟩) hH (h := ?_)
      refine tk 2 (iV (i : Nat)) hH (h := ?_)
      refine tk 3 (iV (2 * (i : Int))) hH (h := ?_)
      refine tk 4 (.int .u8 ((c0.toNat : Nat) : Int)) hH (hy := fun w' => ul0 (dI0 w')) (h := ?_)
      refine tk 7 (.string ⟨u.toArray⟩) hH (h := ?_)
      refine tk 8 (iV (i : Nat)) hH (h := ?_)
      refine tk 9 (iV (2 * (i : Int))) hH (h := ?_)
      refine tk 10 (iV (2 * (i : Int) + 1)) hH (h := ?_)
      refine tk 11 (.int .u8 ((c1.toNat : Nat) : Int)) hH (hy := fun w' => ul0 (dI1 w')) (h := ?_)
      refine rd 5 (h := fun K hK => ?_)
      go_simp
      refine (uvi c0 hd0 _).mono ?_
      rintro e w' ⟨rfl, rfl⟩
      have HM9 := hd' (HM1.o.trans' (hH.imp fun _ _ h => h.elim))
      refine ⟨rfl, HM9.o, ?_⟩
      rw [Hno.o]
     ·rcases hd1 : digT c1 with _ | y
      ·have Hno : Hid (PP = none) := hd' (Hnn.o (by simp [uns, hd0, hd1]))
       have lx := upa hd0
       have p1 : IntKind.u8.wrap ((x : Int) * 16) = (x : Int) * 16 := IntWalk.u8_in _ (by omega)
       go_wp2_with fail
       refine wdf (S := fun w' => Gou.Mod (fun _ => False) wr w') 15 (Gou.Mod.drew _ _) (h := fun hH => ?_)
       refine tk 0 (iV (i : Nat)) hH (h := ?_)
       refine tk 1 (.string ⟨u.toArray⟩) hH (h := ?_)
       refine tk 2 (iV (i : Nat)) hH (h := ?_)
       refine tk 3 (iV (2 * (i : Int))) hH (h := ?_)
       refine tk 4 (.int .u8 ((c0.toNat : Nat) : Int)) hH (hy := fun w' => ul0 (dI0 w')) (h := ?_)
       refine tk 7 (.string ⟨u.toArray⟩) hH (h := ?_)
       refine tk 8 (iV (i : Nat)) hH (h := ?_)
       refine tk 9 (iV (2 * (i : Int))) hH (h := ?_)
       refine tk 10 (iV (2 * (i : Int) + 1)) hH (h := ?_)
       refine tk 11 (.int .u8 ((c1.toNat : Nat) : Int)) hH (hy := fun w' => ul0 (dI1 w')) (h := ?_)
       refine rd 5 (h := fun K hK => ?_)
       go_simp
       refine (ur6 c0 x hd0 _).mono ?_
       rintro e w' ⟨rfl, rfl⟩
       have M := hd' hH
       clear hH
       refine hK _ _ M.o (fun hH => ?_)
       clear hK K M
       try simp only [Act.put, uSa, uSb, uSc]
       refine tk 6 (.int .u8 ((x : Int) * 16)) hH (h := ?_)
       refine rd 12 (h := fun K hK => ?_)
       go_simp
       refine (uvi c1 hd1 _).mono ?_
       rintro e w' ⟨rfl, rfl⟩
       have HM9 := hd' (HM1.o.trans' (hH.imp fun _ _ h => h.elim))
       refine ⟨rfl, HM9.o, ?_⟩
       rw [Hno.o]
      ·have Hyes := hd' (Hst.o (x * 16 + y) (by simp [uns, hd0, hd1]))
       have lx := upa hd0
       have ly := upa hd1
       have p1 : IntKind.u8.wrap ((x : Int) * 16) = (x : Int) * 16 := IntWalk.u8_in _ (by omega)
       have p2 : IntKind.u8.wrap ((x : Int) * 16 + (y : Int)) = ((x * 16 + y : Nat) : Int) := by rw [IntWalk.u8_in _ (by omega)]; omega
       go_wp2_with fail
       refine wdf (S := fun w' => Gou.Mod (fun _ => False) wr w') 15 (Gou.Mod.drew _ _) (h := fun hH => ?_)
       refine tk 0 (iV (i : Nat)) hH (h := ?_)
       refine tk 1 (.string ⟨u.toArray⟩) hH (h := ?_)
       refine tk 2 (iV (i : Nat)) hH (h := ?_)
       refine tk 3 (iV (2 * (i : Int))) hH (h := ?_)
       refine tk 4 (.int .u8 ((c0.toNat : Nat) : Int)) hH (hy := fun w' => ul0 (dI0 w')) (h := ?_)
       refine tk 7 (.string ⟨u.toArray⟩) hH (h := ?_)
       refine tk 8 (iV (i : Nat)) hH (h := ?_)
       refine tk 9 (iV (2 * (i : Int))) hH (h := ?_)
       refine tk 10 (iV (2 * (i : Int) + 1)) hH (h := ?_)
       refine tk 11 (.int .u8 ((c1.toNat : Nat) : Int)) hH (hy := fun w' => ul0 (dI1 w')) (h := ?_)
       refine rd 5 (h := fun K hK => ?_)
       go_simp
       refine (ur6 c0 x hd0 _).mono ?_
       rintro e w' ⟨rfl, rfl⟩
       have M := hd' hH
       clear hH
       refine hK _ _ M.o (fun hH => ?_)
       clear hK K M
       try simp only [Act.put, uSa, uSb, uSc]
       refine tk 6 (.int .u8 ((x : Int) * 16)) hH (h := ?_)
       refine rd 12 (h := fun K hK => ?_)
       go_simp
       refine (ur6 c1 y hd1 _).mono ?_
       rintro e w' ⟨rfl, rfl⟩
       have M := hd' hH
       clear hH
       refine hK _ _ M.o (fun hH => ?_)
       clear hK K M
       try simp only [Act.put, uSa, uSb, uSc]
       refine tk 13 (.int .u8 ((x * 16 + y : Nat) : Int)) hH (h := ?_)
       refine tk 14 (.pointer (some ⟨w1.heap.size, (i : Nat), none⟩)) hH (h := ?_)
       refine tk 15 (.bool true) hH (h := ?_)
       have MS := hd' hH
       refine wpAnyH_done (by kernel_rfl) ?_ _
       clear hH
       show Oper.wp _ _ _ _ _ _
       have H9 := hd' ((H1.o.other MS.o).own ⟨w1.heap.size, i, none⟩ (.int .u8 ((x * 16 + y : Nat) : Int)) (by have := HR.o; have := HwB.o; show R < w1.heap.size; omega))
       have HM9 := hd' ((HM1.o.trans' (MS.o.imp fun _ _ h => h.elim)).own ⟨w1.heap.size, i, none⟩ (.int .u8 ((x * 16 + y : Nat) : Int)) (by have := HwB.o; show w.heap.size ≤ w1.heap.size; omega))
       have HA9 := hd' ((HA1.o.mod MS.o (fun h => h)).mod (Gou.Mod.setCell _ ⟨w1.heap.size, i, none⟩ (.int .u8 ((x * 16 + y : Nat) : Int))) (fun e => by have := HwB.o; simp at e; omega))
       have hB9 := HB1.o.mod MS.o (fun h => h)
       have HB9 := hd' (hB9.set i (.int .u8 ((x * 16 + y : Nat) : Int)))
       have cB9 := hB9.cell i (u := .int .u8 0) (by rw [Hi.o]; exact uvo xs H4.o)
       have fB9 := hB9.frozen i
       clear hB9 cB fB MS H1 HM1 HA1 HB1
       go_wp2_with fail
       clear cB9 fB9
       go_roundw
       case rel => exact ⟨xs ++ [x * 16 + y], by rw [List.length_append, ← Hi.o]; go_num, by rw [List.length_append]; have := H4.o; simp; omega, by rw [List.length_append]; have := Hyes.o; rw [Hi.o] at this; exact this, H9.o, HM9.o, HA9.o, by have := arr8_set xs (x * 16 + y) H4.o; rw [← Hi.o] at this; rw [← this]; exact HB9.o⟩
       case measure => first | exact ury (Hi.o ▸ H4.o) | exact up5 (Hi.o ▸ H4.o) hj1
    ·obtain ⟨a, b, c, d, rfl⟩ : ∃ a b c d, xs = [a, b, c, d] := by
      match xs, hl, h4 with
      | [a, b, c, d], _, _ => exact ⟨a, b, c, d, rfl⟩
      | [], _, h => simp at h
      | [_], _, h => simp at h
      | [_, _], _, h => simp at h
      | [_, _, _], _, h => simp at h
      | _ :: _ :: _ :: _ :: _ :: _, h, _ => simp at h <;> omega
     have t1 : decide ((([a, b, c, d] : List Nat).length : Int) < 4) = false := rfl
     have c0 : wr.cell? ⟨w1.heap.size, 0, none⟩ = some (.int .u8 (a : Nat)) := HB1.o.cell 0 rfl
     have c1 : wr.cell? ⟨w1.heap.size, 1, none⟩ = some (.int .u8 (b : Nat)) := HB1.o.cell 1 rfl
     have c2 : wr.cell? ⟨w1.heap.size, 2, none⟩ = some (.int .u8 (c : Nat)) := HB1.o.cell 2 rfl
     have c3 : wr.cell? ⟨w1.heap.size, 3, none⟩ = some (.int .u8 (d : Nat)) := HB1.o.cell 3 rfl
     clear hj1 hl h4
     have cHA1_0 : (wr).cell? ⟨w.heap.size, 0, none⟩ = some (.int .u8 0) := HA1.o.cell 0 rfl
     have fHA1_0 := HA1.o.frozen 0
     have cHA1_1 : (wr).cell? ⟨w.heap.size, 1, none⟩ = some (.int .u8 0) := HA1.o.cell 1 rfl
     have fHA1_1 := HA1.o.frozen 1
     have cHA1_2 : (wr).cell? ⟨w.heap.size, 2, none⟩ = some (.int .u8 0) := HA1.o.cell 2 rfl
     have fHA1_2 := HA1.o.frozen 2
     have cHA1_3 : (wr).cell? ⟨w.heap.size, 3, none⟩ = some (.int .u8 0) := HA1.o.cell 3 rfl
     have fHA1_3 := HA1.o.frozen 3
     have H1s := hd' ((((H1.o.own ⟨w.heap.size, 0, none⟩ (.int .u8 (a : Nat)) (by have := HR.o; exact this)).own ⟨w.heap.size, 1, none⟩ (.int .u8 (b : Nat)) (by have := HR.o; exact this)).own ⟨w.heap.size, 2, none⟩ (.int .u8 (c : Nat)) (by have := HR.o; exact this)).own ⟨w.heap.size, 3, none⟩ (.int .u8 (d : Nat)) (by have := HR.o; exact this))
     have HM1s := hd' ((((HM1.o.own ⟨w.heap.size, 0, none⟩ (.int .u8 (a : Nat)) (Nat.le_refl _)).own ⟨w.heap.size, 1, none⟩ (.int .u8 (b : Nat)) (Nat.le_refl _)).own ⟨w.heap.size, 2, none⟩ (.int .u8 (c : Nat)) (Nat.le_refl _)).own ⟨w.heap.size, 3, none⟩ (.int .u8 (d : Nat)) (Nat.le_refl _))
     have HA1s := hd' ((((HA1.o.set 0 (.int .u8 (a : Nat))).set 1 (.int .u8 (b : Nat))).set 2 (.int .u8 (c : Nat))).set 3 (.int .u8 (d : Nat)))
     have Hres : Hid (PP = some (⟨a, b, c, d⟩, ws.drop (n + 1))) := hd' (by rw [← HP8.o, show (4 : Nat) = ([a, b, c, d] : List Nat).length from rfl, HX.o]; rfl)
     go_wp2_with fail
     refine bpr (results_cell_row rfl _ _ w.heap.size 27 #[.int .u8 (a : Nat), .int .u8 (b : Nat), .int .u8 (c : Nat), .int .u8 (d : Nat)] (0, 0) _ rfl HA1s.o Tryz.underlying27 rfl size_pxT) rfl ?_
     refine ⟨HM1s.o, ?_⟩
     rw [Hres.o]
     exact ⟨_, n + 1, rfl, rfl, H1s.o, rfl⟩
  ·have e8 : ((u.length : Int) == 8) = false := by rw [bqf]; omega
   have Hno : Hid (PP = none) := hd' (by rw [← HP.o]; simp [pxP, pxT, h8])
   clear h8
   go_wp2_with fail
   refine (ukv _).mono ?_
   rintro e w' ⟨rfl, hww⟩
   subst hww
   refine ⟨rfl, HM1.o, ?_⟩
   rw [Hno.o]
 ·obtain rfl : n = ws.length := by have := H0.o.le; omega
  refine (ups H0.o).mono ?_
  rintro e w' ⟨rfl, hm⟩
  refine ⟨rfl, HM0.o.trans' hm, ?_⟩
  rw [← HP.o, List.drop_length]
  rfl
theorem ud0 : RowT Tryz.prog 56 3 1 8 (iV 0) := ⟨Tryz.underlying56, by kernel_rfl, rfl, by omega⟩
def VInts (B : Nat) (xs : List Int) (w : World) (v : Value) : Prop := RowG (fun b => B ≤ b) w 1 v xs.length (ivs xs)
def sliceLen : Value → Nat
 | .slice _ n _ => n
 | _ => 0
theorem list_end {e : Wd} {k : Nat} {l : List Wd} (h : l.head? = some e) : ulu e k l = some ([], l.drop 1) := by
 cases l with
 | nil => cases h
 | cons a r =>
  obtain rfl : a = e := by simpa using h
  simp [ulu]
theorem list_full {e : Wd} {k : Nat} {l : List Wd} (h : l.head? ≠ some e) (hk : ¬ k < 100) : ulu e k l = none := by
 cases l with
 | nil => rfl
 | cons a r =>
  have : a ≠ e := fun h2 => h (by simp [h2])
  rw [ulu, if_neg this, if_neg hk]
theorem usz {e : Wd} {k : Nat} {l : List Wd} (h : l.head? ≠ some e) (hk : k < 100) : ulu e k l = (numP l).bind fun p => (ulu e (k + 1) p.2).map fun q => (p.1 :: q.1, q.2) := by
 cases l with
 | nil => rfl
 | cons a r =>
  have : a ≠ e := fun h2 => h (by simp [h2])
  rw [ulu, if_neg this, if_pos hk, numP]
  cases numT a <;> rfl
theorem usl {w : World} {R : Nat} {vs : Value} {ws : List Wd} {n : Nat} (h : RdW w R vs ws n) (u : Wd) :
  Calls Tryz.prog 145 #[.pointer (some ⟨R, 0, none⟩), .string ⟨u.toArray⟩] w (RP w R vs ws (VInts w.heap.size) (ulu u 0 (ws.drop n))) := by
 generalize hP : ulu u 0 (ws.drop n) = PP
 have HP := hd' hP
 have H0 := hd' h
 have HR := hd' (Blk.lt h.box)
 clear hP h
 go_enter Tryz.func145, Tryz.ntmps145
 go_wp2_with fail
 go_loopw [5] (fun vb wr => ∃ (xs : List Int) (m : Nat), wr.ownsRow w.heap.size 3 1 vb xs.length (ivs xs) ∧ xs.length ≤ 100 ∧ (ulu u xs.length (ws.drop m)).map (fun q => (xs ++ q.1, q.2)) = PP ∧ RdW wr R vs ws m ∧ Gou.Mod (fun k => k = R) w wr) (fun vb _ => 100 - sliceLen vb)
 case atStart => exact ⟨[], n, World.ownsRow_nil _ _ _ _, by simp, by rw [← HP.o]; cases ulu u 0 (ws.drop n) <;> rfl, H0.o, Gou.Mod.refl _ _⟩
 case round =>
  obtain ⟨xs, m, hown, hl, hres, hrd, hm⟩ := hrel
  have Hown := hd' hown
  obtain ⟨pb, cb, rfl⟩ := Gou.ownsRow_form hown
  have HX := hd' hres
  have H1 := hd' hrd
  have HM1 := hd' hm
  have Hl := hd' hl
  clear hown hres hrd hm H0
  go_wp2_with fail
  refine (unq H1.o u).mono ?_
  rintro e w2 ⟨rfl, ⟨m2, h2, hd2⟩, hm2⟩
  have H2 := hd' h2
  have HM2 := hd' (HM1.o.trans' hm2)
  have Hown2 := hd' (uac Hown.o hm2 (fun k hk e => by have := (Hown.o.lt k hk).1; have := HR.o; omega))
  clear h2 hm2
  by_cases hh : (ws.drop m).head? = some u
  ·have e1 : decide ((ws.drop m).head? = some u) = true := dqt hh
   have Hres : Hid (PP = some (xs, ws.drop m2)) := hd' (by rw [← HX.o, list_end hh, hd2, if_pos hh]; simp)
   clear hd2 hh
   rw [e1]
   clear e1
   go_wp2_with fail
   go_ret
   refine ⟨HM2.o, ?_⟩
   rw [Hres.o]
   exact ⟨_, m2, rfl, RowG.of_own Hown2.o, H2.o, rfl⟩
  ·have e1 : decide ((ws.drop m).head? = some u) = false := dqf hh
   rw [if_neg hh] at hd2
   have Hd2 := hd' hd2
   have Hh := hd' hh
   clear hd2 hh
   rw [e1]
   clear e1
   by_cases h100 : xs.length < 100
   ·have t1 : decide ((xs.length : Int) < 100) = true := dqt (by omega)
    have H100 := hd' h100
    clear h100 hl
    go_wp2_with fail
    refine (ulo _).mono ?_
    rintro e w' ⟨rfl, hww⟩
    obtain rfl : w2 = w' := hww.symm
    clear hww
    go_wp2_with fail
    refine (uk3 H2.o).mono ?_
    rintro e w3 ⟨hm3, h3⟩
    have HM3 := hd' (HM2.o.trans' hm3)
    have Hown3 := hd' (uac Hown2.o hm3 (fun k hk e => by have := (Hown2.o.lt k hk).1; have := HR.o; omega))
    rcases hr3 : numP (ws.drop m2) with _ | ⟨x, q3⟩
    ·rw [hr3] at h3
     subst h3
     refine ⟨rfl, HM3.o, ?_⟩
     rw [← HX.o, usz Hh.o H100.o, ← Hd2.o, hr3]
     rfl
    rw [hr3] at h3
    obtain ⟨_, n3, rfl, rfl, h3, rfl⟩ := h3
    have HX3 : Hid ((ulu u (xs ++ [x]).length (ws.drop n3)).map (fun q => ((xs ++ [x]) ++ q.1, q.2)) = PP) := hd' (by
     rw [← HX.o, usz Hh.o H100.o, ← Hd2.o, hr3, List.length_append]
     simp only [Option.bind_some, List.length_cons, List.length_nil]
     cases ulu u (xs.length + 1) (ws.drop n3) <;> simp)
    have H3 := hd' (h3.other (Gou.Mod.alloc0 w3 (.cells #[iV x] 3)))
    have HA3 := hd' (Gou.Mod.alloc0 w3 (.cells #[iV x] 3))
    have HB3 := hd' (Blk.new w3 3 #[iV x])
    have Hz3 := hd' HM3.o.size
    clear h3 hr3 hm3
    go_wp2_with (first | ((with_reducible show wpList _ _ _ (⟨_, Op.call ⟨.builtin .append, _, _⟩, _, _, _, _⟩ :: _) _ _); refine halt ?_) | fail)
    refine uaz ud0 rfl _ _ rfl w.heap.size (.slice pb xs.length cb) xs.length (ivs xs) (fun _ => True) (.slice (some ⟨w3.heap.size, 0, none⟩) 1 1) 1 (ivs [x]) rfl rfl (by have h1 := Hz3.o; have h2 := HA3.o.size; omega) (uac Hown3.o HA3.o (fun _ _ h => h)) (RowG.of_blk HB3.o 1 1 rfl _ trivial) (uf8 _) (by have := H100.o; unfold maxLen; omega) (by have := H100.o; omega) ?_
    intro v4 w4 G
    have HG := hd' G
    obtain ⟨p4, c4, rfl⟩ := Gou.ownsRow_form G.own
    have H4 := hd' (H3.o.mod G.mod (fun k hk e => by have h1 := (Hown3.o.lt k e).1; have := HR.o; omega))
    have HM4 := hd' ((HM3.o.trans' (HA3.o.imp fun _ _ h => h.elim)).trans HG.o.mod (fun k hk e => by have h1 := (Hown3.o.lt k e).1; omega))
    clear G
    go_wp2_with fail
    go_roundw
    case rel =>
     refine ⟨xs ++ [x], n3, ?_, by rw [List.length_append]; have := H100.o; simp; omega, HX3.o, H4.o, HM4.o⟩
     rw [List.length_append, show ivs (xs ++ [x]) = ivs xs ++ ivs [x] by simp]
     exact HG.o.own
    case measure =>
     have := H100.o
     show 100 - (xs.length + 1) < 100 - xs.length
     omega
   ·have t1 : decide ((xs.length : Int) < 100) = false := dqf (by omega)
    have Hres : Hid (PP = none) := hd' (by rw [← HX.o, list_full Hh.o h100]; rfl)
    clear h100 hl
    go_wp2_with fail
    refine (ukv _).mono ?_
    rintro e w' ⟨rfl, hww⟩
    obtain rfl : w2 = w' := hww.symm
    refine ⟨rfl, HM2.o, ?_⟩
    rw [Hres.o]
end Go.Proofs.YtgolafbneiffpaaGreatDoor
namespace Go.Gou
open Go.RowKit
theorem uq0 {P : Program} {fn : Func} {p q : Tmp} {T t : TypeId} (h : fn.results = #[.tmp p, .cell q T]) {tmps : Array Value} {w : World} {cs : Array Value} {g : Nat} {d : TypeDesc} (hp : tmps.getD q undef = .pointer (some ⟨g, 0, none⟩)) (hg : Blk w g t cs)
  (hu : P.underlying T = some d) (hd : (match d with | .struct _ | .array _ _ => true | _ => false) = true) (hi : (P.info? T).map (·.size) = some cs.size) :
  (results fn tmps).run P w = .ok (.tuple #[tmps.getD p undef, .agg cs]) w := by
 have e2 := run_loadVar_row (P := P) w g t T cs (0, 0) d hg hu hd hi
 have e1' : tmps[q]?.getD undef = .pointer (some ⟨g, 0, none⟩) := by simpa using hp
 simp [results, h, e1', e2, asAddr, Sem.run_bind]
end Go.Gou
namespace Go.Proofs.YtgolafbneiffpaaGreatDoor
open Go.RowKit Go.Gou Go.Txt
set_option maxRecDepth 100000
theorem uve (u : Wd) : ∀ (l : List Wd) (i : Nat), Lib.idxFromS (l.map fun k => (⟨k.toArray⟩ : ByteArray)) ⟨u.toArray⟩ i = if l.idxOf u < l.length then ((i + l.idxOf u : Nat) : Int) else -1
 | [], i => by simp [Lib.idxFromS]
 | a :: l, i => by
  have ih := uve u l (i + 1)
  by_cases h : a = u
  ·subst h
   simp [Lib.idxFromS]
  ·have h2 : (⟨a.toArray⟩ : ByteArray) ≠ ⟨u.toArray⟩ := str_ne h
   simp only [List.map_cons, Lib.idxFromS, h2, if_false, ih, List.idxOf_cons, List.length_cons]
   rw [show (a == u) = false from bqf.2 h]
   simp only [cond_false]
   by_cases h3 : l.idxOf u < l.length
   ·rw [if_pos h3, if_pos (by omega)]
    congr 1
    omega
   ·rw [if_neg h3, if_neg (by omega)]
theorem idx_kinds (u : Wd) : Lib.idxOfS ((kinds.map fun k => (⟨k.toArray⟩ : ByteArray)).take 12) ⟨u.toArray⟩ = if kinds.idxOf u < 12 then ((kinds.idxOf u : Nat) : Int) else -1 := by
 rw [List.take_of_length_le (by simp [kinds]), Lib.idxOfS, uve, show kinds.length = 12 from rfl]
 simp
theorem index_any (w : World) (ht : LT w) (u : Wd) (c : Nat) : Calls Tryz.prog 144 #[.slice (some ⟨1, 1, none⟩) 12 c, .string ⟨u.toArray⟩] w fun e w' => e = .returned (iV (if kinds.idxOf u < 12 then ((kinds.idxOf u : Nat) : Int) else -1)) ∧ w' = w := by
 have h := Tryz.slices_Index_string 1 1 12 c (kinds.map fun k => (⟨k.toArray⟩ : ByteArray)) ⟨u.toArray⟩ w (by simp [kinds]) (by omega) (fun j hj => by
  have hj12 : j < 12 := by simpa [kinds] using hj
  rw [Nat.add_comm 1 j, ht.kinds (j + 1) (by omega)]
  have hk : j < kinds.length := hj12
  simp [kindsL, List.getD, hk])
 rw [idx_kinds] at h
 exact h
structure GS (w : World) (R : Nat) (vs : Value) (ws : List Wd) (L : Nat) (out : Int) (wr : World) (ns : List ubb) (vn : Value) (cs : List Value) (m : Nat) : Prop where
 rd : RdW wr R vs ws m
 mod : Gou.Mod (fun k => k = R) w wr
 res : Blk wr w.heap.size 33 #[.slice none 0 0, iV 0]
 loc : Blk wr L 33 #[vn, iV out]
 own : wr.ownsRow w.heap.size 58 3 vn ns.length cs
 nodes : NodeC (upl w.heap.size w.heap.size L vn) wr cs ns
 neN : vn.ownBlock ≠ some w.heap.size
 neL : vn.ownBlock ≠ some L
 hL : w.heap.size < L
 hR : R < w.heap.size
theorem GS.step {w : World} {R : Nat} {vs : Value} {ws : List Wd} {L : Nat} {out : Int} {wr : World} {ns : List ubb} {vn : Value} {cs : List Value} {m : Nat} (h : GS w R vs ws L out wr ns vn cs m) {S : Nat → Prop} {w2 : World} {m2 : Nat} (hm : Gou.Mod S wr w2) (hS : ∀ k, k < wr.heap.size → S k → k = R) (h2 : RdW w2 R vs ws m2) : GS w R vs ws L out w2 ns vn cs m2 := by
 have hn := Blk.lt h.res
 have hl := Blk.lt h.loc
 have a1 := h.hL
 have a2 := h.hR
 refine ⟨h2, h.mod.trans hm (fun k hk hs => ?_), h.res.mod hm (fun e => ?_), h.loc.mod hm (fun e => ?_), uac h.own hm (fun k hk e => ?_), h.nodes.mod hm (fun k hk hG e => ?_), h.neN, h.neL, a1, a2⟩
 ·exact hS k (Nat.lt_of_lt_of_le hk h.mod.size) hs
 ·have := hS _ hn e; omega
 ·have := hS _ hl e; omega
 ·have h3 := h.own.lt k hk
  have := hS _ h3.2 e
  omega
 ·have := hS _ hk e
  have := hG.1
  omega
theorem GS.push {w : World} {R : Nat} {vs : Value} {ws : List Wd} {L : Nat} {out : Int} {wr : World} {ns : List ubb} {vn : Value} {cs : List Value} {m : Nat} (h : GS w R vs ws L out wr ns vn cs m) {op : Int} {is ps : List Int} {vi vp : Value}
  (hi : IntsR (upl w.heap.size w.heap.size L vn) wr vi is) (hp : IntsR (upl w.heap.size w.heap.size L vn) wr vp ps) {k : Nat} (hk : ns.length + 1 = k) {v9 : Value} {w9 : World} (g : Grown wr w.heap.size 58 3 vn k (cs ++ [iV op, vi, vp]) v9 w9) :
  GS w R vs ws L out (w9.setCell ⟨L, 0, none⟩ v9) (ns ++ [⟨op, is, ps⟩]) v9 (cs ++ [iV op, vi, vp]) m := by
 subst hk
 have hn := Blk.lt h.res
 have hl := Blk.lt h.loc
 have a1 := h.hL
 have a2 := h.hR
 have ho := h.own.lt
 have hf : ∀ q, q < wr.heap.size → vn.ownBlock ≠ some q → v9.ownBlock ≠ some q := fun q hq h1 e => by
  rcases g.blk q e with h2 | h2
  ·exact h1 h2
  ·omega
 have hm : Gou.Mod (fun q => q = L) w9 (w9.setCell ⟨L, 0, none⟩ v9) := Gou.Mod.setCell w9 ⟨L, 0, none⟩ v9
 have hA : ∀ q, q < wr.heap.size → upl w.heap.size w.heap.size L vn q → upl w.heap.size w.heap.size L v9 q := fun q hq hG => ⟨hG.1, hG.2.1, hG.2.2.1, hf q hq hG.2.2.2⟩
 have hs9 := g.mod.size
 refine ⟨?_, ?_, ?_, ?_, ?_, ?_, hf _ hn h.neN, hf _ hl h.neL, a1, a2⟩
 ·exact (h.rd.mod g.mod (fun q hq e => by have := (ho q e).1; omega)).mod hm (fun q hq e => by omega)
 ·exact (h.mod.trans g.mod (fun q hq e => by have := (ho q e).1; omega)).trans hm (fun q hq e => by omega)
 ·exact (h.res.mod g.mod (fun e => h.neN e)).mod hm (fun e => by omega)
 ·exact (h.loc.mod g.mod (fun e => h.neL e)).set 0 v9
 ·rw [List.length_append]
  exact uac g.own hm (fun q hq e => by subst e; exact hf _ hl h.neL hq)
 ·refine NodeC.snoc ?_ ⟨op, is, ps⟩ vi vp ?_ ?_
  ·exact ((h.nodes.imp (G' := fun q => q < wr.heap.size ∧ upl w.heap.size w.heap.size L vn q) (fun q hq hG => ⟨hq, hG⟩)).mod g.mod (fun q _ hG e => hG.2.2.2.2 e)).mod hm (fun q _ hG e => hG.2.2.2.1 e) |>.imp fun q _ hG => hA q hG.1 hG.2
  ·exact RowG.imp (RowG.mod (RowG.mod (RowG.imp (G' := fun q => q < wr.heap.size ∧ upl w.heap.size w.heap.size L vn q) hi (fun q hq hG => ⟨hq, hG⟩)) g.mod (fun q _ hG e => hG.2.2.2.2 e)) hm (fun q _ hG e => hG.2.2.2.1 e)) fun q _ hG => hA q hG.1 hG.2
  ·exact RowG.imp (RowG.mod (RowG.mod (RowG.imp (G' := fun q => q < wr.heap.size ∧ upl w.heap.size w.heap.size L vn q) hp (fun q hq hG => ⟨hq, hG⟩)) g.mod (fun q _ hG e => hG.2.2.2.2 e)) hm (fun q _ hG e => hG.2.2.2.1 e)) fun q _ hG => hA q hG.1 hG.2
theorem uux : (Tryz.prog.info? 33).map (·.size) = some 2 := by kernel_rfl
theorem T_node : RowT Tryz.prog 31 58 3 56 (.agg #[iV 0, .slice none 0 0, .slice none 0 0]) := ⟨Tryz.underlying31, by kernel_rfl, rfl, by omega⟩
def VGr (B : Nat) (x : Bool × Gr) (w : World) (v : Value) : Prop := ∃ p c, v = .tuple #[.bool x.1, .agg #[.slice p x.2.nodes.length c, iV x.2.out]] ∧ NodesR (fun b => B ≤ b) w (.slice p x.2.nodes.length c) x.2.nodes
theorem uo8 {e : Wd} : ∀ (l : List Wd) (k : Nat) {xs : List Int} {r : List Wd}, ulu e k l = some (xs, r) → r.length < l.length
 | [], k, xs, r, h => by cases h
 | a :: l, k, xs, r, h => by
  rw [ulu] at h
  split at h
  ·simp at h
   obtain ⟨-, rfl⟩ := h
   simp
  ·split at h
   ·rcases ha : numT a with _ | x
    ·rw [ha] at h
     cases h
    ·rw [ha] at h
     simp only [Option.bind_some] at h
     rcases hl : ulu e (k + 1) l with _ | ⟨ys, q⟩
     ·rw [hl] at h
      cases h
     ·rw [hl] at h
      simp at h
      obtain ⟨-, rfl⟩ := h
      have := uo8 l (k + 1) hl
      simp
      omega
   ·cases h
def rdAt (R : Nat) (w : World) : Nat := match w.cell? ⟨R, 1, none⟩ with
 | some (.int _ x) => x.toNat
 | _ => 0
theorem RdW.at {w : World} {R : Nat} {vs : Value} {ws : List Wd} {n : Nat} (h : RdW w R vs ws n) : rdAt R w = n := by
 unfold rdAt
 have h1 : w.cell? ⟨R, 1, none⟩ = some (iV n) := h.box.cell 1 rfl
 rw [h1]
 simp
theorem uqv {w : World} {R : Nat} {vs : Value} {ws : List Wd} {n : Nat} (h : RdW w R vs ws n) :
  Calls Tryz.prog 121 #[.pointer (some ⟨R, 0, none⟩)] w (RP w R vs ws (VGr w.heap.size) (umd (ws.drop n))) := by
 generalize hP : umd (ws.drop n) = PP
 have HP := hd' hP
 have H0 := hd' (h.other (Gou.Mod.alloc0 w (.cells #[.slice none 0 0, iV 0] 33)))
 have HA0 := hd' (Blk.new w 33 #[.slice none 0 0, iV 0])
 have HM0 := hd' (Gou.Mod.alloc (fun k => k = R) w (.cells #[.slice none 0 0, iV 0] 33))
 have HR := hd' (Blk.lt h.box)
 clear hP h
 go_enter Tryz.func121, Tryz.ntmps121
 go_wp2_with fail
 refine (unq H0.o wOff).mono ?_
 rintro e w1 ⟨rfl, ⟨n1, h1, hd1⟩, hm1⟩
 have H1 := hd' h1
 have HM1 := hd' (HM0.o.trans' hm1)
 have HA1 := hd' (ulh HA0.o hm1 (by have := HR.o; omega))
 clear h1 hm1 H0 HA0 HM0
 by_cases hh : (ws.drop n).head? = some wOff
 ·rw [dqt hh]
  have Hres : Hid (PP = some ((false, Gr.zero), ws.drop n1)) := hd' (by rw [← HP.o, umd, if_pos hh, hd1, if_pos hh])
  clear hd1 hh
  have cHA1_0 : (w1).cell? ⟨w.heap.size, 0, none⟩ = some nlS := HA1.o.cell 0 rfl
  have fHA1_0 := HA1.o.frozen 0
  have cHA1_1 : (w1).cell? ⟨w.heap.size, 1, none⟩ = some (iV 0) := HA1.o.cell 1 rfl
  have fHA1_1 := HA1.o.frozen 1
  have H1s := hd' ((H1.o.own ⟨w.heap.size, 0, none⟩ nlS (by have := HR.o; exact this)).own ⟨w.heap.size, 1, none⟩ (iV 0) (by have := HR.o; exact this))
  have HM1s := hd' ((HM1.o.own ⟨w.heap.size, 0, none⟩ nlS (Nat.le_refl _)).own ⟨w.heap.size, 1, none⟩ (iV 0) (Nat.le_refl _))
  have HA1s := hd' ((HA1.o.set 0 nlS).set 1 (iV 0))
  go_wp2_with fail
  refine bpr (uq0 rfl (g := w.heap.size) (t := 33) rfl HA1s.o Tryz.underlying33 rfl uux) rfl ?_
  refine ⟨HM1s.o, ?_⟩
  rw [Hres.o]
  exact ⟨_, n1, rfl, ⟨none, 0, rfl, NodesR.nil _ _⟩, H1s.o, rfl⟩
 rw [dqf hh]
 have Hd1 : Hid (ws.drop n1 = ws.drop n) := hd' (by rw [hd1, if_neg hh])
 have Hh := hd' hh
 clear hd1 hh
 go_wp2_with fail
 refine (uk3 H1.o).mono ?_
 rintro e w2 ⟨hm2, h2⟩
 have HM2 := hd' (HM1.o.trans' hm2)
 have HA2 := hd' (ulh HA1.o hm2 (by have := HR.o; omega))
 rcases hr2 : numP (ws.drop n1) with _ | ⟨out, q2⟩
 ·rw [hr2] at h2
  subst h2
  refine ⟨rfl, HM2.o, ?_⟩
  rw [← HP.o, umd, if_neg Hh.o, ← Hd1.o, hr2]
  rfl
 rw [hr2] at h2
 obtain ⟨_, n2, rfl, rfl, h2, rfl⟩ := h2
 have HP2 : Hid ((ung (ws.drop n2).length 0 (ws.drop n2)).map (fun l => ((true, (⟨l, out⟩ : Gr)), ([] : List Wd))) = PP) := hd' (by
  rw [← HP.o, umd, if_neg Hh.o, ← Hd1.o, hr2]
  rfl)
 have HL : Hid (w.heap.size < w2.heap.size) := hd' (Blk.lt HA2.o)
 have HG0 : Hid (GS w R vs ws w2.heap.size out (w2.alloc (.cells #[.slice none 0 0, iV out] 33)) [] nlS [] n2) := hd'
     ⟨h2.other (Gou.Mod.alloc0 _ _), HM2.o.trans' (Gou.Mod.alloc _ _ _), HA2.o.mod (Gou.Mod.alloc0 _ _) (fun h => h), Blk.new w2 33 _, World.ownsRow_nil _ _ _ _, NodeC.nil _ _, by simp [Value.ownBlock], by simp [Value.ownBlock], HL.o, HR.o⟩
 clear h2 hr2 hm2 H1 HM1 HA1 HM2 HA2 Hd1 Hh HP
 go_wp2_with fail
 go_loopw [5] (fun _ wr => ∃ (ns : List ubb) (vn : Value) (cs : List Value) (m f : Nat), GS w R vs ws w2.heap.size out wr ns vn cs m ∧ (ws.drop m).length ≤ f ∧ ((ung f ns.length (ws.drop m)).map (fun l => ((true, (⟨ns ++ l, out⟩ : Gr)), ([] : List Wd)))) = PP ∧ ns.length ≤ 1000) (fun _ wr => ws.length - rdAt R wr)
 case atStart => exact ⟨[], _, [], n2, _, HG0.o, Nat.le_refl _, HP2.o, by simp⟩
 case round =>
  obtain ⟨ns, vn, cs, m, f, hg, hf, hres, hk⟩ := hrel
  obtain ⟨pn, cn, rfl⟩ := Gou.ownsRow_form hg.own
  obtain ⟨pw, cw, rfl, -⟩ := RowG.form hg.rd.row
  have HG := hd' hg
  have HF := hd' hf
  have HX := hd' hres
  have HK := hd' hk
  have r0 := hg.rd.box.cell 0 rfl
  have r1 := hg.rd.box.cell 1 rfl
  have hlen := hg.rd.len
  have Hat := hd' hg.rd.at
  clear hg hf hres hk HG0 HP2
  by_cases hml : m < ws.length
  ·have t1 : decide ((m : Int) < (ws.length : Int)) = true := dqt (by omega)
   have Hlt := hd' hml
   go_wp2_with fail
   go_quiet (fail)
   have HG4 := hd' (HG.o.step (Gou.Mod.drewN (fun _ => False) wr nq) (fun _ _ h => h.elim) (HG.o.rd.other (Gou.Mod.drewN (fun _ => False) wr nq)))
   generalize wr.drewN nq = w4 at *
   clear r0 r1 HG hml
   go_wp2_with fail
   refine wp_region_held_drew (S := fun w' => Gou.Mod (fun k => k = R) w4 w') (by kernel_rfl) (Gou.Mod.drew _ _) (fun hH => ?_)
   refine tkK 0 (.slice (some ⟨1, 1, none⟩) 12 12) hH (h := ?_)
   refine tk 1 (.pointer (some ⟨R, 0, none⟩)) hH (h := ?_)
   refine rd 2 (h := fun K hK => ?_)
   go_simp
   refine (uor (HG4.o.rd.other (Gou.Mod.drew _ _)) Hlt.o).mono ?_
   rintro e w5 ⟨rfl, h5, hm5⟩
   have H5 := hd' h5
   have M := hd' (hH.trans' hm5)
   clear hH h5 hm5
   refine hK _ _ M.o (fun hH => ?_)
   clear hK K M
   try simp only [Act.put, uSa, uSb, uSc]
   refine rd 3 (h := fun K hK => ?_)
   go_simp
   refine (index_any _ H5.o.lt _ _).mono ?_
   rintro e w6 ⟨rfl, hww⟩
   obtain rfl : w5 = w6 := hww.symm
   clear hww
   have M := hd' hH
   clear hH
   refine hK _ _ M.o (fun hH => ?_)
   clear hK K M
   try simp only [Act.put, uSa, uSb, uSc]
   refine tk 4 (iV (if kinds.idxOf (ws[m]'Hlt.o) < 12 then ((kinds.idxOf (ws[m]'Hlt.o) : Nat) : Int) else -1)) hH (h := ?_)
   have MS := hd' hH
   refine wpAnyH_done (by kernel_rfl) ?_ _
   clear hH
   have HG5 := hd' (HG4.o.step MS.o (fun _ _ h => h) H5.o)
   have Hdm := hd' (ulv Hlt.o)
   clear H5 MS HG4
   generalize ws[m]'Hlt.o = u at *
   obtain ⟨f', hf'⟩ : ∃ f', f = f' + 1 := ⟨f - 1, by have h1 := HF.o; rw [Hdm.o, List.length_cons] at h1; omega⟩
   subst hf'
   have HF5 : Hid ((ws.drop (m + 1)).length ≤ f') := hd' (by have h1 := HF.o; rw [Hdm.o, List.length_cons] at h1; omega)
   have HX5 : Hid (((us4 u).bind fun op => if ns.length < 1000 then (ulu uoh 0 (ws.drop (m + 1))).bind fun i => (ulu uqk 0 i.2).bind fun p => (ung f' (ns.length + 1) p.2).map fun l => (⟨op, i.1, p.1⟩ : ubb) :: l else none).map (fun l => ((true, (⟨ns ++ l, out⟩ : Gr)), ([] : List Wd))) = PP) := hd' (by
    have h1 := HX.o
    rw [Hdm.o] at h1
    exact h1)
   clear HX HF Hdm
   by_cases hq : kinds.idxOf u < 12
   ·have Hkt : Hid (us4 u = some ((kinds.idxOf u : Int) + 1)) := hd' (if_pos hq)
    rw [if_pos hq]
    generalize kinds.idxOf u = q at *
    have q0 : decide ((0 : Int) ≤ (q : Int)) = true := dqt (by omega)
    have qw : wrap64 ((q : Int) + 1) = (q : Int) + 1 := IntWalk.wrap64_in _ (by omega)
    have g0 := HG5.o.loc.cell 0 rfl
    by_cases hk : ns.length < 1000
    ·have t2 : decide ((ns.length : Int) < 1000) = true := dqt (by omega)
     have Hk := hd' hk
     clear hk hq
     go_wp2_with fail
     refine (ulo _).mono ?_
     rintro e w' ⟨rfl, hww⟩
     obtain rfl : w5 = w' := hww.symm
     clear hww
     have HX6 := hd' (Blk.new w5 58 #[iV ((q : Int) + 1), .slice none 0 0, .slice none 0 0])
     have H6 := hd' (HG5.o.rd.other (Gou.Mod.alloc0 w5 (.cells #[iV ((q : Int) + 1), .slice none 0 0, .slice none 0 0] 58)))
     have HM6 := hd' (Gou.Mod.alloc (fun k => k = R ∨ k = w5.heap.size) w5 (.cells #[iV ((q : Int) + 1), .slice none 0 0, .slice none 0 0] 58))
     have HS6 : Hid ((w5.alloc (.cells #[iV ((q : Int) + 1), .slice none 0 0, .slice none 0 0] 58)).heap.size = w5.heap.size + 1) := hd' (by simp)
     have Hz5 := hd' (show R < w5.heap.size from Nat.lt_of_lt_of_le HR.o HG5.o.mod.size)
     clear g0
     go_wp2_with fail
     try generalize (w5.alloc (.cells #[iV ((q : Int) + 1), .slice none 0 0, .slice none 0 0] 58)) = w6 at *
     refine (usl H6.o uoh).mono ?_
     rintro e w7 ⟨hm7, h7⟩
     have HM7 := hd' (HM6.o.trans' (hm7.imp fun _ _ h => .inl h))
     have hX7 := ulh HX6.o hm7 (by have := Hz5.o; omega)
     rcases hr7 : ulu uoh 0 (ws.drop (m + 1)) with _ | ⟨is, q7⟩
     ·rw [hr7] at h7
      subst h7
      refine ⟨rfl, HG5.o.mod.trans HM7.o (fun k hk e => by have := HG5.o.mod.size; omega), ?_⟩
      rw [← HX5.o, Hkt.o]
      simp only [Option.bind_some]
      rw [if_pos Hk.o, hr7]
      simp only [Option.bind_none, Option.map_none]
     rw [hr7] at h7
     obtain ⟨vi, n7, rfl, hv7, h7, rfl⟩ := h7
     have hv7 : IntsR (fun b => w6.heap.size ≤ b) w7 vi is := hv7
     obtain ⟨pi, ci, rfl, -⟩ := RowG.form hv7
     have R7 := hd' hr7
     have H7 := hd' (h7.own ⟨w5.heap.size, 1, none⟩ (.slice pi is.length ci) Hz5.o)
     have HM8 := hd' (HM7.o.trans' ((Gou.Mod.setCell w7 ⟨w5.heap.size, 1, none⟩ (.slice pi is.length ci)).imp fun _ _ h => .inr h))
     have Hi8 := hd' (RowG.mod hv7 (Gou.Mod.setCell w7 ⟨w5.heap.size, 1, none⟩ (.slice pi is.length ci)) (fun k _ hk e => by have := HS6.o; simp at e; omega))
     have Hz7 : Hid (w6.heap.size ≤ w7.heap.size) := hd' hm7.size
     have x1 := hX7.cell 1 rfl
     have fx1 := hX7.frozen 1
     have HX8 := hd' (hX7.set 1 (.slice pi is.length ci))
     have Hs8 : Hid ((w7.setCell ⟨w5.heap.size, 1, none⟩ (.slice pi is.length ci)).heap.size = w7.heap.size) := hd' (by simp)
     clear hr7 h7 hv7 hm7 hX7
     go_wp2_with fail
     clear x1 fx1
     generalize (w7.setCell ⟨w5.heap.size, 1, none⟩ (.slice pi is.length ci)) = w8 at *
     refine (usl H7.o uqk).mono ?_
     rintro e w9 ⟨hm9, h9⟩
     have HM9 := hd' (HM8.o.trans' (hm9.imp fun _ _ h => .inl h))
     have hX9 := ulh HX8.o hm9 (by have := Hz5.o; omega)
     rcases hr9 : ulu uqk 0 (ws.drop n7) with _ | ⟨ps, q9⟩
     ·rw [hr9] at h9
      subst h9
      refine ⟨rfl, HG5.o.mod.trans HM9.o (fun k hk e => by have := HG5.o.mod.size; omega), ?_⟩
      rw [← HX5.o, Hkt.o]
      simp only [Option.bind_some]
      rw [if_pos Hk.o, R7.o]
      simp only [Option.bind_some]
      rw [hr9]
      simp only [Option.bind_none, Option.map_none]
     rw [hr9] at h9
     obtain ⟨vp, n9, rfl, hv9, h9, rfl⟩ := h9
     have hv9 : IntsR (fun b => w8.heap.size ≤ b) w9 vp ps := hv9
     obtain ⟨pp, cp, rfl, -⟩ := RowG.form hv9
     have R9 := hd' hr9
     have H9 := hd' ((h9.own ⟨w5.heap.size, 2, none⟩ (.slice pp ps.length cp) Hz5.o).other (Gou.Mod.alloc0 _ (.cells #[iV ((q : Int) + 1), .slice pi is.length ci, .slice pp ps.length cp] 58)))
     have HMx := hd' ((HM9.o.trans' ((Gou.Mod.setCell w9 ⟨w5.heap.size, 2, none⟩ (.slice pp ps.length cp)).imp fun _ _ h => .inr h)).trans' (Gou.Mod.alloc _ _ (.cells #[iV ((q : Int) + 1), .slice pi is.length ci, .slice pp ps.length cp] 58)))
     have Hz9 : Hid (w8.heap.size ≤ w9.heap.size) := hd' hm9.size
     have HGx := hd' (HG5.o.step HMx.o (fun k hk e => by omega) H9.o)
     have hia := RowG.mod Hi8.o hm9 (fun k _ hk e => by have h1 := HS6.o; have h2 := Hz5.o; omega)
     have hib := RowG.mod hia (Gou.Mod.setCell w9 ⟨w5.heap.size, 2, none⟩ (.slice pp ps.length cp)) (fun k _ hk e => by have := HS6.o; simp at e; omega)
     have hic := RowG.mod hib (Gou.Mod.alloc0 _ (.cells #[iV ((q : Int) + 1), .slice pi is.length ci, .slice pp ps.length cp] 58)) (fun _ _ _ h => h)
     have hpb := RowG.mod hv9 (Gou.Mod.setCell w9 ⟨w5.heap.size, 2, none⟩ (.slice pp ps.length cp)) (fun k _ hk e => by have h1 := HS6.o; have h2 := Hz7.o; have h3 := Hs8.o; simp at e; omega)
     have hpc := RowG.mod hpb (Gou.Mod.alloc0 _ (.cells #[iV ((q : Int) + 1), .slice pi is.length ci, .slice pp ps.length cp] 58)) (fun _ _ _ h => h)
     have hsz5 : w.heap.size < w5.heap.size := Blk.lt HG5.o.res
     have hsL : w2.heap.size < w5.heap.size := Blk.lt HG5.o.loc
     have hso : ∀ k, (Value.slice pn ns.length cn).ownBlock = some k → k < w5.heap.size := fun k hk => (HG5.o.own.lt k hk).2
     have HIx : Hid (IntsR (upl w.heap.size w.heap.size w2.heap.size (.slice pn ns.length cn)) _ (.slice pi is.length ci) is) := hd' (RowG.imp hic (fun k _ hk => by
      have h1 := HS6.o
      refine ⟨by omega, by omega, by omega, fun e => ?_⟩
      have := hso k e
      omega))
     have HPx : Hid (IntsR (upl w.heap.size w.heap.size w2.heap.size (.slice pn ns.length cn)) _ (.slice pp ps.length cp) ps) := hd' (RowG.imp hpc (fun k _ hk => by
      have h1 := HS6.o
      have h2 := Hz7.o
      have h3 := Hs8.o
      refine ⟨by omega, by omega, by omega, fun e => ?_⟩
      have := hso k e
      omega))
     have y2 := hX9.cell 2 rfl
     have fy2 := hX9.frozen 2
     have hXa := hX9.set 2 (.slice pp ps.length cp)
     have z0 := hXa.cell 0 rfl
     have z1 := hXa.cell 1 rfl
     have z2 := hXa.cell 2 rfl
     have hLa := (HG5.o.step (HM9.o.trans' ((Gou.Mod.setCell w9 ⟨w5.heap.size, 2, none⟩ (.slice pp ps.length cp)).imp fun _ _ h => .inr h)) (fun k hk e => by omega) (h9.own ⟨w5.heap.size, 2, none⟩ (.slice pp ps.length cp) Hz5.o)).loc
     have l0 := hLa.cell 0 rfl
     have HBx := hd' (Blk.new (w9.setCell ⟨w5.heap.size, 2, none⟩ (.slice pp ps.length cp)) 58 #[iV ((q : Int) + 1), .slice pi is.length ci, .slice pp ps.length cp])
     have Hs9 : Hid ((w9.setCell ⟨w5.heap.size, 2, none⟩ (.slice pp ps.length cp)).heap.size = w9.heap.size) := hd' (by simp)
     have Hl9 := hd' (uo8 _ _ R9.o)
     have Hl7 := hd' (uo8 _ _ R7.o)
     clear hr9 h9 hv9 hm9 hX9 hXa hLa hia hib hic hpb hpc hso hsz5 hsL
     go_wp2_with (first | ((with_reducible show wpList _ _ _ (⟨_, Op.call ⟨.builtin .append, _, _⟩, _, _, _, _⟩ :: _) _ _); refine halt ?_) | fail)
     clear z0 z1 z2 y2 fy2 l0
     refine uaz T_node rfl _ _ rfl w.heap.size (.slice pn ns.length cn) ns.length cs (fun _ => True) (.slice (some ⟨w9.heap.size, 0, none⟩) 1 1) 1 [iV ((q : Int) + 1), .slice pi is.length ci, .slice pp ps.length cp] rfl rfl (by have := HGx.o.mod.size; omega) HGx.o.own (by
      have := RowG.of_blk HBx.o 3 1 rfl (fun _ => True) trivial
      rwa [Hs9.o] at this) (by simp [Value.oneCell']) (by have := Hk.o; unfold maxLen; omega) (by have := Hk.o; omega) ?_
     intro v10 w10 G
     obtain ⟨p10, c10, rfl⟩ := Gou.ownsRow_form G.own
     have HG10 := hd' (HGx.o.push HIx.o HPx.o rfl G)
     have hL := HGx.o.loc.mod G.mod (fun e => HGx.o.neL e)
     have l0 := hL.cell 0 rfl
     have f0 := hL.frozen 0
     clear G hL
     go_wp2_with fail
     clear l0 f0
     go_roundw
     case rel =>
      refine ⟨ns ++ [⟨(q : Int) + 1, is, ps⟩], _, _, n9, f', HG10.o, by have h1 := Hl9.o; have h2 := Hl7.o; have h3 := HF5.o; omega, ?_, by rw [List.length_append]; have := Hk.o; simp; omega⟩
      rw [← HX5.o, Hkt.o]
      simp only [Option.bind_some]
      rw [if_pos Hk.o, R7.o]
      simp only [Option.bind_some]
      rw [R9.o]
      simp only [Option.bind_some, List.length_append, List.length_cons, List.length_nil]
      cases ung f' (ns.length + 1) (ws.drop n9) <;> simp
     case measure =>
      have h1 := HG10.o.rd.at
      have h2 := Hat.o
      have h3 := Hlt.o
      have h4 := Hl9.o
      have h5 := Hl7.o
      have h6 := HG10.o.rd.le
      simp only [List.length_drop] at h4 h5
      show ws.length - rdAt R _ < ws.length - rdAt R wr
      rw [h1, h2]
      omega
    ·have t2 : decide ((ns.length : Int) < 1000) = false := dqf (by omega)
     have Hres : Hid (PP = none) := hd' (by rw [← HX5.o, Hkt.o]; simp only [Option.bind_some]; rw [if_neg hk]; rfl)
     clear hk hq
     go_wp2_with fail
     refine (ukv _).mono ?_
     rintro e w' ⟨rfl, hww⟩
     obtain rfl : w5 = w' := hww.symm
     refine ⟨rfl, HG5.o.mod, ?_⟩
     rw [Hres.o]
   ·have Hres : Hid (PP = none) := hd' (by rw [← HX5.o, us4, if_neg hq]; rfl)
    rw [if_neg hq]
    clear hq
    go_wp2_with fail
    refine (ukv _).mono ?_
    rintro e w' ⟨rfl, hww⟩
    obtain rfl : w5 = w' := hww.symm
    refine ⟨rfl, HG5.o.mod, ?_⟩
    rw [Hres.o]
  ·obtain rfl : m = ws.length := by have := HG.o.rd.le; omega
   have t1 : decide ((ws.length : Int) < (ws.length : Int)) = false := dqf (by omega)
   go_wp2_with fail
   go_quiet (fail)
   have HG4 := hd' (HG.o.step (Gou.Mod.drewN (fun _ => False) wr nq) (fun _ _ h => h.elim) (HG.o.rd.other (Gou.Mod.drewN (fun _ => False) wr nq)))
   have Hres : Hid (PP = some ((true, ⟨ns, out⟩), ws.drop ws.length)) := hd' (by
    rw [← HX.o, List.drop_length]
    cases f <;> simp [ung])
   generalize wr.drewN nq = w4 at *
   have a0 := HG4.o.loc.cell 0 rfl
   have a1 := HG4.o.loc.cell 1 rfl
   clear r0 r1 HG hml HX
   go_wp2_with fail
   go_still_tail 2, (by kernel_rfl)
   change wpList _ _ _ _ _ w4.drew
   have HG5 := hd' (HG4.o.step (Gou.Mod.drew (fun _ => False) w4) (fun _ _ h => h.elim) (HG4.o.rd.other (Gou.Mod.drew (fun _ => False) w4)))
   generalize w4.drew = w5 at *
   have c0 := HG5.o.res.cell 0 rfl
   have c1 := HG5.o.res.cell 1 rfl
   have f0 := HG5.o.res.frozen 0
   have f1 := HG5.o.res.frozen 1
   have hB := (HG5.o.res.set 0 (.slice pn ns.length cn)).set 1 (iV out)
   have HB := hd' hB
   have H6 := hd' ((HG5.o.rd.own ⟨w.heap.size, 0, none⟩ (.slice pn ns.length cn) (by have := HR.o; exact this)).own ⟨w.heap.size, 1, none⟩ (iV out) (by have := HR.o; exact this))
   have HM6 := hd' ((HG5.o.mod.own ⟨w.heap.size, 0, none⟩ (.slice pn ns.length cn) (Nat.le_refl _)).own ⟨w.heap.size, 1, none⟩ (iV out) (Nat.le_refl _))
   have hm6 := (Gou.Mod.setCell w5 ⟨w.heap.size, 0, none⟩ (.slice pn ns.length cn)).trans' (Gou.Mod.setCell _ ⟨w.heap.size, 1, none⟩ (iV out))
   have HN6 : Hid (NodesR (fun b => w.heap.size ≤ b) _ (.slice pn ns.length cn) ns) := hd' ((NodesR.mod (G := fun b => w.heap.size ≤ b ∧ b ≠ w.heap.size) ⟨cs, RowG.own_of HG5.o.own (fun b hb hB => ⟨hB, fun e => HG5.o.neN (e ▸ hb)⟩), HG5.o.nodes.imp fun k _ hG => ⟨hG.1, hG.2.1⟩⟩ hm6 (fun k _ hG e => hG.2 e)).imp fun k _ hG => hG.1)
   clear hB hm6 a0 a1
   go_wp2_with fail
   refine bpr (uq0 rfl (g := w.heap.size) (t := 33) rfl HB.o Tryz.underlying33 rfl uux) rfl ?_
   refine ⟨HM6.o, ?_⟩
   rw [Hres.o]
   exact ⟨_, ws.length, rfl, ⟨pn, cn, rfl, HN6.o⟩, H6.o, rfl⟩
end Go.Proofs.YtgolafbneiffpaaGreatDoor
namespace Go.Gou
open Go.RowKit
theorem uav {P : Program} {ops : Array Oper} {rest : List Oper} {o : Oper} {a : Act} {w : World} {Q : Exit → Act → World → Prop} (hg : o.guard = none) (v : Value) (hr : (execOp a.eval o).run P w = .ok (.value v) w) (h : wpList P ops Q rest (a.put o.dst v) w) : wpList P ops Q (o :: rest) a w :=
 wpList_plain hg fun K hK => by unfold Oper.wp; rw [hr]; exact hK _ _ h
end Go.Gou
namespace Go.Proofs.YtgolafbneiffpaaGreatDoor
open Go.RowKit Go.Gou Go.Txt
set_option maxRecDepth 100000
theorem sz_opT : (Tryz.prog.info? 37).map (·.size) = some 34 := by kernel_rfl
theorem sz_actT : (Tryz.prog.info? 41).map (·.size) = some 42 := by kernel_rfl
theorem sz_contT : (Tryz.prog.info? 30).map (·.size) = some 13 := by kernel_rfl
theorem un1 (o : Opr) (a b c : Value) : (oprC o a b c).size = 34 := by simp [oprC]
theorem uma (o : Ac) (a b c : Value) : (actC o a b c).size = 42 := by simp [actC]
def VAct (B : Nat) (x : Ac) (w : World) (v : Value) : Prop := ∃ p1 n1 k1 p2 n2 k2 p3 n3 k3, v = .agg (actC x (.slice p1 n1 k1) (.slice p2 n2 k2) (.slice p3 n3 k3)) ∧ LookR (fun b => B ≤ b) w x.op.look (.slice p1 n1 k1) (.slice p2 n2 k2) (.slice p3 n3 k3)
theorem ul4 (w : World) {p1 : Option Addr} {n1 k1 : Nat} {p2 : Option Addr} {n2 k2 : Nat} {p3 : Option Addr} {n3 k3 : Nat} (o : Opr) : Calls Tryz.prog 117 #[.agg (oprC o (.slice p1 n1 k1) (.slice p2 n2 k2) (.slice p3 n3 k3))] w fun e w' => e = .returned (.agg (actC ⟨o.kind, o, 0, 0, Cf.zero⟩ (.slice p1 n1 k1) (.slice p2 n2 k2) (.slice p3 n3 k3))) ∧ Gou.Mod (fun _ => False) w w' := by
 have HM0 := hd' (Gou.Mod.alloc0 w (.cells (oprC o (.slice p1 n1 k1) (.slice p2 n2 k2) (.slice p3 n3 k3)) 37))
 have HB0 := hd' (Blk.new w 37 (oprC o (.slice p1 n1 k1) (.slice p2 n2 k2) (.slice p3 n3 k3)))
 have hB1 := (Blk.new w 37 (oprC o (.slice p1 n1 k1) (.slice p2 n2 k2) (.slice p3 n3 k3))).mod (Gou.Mod.alloc0 _ (.cells lz42 41)) (fun h => h)
 have kc : ((w.alloc (.cells (oprC o (.slice p1 n1 k1) (.slice p2 n2 k2) (.slice p3 n3 k3)) 37)).alloc (.cells lz42 41)).cell? ⟨w.heap.size, 0, none⟩ = some (iV o.kind) := hB1.cell 0 rfl
 have Hrg : Hid (((w.alloc (.cells (oprC o (.slice p1 n1 k1) (.slice p2 n2 k2) (.slice p3 n3 k3)) 37)).alloc (.cells lz42 41)).rangeAt w.heap.size 0 (oprC o (.slice p1 n1 k1) (.slice p2 n2 k2) (.slice p3 n3 k3)).toList) := hd' (Blk.range (pre := []) (post := []) hB1 (by rw [List.append_nil]; rfl) rfl)
 have HiO : Hid ((Tryz.prog.info? 37).map (·.size) = some (oprC o (.slice p1 n1 k1) (.slice p2 n2 k2) (.slice p3 n3 k3)).toList.length) := hd' (sz_opT.trans (by simp [oprC]))
 have hA : Blk ((w.alloc (.cells (oprC o (.slice p1 n1 k1) (.slice p2 n2 k2) (.slice p3 n3 k3)) 37)).alloc (.cells lz42 41)) (w.heap.size + 1) 41 lz42 := by
  have := Blk.new (w.alloc (.cells (oprC o (.slice p1 n1 k1) (.slice p2 n2 k2) (.slice p3 n3 k3)) 37)) 41 lz42
  rwa [World.size_alloc] at this
 have Hth : Hid (((w.alloc (.cells (oprC o (.slice p1 n1 k1) (.slice p2 n2 k2) (.slice p3 n3 k3)) 37)).alloc (.cells lz42 41)).there (w.heap.size + 1) 0 (actC ⟨o.kind, o, 0, 0, Cf.zero⟩ (.slice p1 n1 k1) (.slice p2 n2 k2) (.slice p3 n3 k3)).size) := hd' (hA.there 0 _ (by rw [uma]; simp))
 have HiA : Hid ((Tryz.prog.info? 41).map (·.size) = some (actC ⟨o.kind, o, 0, 0, Cf.zero⟩ (.slice p1 n1 k1) (.slice p2 n2 k2) (.slice p3 n3 k3)).size) := hd' (sz_actT.trans (by rw [uma]))
 have hA2 := hA.sets 0 (actC ⟨o.kind, o, 0, 0, Cf.zero⟩ (.slice p1 n1 k1) (.slice p2 n2 k2) (.slice p3 n3 k3)).toList
 rw [uef _ _ (by simp [actC])] at hA2
 have HA2 : Hid (Blk (((w.alloc (.cells (oprC o (.slice p1 n1 k1) (.slice p2 n2 k2) (.slice p3 n3 k3)) 37)).alloc (.cells lz42 41)).setCells (w.heap.size + 1) 0 (actC ⟨o.kind, o, 0, 0, Cf.zero⟩ (.slice p1 n1 k1) (.slice p2 n2 k2) (.slice p3 n3 k3)).toList) (w.heap.size + 1) 41 (actC ⟨o.kind, o, 0, 0, Cf.zero⟩ (.slice p1 n1 k1) (.slice p2 n2 k2) (.slice p3 n3 k3))) := hd' hA2
 have HM2 : Hid (Gou.Mod (fun _ => False) w (((w.alloc (.cells (oprC o (.slice p1 n1 k1) (.slice p2 n2 k2) (.slice p3 n3 k3)) 37)).alloc (.cells lz42 41)).setCells (w.heap.size + 1) 0 (actC ⟨o.kind, o, 0, 0, Cf.zero⟩ (.slice p1 n1 k1) (.slice p2 n2 k2) (.slice p3 n3 k3)).toList)) := hd' ((HM0.o.trans' (Gou.Mod.alloc0 _ _)).trans (Blk.setMod _ _ _ _) (fun i hi e => by omega))
 clear hA hA2 hB1
 go_enter Tryz.func117, Tryz.ntmps117
 go_wp2_with (first | ((with_reducible refine wpList_load_mid ?g1_1 37 ?x1_1 ?o1_1 w.heap.size 0 ?h1_1 (oprC o (.slice p1 n1 k1) (.slice p2 n2 k2) (.slice p3 n3 k3)).toList ?d1_1 ?c1_1 ?u1_1 ?s1_1 ?i1_1 ?r1_1); (case g1_1 => exact rfl); (case o1_1 => exact rfl); (case h1_1 => exact rfl); (case c1_1 => exact Hrg.o); (case u1_1 => exact Tryz.underlying37); (case s1_1 => exact rfl); (case i1_1 => exact HiO.o)) | ((with_reducible show wpList _ _ _ (⟨_, Op.build _ _, _, _, _, _⟩ :: _) _ _); refine halt ?_) | fail)
 show wpList _ _ _ _ _ _
 refine uav rfl (.agg (actC ⟨o.kind, o, 0, 0, Cf.zero⟩ (.slice p1 n1 k1) (.slice p2 n2 k2) (.slice p3 n3 k3))) (by kernel_rfl) ?_
 simp only [Act.put, List.setIfInBounds_toArray, List.set_cons_zero, List.set_cons_succ]
 go_wp2_with (first | ((with_reducible refine wpList_store_mid ?g1_2 41 ?x1_2 ?y1_2 ?o1_2 (w.heap.size + 1) 0 (actC ⟨o.kind, o, 0, 0, Cf.zero⟩ (.slice p1 n1 k1) (.slice p2 n2 k2) (.slice p3 n3 k3)) ?h1_2 ?j1_2 ?t1_2 ?i1_2 ?s1_2 ?r1_2); (case g1_2 => exact rfl); (case o1_2 => exact rfl); (case h1_2 => exact rfl); (case j1_2 => exact rfl); (case t1_2 => exact Hth.o); (case i1_2 => exact HiA.o); (case s1_2 => exact ukj _ _ _ _ _ _ _ _ _ _)) | fail)
 refine bpr (results_cell_row rfl _ _ (w.heap.size + 1) 41 (actC ⟨o.kind, o, 0, 0, Cf.zero⟩ (.slice p1 n1 k1) (.slice p2 n2 k2) (.slice p3 n3 k3)) (0, 0) _ rfl HA2.o Tryz.underlying41 rfl HiA.o) rfl ?_
 exact ⟨rfl, HM2.o⟩
structure AS (w : World) (R : Nat) (vs : Value) (ws : List Wd) (wr : World) (m : Nat) : Prop where
 rd : RdW wr R vs ws m
 mod : Gou.Mod (fun k => k = R) w wr
 act : Blk wr w.heap.size 41 lz42
 hR : R < w.heap.size
theorem AS.start {w : World} {R : Nat} {vs : Value} {ws : List Wd} {n : Nat} (h : RdW w R vs ws n) : AS w R vs ws (w.alloc (.cells lz42 41)) n :=
 ⟨h.other (Gou.Mod.alloc0 _ _), Gou.Mod.alloc _ _ _, Blk.new w 41 _, Blk.lt h.box⟩
theorem AS.step {w : World} {R : Nat} {vs : Value} {ws : List Wd} {wr w2 : World} {m m2 : Nat} (h : AS w R vs ws wr m) (hm : Gou.Mod (fun k => k = R) wr w2) (h2 : RdW w2 R vs ws m2) : AS w R vs ws w2 m2 :=
 ⟨h2, h.mod.trans' hm, ulh h.act hm (by have := h.hR; omega), h.hR⟩
theorem AS.other {w : World} {R : Nat} {vs : Value} {ws : List Wd} {wr w2 : World} {m : Nat} (h : AS w R vs ws wr m) {S : Nat → Prop} (hm : Gou.Mod S wr w2) (hS : ∀ k, S k → w.heap.size < k) : AS w R vs ws w2 m :=
 ⟨h.rd.mod hm (fun k hk hs => by have := hS k hs; have := h.hR; omega), h.mod.trans hm (fun k hk hs => by have := hS k hs; omega), h.act.mod hm (fun hs => by have := hS _ hs; omega), h.hR⟩
structure OS (w : World) (R : Nat) (vs : Value) (ws : List Wd) (O : Nat) (o : Opr) (vp vf vb : Value) (wr : World) (m : Nat) : Prop where
 ast : AS w R vs ws wr m
 op : Blk wr O 37 (oprC o vp vf vb)
 look : LookR (fun b => w.heap.size < b ∧ b ≠ O) wr o.look vp vf vb
 hO : w.heap.size < O
theorem OS.step {w : World} {R : Nat} {vs : Value} {ws : List Wd} {O : Nat} {o : Opr} {vp vf vb : Value} {wr w2 : World} {m m2 : Nat} (h : OS w R vs ws O o vp vf vb wr m) (hm : Gou.Mod (fun k => k = R) wr w2) (h2 : RdW w2 R vs ws m2) : OS w R vs ws O o vp vf vb w2 m2 :=
 ⟨h.ast.step hm h2, ulh h.op hm (by have := h.hO; have := h.ast.hR; omega), h.look.mod hm (fun k _ hk e => by have := h.ast.hR; omega), h.hO⟩
theorem OS.other {w : World} {R : Nat} {vs : Value} {ws : List Wd} {O : Nat} {o : Opr} {vp vf vb : Value} {wr w2 : World} {m : Nat} (h : OS w R vs ws O o vp vf vb wr m) (hm : Gou.Mod (fun _ => False) wr w2) : OS w R vs ws O o vp vf vb w2 m :=
 ⟨h.ast.other hm (fun _ h => h.elim), h.op.mod hm (fun h => h), h.look.mod hm (fun _ _ _ h => h), h.hO⟩
theorem OS.set {w : World} {R : Nat} {vs : Value} {ws : List Wd} {O : Nat} {o : Opr} {vp vf vb : Value} {wr : World} {m : Nat} (h : OS w R vs ws O o vp vf vb wr m) (o' : Opr) (vp' vf' vb' : Value) {w2 : World} (hm : Gou.Mod (fun k => k = O) wr w2) (hb : Blk w2 O 37 (oprC o' vp' vf' vb')) (hl : LookR (fun b => w.heap.size < b ∧ b ≠ O) wr o'.look vp' vf' vb') : OS w R vs ws O o' vp' vf' vb' w2 m :=
 ⟨h.ast.other hm (fun k hk => by have := h.hO; omega), hb, hl.mod hm (fun k _ hk e => hk.2 e), h.hO⟩
theorem umm (G : Nat → Prop) (w : World) : LookR G w Lk.zero nlS nlS nlS := ⟨PixR.nil _ _, NodesR.nil _ _, NodesR.nil _ _⟩
theorem OS.make {w : World} {R : Nat} {vs : Value} {ws : List Wd} {wr : World} {m : Nat} (h : AS w R vs ws wr m) (o : Opr) (ho : o.look = Lk.zero) : OS w R vs ws wr.heap.size o nlS nlS nlS ((wr.alloc (.cells lz34 37)).setCells wr.heap.size 0 (oprC o nlS nlS nlS).toList) m := by
 have hz : w.heap.size < wr.heap.size := Blk.lt h.act
 have hA := (Blk.new wr 37 lz34).sets 0 (oprC o nlS nlS nlS).toList
 rw [uef _ _ (by simp [oprC])] at hA
 have hm : Gou.Mod (fun _ => False) wr ((wr.alloc (.cells lz34 37)).setCells wr.heap.size 0 (oprC o nlS nlS nlS).toList) := (Gou.Mod.alloc0 _ _).trans (Blk.setMod _ _ _ _) (fun i hi e => by omega)
 exact ⟨h.other hm (fun _ h => h.elim), hA, by rw [ho]; exact umm _ _, hz⟩
theorem OS.there {wr : World} {o : Opr} {a b c : Value} : (wr.alloc (.cells lz34 37)).there wr.heap.size 0 (oprC o a b c).size := (Blk.new wr 37 lz34).there 0 _ (by rw [un1]; simp)
theorem szO {o : Opr} {a b c : Value} : (Tryz.prog.info? 37).map (·.size) = some (oprC o a b c).size := sz_opT.trans (by rw [un1])
theorem szOl {o : Opr} {a b c : Value} : (Tryz.prog.info? 37).map (·.size) = some (oprC o a b c).toList.length := sz_opT.trans (by rw [Array.length_toList, un1])
theorem szA {o : Ac} {a b c : Value} : (Tryz.prog.info? 41).map (·.size) = some (actC o a b c).size := sz_actT.trans (by rw [uma])
theorem szAl {o : Ac} {a b c : Value} : (Tryz.prog.info? 41).map (·.size) = some (actC o a b c).toList.length := sz_actT.trans (by rw [Array.length_toList, uma])
theorem OS.range {w : World} {R : Nat} {vs : Value} {ws : List Wd} {O : Nat} {o : Opr} {vp vf vb : Value} {wr : World} {m : Nat} (h : OS w R vs ws O o vp vf vb wr m) : wr.rangeAt O 0 (oprC o vp vf vb).toList := Blk.range (pre := []) (post := []) h.op (by rw [List.append_nil]; rfl) rfl
theorem AS.there {w : World} {R : Nat} {vs : Value} {ws : List Wd} {wr : World} {m : Nat} (h : AS w R vs ws wr m) (a : Ac) (vp vf vb : Value) : wr.there w.heap.size 0 (actC a vp vf vb).size := h.act.there 0 _ (by rw [uma]; simp)
theorem AS.done {w : World} {R : Nat} {vs : Value} {ws : List Wd} {wr : World} {m : Nat} (h : AS w R vs ws wr m) (a : Ac) (vp vf vb : Value) (hl : LookR (fun b => w.heap.size < b) wr a.op.look vp vf vb) :
  RdW (wr.setCells w.heap.size 0 (actC a vp vf vb).toList) R vs ws m ∧ Gou.Mod (fun k => k = R) w (wr.setCells w.heap.size 0 (actC a vp vf vb).toList) ∧ Blk (wr.setCells w.heap.size 0 (actC a vp vf vb).toList) w.heap.size 41 (actC a vp vf vb) ∧ LookR (fun b => w.heap.size ≤ b) (wr.setCells w.heap.size 0 (actC a vp vf vb).toList) a.op.look vp vf vb := by
 have hA := h.act.sets 0 (actC a vp vf vb).toList
 rw [uef _ _ (by simp [actC])] at hA
 have hm := Blk.setMod wr w.heap.size 0 (actC a vp vf vb).toList
 exact ⟨h.rd.mod hm (fun k hk e => by have := h.hR; omega), h.mod.trans hm (fun k hk e => by omega), hA, (hl.mod hm (fun k _ hk e => by omega)).imp fun k _ hk => Nat.le_of_lt hk⟩
end Go.Proofs.YtgolafbneiffpaaGreatDoor
