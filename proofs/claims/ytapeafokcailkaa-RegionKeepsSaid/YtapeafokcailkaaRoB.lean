/- Regions: the document's regions; right ones; few ones; awake's first parts. -/
import Derived.Test.YtapeafokcailkaaRoA
import Derived.Test.YtapeafokcailkaaRmB
set_option linter.unusedSimpArgs false
set_option linter.unusedVariables false
set_option linter.unusedSectionVars false
set_option linter.constructorNameAsVariable false
namespace Go.Reg
/-- Few rectangles, with edges within the plane. -/
def FewP (l : List Rt) : Prop := l.length ≤ 20 ∧ ∀ r ∈ l, r.Right
instance (l : List Rt) : Decidable (FewP l) := by unfold FewP; infer_instance
end Go.Reg
namespace Go.Proofs.Ytapeafokcailkaa
open Go.RowKit Go.Gou Go.Reg Go.Shelf
set_option maxRecDepth 100000

theorem refOf_any (w : World) (p : Option Addr) (c : Nat) (l : List Rt) (hl : RtR (fun _ => True) w (.slice p l.length c) l) (hn : l.length ≤ 1000) :
    Calls Try.prog 13 #[.slice p l.length c] w (CombP w l [] orF) := by
  have hcon := refSets_any w p none c 0 l [] 0 hl (RowG.nil _ _ _) (by simpa using hn)
  have Hcon : Hid (Calls Try.prog 17 #[.slice p l.length c, .slice none 0 0, .int .i64 0] w (CombP w l [] orF)) := Lib.hid hcon
  clear hcon hl hn
  go_enter Try.func13, Try.ntmps13
  go_wp2_with fail
  refine Hcon.out.mono ?_
  rintro e w1 hc
  obtain ⟨hm, v, out, rfl, hown, hr⟩ := hc
  have Hend : Hid (CombP w l [] orF (.returned v) w1) := Lib.hid ⟨hm, v, out, rfl, hown, hr⟩
  obtain ⟨p1, c1, rfl⟩ := Gou.ownsRow_form hown
  clear hm hown hr
  go_wp2_with fail
  go_ret
  exact Hend.out

set_option maxHeartbeats 8000000 in
/-- Few: the document's answer. -/
theorem refFew_any (w : World) (p : Option Addr) (c : Nat) (l : List Rt) (hl : RtR (fun _ => True) w (.slice p l.length c) l) (hn : l.length ≤ maxLen) :
    Calls Try.prog 9 #[.slice p l.length c] w fun e w' => e = .returned (.bool (decide (FewP l))) ∧ Gou.Mod (fun _ => False) w w' := by
  have HL := Lib.hid hl
  by_cases h20 : l.length ≤ 20
  · have Hn := Lib.hid h20
    have e20 : decide ((20 : Int) < (l.length : Int)) = false := decide_eq_false (by omega)
    clear hl hn h20
    go_enter Try.func9, Try.ntmps9
    go_wp2_with fail
    go_loopw [3] (fun vi wr => ∃ i : Nat, vi = .int .i64 i ∧ i ≤ l.length ∧ (∀ r ∈ l.take i, r.Right) ∧ Gou.Mod (fun _ => False) w wr) (fun vi _ => l.length - (intOf vi).toNat)
    case atStart => exact ⟨0, rfl, by omega, fun r hr => by simp at hr, Gou.Mod.refl _ _⟩
    case round =>
      obtain ⟨i, rfl, hi, hall, hm⟩ := hrel
      have Hall := Lib.hid hall
      have Hm := Lib.hid hm
      clear hall hm
      by_cases hil : i < l.length
      · have e1 : decide ((i : Int) < (l.length : Int)) = true := decide_eq_true (by omega)
        obtain ⟨-, bl, off, rfl, hb, -, hc⟩ := HL.out.cells (by omega)
        obtain ⟨k0, k1, k2, k3⟩ := hc i hil
        rw [← Hm.out.cell (p := ⟨bl, off + i * 4, none⟩) hb (fun h => h)] at k0
        rw [← Hm.out.cell (p := ⟨bl, off + i * 4 + 1, none⟩) hb (fun h => h)] at k1
        rw [← Hm.out.cell (p := ⟨bl, off + i * 4 + 2, none⟩) hb (fun h => h)] at k2
        rw [← Hm.out.cell (p := ⟨bl, off + i * 4 + 3, none⟩) hb (fun h => h)] at k3
        have hi1 : (i : Int) < (l.length : Int) := by omega
        have hi0 : (0 : Int) ≤ (i : Int) := by omega
        have wi : IntKind.i64.wrap ((i : Int) + 1) = (i : Int) + 1 := wrap_id (by omega) (by have := Hn.out; omega)
        have Hbad := Lib.hid (fun (h : ¬ l[i].Right) => (fun hr => h (hr.2 _ (List.getElem_mem hil)) : ¬ FewP l))
        have Hst := Lib.hid (fun (h : l[i].Right) => (by
          rw [List.take_succ_eq_append_getElem hil]
          intro r hr
          rcases List.mem_append.1 hr with hr | hr
          · exact Hall.out r hr
          · simp only [List.mem_singleton] at hr
            rw [hr]
            exact h : ∀ r ∈ l.take (i + 1), r.Right))
        have Hin := Lib.hid (And.intro hi hil)
        have HR0 := Lib.hid (fun (w' : World) => refRight_any l[i] w')
        clear hc
        generalize l[i] = s at *
        obtain ⟨q1, hq1⟩ : ∃ q, q = decide s.Right := ⟨_, rfl⟩
        rw [← hq1] at HR0
        have Hq := Lib.hid hq1
        clear hq1
        obtain ⟨a, b, c', d⟩ := s
        simp only at k0 k1 k2 k3
        go_wp2_with fail
        refine (HR0.out _).mono ?_
        rintro e w2 ⟨rfl, hb2⟩
        have Hm2 := Lib.hid (Hm.out.trans' (Gou.Mod.of_below hb2 (fun _ => False)))
        clear hb2
        cases q1 with
        | true =>
          have Hs2 := Lib.hid (Hst.out (of_decide_eq_true Hq.out.symm))
          go_wp2_with fail
          go_roundw
          case rel => exact ⟨i + 1, by go_num, by have := Hin.out; omega, Hs2.out, Hm2.out⟩
          case measure => have := Hin.out; simp [intOf, wi]; omega
        | false =>
          have Hno := Lib.hid (Hbad.out (of_decide_eq_false Hq.out.symm))
          go_wp2_with fail
          go_ret
          exact ⟨ret_bool (by rw [decide_eq_false (fun h => Hno.out h)]), Hm2.out⟩
      · have hil' : i = l.length := by omega
        have e1 : decide ((i : Int) < (l.length : Int)) = false := decide_eq_false (by omega)
        rw [hil', List.take_length] at Hall
        go_wp2_with fail
        go_ret
        exact ⟨ret_bool (by have h : FewP l := ⟨Hn.out, Hall.out⟩; simp [h]), Hm.out⟩
  · have e20 : decide ((20 : Int) < (l.length : Int)) = true := decide_eq_true (by omega)
    have Hno : Hid (¬ FewP l) := Lib.hid (fun h => h20 h.1)
    clear hl hn h20
    go_enter Try.func9, Try.ntmps9
    go_wp2_with fail
    go_ret
    exact ⟨ret_bool (by rw [decide_eq_false Hno.out]), Gou.Mod.refl _ _⟩

set_option maxHeartbeats 8000000 in
/-- Is a region right: the document's answer. -/
theorem refRightL_any (w : World) (p : Option Addr) (c : Nat) (l : List Rt) (hl : RtR (fun _ => True) w (.slice p l.length c) l) (hn : l.length ≤ 1000) :
    Calls Try.prog 14 #[.slice p l.length c] w fun e w' => Gou.Mod (fun _ => False) w w' ∧ ∃ q, e = .returned (.bool q) ∧ (q = true ↔ IsRight l) := by
  have HL := Lib.hid hl
  have Hn := Lib.hid hn
  clear hl hn
  go_enter Try.func14, Try.ntmps14
  go_wp2_with fail
  go_loopw [3] (fun vi wr => ∃ i : Nat, vi = .int .i64 i ∧ i ≤ l.length ∧ (∀ r ∈ l.take i, r.Some ∧ r.Right) ∧ Gou.Mod (fun _ => False) w wr) (fun vi _ => l.length - (intOf vi).toNat)
  case atStart => exact ⟨0, rfl, by omega, fun r hr => by simp at hr, Gou.Mod.refl _ _⟩
  case round =>
    obtain ⟨i, rfl, hi, hall, hm⟩ := hrel
    have Hall := Lib.hid hall
    have Hm := Lib.hid hm
    clear hall hm
    by_cases hil : i < l.length
    · have e1 : decide ((i : Int) < (l.length : Int)) = true := decide_eq_true (by omega)
      obtain ⟨-, bl, off, rfl, hb, -, hc⟩ := HL.out.cells (by omega)
      obtain ⟨k0, k1, k2, k3⟩ := hc i hil
      rw [← Hm.out.cell (p := ⟨bl, off + i * 4, none⟩) hb (fun h => h)] at k0
      rw [← Hm.out.cell (p := ⟨bl, off + i * 4 + 1, none⟩) hb (fun h => h)] at k1
      rw [← Hm.out.cell (p := ⟨bl, off + i * 4 + 2, none⟩) hb (fun h => h)] at k2
      rw [← Hm.out.cell (p := ⟨bl, off + i * 4 + 3, none⟩) hb (fun h => h)] at k3
      have hi1 : (i : Int) < (l.length : Int) := by omega
      have hi0 : (0 : Int) ≤ (i : Int) := by omega
      have wi : IntKind.i64.wrap ((i : Int) + 1) = (i : Int) + 1 := wrap_id (by omega) (by have := Hn.out; omega)
      have Hbad := Lib.hid (fun (h : ¬ (l[i].Some ∧ l[i].Right)) => (fun hr => h (hr.1 _ (List.getElem_mem hil)) : ¬ IsRight l))
      have Hst := Lib.hid (fun (h : l[i].Some ∧ l[i].Right) => (by
        rw [List.take_succ_eq_append_getElem hil]
        intro r hr
        rcases List.mem_append.1 hr with hr | hr
        · exact Hall.out r hr
        · simp only [List.mem_singleton] at hr
          rw [hr]
          exact h : ∀ r ∈ l.take (i + 1), r.Some ∧ r.Right))
      have Hin := Lib.hid (And.intro hi hil)
      have HR0 := Lib.hid (fun (w' : World) => refRight_any l[i] w')
      have HE0 := Lib.hid (fun (w' : World) => refEmpty_any l[i] w')
      have Hcl := Lib.hid hc
      have Hcl2 := Lib.hid (hc i hil)
      have Hbl := Lib.hid hb
      clear hc
      generalize l[i] = s at *
      obtain ⟨q1, hq1⟩ : ∃ q, q = decide s.Right := ⟨_, rfl⟩
      obtain ⟨q2, hq2⟩ : ∃ q, q = decide s.Some := ⟨_, rfl⟩
      rw [← hq1] at HR0
      rw [← hq2] at HE0
      have Hq := Lib.hid (And.intro hq1 hq2)
      clear hq1 hq2 Hcl
      obtain ⟨a, b, c', d⟩ := s
      simp only at k0 k1 k2 k3 Hcl2
      go_wp2_with fail
      refine (HR0.out _).mono ?_
      rintro e w2 ⟨rfl, hb2⟩
      have M2 := Lib.hid (Gou.Mod.of_below hb2 (fun _ => False))
      have Hm2 := Lib.hid (Hm.out.trans' M2.out)
      clear hb2 k0 k1 k2 k3
      cases q1 with
      | true =>
        have k0 := (Hm2.out.cell (p := ⟨bl, off + i * 4, none⟩) Hbl.out (fun h => h)).trans Hcl2.out.1
        have k1 := (Hm2.out.cell (p := ⟨bl, off + i * 4 + 1, none⟩) Hbl.out (fun h => h)).trans Hcl2.out.2.1
        have k2 := (Hm2.out.cell (p := ⟨bl, off + i * 4 + 2, none⟩) Hbl.out (fun h => h)).trans Hcl2.out.2.2.1
        have k3 := (Hm2.out.cell (p := ⟨bl, off + i * 4 + 3, none⟩) Hbl.out (fun h => h)).trans Hcl2.out.2.2.2
        go_wp2_with fail
        refine (HE0.out _).mono ?_
        rintro e w3 ⟨rfl, hb3⟩
        have Hm3 := Lib.hid (Hm2.out.trans' (Gou.Mod.of_below hb3 (fun _ => False)))
        clear hb3 k0 k1 k2 k3
        cases q2 with
        | true =>
          have Hs2 := Lib.hid (Hst.out ⟨of_decide_eq_true Hq.out.2.symm, of_decide_eq_true Hq.out.1.symm⟩)
          go_wp2_with fail
          go_roundw
          case rel => exact ⟨i + 1, by go_num, by have := Hin.out; omega, Hs2.out, Hm3.out⟩
          case measure => have := Hin.out; simp [intOf, wi]; omega
        | false =>
          have Hno := Lib.hid (Hbad.out (fun h => (of_decide_eq_false Hq.out.2.symm) h.1))
          go_wp2_with fail
          go_ret
          exact ⟨Hm3.out, false, rfl, ⟨fun h => (by cases h), fun h => (Hno.out h).elim⟩⟩
      | false =>
        have Hno := Lib.hid (Hbad.out (fun h => (of_decide_eq_false Hq.out.1.symm) h.2))
        go_wp2_with fail
        go_ret
        exact ⟨Hm2.out, false, rfl, ⟨fun h => (by cases h), fun h => (Hno.out h).elim⟩⟩
    · have hil' : i = l.length := by omega
      have e1 : decide ((i : Int) < (l.length : Int)) = false := decide_eq_false (by omega)
      rw [hil', List.take_length] at Hall
      go_wp2_with fail
      refine (refOf_any _ p c l (HL.out.under Hm.out) Hn.out).mono ?_
      rintro e w2 ⟨hm2, v, out, rfl, hown, hr, hlen⟩
      have Hm2 := Lib.hid (Hm.out.trans' hm2)
      have Hr := Lib.hid hr
      have HO := Lib.hid (RowG.own_of hown (G := fun _ => True) (fun _ _ _ => trivial))
      have Hlen := Lib.hid hlen
      obtain ⟨p1, c1, rfl⟩ := Gou.ownsRow_form hown
      clear hm2 hown hr hlen
      go_wp2_with fail
      refine (refSame_any w2 _ _ p p1 c c1 l out (HL.out.under Hm2.out) HO.out (by have := Hn.out; omega) (by
        have h1 := Hlen.out
        have h2 : 2 * (l.length + ([] : List Rt).length) * (2 * (l.length + ([] : List Rt).length)) ≤ 2000 * 2000 := Nat.mul_le_mul (by have := Hn.out; simp; omega) (by have := Hn.out; simp; omega)
        omega)).mono ?_
      rintro e w3 ⟨rfl, hm3⟩
      have Hm3 := Lib.hid (Hm2.out.trans' hm3)
      have Hq : Hid (decide (l = out) = true ↔ IsRight l) := Lib.hid (by
        rw [decide_eq_true_eq, Hr.out.eq_iff]
        exact ⟨fun h => ⟨Hall.out, h⟩, fun h => h.2⟩)
      clear hm3
      generalize decide (l = out) = q at *
      go_wp2_with fail
      go_ret
      exact ⟨Hm3.out, q, rfl, Hq.out⟩

set_option maxHeartbeats 4000000 in
/-- Right, and of few rectangles: the law's own test. -/
theorem lawRight_any (w : World) (p : Option Addr) (c : Nat) (l : List Rt) (hl : RtR (fun _ => True) w (.slice p l.length c) l) (hn : l.length ≤ maxLen) :
    Calls Try.prog 15 #[.slice p l.length c] w fun e w' => Gou.Mod (fun _ => False) w w' ∧ ∃ q, e = .returned (.bool q) ∧ (q = true ↔ FewP l ∧ IsRight l) := by
  have HL := Lib.hid hl
  have HF := Lib.hid (fun (w' : World) (hm : Gou.Mod (fun _ => False) w w') => refFew_any w' p c l (hl.under hm) hn)
  clear hl hn
  obtain ⟨q1, hq1⟩ : ∃ q, q = decide (FewP l) := ⟨_, rfl⟩
  rw [← hq1] at HF
  have Hq := Lib.hid hq1
  clear hq1
  go_enter Try.func15, Try.ntmps15
  go_wp2_with fail
  refine (HF.out _ (Gou.Mod.refl _ _)).mono ?_
  rintro e w1 ⟨rfl, hm1⟩
  have Hm1 := Lib.hid hm1
  clear hm1
  cases q1 with
  | true =>
    have Hfew := Lib.hid (of_decide_eq_true Hq.out.symm)
    go_wp2_with fail
    refine (refRightL_any _ p c l (HL.out.under Hm1.out) (by have := Hfew.out.1; omega)).mono ?_
    rintro e w2 ⟨hm2, q, rfl, hq⟩
    have Hm2 := Lib.hid (Hm1.out.trans' hm2)
    have Hq2 : Hid (q = true ↔ FewP l ∧ IsRight l) := Lib.hid ⟨fun h => ⟨Hfew.out, hq.1 h⟩, fun h => hq.2 h.2⟩
    clear hm2 hq
    cases q
    all_goals go_wp2_with fail
    all_goals go_ret
    all_goals exact ⟨Hm2.out, _, rfl, by simpa using Hq2.out⟩
  | false =>
    have Hno := Lib.hid (of_decide_eq_false Hq.out.symm)
    go_wp2_with fail
    go_ret
    exact ⟨Hm1.out, false, rfl, ⟨fun h => (by cases h), fun h => (Hno.out h.1).elim⟩⟩

end Go.Proofs.Ytapeafokcailkaa
