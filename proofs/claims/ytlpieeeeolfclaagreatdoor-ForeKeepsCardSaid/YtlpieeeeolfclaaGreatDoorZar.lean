/- Texts of the scenes' proofs, laid together: FoB, FsI, FsG, FsH, FsJ, FsK, FsL, Fopn, ArgF. -/
import Derived.Test.YtlpieeeeolfclaaGreatDoorZak
import Derived.Test.YtlpieeeeolfclaaGreatDoorZaq
import Derived.Test.YtlpieeeeolfclaaGreatDoorZae
import Derived.Test.YtlpieeeeolfclaaGreatDoorZab
import Derived.Test.YtlpieeeeolfclaaGreatDoorZal
import Derived.Deep.Slices
import Derived.Deep.Fields
import Derived.Deep.OwnShut
import Derived.Lib.SmallJoins
import Derived.ChangeSame
import Derived.ProofKit
import Derived.OpenShut
import Derived.Test.YtlpieeeeolfclaaGreatDoorZan
import Derived.Test.YtlpieeeeolfclaaGreatDoorZad
set_option linter.unusedSimpArgs false
set_option linter.unusedVariables false
set_option linter.unusedSectionVars false
set_option linter.constructorNameAsVariable false

/- Regions: the document's regions; right ones; few ones; awake's first parts. -/
namespace Go.Reg
/-- Few rectangles, with edges within the plane. -/
def FewP (l : List Rt) : Prop := l.length ≤ 20 ∧ ∀ r ∈ l, r.Right
instance (l : List Rt) : Decidable (FewP l) := by unfold FewP; infer_instance
end Go.Reg
namespace Go.Proofs.YtlpieeeeolfclaaGreatDoor
open Go.RowKit Go.Gou Go.Reg Go.Shelf
set_option maxRecDepth 100000

theorem refOf_any (w : World) (p : Option Addr) (c : Nat) (l : List Rt) (hl : RtR (fun _ => True) w (.slice p l.length c) l) (hn : l.length ≤ 1000) :
    Calls Tryz.prog 23 #[.slice p l.length c] w (CombP w l [] orF) := by
  have hcon := refSets_any w p none c 0 l [] 0 hl (RowG.nil _ _ _) (by simpa using hn)
  have Hcon : Hid (Calls Tryz.prog 47 #[.slice p l.length c, .slice none 0 0, .int .i64 0] w (CombP w l [] orF)) := Lib.hid hcon
  clear hcon hl hn
  go_enter Tryz.func23, Tryz.ntmps23
  go_wp2_with fail
  refine Hcon.out.mono ?_
  rintro e w1 hc
  obtain ⟨hm, v, out, rfl, hown, hr⟩ := hc
  have Hend : Hid (CombP w l [] orF (.returned v) w1) := Lib.hid ⟨hm, v, out, rfl, hown, hr⟩
  obtain ⟨p1, c1, rfl⟩ := Gou.ownsRow_form hown
  clear hm hown hr
  go_wp2_with fail
  go_ret
  exact Hend.out

set_option maxHeartbeats 8000000 in
/-- Few: the document's answer. -/
theorem refFew_any (w : World) (p : Option Addr) (c : Nat) (l : List Rt) (hl : RtR (fun _ => True) w (.slice p l.length c) l) (hn : l.length ≤ maxLen) :
    Calls Tryz.prog 13 #[.slice p l.length c] w fun e w' => e = .returned (.bool (decide (FewP l))) ∧ Gou.Mod (fun _ => False) w w' := by
  have HL := Lib.hid hl
  by_cases h20 : l.length ≤ 20
  · have Hn := Lib.hid h20
    have e20 : decide ((20 : Int) < (l.length : Int)) = false := decide_eq_false (by omega)
    clear hl hn h20
    go_enter Tryz.func13, Tryz.ntmps13
    go_wp2_with fail
    go_loopw [3] (fun vi wr => ∃ i : Nat, vi = .int .i64 i ∧ i ≤ l.length ∧ (∀ r ∈ l.take i, r.Right) ∧ Gou.Mod (fun _ => False) w wr) (fun vi _ => l.length - (intOf vi).toNat)
    case atStart => exact ⟨0, rfl, by omega, fun r hr => by simp at hr, Gou.Mod.refl _ _⟩
    case round =>
      obtain ⟨i, rfl, hi, hall, hm⟩ := hrel
      have Hall := Lib.hid hall
      have Hm := Lib.hid hm
      clear hall hm
      by_cases hil : i < l.length
      · have e1 : decide ((i : Int) < (l.length : Int)) = true := decide_eq_true (by omega)
        obtain ⟨-, bl, off, rfl, hb, -, hc⟩ := HL.out.cells (by omega)
        obtain ⟨k0, k1, k2, k3⟩ := hc i hil
        rw [← Hm.out.cell (p := ⟨bl, off + i * 4, none⟩) hb (fun h => h)] at k0
        rw [← Hm.out.cell (p := ⟨bl, off + i * 4 + 1, none⟩) hb (fun h => h)] at k1
        rw [← Hm.out.cell (p := ⟨bl, off + i * 4 + 2, none⟩) hb (fun h => h)] at k2
        rw [← Hm.out.cell (p := ⟨bl, off + i * 4 + 3, none⟩) hb (fun h => h)] at k3
        have hi1 : (i : Int) < (l.length : Int) := by omega
        have hi0 : (0 : Int) ≤ (i : Int) := by omega
        have wi : IntKind.i64.wrap ((i : Int) + 1) = (i : Int) + 1 := wrap_id (by omega) (by have := Hn.out; omega)
        have Hbad := Lib.hid (fun (h : ¬ l[i].Right) => (fun hr => h (hr.2 _ (List.getElem_mem hil)) : ¬ FewP l))
        have Hst := Lib.hid (fun (h : l[i].Right) => (by
          rw [List.take_succ_eq_append_getElem hil]
          intro r hr
          rcases List.mem_append.1 hr with hr | hr
          · exact Hall.out r hr
          · simp only [List.mem_singleton] at hr
            rw [hr]
            exact h : ∀ r ∈ l.take (i + 1), r.Right))
        have Hin := Lib.hid (And.intro hi hil)
        have HR0 := Lib.hid (fun (w' : World) => refRtRight_any l[i] w')
        clear hc
        generalize l[i] = s at *
        obtain ⟨q1, hq1⟩ : ∃ q, q = decide s.Right := ⟨_, rfl⟩
        rw [← hq1] at HR0
        have Hq := Lib.hid hq1
        clear hq1
        obtain ⟨a, b, c', d⟩ := s
        simp only at k0 k1 k2 k3
        go_wp2_with fail
        refine (HR0.out _).mono ?_
        rintro e w2 ⟨rfl, hb2⟩
        have Hm2 := Lib.hid (Hm.out.trans' (Gou.Mod.of_below hb2 (fun _ => False)))
        clear hb2
        cases q1 with
        | true =>
          have Hs2 := Lib.hid (Hst.out (of_decide_eq_true Hq.out.symm))
          go_wp2_with fail
          go_roundw
          case rel => exact ⟨i + 1, by go_num, by have := Hin.out; omega, Hs2.out, Hm2.out⟩
          case measure => have := Hin.out; simp [intOf, wi]; omega
        | false =>
          have Hno := Lib.hid (Hbad.out (of_decide_eq_false Hq.out.symm))
          go_wp2_with fail
          go_ret
          exact ⟨ret_bool (by rw [decide_eq_false (fun h => Hno.out h)]), Hm2.out⟩
      · have hil' : i = l.length := by omega
        have e1 : decide ((i : Int) < (l.length : Int)) = false := decide_eq_false (by omega)
        rw [hil', List.take_length] at Hall
        go_wp2_with fail
        go_ret
        exact ⟨ret_bool (by have h : FewP l := ⟨Hn.out, Hall.out⟩; simp [h]), Hm.out⟩
  · have e20 : decide ((20 : Int) < (l.length : Int)) = true := decide_eq_true (by omega)
    have Hno : Hid (¬ FewP l) := Lib.hid (fun h => h20 h.1)
    clear hl hn h20
    go_enter Tryz.func13, Tryz.ntmps13
    go_wp2_with fail
    go_ret
    exact ⟨ret_bool (by rw [decide_eq_false Hno.out]), Gou.Mod.refl _ _⟩

set_option maxHeartbeats 8000000 in
/-- Is a region right: the document's answer. -/
theorem refRightL_any (w : World) (p : Option Addr) (c : Nat) (l : List Rt) (hl : RtR (fun _ => True) w (.slice p l.length c) l) (hn : l.length ≤ 1000) :
    Calls Tryz.prog 14 #[.slice p l.length c] w fun e w' => Gou.Mod (fun _ => False) w w' ∧ ∃ q, e = .returned (.bool q) ∧ (q = true ↔ IsRight l) := by
  have HL := Lib.hid hl
  have Hn := Lib.hid hn
  clear hl hn
  go_enter Tryz.func14, Tryz.ntmps14
  go_wp2_with fail
  go_loopw [3] (fun vi wr => ∃ i : Nat, vi = .int .i64 i ∧ i ≤ l.length ∧ (∀ r ∈ l.take i, r.Some ∧ r.Right) ∧ Gou.Mod (fun _ => False) w wr) (fun vi _ => l.length - (intOf vi).toNat)
  case atStart => exact ⟨0, rfl, by omega, fun r hr => by simp at hr, Gou.Mod.refl _ _⟩
  case round =>
    obtain ⟨i, rfl, hi, hall, hm⟩ := hrel
    have Hall := Lib.hid hall
    have Hm := Lib.hid hm
    clear hall hm
    by_cases hil : i < l.length
    · have e1 : decide ((i : Int) < (l.length : Int)) = true := decide_eq_true (by omega)
      obtain ⟨-, bl, off, rfl, hb, -, hc⟩ := HL.out.cells (by omega)
      obtain ⟨k0, k1, k2, k3⟩ := hc i hil
      rw [← Hm.out.cell (p := ⟨bl, off + i * 4, none⟩) hb (fun h => h)] at k0
      rw [← Hm.out.cell (p := ⟨bl, off + i * 4 + 1, none⟩) hb (fun h => h)] at k1
      rw [← Hm.out.cell (p := ⟨bl, off + i * 4 + 2, none⟩) hb (fun h => h)] at k2
      rw [← Hm.out.cell (p := ⟨bl, off + i * 4 + 3, none⟩) hb (fun h => h)] at k3
      have hi1 : (i : Int) < (l.length : Int) := by omega
      have hi0 : (0 : Int) ≤ (i : Int) := by omega
      have wi : IntKind.i64.wrap ((i : Int) + 1) = (i : Int) + 1 := wrap_id (by omega) (by have := Hn.out; omega)
      have Hbad := Lib.hid (fun (h : ¬ (l[i].Some ∧ l[i].Right)) => (fun hr => h (hr.1 _ (List.getElem_mem hil)) : ¬ IsRight l))
      have Hst := Lib.hid (fun (h : l[i].Some ∧ l[i].Right) => (by
        rw [List.take_succ_eq_append_getElem hil]
        intro r hr
        rcases List.mem_append.1 hr with hr | hr
        · exact Hall.out r hr
        · simp only [List.mem_singleton] at hr
          rw [hr]
          exact h : ∀ r ∈ l.take (i + 1), r.Some ∧ r.Right))
      have Hin := Lib.hid (And.intro hi hil)
      have HR0 := Lib.hid (fun (w' : World) => refRtRight_any l[i] w')
      have HE0 := Lib.hid (fun (w' : World) => refEmpty_any l[i] w')
      have Hcl := Lib.hid hc
      have Hcl2 := Lib.hid (hc i hil)
      have Hbl := Lib.hid hb
      clear hc
      generalize l[i] = s at *
      obtain ⟨q1, hq1⟩ : ∃ q, q = decide s.Right := ⟨_, rfl⟩
      obtain ⟨q2, hq2⟩ : ∃ q, q = decide s.Some := ⟨_, rfl⟩
      rw [← hq1] at HR0
      rw [← hq2] at HE0
      have Hq := Lib.hid (And.intro hq1 hq2)
      clear hq1 hq2 Hcl
      obtain ⟨a, b, c', d⟩ := s
      simp only at k0 k1 k2 k3 Hcl2
      go_wp2_with fail
      refine (HR0.out _).mono ?_
      rintro e w2 ⟨rfl, hb2⟩
      have M2 := Lib.hid (Gou.Mod.of_below hb2 (fun _ => False))
      have Hm2 := Lib.hid (Hm.out.trans' M2.out)
      clear hb2 k0 k1 k2 k3
      cases q1 with
      | true =>
        have k0 := (Hm2.out.cell (p := ⟨bl, off + i * 4, none⟩) Hbl.out (fun h => h)).trans Hcl2.out.1
        have k1 := (Hm2.out.cell (p := ⟨bl, off + i * 4 + 1, none⟩) Hbl.out (fun h => h)).trans Hcl2.out.2.1
        have k2 := (Hm2.out.cell (p := ⟨bl, off + i * 4 + 2, none⟩) Hbl.out (fun h => h)).trans Hcl2.out.2.2.1
        have k3 := (Hm2.out.cell (p := ⟨bl, off + i * 4 + 3, none⟩) Hbl.out (fun h => h)).trans Hcl2.out.2.2.2
        go_wp2_with fail
        refine (HE0.out _).mono ?_
        rintro e w3 ⟨rfl, hb3⟩
        have Hm3 := Lib.hid (Hm2.out.trans' (Gou.Mod.of_below hb3 (fun _ => False)))
        clear hb3 k0 k1 k2 k3
        cases q2 with
        | true =>
          have Hs2 := Lib.hid (Hst.out ⟨of_decide_eq_true Hq.out.2.symm, of_decide_eq_true Hq.out.1.symm⟩)
          go_wp2_with fail
          go_roundw
          case rel => exact ⟨i + 1, by go_num, by have := Hin.out; omega, Hs2.out, Hm3.out⟩
          case measure => have := Hin.out; simp [intOf, wi]; omega
        | false =>
          have Hno := Lib.hid (Hbad.out (fun h => (of_decide_eq_false Hq.out.2.symm) h.1))
          go_wp2_with fail
          go_ret
          exact ⟨Hm3.out, false, rfl, ⟨fun h => (by cases h), fun h => (Hno.out h).elim⟩⟩
      | false =>
        have Hno := Lib.hid (Hbad.out (fun h => (of_decide_eq_false Hq.out.1.symm) h.2))
        go_wp2_with fail
        go_ret
        exact ⟨Hm2.out, false, rfl, ⟨fun h => (by cases h), fun h => (Hno.out h).elim⟩⟩
    · have hil' : i = l.length := by omega
      have e1 : decide ((i : Int) < (l.length : Int)) = false := decide_eq_false (by omega)
      rw [hil', List.take_length] at Hall
      go_wp2_with fail
      refine (refOf_any _ p c l (HL.out.under Hm.out) Hn.out).mono ?_
      rintro e w2 ⟨hm2, v, out, rfl, hown, hr, hlen⟩
      have Hm2 := Lib.hid (Hm.out.trans' hm2)
      have Hr := Lib.hid hr
      have HO := Lib.hid (RowG.own_of hown (G := fun _ => True) (fun _ _ _ => trivial))
      have Hlen := Lib.hid hlen
      obtain ⟨p1, c1, rfl⟩ := Gou.ownsRow_form hown
      clear hm2 hown hr hlen
      go_wp2_with fail
      refine (refSame_any w2 _ _ p p1 c c1 l out (HL.out.under Hm2.out) HO.out (by have := Hn.out; omega) (by
        have h1 := Hlen.out
        omega)).mono ?_
      rintro e w3 ⟨rfl, hm3⟩
      have Hm3 := Lib.hid (Hm2.out.trans' hm3)
      have Hq : Hid (decide (l = out) = true ↔ IsRight l) := Lib.hid (by
        rw [decide_eq_true_eq, Hr.out.eq_iff]
        exact ⟨fun h => ⟨Hall.out, h⟩, fun h => h.2⟩)
      clear hm3
      generalize decide (l = out) = q at *
      go_wp2_with fail
      go_ret
      exact ⟨Hm3.out, q, rfl, Hq.out⟩

end Go.Proofs.YtlpieeeeolfclaaGreatDoor

/- ForeKeeps: the law's own tests. -/
namespace Go.Proofs.YtlpieeeeolfclaaGreatDoor
open Go.RowKit Go.Gou Go.Reg Go.Shelf
set_option maxRecDepth 100000
set_option linter.constructorNameAsVariable false

set_option maxHeartbeats 400000 in
theorem of13_any (a b c d : Int) (w : World) :
    Calls Tryz.prog 9 #[.int .i64 a, .int .i64 b, .int .i64 c, .int .i64 d] w fun e w' => e = .returned (rtV ⟨a, b, c, d⟩) ∧ Below w.heap.size w w' := by
  go_enter Tryz.func9, Tryz.ntmps9
  go_wp2
  exact ret_rect ⟨a, b, c, d⟩ rfl rfl rfl (heap_alloc_new _ _) Tryz.underlying32 rfl size_rect ⟨rfl, (Below.refl _ _).alloc (Nat.le_refl _) _⟩

theorem fewB_mono {g : Gr} (h : fewB g 12 = true) : fewB g 300 = true := by
  simp only [fewB, Bool.and_eq_true, decide_eq_true_eq] at h ⊢
  exact ⟨by omega, h.2⟩

set_option maxHeartbeats 2000000 in
theorem right13_any (w : World) (v : Value) (g : Gr) (hg : GrV w v g) (hwf : GrWf g) (ht : Tabs w) :
    Calls Tryz.prog 5 #[v] w fun e w' => (∃ q, e = .returned (.bool q) ∧ (q = true ↔ fewB g 12 = true ∧ checkS g = 0)) ∧ Gou.Mod (fun _ => False) w w' := by
  have Hg := Lib.hid hg
  have Hwf := Lib.hid hwf
  have Ht := Lib.hid ht
  obtain ⟨p, cap, rfl⟩ := hg.form
  clear hg hwf ht
  have hm0 : Gou.Mod (fun _ => False) w (w.alloc (.cells #[.slice p g.nodes.length cap, .int .i64 g.out] 24)) := Gou.Mod.alloc0 _ _
  have hB0 := Blk.new w 24 #[.slice p g.nodes.length cap, .int .i64 g.out]
  have HB := Lib.hid hB0
  have c0 := hB0.cell 0 rfl
  have c1 := hB0.cell 1 rfl
  have Hm0 := Lib.hid hm0
  go_enter Tryz.func5, Tryz.ntmps5
  go_upto_region 1 with fail
  clear hm0 hB0
  generalize w.alloc (.cells #[.slice p g.nodes.length cap, .int .i64 g.out] 24) = W1 at *
  go_wp2_with fail
  refine (few_any W1 _ g 12 (Hg.out.up (Gou.Mod.below Hm0.out (Nat.le_refl _) (fun _ _ h => h))) Hwf.out).mono ?_
  rintro e w2 ⟨rfl, hb⟩
  have hm2 : Gou.Mod (fun _ => False) W1 w2 := Gou.Mod.of_below hb _
  have Hm2 := Lib.hid (Hm0.out.trans' hm2)
  have HB2 := Lib.hid (HB.out.mod0 hm2)
  obtain ⟨q, hq⟩ : ∃ q, q = fewB g 12 := ⟨_, rfl⟩
  rw [← hq]
  have Hq := Lib.hid hq
  clear hb hm2 hq c0 c1
  cases q with
  | false =>
    go_wp2_with fail
    go_ret
    exact ⟨⟨false, rfl, ⟨fun h => (by cases h), fun h => (by rw [← Hq.out] at h; cases h.1)⟩⟩, Hm2.out⟩
  | true =>
    have c0 := HB2.out.cell 0 rfl
    have c1 := HB2.out.cell 1 rfl
    go_wp2_with fail
    refine (refCheck_any w2 _ g (Hg.out.up (Gou.Mod.below Hm2.out (Nat.le_refl _) (fun _ _ h => h))) Hwf.out (fewB_mono Hq.out.symm) (Ht.out.below (Gou.Mod.below Hm2.out (Nat.le_refl _) (fun _ _ h => h)))).mono ?_
    rintro e w3 ⟨rfl, hb⟩
    have Hm3 := Lib.hid (Hm2.out.trans' (Gou.Mod.of_below hb (fun _ => False)))
    clear hb c0 c1
    obtain ⟨cs, hcs⟩ : ∃ cs, cs = checkS g := ⟨_, rfl⟩
    rw [← hcs]
    have Hcs := Lib.hid hcs
    clear hcs
    by_cases h0 : cs = 0
    · have t1 : (cs == 0) = true := by simp [h0]
      have t2 : decide (cs = 0) = true := by simp [h0]
      have H0 := Lib.hid h0
      clear h0
      go_wp2_with fail
      go_ret
      exact ⟨⟨true, rfl, ⟨fun _ => ⟨Hq.out.symm, by rw [← Hcs.out, H0.out]⟩, fun _ => rfl⟩⟩, Hm3.out⟩
    · have t1 : (cs == 0) = false := by simp [h0]
      have t2 : decide (cs = 0) = false := by simp [h0]
      have H0 := Lib.hid h0
      clear h0
      go_wp2_with fail
      go_ret
      exact ⟨⟨false, rfl, ⟨fun h => (by cases h), fun h => (H0.out (by rw [Hcs.out, h.2])).elim⟩⟩, Hm3.out⟩

set_option maxHeartbeats 2000000 in
theorem region13_any (w : World) (v : Value) (l : List Rt) (hl : RtR (fun _ => True) w v l) (hn : l.length ≤ maxLen) :
    Calls Tryz.prog 6 #[v] w fun e w' => (∃ q, e = .returned (.bool q) ∧ (q = true → l.length ≤ 6 ∧ IsRight l)) ∧ Gou.Mod (fun _ => False) w w' := by
  have Hl := Lib.hid hl
  have Hn := Lib.hid hn
  obtain ⟨p, c, rfl⟩ := hl.form
  clear hl hn
  go_enter Tryz.func6, Tryz.ntmps6
  by_cases h6 : l.length ≤ 6
  · have t1 : decide ((l.length : Int) ≤ 6) = true := decide_eq_true (by omega)
    have H6 := Lib.hid h6
    clear h6
    go_wp2_with fail
    refine (refFew_any w p c l Hl.out Hn.out).mono ?_
    rintro e w2 ⟨rfl, hm2⟩
    have Hm2 := Lib.hid hm2
    clear hm2
    generalize decide (FewP l) = q
    cases q with
    | false =>
      go_wp2_with fail
      go_ret
      exact ⟨⟨false, rfl, fun h => (by cases h)⟩, Hm2.out⟩
    | true =>
      go_wp2_with fail
      refine (refRightL_any w2 p c l (Hl.out.under Hm2.out) (by have := H6.out; omega)).mono ?_
      rintro e w3 ⟨hm3, q, rfl, hq⟩
      have Hm3 := Lib.hid (Hm2.out.trans' hm3)
      have Hq := Lib.hid hq
      clear hm3 hq
      cases q with
      | false =>
        go_wp2_with fail
        go_ret
        exact ⟨⟨false, rfl, fun h => (by cases h)⟩, Hm3.out⟩
      | true =>
        go_wp2_with fail
        go_ret
        exact ⟨⟨true, rfl, fun _ => ⟨H6.out, Hq.out.1 (by trivial)⟩⟩, Hm3.out⟩
  · have t1 : decide ((l.length : Int) ≤ 6) = false := decide_eq_false (by omega)
    have H6 := Lib.hid h6
    clear h6
    go_wp2_with fail
    go_ret
    exact ⟨⟨false, rfl, fun h => (by cases h)⟩, Gou.Mod.refl _ _⟩
end Go.Proofs.YtlpieeeeolfclaaGreatDoor

/- ForeKeeps: fore.Reach at Offset and at Blur. -/
namespace Go.Gou
open Go.RowKit Go.Reg
theorem RtR.one {G : Nat → Prop} {w : World} {p : Option Addr} {n c : Nat} {r : Rt} (h : RtR G w (.slice p n c) [r]) : ∃ b o, p = some ⟨b, o, none⟩ ∧ b < w.heap.size ∧ w.rangeAt b o [Value.int .i64 r.x0, Value.int .i64 r.y0, Value.int .i64 r.x1, Value.int .i64 r.y1] := by
  obtain ⟨_, p', c', h2, _, h4⟩ := h
  simp only [Value.slice.injEq] at h2
  obtain ⟨rfl, -, rfl⟩ := h2
  rcases h4 with h4 | ⟨b, o, rfl, hb, -, hc⟩
  · simp at h4
  · exact ⟨b, o, rfl, hb, fun j u hu => hc j u hu⟩
end Go.Gou
namespace Go.Proofs.YtlpieeeeolfclaaGreatDoor
open Go.RowKit Go.Gou Go.Reg Go.Shelf
set_option maxRecDepth 100000
set_option linter.constructorNameAsVariable false

set_option maxHeartbeats 2000000 in
theorem reach_off (w : World) (vi vp vl : Value) (ins ps : List Int) (r : Rt) (c : Int) (hpp : IntsAt w.heap.size w vp ps) (hi' : ∃ p n c, vi = .slice p n c) (h1 : oneS ⟨1, ins, ps⟩ c = 0) (hl : RtR (fun _ => True) w vl [r]) (hr : r.Right) :
    Calls Tryz.prog 18 #[.agg #[.int .i64 1, vi, vp], vl] w fun e w' => e = .returned (rtV (moveP (ps.getD 0 0) (ps.getD 1 0) r)) ∧ Gou.Mod (fun _ => False) w w' := by
  obtain ⟨pl, cl, rfl⟩ := hl.form
  obtain ⟨pi_, ni, ci_, rfl⟩ := hi'
  obtain ⟨pp, cp, rfl⟩ := hpp.len
  obtain ⟨e1, e2, h0, h1⟩ := node_1 h1
  obtain ⟨bl, ol, rfl, hbl, l0⟩ := hl.one
  obtain ⟨bp, q, cp', hv, hcap, hbp, hc⟩ := ints_cells hpp (by omega)
  simp only [Value.slice.injEq] at hv
  obtain ⟨rfl, -, rfl⟩ := hv
  have c0 := hc 0 (by omega)
  have c1 := hc 1 (by omega)
  rw [Nat.add_zero] at c0
  clear hc hcap
  generalize ps.getD 0 0 = p0 at *
  generalize ps.getD 1 0 = p1 at *
  obtain ⟨t, ht⟩ : ∃ t, t = moveP p0 p1 r := ⟨_, rfl⟩
  have HMv : Hid (∀ w', Calls Tryz.prog 33 #[rtV r, .int .i64 p0, .int .i64 p1] w' fun e w'' => e = .returned (rtV t) ∧ Below w'.heap.size w' w'') := Lib.hid (fun w' => by rw [ht]; exact rectMove_any r p0 p1 w' hr h0 h1)
  rw [← ht]
  have HLen : Hid (ps.length = 2) := Lib.hid e2
  clear e2 e1 ht hpp hl
  go_enter Tryz.func18, Tryz.ntmps18
  go_upto_region 3 with fail
  obtain ⟨HBn, HBr⟩ := two_new w 37 32 #[.int .i64 1, .slice pi_ ni ci_, .slice (some ⟨bp, q, none⟩) ps.length cp] #[.int .i64 0, .int .i64 0, .int .i64 0, .int .i64 0]
  have HM : Hid (Gou.Mod (fun _ => False) w ((w.alloc (.cells #[.int .i64 1, .slice pi_ ni ci_, .slice (some ⟨bp, q, none⟩) ps.length cp] 37)).alloc (.cells #[.int .i64 0, .int .i64 0, .int .i64 0, .int .i64 0] 32))) := Lib.hid ((Gou.Mod.alloc0 _ _).trans' (Gou.Mod.alloc0 _ _))
  have n2 := HBn.cell 2 rfl
  have HB := Lib.hid HBr
  have Nn : Hid (w.heap.size ≠ w.heap.size + 1) := Lib.hid (by omega)
  have Np : Hid (bp ≠ w.heap.size + 1) := Lib.hid (by omega)
  have Nl : Hid (bl ≠ w.heap.size + 1) := Lib.hid (by omega)
  have HN : Hid (w.heap.size ≤ w.heap.size + 1) := Lib.hid (by omega)
  rw [← HM.out.cell (p := ⟨bp, q, none⟩) hbp (fun h => h)] at c0
  rw [← HM.out.cell (p := ⟨bp, q + 1, none⟩) hbp (fun h => h)] at c1
  have l1 := rup l0 HM.out (fun h => h)
  clear HBn HBr l0
  generalize (w.alloc (.cells #[.int .i64 1, .slice pi_ ni ci_, .slice (some ⟨bp, q, none⟩) ps.length cp] 37)).alloc (.cells #[.int .i64 0, .int .i64 0, .int .i64 0, .int .i64 0] 32) = W1 at *
  rw [HLen.out] at n2
  obtain ⟨R, hR⟩ : ∃ R, R = w.heap.size + 1 := ⟨_, rfl⟩
  obtain ⟨N, hN⟩ : ∃ N, N = w.heap.size := ⟨_, rfl⟩
  rw [← hR] at HB Nn Np Nl ⊢
  rw [← hN] at n2 Nn ⊢
  have HR := Lib.hid hR
  clear hR hN
  have l0 := l1
  refine wp_region_held_drew (S := fun w' => Gou.Mod (fun k => k = R) W1 w') (by kernel_rfl) (Gou.Mod.drew _ _) (fun hHeld => ?_)
  refine tk 0 (.slice (some ⟨bl, ol, none⟩) 1 cl) hHeld (h := ?_)
  refine tk 1 (.pointer (some ⟨bl, ol, none⟩)) hHeld (h := ?_)
  refine tkR 2 (.agg #[.int .i64 r.x0, .int .i64 r.y0, .int .i64 r.x1, .int .i64 r.y1]) l0 Nl.out Tryz.underlying32 size_rect hHeld (h := ?_)
  refine tk 3 (.pointer (some ⟨N, 2, none⟩)) hHeld (h := ?_)
  refine tkC 4 n2 Nn.out hHeld (h := ?_)
  refine tk 5 (.pointer (some ⟨bp, q, none⟩)) hHeld (h := ?_)
  refine tkC 6 c0 Np.out hHeld (h := ?_)
  refine tk 7 (.pointer (some ⟨N, 2, none⟩)) hHeld (h := ?_)
  refine tkC 8 n2 Nn.out hHeld (h := ?_)
  refine tk 9 (.pointer (some ⟨bp, q + 1, none⟩)) hHeld (h := ?_)
  refine tkC 10 c1 Np.out hHeld (h := ?_)
  refine rd 11 (h := fun K hK => ?_)
  go_simp
  refine (HMv.out _).mono ?_
  rintro e w4 ⟨rfl, hb⟩
  have hz := hHeld.size
  have M := Lib.hid (hHeld.trans' (Gou.Mod.of_below hb _))
  have HB4 := Lib.hid (((HB.out.mod0 (Gou.Mod.drew (fun _ => False) W1))).mod0 (Gou.Mod.of_below hb (fun _ => False)))
  clear hb hHeld
  refine hK _ _ M.out (fun hHeld => ?_)
  clear hK K M
  try simp only [Act.put, uSa, uSb, uSc]
  refine stR 12 R 0 #[.int .i64 t.x0, .int .i64 t.y0, .int .i64 t.x1, .int .i64 t.y1] hHeld rfl (HB4.out.there 0 4 (by simp)) size_rect (one4 _ _ _ _) (h := fun hHeld => ?_)
  refine dn hHeld (h := ?_)
  have hB := HB4.out.sets 0 [.int .i64 t.x0, .int .i64 t.y0, .int .i64 t.x1, .int .i64 t.y1]
  have HE := Lib.hid (HM.out.trans hHeld (fun k hk h => by have := HR.out; omega))
  clear hHeld c0 c1 l0 l1 n2
  go_wp2_with fail
  exact ret_rect t rfl rfl rfl hB Tryz.underlying32 rfl size_rect ⟨rfl, HE.out⟩

set_option maxHeartbeats 2000000 in
theorem reach_blur (w : World) (vi vp vl : Value) (ins ps : List Int) (r : Rt) (c : Int) (hpp : IntsAt w.heap.size w vp ps) (hi' : ∃ p n c, vi = .slice p n c) (h1 : oneS ⟨2, ins, ps⟩ c = 0) (hl : RtR (fun _ => True) w vl [r]) (hr : r.Right) :
    Calls Tryz.prog 18 #[.agg #[.int .i64 2, vi, vp], vl] w fun e w' => e = .returned (rtV (growP (ps.getD 0 0) (ps.getD 1 0) (ps.getD 0 0) (ps.getD 1 0) r)) ∧ Gou.Mod (fun _ => False) w w' := by
  obtain ⟨pl, cl, rfl⟩ := hl.form
  obtain ⟨pi_, ni, ci_, rfl⟩ := hi'
  obtain ⟨pp, cp, rfl⟩ := hpp.len
  obtain ⟨e1, e2, h0, h1⟩ := node_r (.inl rfl) h1
  obtain ⟨bl, ol, rfl, hbl, l0⟩ := hl.one
  obtain ⟨bp, q, cp', hv, hcap, hbp, hc⟩ := ints_cells hpp (by omega)
  simp only [Value.slice.injEq] at hv
  obtain ⟨rfl, -, rfl⟩ := hv
  have c0 := hc 0 (by omega)
  have c1 := hc 1 (by omega)
  rw [Nat.add_zero] at c0
  clear hc hcap
  generalize ps.getD 0 0 = p0 at *
  generalize ps.getD 1 0 = p1 at *
  obtain ⟨t, ht⟩ : ∃ t, t = growP p0 p1 p0 p1 r := ⟨_, rfl⟩
  have HMv : Hid (∀ w', Calls Tryz.prog 34 #[rtV r, .int .i64 p0, .int .i64 p1, .int .i64 p0, .int .i64 p1] w' fun e w'' => e = .returned (rtV t) ∧ Below w'.heap.size w' w'') := Lib.hid (fun w' => by rw [ht]; exact rectGrow_any r p0 p1 p0 p1 w' hr h0 h1 h0 h1)
  rw [← ht]
  have HLen : Hid (ps.length = 2) := Lib.hid e2
  clear e2 e1 ht hpp hl
  go_enter Tryz.func18, Tryz.ntmps18
  go_upto_region 6 with fail
  obtain ⟨HBn, HBr⟩ := two_new w 37 32 #[.int .i64 2, .slice pi_ ni ci_, .slice (some ⟨bp, q, none⟩) ps.length cp] #[.int .i64 0, .int .i64 0, .int .i64 0, .int .i64 0]
  have HM : Hid (Gou.Mod (fun _ => False) w ((w.alloc (.cells #[.int .i64 2, .slice pi_ ni ci_, .slice (some ⟨bp, q, none⟩) ps.length cp] 37)).alloc (.cells #[.int .i64 0, .int .i64 0, .int .i64 0, .int .i64 0] 32))) := Lib.hid ((Gou.Mod.alloc0 _ _).trans' (Gou.Mod.alloc0 _ _))
  have n2 := HBn.cell 2 rfl
  have HB := Lib.hid HBr
  have Nn : Hid (w.heap.size ≠ w.heap.size + 1) := Lib.hid (by omega)
  have Np : Hid (bp ≠ w.heap.size + 1) := Lib.hid (by omega)
  have Nl : Hid (bl ≠ w.heap.size + 1) := Lib.hid (by omega)
  have HN : Hid (w.heap.size ≤ w.heap.size + 1) := Lib.hid (by omega)
  rw [← HM.out.cell (p := ⟨bp, q, none⟩) hbp (fun h => h)] at c0
  rw [← HM.out.cell (p := ⟨bp, q + 1, none⟩) hbp (fun h => h)] at c1
  have l1 := rup l0 HM.out (fun h => h)
  clear HBn HBr l0
  generalize (w.alloc (.cells #[.int .i64 2, .slice pi_ ni ci_, .slice (some ⟨bp, q, none⟩) ps.length cp] 37)).alloc (.cells #[.int .i64 0, .int .i64 0, .int .i64 0, .int .i64 0] 32) = W1 at *
  rw [HLen.out] at n2
  obtain ⟨R, hR⟩ : ∃ R, R = w.heap.size + 1 := ⟨_, rfl⟩
  obtain ⟨N, hN⟩ : ∃ N, N = w.heap.size := ⟨_, rfl⟩
  rw [← hR] at HB Nn Np Nl ⊢
  rw [← hN] at n2 Nn ⊢
  have HR := Lib.hid hR
  clear hR hN
  have l0 := l1
  refine wp_region_held_drew (S := fun w' => Gou.Mod (fun k => k = R) W1 w') (by kernel_rfl) (Gou.Mod.drew _ _) (fun hHeld => ?_)
  refine tk 0 (.slice (some ⟨bl, ol, none⟩) 1 cl) hHeld (h := ?_)
  refine tk 1 (.pointer (some ⟨bl, ol, none⟩)) hHeld (h := ?_)
  refine tkR 2 (.agg #[.int .i64 r.x0, .int .i64 r.y0, .int .i64 r.x1, .int .i64 r.y1]) l0 Nl.out Tryz.underlying32 size_rect hHeld (h := ?_)
  refine tk 3 (.pointer (some ⟨N, 2, none⟩)) hHeld (h := ?_)
  refine tkC 4 n2 Nn.out hHeld (h := ?_)
  refine tk 5 (.pointer (some ⟨bp, q, none⟩)) hHeld (h := ?_)
  refine tkC 6 c0 Np.out hHeld (h := ?_)
  refine tk 7 (.pointer (some ⟨N, 2, none⟩)) hHeld (h := ?_)
  refine tkC 8 n2 Nn.out hHeld (h := ?_)
  refine tk 9 (.pointer (some ⟨bp, q + 1, none⟩)) hHeld (h := ?_)
  refine tkC 10 c1 Np.out hHeld (h := ?_)
  refine tk 11 (.pointer (some ⟨N, 2, none⟩)) hHeld (h := ?_)
  refine tkC 12 n2 Nn.out hHeld (h := ?_)
  refine tk 13 (.pointer (some ⟨bp, q, none⟩)) hHeld (h := ?_)
  refine tkC 14 c0 Np.out hHeld (h := ?_)
  refine tk 15 (.pointer (some ⟨N, 2, none⟩)) hHeld (h := ?_)
  refine tkC 16 n2 Nn.out hHeld (h := ?_)
  refine tk 17 (.pointer (some ⟨bp, q + 1, none⟩)) hHeld (h := ?_)
  refine tkC 18 c1 Np.out hHeld (h := ?_)
  refine rd 19 (h := fun K hK => ?_)
  go_simp
  refine (HMv.out _).mono ?_
  rintro e w4 ⟨rfl, hb⟩
  have hz := hHeld.size
  have M := Lib.hid (hHeld.trans' (Gou.Mod.of_below hb _))
  have HB4 := Lib.hid (((HB.out.mod0 (Gou.Mod.drew (fun _ => False) W1))).mod0 (Gou.Mod.of_below hb (fun _ => False)))
  clear hb hHeld
  refine hK _ _ M.out (fun hHeld => ?_)
  clear hK K M
  try simp only [Act.put, uSa, uSb, uSc]
  refine stR 20 R 0 #[.int .i64 t.x0, .int .i64 t.y0, .int .i64 t.x1, .int .i64 t.y1] hHeld rfl (HB4.out.there 0 4 (by simp)) size_rect (one4 _ _ _ _) (h := fun hHeld => ?_)
  refine dn hHeld (h := ?_)
  have hB := HB4.out.sets 0 [.int .i64 t.x0, .int .i64 t.y0, .int .i64 t.x1, .int .i64 t.y1]
  have HE := Lib.hid (HM.out.trans hHeld (fun k hk h => by have := HR.out; omega))
  clear hHeld c0 c1 l0 l1 n2
  go_wp2_with fail
  exact ret_rect t rfl rfl rfl hB Tryz.underlying32 rfl size_rect ⟨rfl, HE.out⟩


end Go.Proofs.YtlpieeeeolfclaaGreatDoor

/- ForeKeeps: fore.carried over rectangles, at filters of Offsets and Blurs; ReachAll. -/
namespace Go.Reg
/-- What an Offset, or a Blur, reaches. -/
def reachP (op : Int) (ps : List Int) (ls : List Rt) : Rt := if op = 1 then moveP (ps.getD 0 0) (ps.getD 1 0) (ls.getD 0 Rt.zero) else growP (ps.getD 0 0) (ps.getD 1 0) (ps.getD 0 0) (ps.getD 1 0) (ls.getD 0 Rt.zero)
theorem reachP_right (op : Int) (ps : List Int) (ls : List Rt) : (reachP op ps ls).Right := by
  unfold reachP
  split
  · exact moveP_right _ _ _
  · exact growP_right _ _ _ _ _
def insT (r : Rt) (L : List Rt) (ins : List Int) : List Rt := ins.map fun i => if i = -1 then r else L.getD i.toNat Rt.zero
theorem insT_len (r : Rt) (L : List Rt) (ins : List Int) : (insT r L ins).length = ins.length := by simp [insT]
theorem insT_congr {r : Rt} {L L' : List Rt} {ins : List Int} (h : ∀ i ∈ ins, i ≠ -1 → L'.getD i.toNat Rt.zero = L.getD i.toNat Rt.zero) : insT r L' ins = insT r L ins := by
  unfold insT
  apply List.map_congr_left
  intro i hi
  by_cases e : i = -1
  · rw [if_pos e, if_pos e]
  · rw [if_neg e, if_neg e, h i hi e]
end Go.Reg
namespace Go.Gou
open Go.RowKit Go.Reg
theorem rts_set4 (l : List Rt) (k : Nat) (h : k < l.length) (t : Rt) : ((((rts l).set (k * 4) (.int .i64 t.x0)).set (k * 4 + 1) (.int .i64 t.y0)).set (k * 4 + 2) (.int .i64 t.x1)).set (k * 4 + 3) (.int .i64 t.y1) = rts (l.set k t) := by
  induction l generalizing k with
  | nil => simp at h
  | cons r l ih =>
    cases k with
    | zero => rfl
    | succ k =>
      have hk : k < l.length := by simpa using h
      have := ih k hk
      show ((((rtC r ++ rts l).set ((k + 1) * 4) _).set ((k + 1) * 4 + 1) _).set ((k + 1) * 4 + 2) _).set ((k + 1) * 4 + 3) _ = rtC r ++ rts (l.set k t)
      have hr : (rtC r).length = 4 := rfl
      rw [show (k + 1) * 4 = 4 + k * 4 by omega, List.set_append_right _ _ (by rw [hr]; omega), List.set_append_right _ _ (by rw [hr]; omega), List.set_append_right _ _ (by rw [hr]; omega), List.set_append_right _ _ (by rw [hr]; omega), hr,
        show 4 + k * 4 - 4 = k * 4 by omega, show 4 + k * 4 + 1 - 4 = k * 4 + 1 by omega, show 4 + k * 4 + 2 - 4 = k * 4 + 2 by omega, show 4 + k * 4 + 3 - 4 = k * 4 + 3 by omega, this]
theorem rts_zero (n : Nat) : (madeCells #[Value.int .i64 0, Value.int .i64 0, Value.int .i64 0, Value.int .i64 0] (n * 4)).toList = rts (List.replicate n Rt.zero) := by
  have h1 : ∀ n, rts (List.replicate n Rt.zero) = List.replicate (n * 4) (Value.int .i64 0) := fun n => by
    induction n with
    | zero => rfl
    | succ n ih =>
      rw [List.replicate_succ, show rts (Rt.zero :: List.replicate n Rt.zero) = rtC Rt.zero ++ rts (List.replicate n Rt.zero) from rfl, ih, show (n + 1) * 4 = 4 + n * 4 by omega, ← List.replicate_append_replicate]
      rfl
  rw [h1]
  apply List.ext_getElem
  · simp [madeCells]
  · intro i hi1 hi2
    have : i % 4 = 0 ∨ i % 4 = 1 ∨ i % 4 = 2 ∨ i % 4 = 3 := by omega
    simp [madeCells]
    rcases this with h | h | h | h <;> simp [h]
end Go.Gou
namespace Go.Proofs.YtlpieeeeolfclaaGreatDoor
open Go.RowKit Go.Gou Go.Reg Go.Shelf
set_option maxRecDepth 100000
set_option linter.constructorNameAsVariable false

theorem getD_setR (L : List Rt) (u : Nat) (t : Rt) (k : Nat) : (L.set u t).getD k Rt.zero = if k = u ∧ u < L.length then t else L.getD k Rt.zero := by
  simp only [List.getD, List.getElem?_set]
  by_cases e : k = u
  · subst e
    by_cases h : k < L.length <;> simp [h]
  · simp [e, Ne.symm e]
theorem insT_later {g : Gr} {ord : List Nat} (ho : IsOrder (insN g) ord) {r : Rt} {L : List Rt} {t : Rt} (hL : L.length = g.nodes.length) {i k : Nat} (hi : i < ord.length) (hk : k < g.nodes.length) (hm : k ∈ ord.take i) (hins : ∀ x ∈ g.nodes[k].ins, -1 ≤ x ∧ x < g.nodes.length) :
    insT r (L.set ord[i] t) g.nodes[k].ins = insT r L g.nodes[k].ins := by
  refine insT_congr fun x hx hne => ?_
  obtain ⟨j, hj, hje⟩ := List.mem_take_iff_getElem.1 hm
  have hj2 : j < ord.length := by omega
  have hj1 : j < i := by omega
  have hsplit : ord = ord.take j ++ ord[j] :: ord.drop (j + 1) := by
    rw [List.getElem_cons_drop hj2, List.take_append_drop]
  have h2 := hins x hx
  have hin : x.toNat ∈ (insN g).getD k [] := by
    rw [insN_mem g k hk, insG_get g k hk, (insL_nodup _ _).2]
    have : ((x.toNat : Nat) : Int) = x := by omega
    rw [this]
    exact ⟨hx, by omega, by omega⟩
  have hpre := ho.topo (ord.take j) ord[j] (ord.drop (j + 1)) hsplit x.toNat (by rw [hje]; exact hin)
  rw [getD_setR, if_neg fun e => ?_]
  rw [e.1] at hpre
  obtain ⟨q, hq, hqe⟩ := List.mem_take_iff_getElem.1 hpre
  have := (List.getElem_inj (i := q) (j := i) ho.nodup).1 hqe
  omega
/-- A round's node. -/
theorem round_rects {g : Gr} (ht : Taken g) {ord : List Nat} (ho : IsOrder (insN g) ord) {r : Rt} {L : List Rt} (hL : L.length = g.nodes.length) {i : Nat} (hi : i < ord.length) (hsp : ∀ k, (h : k < g.nodes.length) → k ∈ ord.take i → L.getD k Rt.zero = reachP g.nodes[k].op g.nodes[k].ps (insT r L g.nodes[k].ins)) :
    ∃ (kk : Nat) (nd : GNode) (hk : kk < g.nodes.length), ord[i] = kk ∧ g.nodes[kk] = nd ∧ oneS nd g.nodes.length = 0 ∧ (∀ x ∈ nd.ins, -1 ≤ x ∧ x < g.nodes.length) ∧ nd.ins.length ≤ 8 ∧
      ∀ t : Rt, t = reachP nd.op nd.ps (insT r L nd.ins) → ∀ k, (h : k < g.nodes.length) → k ∈ ord.take (i + 1) → (L.set kk t).getD k Rt.zero = reachP g.nodes[k].op g.nodes[k].ps (insT r (L.set kk t) g.nodes[k].ins) := by
  have hkn : ord[i] < g.nodes.length := by
    have := (ho.mem ord[i]).1 (List.getElem_mem hi)
    have h2 := this.lt
    rwa [insN_len] at h2
  have hinb : ∀ k, (h : k < g.nodes.length) → ∀ x ∈ g.nodes[k].ins, -1 ≤ x ∧ x < g.nodes.length := fun k h x hx => by
    have h3 := (oneS_zero (ht.one _ (List.getElem_mem h))).2.2.1
    have h4 := List.all_eq_true.1 h3 x hx
    simp only [withinB, Bool.and_eq_true, decide_eq_true_eq] at h4
    omega
  have hone := ht.one _ (List.getElem_mem hkn)
  have hself : ∀ t : Rt, insT r (L.set ord[i] t) g.nodes[ord[i]].ins = insT r L g.nodes[ord[i]].ins := fun t => by
    refine insT_congr fun x hx hne => ?_
    have h2 := hinb _ hkn x hx
    have hin : x.toNat ∈ (insN g).getD ord[i] [] := by
      rw [insN_mem g _ hkn, insG_get g _ hkn, (insL_nodup _ _).2]
      have : ((x.toNat : Nat) : Int) = x := by omega
      rw [this]
      exact ⟨hx, by omega, by omega⟩
    have hsplit : ord = ord.take i ++ ord[i] :: ord.drop (i + 1) := by rw [List.getElem_cons_drop hi, List.take_append_drop]
    have hpre := ho.topo _ _ _ hsplit _ hin
    rw [getD_setR, if_neg fun e => ?_]
    rw [e.1] at hpre
    exact not_before ho hi hpre
  refine ⟨ord[i], g.nodes[ord[i]], hkn, rfl, rfl, hone, hinb _ hkn, oneS_ins hone, fun l hs k hk hm => ?_⟩
  by_cases e : k = ord[i]
  · subst e
    rw [getD_setR, if_pos ⟨rfl, by rw [hL]; exact hkn⟩, hself]
    exact hs
  · rw [List.take_succ_eq_append_getElem hi, List.mem_append] at hm
    have hm' : k ∈ ord.take i := hm.resolve_right (fun h => e (List.mem_singleton.1 h))
    rw [getD_setR, if_neg (fun h => e h.1), insT_later ho hL hi hk hm' (hinb k hk)]
    exact hsp k hk hm'
end Go.Proofs.YtlpieeeeolfclaaGreatDoor

/- ForeKeeps: fore.carried over rectangles: the walk; ReachAll. -/
namespace Go.Proofs.YtlpieeeeolfclaaGreatDoor
open Go.RowKit Go.Gou Go.Reg Go.Shelf
set_option maxRecDepth 100000
set_option linter.constructorNameAsVariable false

theorem info_rt : (Tryz.prog.info? 32).map (fun i => (i.zero, i.size, i.bytes)) = some (some (.agg #[.int .i64 0, .int .i64 0, .int .i64 0, .int .i64 0]), 4, 32) := by kernel_rfl
theorem reach_any (w : World) (vi vp vl : Value) (n : GNode) (ls : List Rt) (c : Int) (hop : n.op = 1 ∨ n.op = 2) (hpi : IntsAt w.heap.size w vi n.ins) (hpp : IntsAt w.heap.size w vp n.ps) (h1 : oneS n c = 0) (hl : RtR (fun _ => True) w vl ls) (hll : ls.length = n.ins.length) (hr : ∀ r ∈ ls, r.Right) :
    Calls Tryz.prog 18 #[.agg #[.int .i64 n.op, vi, vp], vl] w fun e w' => e = .returned (rtV (reachP n.op n.ps ls)) ∧ Gou.Mod (fun _ => False) w w' := by
  have hi' : ∃ p n c, vi = .slice p n c := by
    obtain ⟨p, c, rfl⟩ := hpi.len
    exact ⟨_, _, _, rfl⟩
  obtain ⟨op, ins, ps⟩ := n
  simp only at *
  rcases hop with rfl | rfl
  · obtain ⟨r, rfl⟩ : ∃ l, ls = [l] := List.length_eq_one_iff.1 (by have := (node_1 h1).1; omega)
    exact reach_off w vi vp vl ins ps r c hpp hi' h1 hl (hr r (List.mem_singleton.2 rfl))
  · obtain ⟨r, rfl⟩ : ∃ l, ls = [l] := List.length_eq_one_iff.1 (by have := (node_r (.inl rfl) h1).1; omega)
    exact reach_blur w vi vp vl ins ps r c hpp hi' h1 hl (hr r (List.mem_singleton.2 rfl))

/-- Every node's rectangle is what it reaches. -/
def ReaP (g : Gr) (r out : Rt) : Prop := ∃ L : List Rt, L.length = g.nodes.length ∧ out = L.getD g.out.toNat Rt.zero ∧ ∀ k, (h : k < g.nodes.length) → L.getD k Rt.zero = reachP g.nodes[k].op g.nodes[k].ps (insT r L g.nodes[k].ins)
def CarT (w : World) (g : Gr) (r : Rt) (e : Ending) (w' : World) : Prop := Gou.Mod (fun _ => False) w w' ∧ ∃ out, e = .returned (rtV out) ∧ ReaP g r out

set_option maxHeartbeats 8000000 in
theorem carriedT_any (w : World) (v : Value) (g : Gr) (r : Rt) (hg : GrV w v g) (hwf : GrWf g) (ht : Taken g) (h6 : g.nodes.length ≤ 6) (hop : ∀ n ∈ g.nodes, n.op = 1 ∨ n.op = 2) (hr : r.Right) :
    Calls Tryz.prog 17 #[v, rtV r, .func (.func 18) #[] #[]] w (CarT w g r) := by
  obtain ⟨i0, hi0, hz0, hz1, hz2⟩ := info_parts info_rt
  have Hg := Lib.hid hg
  have Ht := Lib.hid ht
  have Hr := Lib.hid hr
  have Hop := Lib.hid hop
  have H6 := Lib.hid h6
  have hok : GrOk g := ⟨by omega, fun n hn => by have := oneS_ins (ht.one n hn); omega, hwf.ins⟩
  have Hok := Lib.hid hok
  obtain ⟨vn, rfl, p, cap, rfl, hcap, hcells⟩ := hg
  rcases hcells with hcells | ⟨nb, no, rfl, hnb, hcells⟩
  · have := ht.pos
    rw [hcells] at this
    simp at this
  have Hnb := Lib.hid hnb
  have Hcells := Lib.hid hcells
  clear ht hr hop hok hcap hnb hcells
  obtain ⟨ra, rb, rc, rd'⟩ := r
  go_enter Tryz.func17, Tryz.ntmps17
  go_wp2_with (first
    | (at_make; refine wpList_make_full _ rfl _ _ 25 rfl w.heap.size 32 i0 (.agg #[.int .i64 0, .int .i64 0, .int .i64 0, .int .i64 0]) 4 Tryz.underlying25 hi0 hz0 hz1 _ _ _ _ g.nodes.length rfl rfl rfl rfl ?b1 ?b2 ?b3 ?_) | fail)
  case b1 => rw [hz2]; omega
  case b2 => unfold maxLen; omega
  case b3 => simp; omega
  intro w1 hown hgrow
  obtain ⟨hB0, hB1, hB2⟩ := three_new w 24 32 32 #[.slice (some ⟨nb, no, none⟩) g.nodes.length cap, .int .i64 g.out] #[.int .i64 ra, .int .i64 rb, .int .i64 rc, .int .i64 rd'] #[.int .i64 0, .int .i64 0, .int .i64 0, .int .i64 0]
  have hm0 : Gou.Mod (fun _ => False) w (((w.alloc (.cells #[.slice (some ⟨nb, no, none⟩) g.nodes.length cap, .int .i64 g.out] 24)).alloc (.cells #[.int .i64 ra, .int .i64 rb, .int .i64 rc, .int .i64 rd'] 32)).alloc (.cells #[.int .i64 0, .int .i64 0, .int .i64 0, .int .i64 0] 32)) := ((Gou.Mod.alloc0 _ _).trans' (Gou.Mod.alloc0 _ _)).trans' (Gou.Mod.alloc0 _ _)
  have hm1 := (Gou.Mod.of_grown hgrow).imp (S' := fun _ => False) (fun k _ h => by cases h)
  have HG0 := Lib.hid (hB0.mod0 hm1)
  have HG1 := Lib.hid (hB1.mod0 hm1)
  have HG2 := Lib.hid (hB2.mod0 hm1)
  have Hw1 := Lib.hid (hm0.trans' hm1)
  have hzs := (hown.lt _ rfl).2
  rw [rts_zero] at hown
  have Hown := Lib.hid hown
  have Hzs := Lib.hid hzs
  have c0 := HG0.out.cell 0 rfl
  have c1 := HG0.out.cell 1 rfl
  clear hown hgrow hm0 hB0 hB1 hB2 hm1 hzs hi0 hz0 hz1 hz2
  obtain ⟨GB, hGB⟩ : ∃ GB, GB = w.heap.size := ⟨_, rfl⟩
  have HGB := Lib.hid hGB
  rw [← hGB] at c0 c1 HG0 HG1 HG2 Hown Hzs ⊢
  clear hGB
  go_wp2_with fail
  refine (all_ord w1 _ g (Hg.out.up (Gou.Mod.below Hw1.out (Nat.le_refl _) (fun _ _ h => h))) Hok.out).mono ?_
  rintro e w2 ⟨vo, ord, rfl, hown, hord, hb⟩
  have hm2 : Gou.Mod (fun _ => False) w1 w2 := Gou.Mod.of_below hb _
  have Hw2 := Lib.hid (Hw1.out.trans' hm2)
  have HL2 := Lib.hid (own_up Hown.out hm2)
  have HG0' := Lib.hid (HG0.out.mod0 hm2)
  have HG1' := Lib.hid (HG1.out.mod0 hm2)
  have HG2' := Lib.hid (HG2.out.mod0 hm2)
  have Hord := Lib.hid hord
  have Hlen : Hid (ord.length ≤ 6) := Lib.hid (by have h1 := hord.le; rw [insN_len] at h1; have := H6.out; omega)
  obtain ⟨po, co, rfl⟩ := Gou.ownsRow_form hown
  have HO := Lib.hid hown
  have HV : Hid (w.heap.size ≤ GB + 1 + 1 + 1) := Lib.hid (by have := HGB.out; omega)
  clear hm2 hown hord hb c0 c1 HG0 HG1 HG2 Hown
  go_wp2_with fail
  go_loopw [20] (fun vi wr => ∃ (i : Nat) (L : List Rt), vi = .int .i64 i ∧ i ≤ ord.length ∧ L.length = g.nodes.length ∧ (∀ q ∈ L, q.Right) ∧ wr.ownsRow GB 32 4 (.slice (some ⟨GB + 1 + 1 + 1, 0, none⟩) g.nodes.length g.nodes.length) g.nodes.length (rts L) ∧ (∀ k, (h : k < g.nodes.length) → k ∈ ord.take i → L.getD k Rt.zero = reachP g.nodes[k].op g.nodes[k].ps (insT ⟨ra, rb, rc, rd'⟩ L g.nodes[k].ins)) ∧ Gou.Mod (fun k => k = GB + 1 + 1 + 1) w2 wr) (fun vi _ => ord.length - (intOf vi).toNat)
  case atStart =>
    refine ⟨0, List.replicate g.nodes.length Rt.zero, rfl, Nat.zero_le _, by simp, fun q hq => ?_, HL2.out, fun k _ hm => by simp at hm, Gou.Mod.refl _ _⟩
    rw [List.eq_of_mem_replicate hq]
    decide
  case round =>
    rename World => wo
    obtain ⟨i, L, rfl, hi, hLl, hLr, hown, hsp, hm⟩ := hrel
    have HLl := Lib.hid hLl
    have HLr := Lib.hid hLr
    have Hown := Lib.hid hown
    have Hsp := Lib.hid hsp
    have Hm := Lib.hid hm
    have Hlow := Lib.hid (mod_low Hw2.out hm HV.out)
    have HB0 := HG0'.out.mod hm (by omega)
    have HB1 := HG1'.out.mod hm (by omega)
    have HB2 := Lib.hid (HG2'.out.mod hm (by omega))
    have c0 := HB0.cell 0 rfl
    have c1 := HB0.cell 1 rfl
    have s0 := HB1.cell 0 rfl
    have s1 := HB1.cell 1 rfl
    have s2 := HB1.cell 2 rfl
    have s3 := HB1.cell 3 rfl
    clear hLl hLr hown hsp hm HB0 HB1
    have wi : IntKind.i64.wrap ((i : Int) + 1) = (i : Int) + 1 := wrap_id (by omega) (by have := Hlen.out; omega)
    by_cases hil : i < ord.length
    · have e1 : decide ((i : Int) < (ord.length : Int)) = true := decide_eq_true (by omega)
      obtain ⟨OB, rfl, hob, hob2⟩ := ord_some HO.out (by omega)
      have o0 := ord_cell HO.out hil
      rw [← Hm.out.cell (p := ⟨OB, i, none⟩) hob2 (by show ¬ (OB = GB + 1 + 1 + 1); have := Hzs.out; omega)] at o0
      have hi1 : (i : Int) < (ord.length : Int) := by omega
      have hi0 : (0 : Int) ≤ (i : Int) := by omega
      obtain ⟨kk, nd, hkn, hok', hnd, hone, hix, hi8, hsp1⟩ := round_rects Ht.out Hord.out (r := ⟨ra, rb, rc, rd'⟩) HLl.out hil Hsp.out
      rw [hok'] at o0
      obtain ⟨vi, vp, n0, n1, n2, hii, hpp⟩ := Hcells.out kk hkn
      have Hop1 := Lib.hid (Hop.out _ (List.getElem_mem hkn))
      rw [hnd] at n0 hii hpp Hop1
      have Hin := Lib.hid (And.intro hi hil)
      have Hone := Lib.hid hone
      have Hsp2 := Lib.hid hsp1
      have Hi0 := Lib.hid hi8
      have Hix := Lib.hid hix
      have Hkk := Lib.hid hkn
      have hk1 : (kk : Int) < (g.nodes.length : Int) := by omega
      have hk0 : (0 : Int) ≤ (kk : Int) := by omega
      rw [← Hlow.out.cell (p := ⟨nb, no + kk * 3, none⟩) Hnb.out (fun h => h)] at n0
      rw [← Hlow.out.cell (p := ⟨nb, no + kk * 3 + 1, none⟩) Hnb.out (fun h => h)] at n1
      rw [← Hlow.out.cell (p := ⟨nb, no + kk * 3 + 2, none⟩) Hnb.out (fun h => h)] at n2
      clear hone hsp1 hi8 hix hkn hnd hok' Hsp
      obtain ⟨op, ins, ps⟩ := nd
      simp only at n0 n1 n2 hii hpp
      have Hii := Lib.hid hii
      have Hpp := Lib.hid hpp
      obtain ⟨pi_, ci_, rfl⟩ := hii.len
      obtain ⟨pp_, cp_, rfl⟩ := hpp.len
      clear hii hpp
      go_wp2_with fail
      go_loopw [10, 31] (fun lv vj wx => ∃ (j : Nat) (o : List Rt), vj = .int .i64 j ∧ j ≤ ins.length ∧ o = (insT ⟨ra, rb, rc, rd'⟩ L ins).take j ∧ wx.ownsRow wo.heap.size 32 4 lv o.length (rts o) ∧ Gou.Mod (fun _ => False) wo wx) (fun _ vj _ => ins.length - (intOf vj).toNat)
      case atStart => exact ⟨0, [], rfl, Nat.zero_le _, by simp, World.ownsRow_nil _ _ _ _, Gou.Mod.refl _ _⟩
      case round =>
        obtain ⟨j, o, rfl, hj, ho, hir, hmx⟩ := hrel
        obtain ⟨pl, cl, rfl⟩ := Gou.ownsRow_form hir
        have Hir := Lib.hid hir
        have Hmx := Lib.hid hmx
        have Ho := Lib.hid ho
        have Hol : Hid (o.length = j) := Lib.hid (by rw [ho, List.length_take, insT_len]; omega)
        have wj : IntKind.i64.wrap ((j : Int) + 1) = (j : Int) + 1 := wrap_id (by omega) (by have := Hi0.out; omega)
        rw [← hmx.cell (p := ⟨nb, no + kk * 3, none⟩) (World.block_lt_of_cell? _ _ n0) (fun h => h)] at n0
        rw [← hmx.cell (p := ⟨nb, no + kk * 3 + 1, none⟩) (World.block_lt_of_cell? _ _ n1) (fun h => h)] at n1
        rw [← hmx.cell (p := ⟨nb, no + kk * 3 + 2, none⟩) (World.block_lt_of_cell? _ _ n2) (fun h => h)] at n2
        rw [← hmx.cell (p := ⟨GB, 0, none⟩) (World.block_lt_of_cell? _ _ c0) (fun h => h)] at c0
        rw [← hmx.cell (p := ⟨GB, 1, none⟩) (World.block_lt_of_cell? _ _ c1) (fun h => h)] at c1
        rw [← hmx.cell (p := ⟨GB + 1, 0, none⟩) (World.block_lt_of_cell? _ _ s0) (fun h => h)] at s0
        rw [← hmx.cell (p := ⟨GB + 1, 1, none⟩) (World.block_lt_of_cell? _ _ s1) (fun h => h)] at s1
        rw [← hmx.cell (p := ⟨GB + 1, 2, none⟩) (World.block_lt_of_cell? _ _ s2) (fun h => h)] at s2
        rw [← hmx.cell (p := ⟨GB + 1, 3, none⟩) (World.block_lt_of_cell? _ _ s3) (fun h => h)] at s3
        have Hox := Lib.hid (own_up Hown.out hmx)
        clear hir hmx ho
        by_cases hjl : j < ins.length
        · have t1 : decide ((j : Int) < (ins.length : Int)) = true := decide_eq_true (by omega)
          have hj1 : (j : Int) < (ins.length : Int) := by omega
          have hj0 : (0 : Int) ≤ (j : Int) := by omega
          obtain ⟨bi, oi, ci', hv, -, hbi, hci⟩ := ints_cells Hii.out (by omega)
          simp only [Value.slice.injEq] at hv
          obtain ⟨rfl, -, rfl⟩ := hv
          have q0 := hci j hjl
          rw [← (Hlow.out.trans' Hmx.out).cell (p := ⟨bi, oi + j, none⟩) hbi (fun h => h)] at q0
          have Hxx := Lib.hid (Hix.out ins[j] (List.getElem_mem hjl))
          rw [show ins.getD j 0 = ins[j] from by simp [List.getD, hjl]] at q0
          have Hst : Hid ((insT ⟨ra, rb, rc, rd'⟩ L ins).take (j + 1) = o ++ [if ins[j] = -1 then ⟨ra, rb, rc, rd'⟩ else L.getD ins[j].toNat Rt.zero]) := Lib.hid (by rw [Ho.out, List.take_succ_eq_append_getElem (by rw [insT_len]; exact hjl)]; simp [insT])
          have Hjn := Lib.hid (And.intro hj hjl)
          clear hci
          generalize ins[j] = x at *
          by_cases hx : x = -1
          · subst hx
            rw [if_pos rfl] at Hst
            go_wp2_with (first | ((with_reducible show wpList _ _ _ (⟨_, Op.call ⟨.builtin .append, _, _⟩, _, _, _, _⟩ :: _) _ _); refine halt ?_) | fail)
            refine wpList_append_row T_rt rfl _ _ rfl (wo.heap.size) (.slice pl o.length cl) o.length (rts o) (fun _ => True) (.slice (some ⟨wr.heap.size, 0, none⟩) 1 1) 1 [.int .i64 ra, .int .i64 rb, .int .i64 rc, .int .i64 rd'] rfl rfl (by have := Hmx.out.size; simp; omega) (own_up Hir.out (Gou.Mod.alloc0 _ _)) (RowG.of_blk (Blk.new _ _ #[.int .i64 ra, .int .i64 rb, .int .i64 rc, .int .i64 rd']) 4 1 rfl _ trivial) (rtC_one ⟨ra, rb, rc, rd'⟩) (by have := Hol.out; have := Hi0.out; unfold maxLen; omega) (by have := Hol.out; have := Hi0.out; omega) ?_
            intro v5 w5 G5
            have Hm5 := Lib.hid (G5.mod0 (Hmx.out.trans' (Gou.Mod.alloc0 _ _)) (own_ge Hir.out))
            have Hr5 := Lib.hid (own_snoc (s := ⟨ra, rb, rc, rd'⟩) G5.own)
            obtain ⟨p5, c5, rfl⟩ := Gou.ownsRow_form Hr5.out
            clear G5
            go_wp2_with fail
            go_roundw
            case rel => exact ⟨j + 1, o ++ [⟨ra, rb, rc, rd'⟩], by go_num, by have := Hjn.out; omega, Hst.out.symm, by rw [show o.length + 1 = (o ++ [(⟨ra, rb, rc, rd'⟩ : Rt)]).length from by simp]; exact Hr5.out, Hm5.out⟩
            case measure => have := Hjn.out; simp [intOf, wj]; omega
          · have t2 : (x == -1) = false := by simp [hx]
            have t3 : decide (x = -1) = false := by simp [hx]
            rw [if_neg hx] at Hst
            have hx0 : 0 ≤ x := by have := Hxx.out; omega
            have hx1 : x < (g.nodes.length : Int) := by have := Hxx.out; omega
            obtain ⟨xn, rfl⟩ : ∃ xn : Nat, x = xn := ⟨x.toNat, by omega⟩
            have hxl : xn < L.length := by rw [HLl.out]; omega
            rw [Int.toNat_natCast, show L.getD xn Rt.zero = L[xn] from by simp [List.getD, hxl]] at Hst
            obtain ⟨y0, y1, y2, y3⟩ := rts_get L xn hxl
            have d0 := Hox.out.cellAt (xn * 4) (by omega)
            have d1 := Hox.out.cellAt (xn * 4 + 1) (by omega)
            have d2 := Hox.out.cellAt (xn * 4 + 2) (by omega)
            have d3 := Hox.out.cellAt (xn * 4 + 3) (by omega)
            rw [y0] at d0
            rw [y1] at d1
            rw [y2] at d2
            rw [y3] at d3
            clear y0 y1 y2 y3
            generalize L[xn] = lx at *
            clear hxl
            obtain ⟨xa, xb, xc, xd⟩ := lx
            simp only at d0 d1 d2 d3
            go_wp2_with (first | ((with_reducible show wpList _ _ _ (⟨_, Op.call ⟨.builtin .append, _, _⟩, _, _, _, _⟩ :: _) _ _); refine halt ?_) | fail)
            refine wpList_append_row T_rt rfl _ _ rfl (wo.heap.size) (.slice pl o.length cl) o.length (rts o) (fun _ => True) (.slice (some ⟨wr.heap.size, 0, none⟩) 1 1) 1 [.int .i64 xa, .int .i64 xb, .int .i64 xc, .int .i64 xd] rfl rfl (by have := Hmx.out.size; simp; omega) (own_up Hir.out (Gou.Mod.alloc0 _ _)) (RowG.of_blk (Blk.new _ _ #[.int .i64 xa, .int .i64 xb, .int .i64 xc, .int .i64 xd]) 4 1 rfl _ trivial) (rtC_one ⟨xa, xb, xc, xd⟩) (by have := Hol.out; have := Hi0.out; unfold maxLen; omega) (by have := Hol.out; have := Hi0.out; omega) ?_
            intro v5 w5 G5
            have Hm5 := Lib.hid (G5.mod0 (Hmx.out.trans' (Gou.Mod.alloc0 _ _)) (own_ge Hir.out))
            have Hr5 := Lib.hid (own_snoc (s := ⟨xa, xb, xc, xd⟩) G5.own)
            obtain ⟨p5, c5, rfl⟩ := Gou.ownsRow_form Hr5.out
            clear G5
            go_wp2_with fail
            go_roundw
            case rel => exact ⟨j + 1, o ++ [⟨xa, xb, xc, xd⟩], by go_num, by have := Hjn.out; omega, Hst.out.symm, by rw [show o.length + 1 = (o ++ [(⟨xa, xb, xc, xd⟩ : Rt)]).length from by simp]; exact Hr5.out, Hm5.out⟩
            case measure => have := Hjn.out; simp [intOf, wj]; omega
        · have hj' : j = ins.length := by omega
          have t1 : decide ((j : Int) < (ins.length : Int)) = false := decide_eq_false (by omega)
          have Hoe : Hid (o = insT ⟨ra, rb, rc, rd'⟩ L ins) := Lib.hid (by rw [Ho.out, hj']; exact List.take_of_length_le (by rw [insT_len]; omega))
          have Hrg : Hid (RtR (fun _ => True) wr (.slice pl o.length cl) o) := Lib.hid (RowG.own_of Hir.out (fun _ _ _ => trivial))
          have Hrr : Hid (∀ q ∈ o, q.Right) := Lib.hid (fun q hq => by
            rw [Hoe.out] at hq
            obtain ⟨x, hx, rfl⟩ := List.mem_map.1 hq
            by_cases e : x = -1
            · rw [if_pos e]; exact Hr.out
            · rw [if_neg e]
              have hb := Hix.out x hx
              have hl : x.toNat < L.length := by rw [HLl.out]; omega
              rw [show L.getD x.toNat Rt.zero = L[x.toNat] from by simp [List.getD, hl]]
              exact HLr.out _ (List.getElem_mem hl))
          clear hj'
          have Hlx := Lib.hid (Hlow.out.trans' Hmx.out)
          go_wp2_with fail
          refine (reach_any wr (.slice pi_ ins.length ci_) (.slice pp_ ps.length cp_) (.slice pl o.length cl) ⟨op, ins, ps⟩ o g.nodes.length Hop1.out (Hii.out.up (Gou.Mod.below Hlx.out (Nat.le_refl _) (fun _ _ h => h))) (Hpp.out.up (Gou.Mod.below Hlx.out (Nat.le_refl _) (fun _ _ h => h))) Hone.out Hrg.out (by rw [Hoe.out, insT_len]) Hrr.out).mono ?_
          rintro e w5 ⟨rfl, hm5⟩
          have Hm5 := Lib.hid (Hmx.out.trans' hm5)
          have Ho5 := Lib.hid (own_up Hox.out hm5)
          obtain ⟨t, ht⟩ : ∃ t, t = reachP op ps o := ⟨_, rfl⟩
          have Htr : Hid (t.Right) := Lib.hid (by rw [ht]; exact reachP_right _ _ _)
          have Hsp5 := Lib.hid (Hsp2.out t (by rw [ht, Hoe.out]))
          rw [← ht]
          have hkl : kk < L.length := by rw [HLl.out]; exact Hkk.out
          obtain ⟨y0, y1, y2, y3⟩ := rts_get L kk hkl
          have d0 := Ho5.out.cellAt (kk * 4) (by have := Hkk.out; omega)
          have d1 := Ho5.out.cellAt (kk * 4 + 1) (by have := Hkk.out; omega)
          have d2 := Ho5.out.cellAt (kk * 4 + 2) (by have := Hkk.out; omega)
          have d3 := Ho5.out.cellAt (kk * 4 + 3) (by have := Hkk.out; omega)
          have f0 := Ho5.out.frozenAt (kk * 4)
          have f1 := Ho5.out.frozenAt (kk * 4 + 1)
          have f2 := Ho5.out.frozenAt (kk * 4 + 2)
          have f3 := Ho5.out.frozenAt (kk * 4 + 3)
          rw [y0] at d0
          rw [y1] at d1
          rw [y2] at d2
          rw [y3] at d3
          clear hm5 n0 n1 n2 c0 c1 s0 s1 s2 s3 y0 y1 y2 y3 ht
          have Hset : Hid _ := Lib.hid (rts_set4 L kk hkl t)
          have Hset2 : Hid _ := Lib.hid (own_set (own_set (own_set (own_set Ho5.out (kk * 4) (.int .i64 t.x0)) (kk * 4 + 1) (.int .i64 t.y0)) (kk * 4 + 2) (.int .i64 t.x1)) (kk * 4 + 3) (.int .i64 t.y1))
          rw [Hset.out] at Hset2
          have Hmm : Hid (Gou.Mod (fun k => k = GB + 1 + 1 + 1) w5 ((((w5.setCell ⟨GB + 1 + 1 + 1, kk * 4, none⟩ (.int .i64 t.x0)).setCell ⟨GB + 1 + 1 + 1, kk * 4 + 1, none⟩ (.int .i64 t.y0)).setCell ⟨GB + 1 + 1 + 1, kk * 4 + 2, none⟩ (.int .i64 t.x1)).setCell ⟨GB + 1 + 1 + 1, kk * 4 + 3, none⟩ (.int .i64 t.y1))) :=
            Lib.hid ((((Gou.Mod.setCell w5 ⟨GB + 1 + 1 + 1, kk * 4, none⟩ (.int .i64 t.x0)).trans' (Gou.Mod.setCell _ ⟨GB + 1 + 1 + 1, kk * 4 + 1, none⟩ (.int .i64 t.y0))).trans' (Gou.Mod.setCell _ ⟨GB + 1 + 1 + 1, kk * 4 + 2, none⟩ (.int .i64 t.x1))).trans' (Gou.Mod.setCell _ ⟨GB + 1 + 1 + 1, kk * 4 + 3, none⟩ (.int .i64 t.y1)))
          generalize L[kk] = lk at *
          clear hkl
          obtain ⟨ta, tb, tc, td⟩ := t
          simp only at Hset2 Hmm
          go_wp2_with fail
          go_roundw
          case rel =>
            refine ⟨i + 1, L.set kk ⟨ta, tb, tc, td⟩, by go_num, by have := Hin.out; omega, by simpa using HLl.out, fun q hq => ?_, Hset2.out, Hsp5.out, (Hm.out.trans (Hm5.out) (fun _ _ h => h.elim)).trans' Hmm.out⟩
            rcases List.mem_or_eq_of_mem_set hq with hq | rfl
            · exact HLr.out q hq
            · exact Htr.out
          case measure => have := Hin.out; simp [intOf, wi]; omega
    · have hil' : i = ord.length := by omega
      have e1 : decide ((i : Int) < (ord.length : Int)) = false := decide_eq_false (by omega)
      obtain ⟨on, hon⟩ : ∃ on : Nat, g.out = on := ⟨g.out.toNat, by have := Ht.out.out0; omega⟩
      have hon1 : (on : Int) < (g.nodes.length : Int) := by have := Ht.out.out1; omega
      have hon0 : (0 : Int) ≤ (on : Int) := by omega
      have Hfin : Hid (∀ k, (h : k < g.nodes.length) → L.getD k Rt.zero = reachP g.nodes[k].op g.nodes[k].ps (insT ⟨ra, rb, rc, rd'⟩ L g.nodes[k].ins)) := Lib.hid (fun k hk => Hsp.out k hk (by rw [hil', List.take_length]; exact (Hord.out.mem k).2 (Ht.out.done k hk)))
      have hol : on < L.length := by rw [HLl.out]; omega
      have Hend : Hid (ReaP g ⟨ra, rb, rc, rd'⟩ L[on]) := Lib.hid ⟨L, HLl.out, by rw [hon, Int.toNat_natCast]; simp [List.getD, hol], Hfin.out⟩
      obtain ⟨y0, y1, y2, y3⟩ := rts_get L on hol
      have d0 := Hown.out.cellAt (on * 4) (by omega)
      have d1 := Hown.out.cellAt (on * 4 + 1) (by omega)
      have d2 := Hown.out.cellAt (on * 4 + 2) (by omega)
      have d3 := Hown.out.cellAt (on * 4 + 3) (by omega)
      rw [y0] at d0
      rw [y1] at d1
      rw [y2] at d2
      rw [y3] at d3
      obtain ⟨-, f0, f1, f2, f3⟩ := four HB2.out
      obtain ⟨⟨z0, z1, z2, z3⟩, -⟩ := four HB2.out
      rw [hon] at c1
      clear y0 y1 y2 y3 hil' Hsp hon Hfin
      generalize L[on] = t at *
      clear hol
      have Hend2 := Lib.hid (set4 (w := w) (B := w.heap.size) HB2.out (Gou.Mod.below Hlow.out (Nat.le_refl _) (fun _ _ h => h)) (by have := HGB.out; omega) (.int .i64 t.x0) (.int .i64 t.y0) (.int .i64 t.x1) (.int .i64 t.y1))
      obtain ⟨ta, tb, tc, td⟩ := t
      simp only at d0 d1 d2 d3 Hend2
      go_wp2_with fail
      exact ret_rect ⟨ta, tb, tc, td⟩ rfl rfl rfl Hend2.out.1 Tryz.underlying32 rfl size_rect ⟨Gou.Mod.of_below Hend2.out.2 _, _, rfl, Hend.out⟩

theorem gr_low {w w1 : World} {v : Value} {g : Gr} (h : GrV w v g) (hm : Gou.Mod (fun _ => False) w w1) : GrV w1 v g := h.up (Gou.Mod.below hm (Nat.le_refl _) (fun _ _ h => h))

set_option maxHeartbeats 2000000 in
theorem reachAll_any (w : World) (v : Value) (g : Gr) (r : Rt) (hg : GrV w v g) (hwf : GrWf g) (ht : Taken g) (h6 : g.nodes.length ≤ 6) (hop : ∀ n ∈ g.nodes, n.op = 1 ∨ n.op = 2) (hr : r.Right) :
    Calls Tryz.prog 10 #[v, rtV r] w (CarT w g r) := by
  have HC := Lib.hid (fun (w1 : World) (hm : Gou.Mod (fun _ => False) w w1) => carriedT_any w1 v g r (gr_low hg hm) hwf ht h6 hop hr)
  obtain ⟨p, cap, rfl⟩ := hg.form
  clear hg hwf ht h6 hop hr
  obtain ⟨hB0, hB1, hB2⟩ := three_new w 24 32 32 #[.slice p g.nodes.length cap, .int .i64 g.out] #[.int .i64 r.x0, .int .i64 r.y0, .int .i64 r.x1, .int .i64 r.y1] #[.int .i64 0, .int .i64 0, .int .i64 0, .int .i64 0]
  have hm0 : Gou.Mod (fun _ => False) w (((w.alloc (.cells #[.slice p g.nodes.length cap, .int .i64 g.out] 24)).alloc (.cells #[.int .i64 r.x0, .int .i64 r.y0, .int .i64 r.x1, .int .i64 r.y1] 32)).alloc (.cells #[.int .i64 0, .int .i64 0, .int .i64 0, .int .i64 0] 32)) := ((Gou.Mod.alloc0 _ _).trans' (Gou.Mod.alloc0 _ _)).trans' (Gou.Mod.alloc0 _ _)
  have c0 := hB0.cell 0 rfl
  have c1 := hB0.cell 1 rfl
  obtain ⟨⟨s0, s1, s2, s3⟩, -⟩ := four hB1
  have HB2 := Lib.hid hB2
  have Hm0 := Lib.hid hm0
  go_enter Tryz.func10, Tryz.ntmps10
  go_upto_region 1 with fail
  clear hm0 hB0 hB1 hB2
  generalize ((w.alloc (.cells #[.slice p g.nodes.length cap, .int .i64 g.out] 24)).alloc (.cells #[.int .i64 r.x0, .int .i64 r.y0, .int .i64 r.x1, .int .i64 r.y1] 32)).alloc (.cells #[.int .i64 0, .int .i64 0, .int .i64 0, .int .i64 0] 32) = W1 at *
  go_wp2_with fail
  refine (HC.out _ Hm0.out).mono ?_
  rintro e w2 ⟨hm2, t, rfl, hrp⟩
  have Hm2 := Lib.hid (Hm0.out.trans' hm2)
  have HB3 := Lib.hid (HB2.out.mod0 hm2)
  have Hrp := Lib.hid hrp
  obtain ⟨⟨z0, z1, z2, z3⟩, f0, f1, f2, f3⟩ := four HB3.out
  clear hm2 hrp c0 c1 s0 s1 s2 s3
  have Hend2 := Lib.hid (set4 (w := w) (B := w.heap.size) HB3.out (Gou.Mod.below Hm2.out (Nat.le_refl _) (fun _ _ h => h)) (by omega) (.int .i64 t.x0) (.int .i64 t.y0) (.int .i64 t.x1) (.int .i64 t.y1))
  obtain ⟨ta, tb, tc, td⟩ := t
  simp only at Hend2
  go_wp2_with fail
  exact ret_rect ⟨ta, tb, tc, td⟩ rfl rfl rfl Hend2.out.1 Tryz.underlying32 rfl size_rect ⟨Gou.Mod.of_below Hend2.out.2 _, _, rfl, Hrp.out⟩
end Go.Proofs.YtlpieeeeolfclaaGreatDoor

/- ForeKeeps: the awake answers. -/
namespace Go.Reg
/-- A rectangle by itself is a region. -/
theorem RegOf.one {r : Rt} (h : r.Some) : RegOf [r] (Pts [r] [] orF) := by
  refine ⟨[⟨r.y0, r.y1, [⟨r.x0, r.x1⟩]⟩], ⟨h.2, by simp, h.1⟩, by simp [flat, Bd.rects], fun x y => ?_⟩
  rw [pts_or, In2.cons, Has.cons, In.cons]
  simp only [In2.nil, In.nil, Has.nil, or_false]
  unfold Rt.Has
  constructor
  · rintro ⟨h1, h2, h3, h4⟩
    exact ⟨h3, h4, h1, h2⟩
  · rintro ⟨h1, h2, h3, h4⟩
    exact ⟨h3, h4, h1, h2⟩
theorem RegOf.is_one {r : Rt} {o : List Rt} (h : RegOf o (Pts [r] [] orF)) (hs : r.Some) : o = [r] := h.uniq (RegOf.one hs) (fun _ _ => Iff.rfl)
theorem RegOf.is_nil {o : List Rt} (h : RegOf o (Pts [] [] orF)) : o = [] := h.nil_of (fun x y => by rw [pts_or]; simp [Has.nil])
end Go.Reg
namespace Go.Proofs.YtlpieeeeolfclaaGreatDoor
open Go.RowKit Go.Gou Go.Reg Go.Shelf
set_option maxRecDepth 100000
set_option linter.constructorNameAsVariable false
theorem size_graph : (Tryz.prog.info? 24).map (·.size) = some 2 := by kernel_rfl

/-- The awake answers' own filter: an Offset, and a Blur. -/
def g13 : Gr := ⟨[⟨1, [-1], [5, 0]⟩, ⟨2, [0], [1, 2]⟩], 1⟩
theorem g13_wf : GrWf g13 where
  op := by simp [g13]; decide
  ins := by simp [g13]; decide
  ps := by simp [g13]; decide
  out := by decide
  insl := by simp [g13, maxLen]
  psl := by simp [g13, maxLen]
  len := by simp [g13, maxLen]
theorem g13_taken : Taken g13 where
  pos := by simp [g13]
  few := by simp [g13]
  one := by simp [g13, oneS, ofS, aritB, boundsB, withinB]
  out0 := by simp [g13]
  out1 := by simp [g13]
  done := fun i hi => by
    have hN : insN g13 = [[], [0]] := by simp [insN, insG, g13, insL, insStep, okIn]
    rw [hN]
    have h0 : Done [[], [0]] 0 := Done.mk 0 (by simp) (by simp)
    have : i = 0 ∨ i = 1 := by simp [g13] at hi; omega
    rcases this with rfl | rfl
    · exact h0
    · exact Done.mk 1 (by simp) (fun k hk => by simp at hk; subst hk; exact h0)
theorem g13_one {out : List Rt} (h : SprP g13 [⟨0, 0, 1, 1⟩] out) : out = [⟨4, -2, 7, 3⟩] := by
  obtain ⟨V, ho, hV⟩ := h
  have h0 := (hV 0 (by simp [g13])).1 rfl [⟨0, 0, 1, 1⟩] rfl
  have e0 : V 0 = [⟨5, 0, 6, 1⟩] := RegOf.is_one (by rw [show ([⟨0, 0, 1, 1⟩] : List Rt).map (moveP (g13.nodes[0].ps.getD 0 0) (g13.nodes[0].ps.getD 1 0)) = [⟨5, 0, 6, 1⟩] by decide] at h0; exact h0) (by decide)
  have h1 := (hV 1 (by simp [g13])).2 rfl [⟨5, 0, 6, 1⟩] (by simp [insV, g13, e0])
  have e1 : V 1 = [⟨4, -2, 7, 3⟩] := RegOf.is_one (by rw [show ([⟨5, 0, 6, 1⟩] : List Rt).map (growP (g13.nodes[1].ps.getD 0 0) (g13.nodes[1].ps.getD 1 0) (g13.nodes[1].ps.getD 0 0) (g13.nodes[1].ps.getD 1 0)) = [⟨4, -2, 7, 3⟩] by decide] at h1; exact h1) (by decide)
  exact ho.trans e1
theorem g13_nil {out : List Rt} (h : SprP g13 [] out) : out = [] := by
  obtain ⟨V, ho, hV⟩ := h
  have h0 := (hV 0 (by simp [g13])).1 rfl [] rfl
  have e0 : V 0 = [] := RegOf.is_nil h0
  have h1 := (hV 1 (by simp [g13])).2 rfl [] (by simp [insV, g13, e0])
  have e1 : V 1 = [] := RegOf.is_nil h1
  exact ho.trans e1
theorem g13_reach {out : Rt} (h : ReaP g13 ⟨0, 0, 1, 1⟩ out) : out = ⟨4, -2, 7, 3⟩ := by
  obtain ⟨L, hl, ho, hL⟩ := h
  have h0 := hL 0 (by simp [g13])
  have e0 : L.getD 0 Rt.zero = ⟨5, 0, 6, 1⟩ := by
    rw [h0]
    have : insT ⟨0, 0, 1, 1⟩ L [-1] = [⟨0, 0, 1, 1⟩] := by simp [insT]
    show reachP 1 [5, 0] (insT ⟨0, 0, 1, 1⟩ L [-1]) = _
    rw [this]
    decide
  have h1 := hL 1 (by simp [g13])
  have e1 : L.getD 1 Rt.zero = ⟨4, -2, 7, 3⟩ := by
    rw [h1]
    have : insT ⟨0, 0, 1, 1⟩ L [0] = [⟨5, 0, 6, 1⟩] := by simp only [insT, List.map_cons, List.map_nil]; rw [if_neg (by omega)]; simpa using e0
    show reachP 2 [1, 2] (insT ⟨0, 0, 1, 1⟩ L [0]) = _
    rw [this]
    decide
  exact ho.trans e1

abbrev g13w (w : World) (T1 T2 T3 : TypeId) : World := (((((w.alloc (.cells #[.int .i64 (-1)] T1)).alloc (.cells #[.int .i64 5, .int .i64 0] T1)).alloc (.cells #[.int .i64 0] T1)).alloc (.cells #[.int .i64 1, .int .i64 2] T1)).alloc (.cells #[.int .i64 1, .slice (some ⟨w.heap.size, 0, none⟩) 1 1, .slice (some ⟨w.heap.size + 1, 0, none⟩) 2 2, .int .i64 2, .slice (some ⟨w.heap.size + 1 + 1, 0, none⟩) 1 1, .slice (some ⟨w.heap.size + 1 + 1 + 1, 0, none⟩) 2 2] T2)).alloc (.cells #[.slice (some ⟨w.heap.size + 1 + 1 + 1 + 1, 0, none⟩) 2 2, .int .i64 1] T3)
theorem g13_gr (w : World) (T1 T2 T3 : TypeId) : GrV (g13w w T1 T2 T3) (.agg #[.slice (some ⟨w.heap.size + 1 + 1 + 1 + 1, 0, none⟩) 2 2, .int .i64 1]) g13 := by
  refine ⟨_, rfl, some ⟨w.heap.size + 1 + 1 + 1 + 1, 0, none⟩, 2, rfl, Nat.le_refl _, .inr ⟨_, _, rfl, by simp, fun j hj => ?_⟩⟩
  have : j = 0 ∨ j = 1 := by simp [g13] at hj; omega
  rcases this with rfl | rfl
  · refine ⟨.slice (some ⟨w.heap.size, 0, none⟩) 1 1, .slice (some ⟨w.heap.size + 1, 0, none⟩) 2 2, by simp [go_sem, g13], by simp [go_sem], by simp [go_sem], ?_, ?_⟩
    · refine ⟨_, _, rfl, Nat.le_refl _, .inr ⟨w.heap.size, 0, rfl, by simp; omega, fun k hk => ?_⟩⟩
      obtain rfl : k = 0 := by simp [g13] at hk; omega
      simp [go_sem, g13]
    · refine ⟨_, _, rfl, Nat.le_refl _, .inr ⟨w.heap.size + 1, 0, rfl, by simp, fun k hk => ?_⟩⟩
      have : k = 0 ∨ k = 1 := by simp [g13] at hk; omega
      rcases this with rfl | rfl <;> simp [go_sem, g13]
  · refine ⟨.slice (some ⟨w.heap.size + 1 + 1, 0, none⟩) 1 1, .slice (some ⟨w.heap.size + 1 + 1 + 1, 0, none⟩) 2 2, by simp [go_sem, g13], by simp [go_sem], by simp [go_sem], ?_, ?_⟩
    · refine ⟨_, _, rfl, Nat.le_refl _, .inr ⟨w.heap.size + 1 + 1, 0, rfl, by simp, fun k hk => ?_⟩⟩
      obtain rfl : k = 0 := by simp [g13] at hk; omega
      simp [go_sem, g13]
    · refine ⟨_, _, rfl, Nat.le_refl _, .inr ⟨w.heap.size + 1 + 1 + 1, 0, rfl, by simp, fun k hk => ?_⟩⟩
      have : k = 0 ∨ k = 1 := by simp [g13] at hk; omega
      rcases this with rfl | rfl <;> simp [go_sem, g13]
theorem g13_mod (w : World) (T1 T2 T3 : TypeId) : Gou.Mod (fun _ => False) w (g13w w T1 T2 T3) := (((((Gou.Mod.alloc0 _ _).trans' (Gou.Mod.alloc0 _ _)).trans' (Gou.Mod.alloc0 _ _)).trans' (Gou.Mod.alloc0 _ _)).trans' (Gou.Mod.alloc0 _ _)).trans' (Gou.Mod.alloc0 _ _)
theorem g13_box (w : World) (T1 T2 T3 : TypeId) : (g13w w T1 T2 T3).rangeAt (w.heap.size + 1 + 1 + 1 + 1 + 1) 0 [Value.slice (some ⟨w.heap.size + 1 + 1 + 1 + 1, 0, none⟩) 2 2, Value.int .i64 1] := fun j v hj => by
  have : j = 0 ∨ j = 1 := by have := (List.getElem?_eq_some_iff.1 hj).1; simp at this; omega
  rcases this with rfl | rfl <;> simp at hj <;> subst hj <;> simp [go_sem]

set_option maxHeartbeats 8000000 in
theorem awake13_any (w : World) : Calls Tryz.prog 4 #[] w fun e w' => e = .returned (.bool true) ∧ Gou.Mod (fun _ => False) w w' := by
  go_enter Tryz.func4, Tryz.ntmps4
  go_upto_region 2 with fail
  have HG := Lib.hid (g13_gr w 3 37 24)
  have HM := Lib.hid (g13_mod w 3 37 24)
  have q0 := g13_box w 3 37 24
  simp only [g13w] at HG HM q0
  generalize (((((w.alloc (.cells #[.int .i64 (-1)] 3)).alloc (.cells #[.int .i64 5, .int .i64 0] 3)).alloc (.cells #[.int .i64 0] 3)).alloc (.cells #[.int .i64 1, .int .i64 2] 3)).alloc (.cells #[.int .i64 1, .slice (some ⟨w.heap.size, 0, none⟩) 1 1, .slice (some ⟨w.heap.size + 1, 0, none⟩) 2 2, .int .i64 2, .slice (some ⟨w.heap.size + 1 + 1, 0, none⟩) 1 1, .slice (some ⟨w.heap.size + 1 + 1 + 1, 0, none⟩) 2 2] 37)).alloc (.cells #[.slice (some ⟨w.heap.size + 1 + 1 + 1 + 1, 0, none⟩) 2 2, .int .i64 1] 24) = W1 at *
  generalize w.heap.size + 1 + 1 + 1 + 1 + 1 = GB at *
  generalize w.heap.size + 1 + 1 + 1 + 1 = NB at *
  have HSA : Hid (∀ (w' : World) (q : Option Addr) (c : Nat), RtR (fun _ => True) w' (.slice q 1 c) [⟨0, 0, 1, 1⟩] → Gou.Mod (fun _ => False) W1 w' → Calls Tryz.prog 7 #[.agg #[.slice (some ⟨NB, 0, none⟩) 2 2, .int .i64 1], .slice q 1 c] w' (RgnP w' fun out => out = [⟨4, -2, 7, 3⟩])) :=
    Lib.hid (fun w' q c h hm => (spreadAll_any w' _ g13 q c [⟨0, 0, 1, 1⟩] [0, 1] [0, 1] (gr_low HG.out hm) g13_wf g13_taken (by simp [g13]) ⟨by simp, by simp, by decide, by decide⟩ h ⟨fun r hr => by rw [List.mem_singleton.1 hr]; decide, Edg.one (r := ⟨0, 0, 1, 1⟩), by simp⟩).mono fun e w'' hc => by
      obtain ⟨h1, v, o, rfl, hown, h2, _⟩ := hc
      exact ⟨h1, v, o, rfl, hown, g13_one h2⟩)
  have HSN : Hid (∀ (w' : World), Gou.Mod (fun _ => False) W1 w' → Calls Tryz.prog 7 #[.agg #[.slice (some ⟨NB, 0, none⟩) 2 2, .int .i64 1], .slice none 0 0] w' (RgnP w' fun out => out = [])) :=
    Lib.hid (fun w' hm => (spreadAll_any w' _ g13 none 0 [] [] [] (gr_low HG.out hm) g13_wf g13_taken (by simp [g13]) ⟨by simp, by simp, fun x h => (by cases h), fun x h => (by cases h)⟩ (RowG.nil _ _ _) (Rgn.nil _ _)).mono fun e w'' hc => by
      obtain ⟨h1, v, o, rfl, hown, h2, _⟩ := hc
      exact ⟨h1, v, o, rfl, hown, g13_nil h2⟩)
  have HRA : Hid (∀ (w' : World), Gou.Mod (fun _ => False) W1 w' → Calls Tryz.prog 10 #[.agg #[.slice (some ⟨NB, 0, none⟩) 2 2, .int .i64 1], rtV ⟨0, 0, 1, 1⟩] w' fun e w'' => e = .returned (rtV ⟨4, -2, 7, 3⟩) ∧ Gou.Mod (fun _ => False) w' w'') :=
    Lib.hid (fun w' hm => (reachAll_any w' _ g13 ⟨0, 0, 1, 1⟩ (gr_low HG.out hm) g13_wf g13_taken (by simp [g13]) (by simp [g13]) (by decide)).mono fun e w'' hc => by
      obtain ⟨h1, o, rfl, h2⟩ := hc
      exact ⟨by rw [g13_reach h2], h1⟩)

  refine wp_region_held_drew (S := fun w' => Gou.Mod (fun _ => False) W1 w') (by kernel_rfl) (Gou.Mod.drew _ _) (fun hHeld => ?_)
  refine tkR 0 (.agg #[.slice (some ⟨NB, 0, none⟩) 2 2, .int .i64 1]) q0 (fun h => h) Tryz.underlying24 size_graph hHeld (h := ?_)
  refine rd 1 (h := fun K hK => ?_)
  go_simp
  refine (of13_any 0 0 1 1 _).mono ?_
  rintro e w3 ⟨rfl, hb⟩
  have X3 := Lib.hid (Gou.Mod.of_below hb (fun _ => False))
  have M := Lib.hid (hHeld.trans' X3.out)
  clear hb hHeld
  refine hK _ _ M.out (fun hHeld => ?_)
  clear hK K M
  try simp only [Act.put, uSa, uSb, uSc]
  refine rd 2 (h := fun K hK => ?_)
  go_simp
  have HB2 := Lib.hid (RowG.of_blk (Blk.new w3 32 #[.int .i64 0, .int .i64 0, .int .i64 1, .int .i64 1]) 4 1 rfl (fun _ => True) trivial)
  have M2 := Lib.hid (hHeld.trans' (Gou.Mod.alloc0 w3 (.cells #[.int .i64 0, .int .i64 0, .int .i64 1, .int .i64 1] 32)))
  refine hK _ _ M2.out (fun hHeld => ?_)
  clear hK K
  try simp only [Act.put, uSa, uSb, uSc]
  refine rd 3 (h := fun K hK => ?_)
  go_simp
  refine (HSA.out _ _ _ HB2.out M2.out).mono ?_
  rintro e w4 ⟨hm, v4, o4, rfl, hown, rfl⟩
  have M := Lib.hid (hHeld.trans' hm)
  have O4 := Lib.hid (RowG.own_of hown (G := fun _ => True) (fun _ _ _ => trivial))
  obtain ⟨p4, c4, rfl⟩ := Gou.ownsRow_form hown
  clear hm hown hHeld
  refine hK _ _ M.out (fun hHeld => ?_)
  clear hK K M
  try simp only [Act.put, uSa, uSb, uSc]
  refine rd 4 (h := fun K hK => ?_)
  go_simp
  refine (of13_any 4 (-2) 7 3 _).mono ?_
  rintro e w5 ⟨rfl, hb⟩
  have X5 := Lib.hid (Gou.Mod.of_below hb (fun _ => False))
  have M := Lib.hid (hHeld.trans' X5.out)
  clear hb hHeld
  refine hK _ _ M.out (fun hHeld => ?_)
  clear hK K M
  try simp only [Act.put, uSa, uSb, uSc]
  refine rd 5 (h := fun K hK => ?_)
  go_simp
  have HB5 := Lib.hid (RowG.of_blk (Blk.new w5 32 #[.int .i64 4, .int .i64 (-2), .int .i64 7, .int .i64 3]) 4 1 rfl (fun _ => True) trivial)
  have M5 := Lib.hid (hHeld.trans' (Gou.Mod.alloc0 w5 (.cells #[.int .i64 4, .int .i64 (-2), .int .i64 7, .int .i64 3] 32)))
  refine hK _ _ M5.out (fun hHeld => ?_)
  clear hK K
  try simp only [Act.put, uSa, uSb, uSc]
  refine rd 6 (h := fun K hK => ?_)
  go_simp
  refine (refSame_any _ _ _ p4 _ c4 1 [⟨4, -2, 7, 3⟩] [⟨4, -2, 7, 3⟩] (O4.out.under (X5.out.trans' (Gou.Mod.alloc0 _ _))) HB5.out (by simp) (by simp)).mono ?_
  rintro e w6 ⟨rfl, hm⟩
  have M := Lib.hid (hHeld.trans' hm)
  clear hm hHeld
  rw [show decide (([⟨4, -2, 7, 3⟩] : List Rt) = [⟨4, -2, 7, 3⟩]) = true from by simp]
  refine hK _ _ M.out (fun hHeld => ?_)
  clear hK K M
  try simp only [Act.put, uSa, uSb, uSc]
  refine tk 7 (.bool true) hHeld (h := ?_)
  refine tkR 8 (.agg #[.slice (some ⟨NB, 0, none⟩) 2 2, .int .i64 1]) q0 (fun h => h) Tryz.underlying24 size_graph hHeld (h := ?_)
  refine rd 9 (h := fun K hK => ?_)
  go_simp
  refine (of13_any 0 0 1 1 _).mono ?_
  rintro e w7 ⟨rfl, hb⟩
  have X7 := Lib.hid (Gou.Mod.of_below hb (fun _ => False))
  have M := Lib.hid (hHeld.trans' X7.out)
  clear hb hHeld
  refine hK _ _ M.out (fun hHeld => ?_)
  clear hK K M
  try simp only [Act.put, uSa, uSb, uSc]
  refine rd 10 (h := fun K hK => ?_)
  go_simp
  refine (HRA.out _ hHeld).mono ?_
  rintro e w8 ⟨rfl, hm⟩
  have M := Lib.hid (hHeld.trans' hm)
  clear hm hHeld
  refine hK _ _ M.out (fun hHeld => ?_)
  clear hK K M
  try simp only [Act.put, uSa, uSb, uSc]
  refine rd 11 (h := fun K hK => ?_)
  go_simp
  refine (of13_any 4 (-2) 7 3 _).mono ?_
  rintro e w9 ⟨rfl, hb⟩
  have X9 := Lib.hid (Gou.Mod.of_below hb (fun _ => False))
  have M := Lib.hid (hHeld.trans' X9.out)
  clear hb hHeld
  refine hK _ _ M.out (fun hHeld => ?_)
  clear hK K M
  try simp only [Act.put, uSa, uSb, uSc]
  refine tk 12 (.bool true) hHeld (h := ?_)
  refine tk 13 (.bool true) hHeld (h := ?_)
  refine tk 14 (.bool true) hHeld (h := ?_)
  refine tkR 15 (.agg #[.slice (some ⟨NB, 0, none⟩) 2 2, .int .i64 1]) q0 (fun h => h) Tryz.underlying24 size_graph hHeld (h := ?_)
  refine rd 16 (h := fun K hK => ?_)
  go_simp
  refine (HSN.out _ hHeld).mono ?_
  rintro e w10 ⟨hm, v10, o10, rfl, hown, rfl⟩
  have M := Lib.hid (hHeld.trans' hm)
  obtain ⟨p10, c10, rfl⟩ := Gou.ownsRow_form hown
  clear hm hown hHeld
  refine hK _ _ M.out (fun hHeld => ?_)
  clear hK K M
  try simp only [Act.put, uSa, uSb, uSc]
  refine tk 17 (.int .i64 0) hHeld (h := ?_)
  refine tk 18 (.bool true) hHeld (h := ?_)
  refine tk 19 (.bool true) hHeld (h := ?_)
  refine tk 20 (.bool true) hHeld (h := ?_)
  have MS := Lib.hid hHeld
  refine wpAnyH_done (by kernel_rfl) ?_ _
  clear hHeld
  go_wp2_with fail
  go_ret
  exact ⟨rfl, HM.out.trans' MS.out⟩
end Go.Proofs.YtlpieeeeolfclaaGreatDoor

/- ForeKeeps: whatever filter and region are handed in, the law answers true. -/
namespace Go.Proofs.YtlpieeeeolfclaaGreatDoor
open Go.RowKit Go.Gou Go.Reg Go.Shelf
set_option maxRecDepth 100000
set_option linter.constructorNameAsVariable false

theorem cells_at {w : World} {B : Nat} {T : TypeId} {g n cap : Nat} {cs : List Value} (h : w.ownsRow B T 4 (.slice (some ⟨g, 0, none⟩) n cap) n cs) {i : Nat} (hi : i < n) :
    ∃ a b c d, w.cell? ⟨g, i * 4, none⟩ = some a ∧ w.cell? ⟨g, i * 4 + 1, none⟩ = some b ∧ w.cell? ⟨g, i * 4 + 2, none⟩ = some c ∧ w.cell? ⟨g, i * 4 + 3, none⟩ = some d := by
  have hl := h.1
  have h0 := h.cellAt (i * 4) (by omega)
  have h1 := h.cellAt (i * 4 + 1) (by omega)
  have h2 := h.cellAt (i * 4 + 2) (by omega)
  have h3 := h.cellAt (i * 4 + 3) (by omega)
  rw [List.getElem?_eq_getElem (by omega)] at h0 h1 h2 h3
  exact ⟨_, _, _, _, h0, h1, h2, h3⟩

set_option maxHeartbeats 8000000 in
theorem foreKeeps_law (w : World) (vg : Value) (g : Gr) (hg : GrV w vg g) (hwf : GrWf g) (va : Value) (a : List Rt) (ha : RtR (fun _ => True) w va a) (hwa : (∀ r ∈ a, RtWf r) ∧ a.length ≤ maxLen) (ht : Tabs w) :
    Calls Tryz.prog 3 #[vg, va] w fun e w' => e = .returned (.bool true) ∧ Gou.Mod (fun _ => False) w w' := by
  have Hg := Lib.hid hg
  have Hwf := Lib.hid hwf
  have Ha := Lib.hid ha
  have Hna := Lib.hid hwa.2
  have Ht := Lib.hid ht
  obtain ⟨p, cap, rfl⟩ := hg.form
  obtain ⟨pa, ca, rfl⟩ := ha.form
  clear hg hwf ha hwa ht
  have hm0 : Gou.Mod (fun _ => False) w (w.alloc (.cells #[.slice p g.nodes.length cap, .int .i64 g.out] 24)) := Gou.Mod.alloc0 _ _
  have hB0 := Blk.new w 24 #[.slice p g.nodes.length cap, .int .i64 g.out]
  have HB := Lib.hid hB0
  have Hm0 := Lib.hid hm0
  go_enter Tryz.func3, Tryz.ntmps3
  go_upto_region 1 with fail
  clear hm0 hB0
  generalize w.alloc (.cells #[.slice p g.nodes.length cap, .int .i64 g.out] 24) = W1 at *
  go_wp2_with fail
  refine (awake13_any W1).mono ?_
  rintro e w2 ⟨rfl, hm⟩
  have Hm2 := Lib.hid (Hm0.out.trans' hm)
  have HB2 := Lib.hid (HB.out.mod0 hm)
  clear hm
  obtain ⟨c0, c1⟩ : w2.cell? ⟨w.heap.size, 0, none⟩ = some (.slice p g.nodes.length cap) ∧ w2.cell? ⟨w.heap.size, 1, none⟩ = some (.int .i64 g.out) := ⟨HB2.out.cell 0 rfl, HB2.out.cell 1 rfl⟩
  go_wp2_with fail
  refine (right13_any w2 _ g (gr_low Hg.out Hm2.out) Hwf.out (Ht.out.below (Gou.Mod.below Hm2.out (Nat.le_refl _) (fun _ _ h => h)))).mono ?_
  rintro e w3 ⟨⟨q, rfl, hq⟩, hm⟩
  have Hm3 := Lib.hid (Hm2.out.trans' hm)
  have HB3 := Lib.hid (HB2.out.mod0 hm)
  have Hq := Lib.hid hq
  clear hm hq c0 c1
  have key : Hid (∀ w' : World, Gou.Mod (fun _ => False) w w' → Calls Tryz.prog 4 #[] w' fun e w'' => e = .returned (.bool true) ∧ Gou.Mod (fun _ => False) w w'') := Lib.hid (fun w' hm => (awake13_any w').mono fun e w'' h => ⟨h.1, hm.trans' h.2⟩)
  cases q with
  | false =>
    go_wp2_with fail
    refine (key.out _ Hm3.out).mono ?_
    rintro e w4 ⟨rfl, hm⟩
    have He := Lib.hid hm
    clear hm
    go_wp2_with fail
    go_ret
    exact ⟨rfl, He.out⟩
  | true =>
    go_wp2_with fail
    refine (region13_any w3 _ a (Ha.out.under Hm3.out) Hna.out).mono ?_
    rintro e w4 ⟨⟨q2, rfl, hq2⟩, hm⟩
    have Hm4 := Lib.hid (Hm3.out.trans' hm)
    have HB4 := Lib.hid (HB3.out.mod0 hm)
    have Hq2 := Lib.hid hq2
    clear hm hq2
    cases q2 with
    | false =>
      go_wp2_with fail
      refine (key.out _ Hm4.out).mono ?_
      rintro e w5 ⟨rfl, hm⟩
      have He := Lib.hid hm
      clear hm
      go_wp2_with fail
      go_ret
      exact ⟨rfl, He.out⟩
    | true =>
      obtain ⟨c0, c1⟩ : w4.cell? ⟨w.heap.size, 0, none⟩ = some (.slice p g.nodes.length cap) ∧ w4.cell? ⟨w.heap.size, 1, none⟩ = some (.int .i64 g.out) := ⟨HB4.out.cell 0 rfl, HB4.out.cell 1 rfl⟩
      by_cases h6 : g.nodes.length ≤ 6
      · have t1 : decide ((6 : Int) < (g.nodes.length : Int)) = false := decide_eq_false (by omega)
        have H6 := Lib.hid h6
        have Htk := Lib.hid (taken_of (Hq.out.1 (by trivial)).2)
        have Hr := Lib.hid (Hq2.out (by trivial))
        clear h6
        have HO := Lib.hid (own_none w4)
        have Hmw := Lib.hid (Hm4.out.trans' (Gou.Mod.alloc0 w4 (.cells #[] 32)))
        go_wp2_with (first | ((with_reducible show wpList _ _ _ (⟨_, Op.call ⟨.builtin .append, _, _⟩, _, _, _, _⟩ :: _) _ _); refine halt ?_) | fail)
        refine wpList_append_row T_reg rfl _ _ rfl w4.heap.size (.slice (some ⟨w4.heap.size, 0, none⟩) 0 0) 0 [] (fun _ => True) (.slice pa a.length ca) a.length (rts a) rfl rfl (by simp) HO.out (Ha.out.under Hmw.out) (rts_one a) (by have := Hr.out.1; unfold maxLen; omega) (by have := Hr.out.1; omega) ?_
        intro v5 w5 G5
        have hm5 : Gou.Mod (fun _ => False) w4 w5 := G5.mod0 (Gou.Mod.alloc0 w4 (.cells #[] 32)) (own_ge HO.out)
        have Hm5 := Lib.hid (Hm4.out.trans' hm5)
        have HB5 := Lib.hid (HB4.out.mod0 hm5)
        have Hwas : Hid (w5.ownsRow w4.heap.size 32 4 v5 a.length (rts a)) := Lib.hid (by have h := G5.own; simpa using h)
        clear G5 hm5 c0 c1 HO Hmw
        obtain ⟨pw, cw, rfl⟩ := Gou.ownsRow_form Hwas.out
        obtain ⟨c0, c1⟩ : w5.cell? ⟨w.heap.size, 0, none⟩ = some (.slice p g.nodes.length cap) ∧ w5.cell? ⟨w.heap.size, 1, none⟩ = some (.int .i64 g.out) := ⟨HB5.out.cell 0 rfl, HB5.out.cell 1 rfl⟩
        go_wp2_with fail
        obtain ⟨xs0, ys0, hgd, hrg⟩ := right_start Hr.out.2.2 (fun r hr => (Hr.out.2.1 r hr).2)
        refine (spreadAll_any w5 _ g pa ca a xs0 ys0 (gr_low Hg.out Hm5.out) Hwf.out Htk.out H6.out (hgd.mono (by have := Hr.out.1; omega)) (Ha.out.under Hm5.out) hrg).mono ?_
        rintro e w6 ⟨hm, vx, x, rfl, hown, -, hxl⟩
        have Hm6 := Lib.hid (Hm5.out.trans' hm)
        have Hwas6 := Lib.hid (RowG.own_of (own_up Hwas.out hm) (G := fun b => b < w5.heap.size) (fun b hb _ => (Hwas.out.lt b hb).2))
        have Hx := Lib.hid hown
        have Hxl := Lib.hid hxl
        have H56 := Lib.hid hm.size
        obtain ⟨px, cx, rfl⟩ := Gou.ownsRow_form hown
        clear hm hown hxl hgd hrg c0 c1
        generalize x.length = n at *
        go_wp2_with fail
        go_loopw [7] (fun vi wr => ∃ (i : Nat) (cs : List Value), vi = .int .i64 i ∧ i ≤ n ∧ wr.ownsRow w5.heap.size 32 4 (.slice px n cx) n cs ∧ Gou.Mod (fun k => (Value.slice px n cx).ownBlock = some k) w6 wr) (fun vi _ => n - (intOf vi).toNat)
        case atStart => exact ⟨0, _, rfl, Nat.zero_le _, Hx.out, Gou.Mod.refl _ _⟩
        case round =>
          obtain ⟨i, cs, rfl, hi, hown, hm⟩ := hrel
          have Hown := Lib.hid hown
          have Hm := Lib.hid hm
          clear hm
          have wi : IntKind.i64.wrap ((i : Int) + 1) = (i : Int) + 1 := wrap_id (by omega) (by have := Hxl.out; omega)
          by_cases hin : i < n
          · have t2 : decide ((i : Int) < (n : Int)) = true := decide_eq_true (by omega)
            obtain ⟨gx, rfl⟩ := own_some hown (by omega)
            obtain ⟨_, _, _, _, d0, d1, d2, d3⟩ := cells_at hown hin
            have f0 := hown.frozenAt (i * 4)
            have f1 := hown.frozenAt (i * 4 + 1)
            have f2 := hown.frozenAt (i * 4 + 2)
            have f3 := hown.frozenAt (i * 4 + 3)
            have hi1 : (i : Int) < (n : Int) := by omega
            have hi0 : (0 : Int) ≤ (i : Int) := by omega
            have Hset := Lib.hid (own_set (own_set (own_set (own_set hown (i * 4) (.int .i64 0)) (i * 4 + 1) (.int .i64 0)) (i * 4 + 2) (.int .i64 0)) (i * 4 + 3) (.int .i64 0))
            have Hmm : Hid (Gou.Mod (fun k => (Value.slice (some ⟨gx, 0, none⟩) n cx).ownBlock = some k) wr ((((wr.setCell ⟨gx, i * 4, none⟩ (.int .i64 0)).setCell ⟨gx, i * 4 + 1, none⟩ (.int .i64 0)).setCell ⟨gx, i * 4 + 2, none⟩ (.int .i64 0)).setCell ⟨gx, i * 4 + 3, none⟩ (.int .i64 0))) :=
              Lib.hid (((((Gou.Mod.setCell wr ⟨gx, i * 4, none⟩ (.int .i64 0)).trans' (Gou.Mod.setCell _ ⟨gx, i * 4 + 1, none⟩ (.int .i64 0))).trans' (Gou.Mod.setCell _ ⟨gx, i * 4 + 2, none⟩ (.int .i64 0))).trans' (Gou.Mod.setCell _ ⟨gx, i * 4 + 3, none⟩ (.int .i64 0))).imp (fun k _ h => by rw [h]; rfl))
            have Hin := Lib.hid (And.intro hi hin)
            clear hown
            go_wp2_with fail
            go_roundw
            case rel => exact ⟨i + 1, _, by go_num, by have := Hin.out; omega, Hset.out, Hm.out.trans' Hmm.out⟩
            case measure => have := Hin.out; simp [intOf, wi]; omega
          · have t2 : decide ((i : Int) < (n : Int)) = false := decide_eq_false (by omega)
            have Hlow : Hid (Gou.Mod (fun _ => False) w wr) := Lib.hid (Hm6.out.trans Hm.out (fun k hk h => by have := (Hx.out.lt k h).1; have := Hm5.out.size; omega))
            have HW : Hid (RtR (fun _ => True) wr (.slice pw a.length cw) a) := Lib.hid ((RtR.mod Hwas6.out Hm.out (fun b hb hb5 hs => by have := (Hx.out.lt b hs).1; omega)).imp (fun _ _ _ => trivial))
            clear hown
            go_wp2_with fail
            refine (refSame_any wr _ _ pa pw ca cw a a (Ha.out.under Hlow.out) HW.out (by have := Hr.out.1; omega) (by have := Hr.out.1; omega)).mono ?_
            rintro e w7 ⟨rfl, hm7⟩
            have He := Lib.hid (Hlow.out.trans' hm7)
            rw [show decide (a = a) = true from by simp]
            clear hm7
            go_wp2_with fail
            go_ret
            exact ⟨rfl, He.out⟩
      · have t1 : decide ((6 : Int) < (g.nodes.length : Int)) = true := decide_eq_true (by omega)
        clear h6
        go_wp2_with fail
        refine (key.out _ Hm4.out).mono ?_
        rintro e w5 ⟨rfl, hm⟩
        have He := Lib.hid hm
        clear hm
        go_wp2_with fail
        go_ret
        exact ⟨rfl, He.out⟩
end Go.Proofs.YtlpieeeeolfclaaGreatDoor

/- What comes in, opened: from the reading of an argument to the plain words on memory. -/
namespace Go.Gou
open Go.RowKit Go.ChangeShapes Go.WideShapes Go.Deep Go.Joins

section
variable {H : Type} {enc : TypeId × Value → H} {P : Program} {w : World} {base : Nat} {spare : Nat → Bool} {held : Bool}

/-- A slice of ints. -/
theorem open_ints_at {t e : TypeId} {fuel : Nat} {v : Value} {x : DataW H × List MemPlace} (ht : P.underlying t = some (.slice e)) (he : P.underlying e = some (.int .i64)) (hc : P.cellsOf e = 1)
    (h : DataW.trod enc P w base spare held fuel t [v] = some x) : ∃ xs, IntsAt w.heap.size w v xs ∧ (∀ y ∈ xs, (Lit.int .i64 y).wf = true) ∧ xs.length ≤ maxLen := by
  rcases open_slice1 ht hc h with ⟨hcs, _⟩ | ⟨a, len, cap, m, n, V, D, Pl, hcs, _, hl, hm, hmm, _, hi⟩
  · obtain rfl : v = .slice none 0 0 := by simpa using hcs
    exact ⟨[], ⟨none, 0, rfl, Nat.le_refl _, .inl rfl⟩, by simp, by simp⟩
  · obtain rfl : v = .slice (some a) len cap := by simpa using hcs
    have hlm : len ≤ m := by rw [hmm]; split <;> omega
    have hint : ∀ i, i < len → ∃ q : Int, V i = .int .i64 q ∧ (Lit.int .i64 q).wf = true := by
      intro i hil
      obtain ⟨_, ht'⟩ := hi i (by omega)
      obtain ⟨q, hq, _, hw⟩ := DataW.trod_int he ht'
      simp at hq
      exact ⟨q, hq, hw⟩
    obtain ⟨f, hf⟩ := choose_lt (p := fun i (q : Int) => V i = .int .i64 q ∧ (Lit.int .i64 q).wf = true) hint
    refine ⟨(List.range len).map f, ?_, ?_, by simp; omega⟩
    · by_cases h0 : len = 0
      · subst h0
        exact ⟨some a, cap, rfl, by simp, .inl rfl⟩
      · obtain ⟨b, o, sp⟩ := a
        have hsp : sp = none := by
          have := World.cell?_spot (hi 0 (by omega)).1
          simpa [Addr.add] using this
        subst hsp
        refine ⟨_, cap, by simp, by simpa using hl, .inr ⟨b, o, rfl, ?_, ?_⟩⟩
        · have := World.block_lt_of_cell? w _ (hi 0 (by omega)).1
          simpa [Addr.add] using this
        · intro i hil
          have hil' : i < len := by simpa using hil
          have h1 := (hi i (by omega)).1
          rw [add_plain] at h1
          rw [h1, (hf i hil').1]
          simp
    · intro y hy
      simp at hy
      obtain ⟨i, hil, rfl⟩ := hy
      exact (hf i hil).2

/-- What a node's fields are. -/
structure NodeT (P : Program) (e : TypeId) (fs : Array Field) (ti tn : TypeId) : Prop where
  ty : P.underlying e = some (.struct fs)
  one : oneCellFields P fs = true
  cells : P.cellsOf e = fs.size
  size : fs.size = 3
  f0 : ∃ f, fs[0]? = some f ∧ P.underlying f.type = some (.int .i64)
  f1 : ∃ f, fs[1]? = some f ∧ P.underlying f.type = some (.slice tn)
  f2 : ∃ f, fs[2]? = some f ∧ P.underlying f.type = some (.slice tn)
  tint : P.underlying tn = some (.int .i64)
  tc : P.cellsOf tn = 1

/-- A node's numbers are numbers of the machine. -/
structure NodeWf (n : GNode) : Prop where
  op : (Lit.int .i64 n.op).wf = true
  ins : ∀ x ∈ n.ins, (Lit.int .i64 x).wf = true
  ps : ∀ x ∈ n.ps, (Lit.int .i64 x).wf = true
  insl : n.ins.length ≤ maxLen
  psl : n.ps.length ≤ maxLen

instance : Inhabited GNode := ⟨⟨0, [], []⟩⟩

/-- A slice of nodes. -/
theorem open_nodes_at {t e ti tn : TypeId} {fs : Array Field} {fuel : Nat} {v : Value} {x : DataW H × List MemPlace} (N : NodeT P e fs ti tn) (ht : P.underlying t = some (.slice e))
    (h : DataW.trod enc P w base spare held fuel t [v] = some x) : ∃ ns, NodesAt w.heap.size w v ns ∧ (∀ n ∈ ns, NodeWf n) ∧ ns.length ≤ maxLen := by
  rcases open_slice_fields ht N.ty N.one N.cells h with ⟨hcs, _⟩ | ⟨a, len, cap, m, D, Pl, hcs, _, hl, hm, hmm, _, hi⟩
  · obtain rfl : v = .slice none 0 0 := by simpa using hcs
    exact ⟨[], ⟨none, 0, rfl, Nat.le_refl _, .inl rfl⟩, by simp, by simp⟩
  · obtain rfl : v = .slice (some a) len cap := by simpa using hcs
    have hlm : len ≤ m := by rw [hmm]; split <;> omega
    have hnode : ∀ i, i < len → ∃ n : GNode, NodeWf n ∧ ∃ vi vp, w.cell? (a.add (i * 3)) = some (.int .i64 n.op) ∧ w.cell? (a.add (i * 3 + 1)) = some vi ∧ w.cell? (a.add (i * 3 + 2)) = some vp ∧ IntsAt w.heap.size w vi n.ins ∧ IntsAt w.heap.size w vp n.ps := by
      intro i hil
      obtain ⟨ys, k, _, _, _, hf⟩ := hi i (by omega)
      rw [N.size] at hf
      obtain ⟨f0, h0, t0⟩ := N.f0
      obtain ⟨f1, h1, t1⟩ := N.f1
      obtain ⟨f2, h2, t2⟩ := N.f2
      obtain ⟨v0, y0, c0, _, r0⟩ := hf 0 f0 h0
      obtain ⟨v1, y1, c1, _, r1⟩ := hf 1 f1 h1
      obtain ⟨v2, y2, c2, _, r2⟩ := hf 2 f2 h2
      obtain ⟨q, hq, _, hw⟩ := DataW.trod_int t0 r0
      obtain rfl : v0 = .int .i64 q := by simpa using hq
      obtain ⟨ins, hi1, hw1, hl1⟩ := open_ints_at t1 N.tint N.tc r1
      obtain ⟨ps, hi2, hw2, hl2⟩ := open_ints_at t2 N.tint N.tc r2
      exact ⟨⟨q, ins, ps⟩, ⟨hw, hw1, hw2, hl1, hl2⟩, v1, v2, by simpa using c0, c1, c2, hi1, hi2⟩
    obtain ⟨f, hf⟩ := choose_lt (p := fun i (n : GNode) => NodeWf n ∧ ∃ vi vp, w.cell? (a.add (i * 3)) = some (.int .i64 n.op) ∧ w.cell? (a.add (i * 3 + 1)) = some vi ∧ w.cell? (a.add (i * 3 + 2)) = some vp ∧ IntsAt w.heap.size w vi n.ins ∧ IntsAt w.heap.size w vp n.ps) hnode
    refine ⟨(List.range len).map f, ?_, ?_, by simp; omega⟩
    · by_cases h0 : len = 0
      · subst h0
        exact ⟨some a, cap, rfl, by simp, .inl rfl⟩
      · obtain ⟨b, o, sp⟩ := a
        obtain ⟨_, _, _, hc0, _⟩ := hf 0 (by omega)
        have hsp : sp = none := by
          have := World.cell?_spot hc0
          simpa [Addr.add] using this
        subst hsp
        refine ⟨_, cap, by simp, by simpa using hl, .inr ⟨b, o, rfl, ?_, ?_⟩⟩
        · have := World.block_lt_of_cell? w _ hc0
          simpa [Addr.add] using this
        · intro i hil
          have hil' : i < len := by simpa using hil
          obtain ⟨_, vi, vp, k0, k1, k2, r1, r2⟩ := hf i hil'
          rw [add_plain] at k0 k1 k2
          refine ⟨vi, vp, ?_, by rw [Nat.add_assoc]; exact k1, by rw [Nat.add_assoc]; exact k2, by simpa using r1, by simpa using r2⟩
          rw [k0]
          simp
    · intro n hn
      simp at hn
      obtain ⟨i, hil, rfl⟩ := hn
      exact (hf i hil).1

end

end Go.Gou

/- The arguments of this seat's laws, opened. -/
namespace Go.Proofs.YtlpieeeeolfclaaGreatDoor
open Go.Reg Go.RowKit Go.Gou Go.ChangeShapes Go.WideShapes Go.Deep Go.Joins

theorem laidOut : laidOutB Tryz.prog = true := by kernel_rfl
theorem own : ownKnob Tryz.prog.godebug = none := by kernel_rfl
theorem cellsNode : Tryz.prog.cellsOf 37 = 3 := by kernel_rfl
theorem cellsGraph : Tryz.prog.cellsOf 24 = 2 := by kernel_rfl
theorem cellsInt : Tryz.prog.cellsOf 3 = 1 := by kernel_rfl

theorem nodeT : ∃ fs, NodeT Tryz.prog 37 fs 0 3 :=
  ⟨_, { ty := Tryz.underlying37, one := by kernel_rfl, cells := cellsNode, size := rfl, f0 := ⟨_, rfl, Tryz.underlying3⟩, f1 := ⟨_, rfl, Tryz.underlying35⟩, f2 := ⟨_, rfl, Tryz.underlying35⟩, tint := Tryz.underlying3, tc := cellsInt }⟩

theorem cellsRect : Tryz.prog.cellsOf 32 = 4 := by kernel_rfl

theorem rectT : ∃ fs, RectT Tryz.prog 32 fs :=
  ⟨_, { ty := Tryz.underlying32, one := by kernel_rfl, cells := cellsRect, size := rfl, ints := fun i hi => by
          match i, hi with
          | 0, _ => exact ⟨_, rfl, Tryz.underlying3⟩
          | 1, _ => exact ⟨_, rfl, Tryz.underlying3⟩
          | 2, _ => exact ⟨_, rfl, Tryz.underlying3⟩
          | 3, _ => exact ⟨_, rfl, Tryz.underlying3⟩ }⟩


set_option linter.constructorNameAsVariable false
set_option maxRecDepth 100000

section
variable {H : Type} {enc : TypeId × Value → H} {w : World} {base : Nat} {spare : Nat → Bool} {held : Bool} {r : Reach} {b0 : Nat} {v : Value} {d : DataW H} {p : List MemPlace}

theorem open_gr (hv : Value.okWide Tryz.prog w r b0 24 v) (h : DataW.Trod enc Tryz.prog w base spare held 24 v d p) : ∃ g, GrV w v g ∧ GrWf g := by
  obtain ⟨c0, c1, y0, y1, n0, rfl, _, _, hy0, hy1⟩ := open_agg2 Tryz.underlying24 (by kernel_rfl) cellsGraph hv h
  obtain ⟨fs, hN⟩ := nodeT
  obtain ⟨ns, hns, hwf, hl⟩ := open_nodes_at hN Tryz.underlying22 hy0
  obtain ⟨q, hq, _, hw⟩ := DataW.trod_int Tryz.underlying3 hy1
  obtain rfl : c1 = .int .i64 q := by simpa using hq
  exact ⟨⟨ns, q⟩, ⟨c0, rfl, hns⟩, ⟨fun n hn => (hwf n hn).op, fun n hn => (hwf n hn).ins, fun n hn => (hwf n hn).ps, hw, fun n hn => (hwf n hn).insl, fun n hn => (hwf n hn).psl, hl⟩⟩

theorem open_region (hv : Value.okWide Tryz.prog w r b0 26 v) (h : DataW.Trod enc Tryz.prog w base spare held 26 v d p) : ∃ l, RtR (fun _ => True) w v l ∧ ((∀ r ∈ l, RtWf r) ∧ l.length ≤ maxLen) := by
  obtain ⟨a, len, cap, rfl⟩ := okWide_slice Tryz.underlying26 hv
  obtain ⟨n, h⟩ := h
  have h : DataW.trod enc Tryz.prog w base spare held n 26 [.slice a len cap] = some (d, p) := h
  obtain ⟨fs, N⟩ := rectT
  obtain ⟨l, h1, h2, h3⟩ := open_rects_at N Tryz.underlying26 h
  exact ⟨l, h1, h2, h3⟩
end

end Go.Proofs.YtlpieeeeolfclaaGreatDoor

