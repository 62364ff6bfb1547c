/- Acts as bytes: the law's waking. -/
import Derived.Test.YtnamnmipgpcjjaaLawA
import Derived.Great.BuildSlice
namespace Go.Gou
open Go.RowKit

theorem actAt_end {bs : List Nat} {m : Nat} (h : ¬ m < bs.length) : actAt bs m = none := by
  unfold actAt rawAt
  rw [dif_neg h]
  rfl

theorem Reads.det {bs : List Nat} {xs ys : List Ac} {n m k : Nat} (h : Reads bs xs n m) (e : actAt bs m = none) (h2 : Reads bs ys n k) (e2 : actAt bs k = none) : xs = ys ∧ m = k := by
  induction xs generalizing n ys with
  | nil =>
    obtain rfl : n = m := h
    cases ys with
    | nil => exact ⟨rfl, h2⟩
    | cons y r => obtain ⟨q, hq, _⟩ := h2; rw [e] at hq; cases hq
  | cons x r ih =>
    obtain ⟨q, hq, h⟩ := h
    cases ys with
    | nil => obtain rfl : n = k := h2; rw [e2] at hq; cases hq
    | cons y s =>
      obtain ⟨q', hq', h2⟩ := h2
      rw [hq] at hq'
      simp only [Option.some.injEq, Prod.mk.injEq] at hq'
      obtain ⟨rfl, rfl⟩ := hq'
      obtain ⟨rfl, rfl⟩ := ih h h2
      exact ⟨rfl, rfl⟩

theorem BytesAt.lit {w : World} {B : Nat} {cs : Array Value} {T : TypeId} (bs : List Nat) (hcs : cs.toList = u8s bs) (hB : B = w.heap.size) (n : Nat) (hn : n = bs.length) : BytesAt (fun _ => True) (w.alloc (.cells cs T)) (.slice (some ⟨B, 0, none⟩) n n) bs := by
  subst hB hn
  refine ⟨_, _, rfl, Nat.le_refl _, .inr ⟨w.heap.size, 0, rfl, by simp, trivial, fun i hi => ?_⟩⟩
  rw [Nat.zero_add, cell_of_row (w.alloc (.cells cs T)) w.heap.size i cs T (0, 0) (heap_alloc_new w _), ← Array.getElem?_toList, hcs]
  simp [hi]

def acA : Ac := ⟨14, Opr.zero, 0, 0, Cf.zero⟩
def acB : Ac := ⟨12, Opr.zero, 2, 1, Cf.zero⟩
def acC : Ac := ⟨5, ⟨5, (1, 0), (0, 0), 0, { Lk.zero with dx := -1, dy := 64 }⟩, 0, 0, Cf.zero⟩

theorem encM_128 : encM 128 = [128, 1] := by
  rw [encM_ge (by decide), encM_lt (by decide)]
theorem put_acA : putOf acA = some [14] := by
  have h : encAct acA = some [14] := by simp [encAct, acA]
  unfold putOf
  rw [h]
  rfl
theorem put_acB : putOf acB = some [12, 4, 2] := by
  have h : encAct acB = some [12, 4, 2] := by simp [encAct, acB, encNums, encNum, zig, encM_lt]
  unfold putOf
  rw [h]
  rfl
theorem put_acC : putOf acC = some [5, 2, 0, 1, 128, 1] := by
  have h : encAct acC = some [5, 2, 0, 1, 128, 1] := by simp [encAct, acC, encOpr, encNums, encNum, zig, encM_lt, encM_128]
  unfold putOf
  rw [h]
  rfl

end Go.Gou
namespace Go.Proofs.Ytnamnmipgpcjjaa
open Go.RowKit Go.Gou

set_option linter.constructorNameAsVariable false

theorem put_lit (a : Ac) (bs : List Nat) (h : putOf a = some bs) (h1 : a.op.look.content.pix = []) (h2 : a.op.look.filt.nodes = []) (h3 : a.op.look.back.nodes = []) (h4 : a.op.look.content.px.Small) (w : World) :
    Calls Try.prog 11 #[.agg (actC a (.slice none 0 0) (.slice none 0 0) (.slice none 0 0))] w fun e w' => ∃ p c, e = .returned (.tuple #[.slice p bs.length c, .int .i64 0]) ∧ BytesAt (fun _ => True) w' (.slice p bs.length c) bs ∧ Gou.Mod (fun _ => False) w w' := by
  have e1 : a.op.look.content.pix.length = 0 := by rw [h1]; rfl
  have e2 : a.op.look.filt.nodes.length = 0 := by rw [h2]; rfl
  have e3 : a.op.look.back.nodes.length = 0 := by rw [h3]; rfl
  have k := put_any w none none none 0 0 0 a (by rw [e1, e2, e3]; exact LookR.nil _ w _ h1 h2 h3) ⟨by rw [e1]; omega, ⟨by rw [e2]; omega, by rw [h2]; simp⟩, ⟨by rw [e3]; omega, by rw [h3]; simp⟩⟩ ⟨h4, by rw [h1]; intro p hp; cases hp⟩
  rw [e1, e2, e3, h] at k
  refine k.mono ?_
  rintro e w' ⟨hm, v, rfl, hown⟩
  obtain ⟨p, c, rfl⟩ := Gou.ownsRow_form hown
  exact ⟨p, c, rfl, BytesAt.of_own hown, hm⟩

set_option maxRecDepth 100000 in
set_option maxHeartbeats 4000000 in
theorem awake_any (w : World) : Calls Try.prog 9 #[] w fun e w' => e = .returned (.bool true) ∧ Gou.Mod (fun _ => False) w w' := by
  go_enter Try.func9, Try.ntmps9
  go_wp2_with (first | ((with_reducible refine wpList_buildTo ?g1_1 41 ?p1_1 ?o1_1 (some 11) ?d1_1 (actC acA (.slice none 0 0) (.slice none 0 0) (.slice none 0 0)) ?f1_1 ?r1_1); (case g1_1 => exact rfl); (case o1_1 => exact rfl); (case d1_1 => exact rfl); (case f1_1 => kernel_rfl)) | fail)
  refine (put_lit acA _ put_acA rfl rfl rfl (by unfold Pxl.Small; decide) w).mono ?_
  rintro e w1 ⟨p1, c1, rfl, hb1, hm1⟩
  have Hb1 := Lib.hid hb1
  have Hm1 := Lib.hid hm1
  clear hb1 hm1
  go_wp2_with (first | ((with_reducible refine wpList_buildTo ?g1_2 41 ?p1_2 ?o1_2 (some 16) ?d1_2 (actC acB (.slice none 0 0) (.slice none 0 0) (.slice none 0 0)) ?f1_2 ?r1_2); (case g1_2 => exact rfl); (case o1_2 => exact rfl); (case d1_2 => exact rfl); (case f1_2 => kernel_rfl)) | fail)
  refine (put_lit acB _ put_acB rfl rfl rfl (by unfold Pxl.Small; decide) w1).mono ?_
  rintro e w2 ⟨p2, c2, rfl, hb2, hm2⟩
  have Hb1' := Lib.hid (Hb1.out.mod hm2 (fun _ _ _ h => h))
  have Hb2 := Lib.hid hb2
  have Hm2 := Lib.hid (Hm1.out.trans' hm2)
  clear hb2 hm2 Hb1 Hm1
  go_wp2_with (first | ((with_reducible refine wpList_buildTo ?g1_3 35 ?p1_3 ?o1_3 (some 22) ?d1_3 (lookC acC.op.look (.slice none 0 0) (.slice none 0 0) (.slice none 0 0)) ?f1_3 ?r1_3); (case g1_3 => exact rfl); (case o1_3 => exact rfl); (case d1_3 => exact rfl); (case f1_3 => kernel_rfl)) | ((with_reducible refine wpList_buildTo ?g1_4 37 ?p1_4 ?o1_4 (some 23) ?d1_4 (oprC acC.op (.slice none 0 0) (.slice none 0 0) (.slice none 0 0)) ?f1_4 ?r1_4); (case g1_4 => exact rfl); (case o1_4 => exact rfl); (case d1_4 => exact rfl); (case f1_4 => kernel_rfl)) | ((with_reducible refine wpList_buildTo ?g1_5 41 ?p1_5 ?o1_5 (some 24) ?d1_5 (actC acC (.slice none 0 0) (.slice none 0 0) (.slice none 0 0)) ?f1_5 ?r1_5); (case g1_5 => exact rfl); (case o1_5 => exact rfl); (case d1_5 => exact rfl); (case f1_5 => kernel_rfl)) | fail)
  refine (put_lit acC _ put_acC rfl rfl rfl (by unfold Pxl.Small; decide) w2).mono ?_
  rintro e w3 ⟨p3, c3, rfl, hb3, hm3⟩
  have Hb1 := Lib.hid (Hb1'.out.mod hm3 (fun _ _ _ h => h))
  have Hb2' := Lib.hid (Hb2.out.mod hm3 (fun _ _ _ h => h))
  have Hb3 := Lib.hid hb3
  have Hm3 := Lib.hid (Hm2.out.trans' hm3)
  clear hb3 hm3 Hb1' Hb2 Hm2
  go_wp2_with fail
  refine (get_any _ _ [14, 12, 4, 2, 15] (BytesAt.lit (B := w3.heap.size) _ rfl rfl 5 rfl) (by simp) (by simp)).mono ?_
  rintro e w4 ⟨xs, m, v, hr, hm, hend, rfl, hav, hm4⟩
  obtain ⟨rfl, rfl⟩ := Reads.det hr (by
    by_cases h : m < [14, 12, 4, 2, 15].length
    · exact hend h
    · exact actAt_end h) (show Reads [14, 12, 4, 2, 15] [acA, acB] 0 4 from ⟨1, rfl, 4, rfl, rfl⟩) rfl
  obtain ⟨cs, lo, hi, hown, hin, hap⟩ := hav
  have Hm4 := Lib.hid (Hm3.out.trans' ((Gou.Mod.alloc _ _ _).trans' hm4))
  have hm34 : Gou.Mod (fun _ => False) w3 w4 := (Gou.Mod.alloc _ _ _).trans' hm4
  have Hb1' := Lib.hid (Hb1.out.mod hm34 (fun _ _ _ h => h))
  have Hb2 := Lib.hid (Hb2'.out.mod hm34 (fun _ _ _ h => h))
  have Hb3' := Lib.hid (Hb3.out.mod hm34 (fun _ _ _ h => h))
  obtain ⟨pv, cv, rfl⟩ := Gou.ownsRow_form hown
  obtain ⟨g, rfl, hg, hcell⟩ : ∃ g, pv = some ⟨g, 0, none⟩ ∧ g < w4.heap.size ∧ w4.cell? ⟨g, 77, none⟩ = some (.int .i64 2) := by
    obtain ⟨vp, vf, vb, h1, _⟩ := hin.at_ 1 (by simp)
    have h2 := h1 35 (by omega)
    have hlt := hown.lt
    obtain ⟨hl, h⟩ := hown
    rcases h with ⟨_, h0⟩ | ⟨g, cap, cur, h, hg, hh, hn, _, _, ht⟩
    · simp at h0
    · simp only [Value.slice.injEq] at h
      obtain ⟨rfl, _, rfl⟩ := h
      refine ⟨g, rfl, (hlt g rfl).2, ?_⟩
      rw [cell_of_row w4 g 77 cur _ (0, 0) hh]
      have : cur.toList[77]? = cs[77]? := by rw [← ht, List.getElem?_take, if_pos (by simp)]
      rw [← Array.getElem?_toList, this]
      exact h2
  have Hcell := Lib.hid hcell
  clear hr hm hend hown hin hap hm4 hm34 hcell Hm3 Hb1 Hb2' Hb3
  have ei : (if 4 < [14, 12, 4, 2, 15].length then (2 : Int) else 0) = 2 := rfl
  rw [ei]
  clear ei
  go_wp2_with fail
  refine (sameB_any _ _ _ p1 (some ⟨w4.heap.size, 0, none⟩) c1 1 [14] [14] (Hb1'.out.mod (Gou.Mod.alloc (fun _ => False) _ _) (fun _ _ _ h => h)) (BytesAt.lit _ rfl rfl 1 rfl) (by simp) (by simp)).mono ?_
  rintro e w5 ⟨rfl, hm5⟩
  have hm45 : Gou.Mod (fun _ => False) w4 w5 := (Gou.Mod.alloc _ _ _).trans' hm5
  have Hm5 := Lib.hid (Hm4.out.trans' hm45)
  have Hb2' := Lib.hid (Hb2.out.mod hm45 (fun _ _ _ h => h))
  have Hb3 := Lib.hid (Hb3'.out.mod hm45 (fun _ _ _ h => h))
  have Hcell5 : Hid (w5.cell? ⟨g, 77, none⟩ = some (.int .i64 2)) := Lib.hid (by rw [hm45.cell (p := ⟨g, 77, none⟩) hg (fun h => h)]; exact Hcell.out)
  have hg5 := Nat.lt_of_lt_of_le hg hm45.size
  clear hm5 hm45 hg
  rw [show decide (([14] : List Nat) = [14]) = true from rfl]
  go_wp2_with fail
  refine (sameB_any _ _ _ p2 (some ⟨w5.heap.size, 0, none⟩) c2 3 [12, 4, 2] [12, 4, 2] (Hb2'.out.mod (Gou.Mod.alloc (fun _ => False) _ _) (fun _ _ _ h => h)) (BytesAt.lit _ rfl rfl 3 rfl) (by simp) (by simp)).mono ?_
  rintro e w6 ⟨rfl, hm6⟩
  have hm56 : Gou.Mod (fun _ => False) w5 w6 := (Gou.Mod.alloc _ _ _).trans' hm6
  have Hm6 := Lib.hid (Hm5.out.trans' hm56)
  have Hb3' := Lib.hid (Hb3.out.mod hm56 (fun _ _ _ h => h))
  have Hcell6 : Hid (w6.cell? ⟨g, 77, none⟩ = some (.int .i64 2)) := Lib.hid (by rw [hm56.cell (p := ⟨g, 77, none⟩) hg5 (fun h => h)]; exact Hcell5.out)
  have hg6 := Nat.lt_of_lt_of_le hg5 hm56.size
  clear hm6 hm56 hg5
  rw [show decide (([12, 4, 2] : List Nat) = [12, 4, 2]) = true from rfl]
  go_wp2_with fail
  refine (sameB_any _ _ _ p3 (some ⟨w6.heap.size, 0, none⟩) c3 6 [5, 2, 0, 1, 128, 1] [5, 2, 0, 1, 128, 1] (Hb3'.out.mod (Gou.Mod.alloc (fun _ => False) _ _) (fun _ _ _ h => h)) (BytesAt.lit _ rfl rfl 6 rfl) (by simp) (by simp)).mono ?_
  rintro e w7 ⟨rfl, hm7⟩
  have hm67 : Gou.Mod (fun _ => False) w6 w7 := (Gou.Mod.alloc _ _ _).trans' hm7
  have Hm7 := Lib.hid (Hm6.out.trans' hm67)
  have kc : w7.cell? ⟨g, 77, none⟩ = some (.int .i64 2) := by rw [hm67.cell (p := ⟨g, 77, none⟩) hg6 (fun h => h)]; exact Hcell6.out
  clear hm7 hm67 hg6
  rw [show decide (([5, 2, 0, 1, 128, 1] : List Nat) = [5, 2, 0, 1, 128, 1]) = true from rfl]
  go_wp2_with fail
  go_ret
  exact ⟨rfl, Hm7.out⟩

end Go.Proofs.Ytnamnmipgpcjjaa
