/- Texts of the codec's proofs, laid together: LawA, LawB, LawC, Open, ArgsA, ArgsB, ArgsC. -/
import Derived.Test.YtnamnmipgpcjjaaZh
import Derived.Great.BuildSlice
import Derived.Test.YtnamnmipgpcjjaaZa
import Derived.Deep.Slices
import Derived.Deep.Fields
import Derived.Deep.OwnShut
import Derived.Lib.SmallJoins
import Derived.ChangeSame
import Derived.ProofKit
import Derived.OpenShut
set_option linter.unusedSimpArgs false
set_option linter.unusedVariables false
set_option linter.unusedSectionVars false
set_option linter.constructorNameAsVariable false

/- Acts as bytes: two rows of bytes are held against each other. -/
namespace Go.Gou
open Go.RowKit

theorem BytesAt.celz {G : Nat → Prop} {w : World} {p : Option Addr} {c n : Nat} {bs : List Nat} (h : BytesAt G w (.slice p n c) bs) (h0 : 0 < bs.length) :
    n = bs.length ∧ ∃ b o, p = some ⟨b, o, none⟩ ∧ b < w.heap.size ∧ G b ∧ ∀ i, (h : i < bs.length) → w.cell? ⟨b, o + i, none⟩ = some (.int .u8 (bs[i] : Nat)) := by
  obtain ⟨p', c', e, hcap, h⟩ := h
  simp only [Value.slice.injEq] at e
  obtain ⟨rfl, rfl, rfl⟩ := e
  rcases h with rfl | h
  · simp at h0
  · exact ⟨rfl, h⟩

end Go.Gou
namespace Go.Proofs.Ytnamnmipgpcjjaa
open Go.RowKit Go.Gou

set_option maxRecDepth 100000 in
set_option maxHeartbeats 1000000 in
theorem sameB_any (w : World) (G1 G2 : Nat → Prop) (p1 p2 : Option Addr) (c1 c2 : Nat) (xs ys : List Nat) (hx : BytesAt G1 w (.slice p1 xs.length c1) xs) (hy : BytesAt G2 w (.slice p2 ys.length c2) ys) (hl : xs.length ≤ 1000000000) (hl2 : ys.length ≤ 1000000000) :
    Calls Try.prog 13 #[.slice p1 xs.length c1, .slice p2 ys.length c2] w fun e w' => e = .returned (.bool (decide (xs = ys))) ∧ Gou.Mod (fun _ => False) w w' := by
  have Hx := Lib.hid hx
  have Hy := Lib.hid hy
  clear hx hy
  go_enter Try.func13, Try.ntmps13
  by_cases hlen : xs.length = ys.length
  · have e1 : ((xs.length : Int) != (ys.length : Int)) = false := by simp [hlen]
    have Hlen := Lib.hid hlen
    clear hlen
    go_wp2_with fail
    go_loopw [5] (fun c wr => ∃ i : Nat, c = .int .i64 i ∧ i ≤ xs.length ∧ xs.take i = ys.take i ∧ Gou.Mod (fun _ => False) w wr) (fun c _ => xs.length - (intOf c).toNat)
    case atStart => exact ⟨0, rfl, by omega, by simp, Gou.Mod.refl _ _⟩
    case round =>
      obtain ⟨i, rfl, hi, ht, hm⟩ := hrel
      have Ht := Lib.hid ht
      have Hm := Lib.hid hm
      clear ht hm
      by_cases hil : i < xs.length
      · have e2 : decide ((i : Int) < (xs.length : Int)) = true := by simp; omega
        have hil2 : i < ys.length := by have := Hlen.out; omega
        obtain ⟨-, b1, o1, rfl, hb1, -, hc1⟩ := Hx.out.celz (by omega)
        obtain ⟨-, b2, o2, rfl, hb2, -, hc2⟩ := Hy.out.celz (by omega)
        have k1 := hc1 i hil
        have k2 := hc2 i hil2
        rw [← Hm.out.cell (p := ⟨b1, o1 + i, none⟩) hb1 (fun h => h)] at k1
        rw [← Hm.out.cell (p := ⟨b2, o2 + i, none⟩) hb2 (fun h => h)] at k2
        have hiI : (i : Int) < (xs.length : Int) := by omega
        have hiJ : (i : Int) < (ys.length : Int) := by omega
        have hi0I : (0 : Int) ≤ (i : Int) := by omega
        have Hne := Lib.hid (fun he => ne_of_get (i := i) hil hil2 he : xs[i] ≠ ys[i] → xs ≠ ys)
        have Heq := Lib.hid (fun he => take_eq_snoc hil hil2 Ht.out he : xs[i] = ys[i] → xs.take (i + 1) = ys.take (i + 1))
        clear hc1 hc2
        generalize xs[i] = x at *
        generalize ys[i] = y at *
        by_cases hxy : x = y
        · have e3 : ((x : Int) != (y : Int)) = false := by simp [hxy]
          have Hs := Lib.hid (Heq.out hxy)
          clear hxy
          go_wp2_with fail
          go_quiet (fail)
          go_wp2_with fail
          go_roundw
          case rel => exact ⟨i + 1, by go_num, by omega, Hs.out, Hm.out.trans' (Gou.Mod.drewN _ _ _)⟩
          case measure => simp [intOf]; omega
        · have e3 : ((x : Int) != (y : Int)) = true := by simp; omega
          have Hs := Lib.hid (Hne.out hxy)
          clear hxy
          go_wp2_with fail
          go_quiet (fail)
          go_wp2_with fail
          go_ret
          exact ⟨by simp [Hs.out], Hm.out.trans' (Gou.Mod.drewN _ _ _)⟩
      · obtain rfl : i = xs.length := by omega
        have e2 : decide ((xs.length : Int) < (xs.length : Int)) = false := by simp
        have Hs : Hid (xs = ys) := Lib.hid (by
          have h1 := Ht.out
          rw [List.take_length, Hlen.out, List.take_length] at h1
          exact h1)
        go_wp2_with fail
        go_ret
        exact ⟨by simp [Hs.out], Hm.out⟩
  · have e1 : ((xs.length : Int) != (ys.length : Int)) = true := by simp; omega
    have Hs : Hid (xs ≠ ys) := Lib.hid (fun h => hlen (by rw [h]))
    clear hlen
    go_wp2_with fail
    go_ret
    exact ⟨by simp [Hs.out], Gou.Mod.refl _ _⟩

end Go.Proofs.Ytnamnmipgpcjjaa

/- Acts as bytes: the law's waking. -/
namespace Go.Gou
open Go.RowKit

theorem actAt_end {bs : List Nat} {m : Nat} (h : ¬ m < bs.length) : actAt bs m = none := by
  unfold actAt rawAt
  rw [dif_neg h]
  rfl

theorem Reads.det {bs : List Nat} {xs ys : List Ac} {n m k : Nat} (h : Reads bs xs n m) (e : actAt bs m = none) (h2 : Reads bs ys n k) (e2 : actAt bs k = none) : xs = ys ∧ m = k := by
  induction xs generalizing n ys with
  | nil =>
    obtain rfl : n = m := h
    cases ys with
    | nil => exact ⟨rfl, h2⟩
    | cons y r => obtain ⟨q, hq, _⟩ := h2; rw [e] at hq; cases hq
  | cons x r ih =>
    obtain ⟨q, hq, h⟩ := h
    cases ys with
    | nil => obtain rfl : n = k := h2; rw [e2] at hq; cases hq
    | cons y s =>
      obtain ⟨q', hq', h2⟩ := h2
      rw [hq] at hq'
      simp only [Option.some.injEq, Prod.mk.injEq] at hq'
      obtain ⟨rfl, rfl⟩ := hq'
      obtain ⟨rfl, rfl⟩ := ih h h2
      exact ⟨rfl, rfl⟩

theorem BytesAt.lit {w : World} {B : Nat} {cs : Array Value} {T : TypeId} (bs : List Nat) (hcs : cs.toList = u8s bs) (hB : B = w.heap.size) (n : Nat) (hn : n = bs.length) : BytesAt (fun _ => True) (w.alloc (.cells cs T)) (.slice (some ⟨B, 0, none⟩) n n) bs := by
  subst hB hn
  refine ⟨_, _, rfl, Nat.le_refl _, .inr ⟨w.heap.size, 0, rfl, by simp, trivial, fun i hi => ?_⟩⟩
  rw [Nat.zero_add, cell_of_row (w.alloc (.cells cs T)) w.heap.size i cs T (0, 0) (heap_alloc_new w _), ← Array.getElem?_toList, hcs]
  simp [hi]

def acA : Ac := ⟨14, Opr.zero, 0, 0, Cf.zero⟩
def acB : Ac := ⟨12, Opr.zero, 2, 1, Cf.zero⟩
def acC : Ac := ⟨5, ⟨5, (1, 0), (0, 0), 0, { Lk.zero with dx := -1, dy := 64 }⟩, 0, 0, Cf.zero⟩

theorem encM_128 : encM 128 = [128, 1] := by
  rw [encM_ge (by decide), encM_lt (by decide)]
theorem put_acA : putOf acA = some [14] := by
  have h : encAct acA = some [14] := by simp [encAct, acA]
  unfold putOf
  rw [h]
  rfl
theorem put_acB : putOf acB = some [12, 4, 2] := by
  have h : encAct acB = some [12, 4, 2] := by simp [encAct, acB, encNums, encNum, zig, encM_lt]
  unfold putOf
  rw [h]
  rfl
theorem put_acC : putOf acC = some [5, 2, 0, 1, 128, 1] := by
  have h : encAct acC = some [5, 2, 0, 1, 128, 1] := by simp [encAct, acC, encOpr, encNums, encNum, zig, encM_lt, encM_128]
  unfold putOf
  rw [h]
  rfl

end Go.Gou
namespace Go.Proofs.Ytnamnmipgpcjjaa
open Go.RowKit Go.Gou

set_option linter.constructorNameAsVariable false

theorem put_lit (a : Ac) (bs : List Nat) (h : putOf a = some bs) (h1 : a.op.look.content.pix = []) (h2 : a.op.look.filt.nodes = []) (h3 : a.op.look.back.nodes = []) (h4 : a.op.look.content.px.Small) (w : World) :
    Calls Try.prog 11 #[.agg (actC a (.slice none 0 0) (.slice none 0 0) (.slice none 0 0))] w fun e w' => ∃ p c, e = .returned (.tuple #[.slice p bs.length c, .int .i64 0]) ∧ BytesAt (fun _ => True) w' (.slice p bs.length c) bs ∧ Gou.Mod (fun _ => False) w w' := by
  have e1 : a.op.look.content.pix.length = 0 := by rw [h1]; rfl
  have e2 : a.op.look.filt.nodes.length = 0 := by rw [h2]; rfl
  have e3 : a.op.look.back.nodes.length = 0 := by rw [h3]; rfl
  have k := put_any w none none none 0 0 0 a (by rw [e1, e2, e3]; exact LookR.nil _ w _ h1 h2 h3) ⟨by rw [e1]; omega, ⟨by rw [e2]; omega, by rw [h2]; simp⟩, ⟨by rw [e3]; omega, by rw [h3]; simp⟩⟩ ⟨h4, by rw [h1]; intro p hp; cases hp⟩
  unfold AcA at k
  rw [e1, e2, e3, h] at k
  refine k.mono ?_
  rintro e w' ⟨hm, v, rfl, hown⟩
  obtain ⟨p, c, rfl⟩ := Gou.ownsRow_form hown
  exact ⟨p, c, rfl, BytesAt.of_own hown, hm⟩

set_option maxRecDepth 100000 in
set_option maxHeartbeats 4000000 in
theorem awake_any (w : World) : Calls Try.prog 9 #[] w fun e w' => e = .returned (.bool true) ∧ Gou.Mod (fun _ => False) w w' := by
  go_enter Try.func9, Try.ntmps9
  go_wp2_with (first | ((with_reducible refine wpList_buildTo ?g_1 41 ?p_1 ?o_1 (some 11) ?d_1 (actC acA (.slice none 0 0) (.slice none 0 0) (.slice none 0 0)) ?f_1 ?r_1); (case g_1 | o_1 | d_1 => exact rfl); (case f_1 => kernel_rfl)) | fail)
  refine (put_lit acA _ put_acA rfl rfl rfl (by unfold Pxl.Small; decide) w).mono ?_
  rintro e w1 ⟨p1, c1, rfl, hb1, hm1⟩
  have Hb1 := Lib.hid hb1
  have Hm1 := Lib.hid hm1
  clear hb1 hm1
  go_wp2_with (first | ((with_reducible refine wpList_buildTo ?g_2 41 ?p_2 ?o_2 (some 16) ?d_2 (actC acB (.slice none 0 0) (.slice none 0 0) (.slice none 0 0)) ?f_2 ?r_2); (case g_2 | o_2 | d_2 => exact rfl); (case f_2 => kernel_rfl)) | fail)
  refine (put_lit acB _ put_acB rfl rfl rfl (by unfold Pxl.Small; decide) w1).mono ?_
  rintro e w2 ⟨p2, c2, rfl, hb2, hm2⟩
  have Hb1' := Lib.hid (Hb1.out.mod hm2 (fun _ _ _ h => h))
  have Hb2 := Lib.hid hb2
  have Hm2 := Lib.hid (Hm1.out.trans' hm2)
  clear hb2 hm2 Hb1 Hm1
  go_wp2_with (first | ((with_reducible refine wpList_buildTo ?g_3 35 ?p_3 ?o_3 (some 22) ?d_3 (lookC acC.op.look (.slice none 0 0) (.slice none 0 0) (.slice none 0 0)) ?f_3 ?r_3); (case g_3 | o_3 | d_3 => exact rfl); (case f_3 => kernel_rfl)) | ((with_reducible refine wpList_buildTo ?g_4 37 ?p_4 ?o_4 (some 23) ?d_4 (oprC acC.op (.slice none 0 0) (.slice none 0 0) (.slice none 0 0)) ?f_4 ?r_4); (case g_4 | o_4 | d_4 => exact rfl); (case f_4 => kernel_rfl)) | ((with_reducible refine wpList_buildTo ?g_5 41 ?p_5 ?o_5 (some 24) ?d_5 (actC acC (.slice none 0 0) (.slice none 0 0) (.slice none 0 0)) ?f_5 ?r_5); (case g_5 | o_5 | d_5 => exact rfl); (case f_5 => kernel_rfl)) | fail)
  refine (put_lit acC _ put_acC rfl rfl rfl (by unfold Pxl.Small; decide) w2).mono ?_
  rintro e w3 ⟨p3, c3, rfl, hb3, hm3⟩
  have Hb1 := Lib.hid (Hb1'.out.mod hm3 (fun _ _ _ h => h))
  have Hb2' := Lib.hid (Hb2.out.mod hm3 (fun _ _ _ h => h))
  have Hb3 := Lib.hid hb3
  have Hm3 := Lib.hid (Hm2.out.trans' hm3)
  clear hb3 hm3 Hb1' Hb2 Hm2
  go_wp2_with fail
  refine (get_any _ _ [14, 12, 4, 2, 15] (BytesAt.lit (B := w3.heap.size) _ rfl rfl 5 rfl) (by simp) (by simp)).mono ?_
  rintro e w4 ⟨xs, m, v, hr, hm, hend, rfl, hav, hm4⟩
  obtain ⟨rfl, rfl⟩ := Reads.det hr (by
    by_cases h : m < [14, 12, 4, 2, 15].length
    · exact hend h
    · exact actAt_end h) (show Reads [14, 12, 4, 2, 15] [acA, acB] 0 4 from ⟨1, rfl, 4, rfl, rfl⟩) rfl
  obtain ⟨cs, lo, hi, hown, hin, hap⟩ := hav
  have Hm4 := Lib.hid (Hm3.out.trans' ((Gou.Mod.alloc _ _ _).trans' hm4))
  have hm34 : Gou.Mod (fun _ => False) w3 w4 := (Gou.Mod.alloc _ _ _).trans' hm4
  have Hb1' := Lib.hid (Hb1.out.mod hm34 (fun _ _ _ h => h))
  have Hb2 := Lib.hid (Hb2'.out.mod hm34 (fun _ _ _ h => h))
  have Hb3' := Lib.hid (Hb3.out.mod hm34 (fun _ _ _ h => h))
  obtain ⟨pv, cv, rfl⟩ := Gou.ownsRow_form hown
  obtain ⟨g, rfl, hg, hcell⟩ : ∃ g, pv = some ⟨g, 0, none⟩ ∧ g < w4.heap.size ∧ w4.cell? ⟨g, 77, none⟩ = some (.int .i64 2) := by
    obtain ⟨vp, vf, vb, h1, _⟩ := hin.at_ 1 (by simp)
    have h2 := h1 35 (by omega)
    have hlt := hown.lt
    obtain ⟨hl, h⟩ := hown
    rcases h with ⟨_, h0⟩ | ⟨g, cap, cur, h, hg, hh, hn, _, _, ht⟩
    · simp at h0
    · simp only [Value.slice.injEq] at h
      obtain ⟨rfl, _, rfl⟩ := h
      refine ⟨g, rfl, (hlt g rfl).2, ?_⟩
      rw [cell_of_row w4 g 77 cur _ (0, 0) hh]
      have : cur.toList[77]? = cs[77]? := by rw [← ht, List.getElem?_take, if_pos (by simp)]
      rw [← Array.getElem?_toList, this]
      exact h2
  have Hcell := Lib.hid hcell
  clear hr hm hend hown hin hap hm4 hm34 hcell Hm3 Hb1 Hb2' Hb3
  have ei : (if 4 < [14, 12, 4, 2, 15].length then (2 : Int) else 0) = 2 := rfl
  rw [ei]
  clear ei
  go_wp2_with fail
  refine (sameB_any _ _ _ p1 (some ⟨w4.heap.size, 0, none⟩) c1 1 [14] [14] (Hb1'.out.mod (Gou.Mod.alloc (fun _ => False) _ _) (fun _ _ _ h => h)) (BytesAt.lit _ rfl rfl 1 rfl) (by simp) (by simp)).mono ?_
  rintro e w5 ⟨rfl, hm5⟩
  have hm45 : Gou.Mod (fun _ => False) w4 w5 := (Gou.Mod.alloc _ _ _).trans' hm5
  have Hm5 := Lib.hid (Hm4.out.trans' hm45)
  have Hb2' := Lib.hid (Hb2.out.mod hm45 (fun _ _ _ h => h))
  have Hb3 := Lib.hid (Hb3'.out.mod hm45 (fun _ _ _ h => h))
  have Hcell5 : Hid (w5.cell? ⟨g, 77, none⟩ = some (.int .i64 2)) := Lib.hid (by rw [hm45.cell (p := ⟨g, 77, none⟩) hg (fun h => h)]; exact Hcell.out)
  have hg5 := Nat.lt_of_lt_of_le hg hm45.size
  clear hm5 hm45 hg
  rw [show decide (([14] : List Nat) = [14]) = true from rfl]
  go_wp2_with fail
  refine (sameB_any _ _ _ p2 (some ⟨w5.heap.size, 0, none⟩) c2 3 [12, 4, 2] [12, 4, 2] (Hb2'.out.mod (Gou.Mod.alloc (fun _ => False) _ _) (fun _ _ _ h => h)) (BytesAt.lit _ rfl rfl 3 rfl) (by simp) (by simp)).mono ?_
  rintro e w6 ⟨rfl, hm6⟩
  have hm56 : Gou.Mod (fun _ => False) w5 w6 := (Gou.Mod.alloc _ _ _).trans' hm6
  have Hm6 := Lib.hid (Hm5.out.trans' hm56)
  have Hb3' := Lib.hid (Hb3.out.mod hm56 (fun _ _ _ h => h))
  have Hcell6 : Hid (w6.cell? ⟨g, 77, none⟩ = some (.int .i64 2)) := Lib.hid (by rw [hm56.cell (p := ⟨g, 77, none⟩) hg5 (fun h => h)]; exact Hcell5.out)
  have hg6 := Nat.lt_of_lt_of_le hg5 hm56.size
  clear hm6 hm56 hg5
  rw [show decide (([12, 4, 2] : List Nat) = [12, 4, 2]) = true from rfl]
  go_wp2_with fail
  refine (sameB_any _ _ _ p3 (some ⟨w6.heap.size, 0, none⟩) c3 6 [5, 2, 0, 1, 128, 1] [5, 2, 0, 1, 128, 1] (Hb3'.out.mod (Gou.Mod.alloc (fun _ => False) _ _) (fun _ _ _ h => h)) (BytesAt.lit _ rfl rfl 6 rfl) (by simp) (by simp)).mono ?_
  rintro e w7 ⟨rfl, hm7⟩
  have hm67 : Gou.Mod (fun _ => False) w6 w7 := (Gou.Mod.alloc _ _ _).trans' hm7
  have Hm7 := Lib.hid (Hm6.out.trans' hm67)
  have kc : w7.cell? ⟨g, 77, none⟩ = some (.int .i64 2) := by rw [hm67.cell (p := ⟨g, 77, none⟩) hg6 (fun h => h)]; exact Hcell6.out
  clear hm7 hm67 hg6
  rw [show decide (([5, 2, 0, 1, 128, 1] : List Nat) = [5, 2, 0, 1, 128, 1]) = true from rfl]
  go_wp2_with fail
  go_ret
  exact ⟨rfl, Hm7.out⟩

end Go.Proofs.Ytnamnmipgpcjjaa

/- Acts as bytes: rows of bytes are appended; acts are overwritten. -/
namespace Go.Gou
open Go.RowKit

/-- Only a content has pixels, and it has no filter. -/
theorem actG_alone {a : Ac} {es : List Nat} (h : actG a es) : a.op.look.content.pix = [] ∨ (a.op.look.filt.nodes = [] ∧ a.op.look.back.nodes = []) := by
  obtain ⟨b, _, _, ⟨hb, rfl⟩, h, rfl⟩ := h
  have z : Opr.zero.look.content.pix = [] := rfl
  have zl : Lk.zero.content.pix = [] := rfl
  rcases h with ⟨hr, h⟩ | ⟨_, h⟩
  · rcases h with ⟨rfl, x, e1, _, h1, ⟨y, e2, _, h2, ⟨rfl, rfl⟩, rfl⟩, rfl⟩ | ⟨h12, h⟩
    · exact .inl z
    rcases h with ⟨rfl, c, e1, _, h1, ⟨rfl, rfl⟩, rfl⟩ | ⟨h13, h⟩
    · exact .inl z
    rcases h with ⟨rfl, ⟨rfl, rfl⟩⟩ | ⟨h14, h⟩
    · exact .inl z
    obtain ⟨o, e1, _, h1, ⟨rfl, rfl⟩, rfl⟩ := h
    obtain ⟨i, a, _, hi, ⟨t, e2, _, ht, ⟨at_, e3, _, ha, ⟨l, e4, _, hl, ⟨rfl, rfl⟩, rfl⟩, rfl⟩, rfl⟩, rfl⟩ := h1
    show l.content.pix = [] ∨ (l.filt.nodes = [] ∧ l.back.nodes = [])
    clear hi ht ha
    generalize (b : Int) = k at *
    rcases hl with ⟨rfl, x, e1, _, h1, ⟨y, e2, _, h2, ⟨rfl, rfl⟩, rfl⟩, rfl⟩ | ⟨h5, h⟩
    · exact .inl zl
    rcases h with ⟨rfl, f, e1, _, h1, h, rfl⟩ | ⟨h6, h⟩
    · rcases h with ⟨rfl, b, e2, _, h2, ⟨rfl, rfl⟩, rfl⟩ | ⟨hf, ⟨rfl, rfl⟩⟩ <;> exact .inl zl
    rcases h with ⟨rfl, x, e1, _, h1, ⟨rfl, rfl⟩, rfl⟩ | ⟨h7, h⟩
    · exact .inl zl
    rcases h with ⟨rfl, x, e1, _, h1, ⟨rfl, rfl⟩, rfl⟩ | ⟨h8, h⟩
    · exact .inl zl
    rcases h with ⟨rfl, c, e1, _, h1, ⟨rfl, rfl⟩, rfl⟩ | ⟨h9, h⟩
    · exact .inr ⟨rfl, rfl⟩
    rcases h with ⟨rfl, f, e1, _, h1, h, rfl⟩ | ⟨h10, h⟩
    · rcases h with ⟨rfl, b, e2, _, h2, ⟨rfl, rfl⟩, rfl⟩ | ⟨hf, ⟨rfl, rfl⟩⟩ <;> exact .inl zl
    rcases h with ⟨rfl, f, e1, _, h1, h, rfl⟩ | ⟨h11, h⟩
    · rcases h with ⟨rfl, b, e2, _, h2, ⟨rfl, rfl⟩, rfl⟩ | ⟨hf, ⟨rfl, rfl⟩⟩ <;> exact .inl zl
    obtain ⟨rfl, rfl⟩ := h
    exact .inl zl
  · exact h.elim

theorem setMany_get (cs : Array Value) (o : Nat) (vs : List Value) (h : o + vs.length ≤ cs.size) (j : Nat) : (setMany cs o vs)[j]? = if o ≤ j ∧ j < o + vs.length then vs[j - o]? else cs[j]? := by
  induction vs generalizing cs o with
  | nil =>
    rw [setMany, if_neg (by simp)]
  | cons v r ih =>
    simp only [List.length_cons] at h
    rw [setMany, ih (cs.setIfInBounds o v) (o + 1) (by simp; omega)]
    by_cases h1 : j = o
    · subst h1
      rw [if_neg (by omega), if_pos (by simp)]
      simp [Array.getElem?_setIfInBounds]
      omega
    · by_cases h2 : o + 1 ≤ j ∧ j < o + 1 + r.length
      · rw [if_pos h2, if_pos (by simp; omega)]
        have : j - o = (j - (o + 1)) + 1 := by omega
        rw [this, List.getElem?_cons_succ]
      · rw [if_neg h2, if_neg (by simp; omega), Array.getElem?_setIfInBounds, if_neg (fun h => h1 h.symm)]

theorem pxs_len (ps : List Pxl) : (pxs ps).length = 4 * ps.length := by
  induction ps with
  | nil => rfl
  | cons p r ih => simp only [pxs, List.flatMap_cons, List.length_append] at ih ⊢; rw [ih]; simp [Pxl.cells]; omega
theorem pxs_set_get (ps : List Pxl) (k : Nat) (p : Pxl) (h : k < ps.length) (j : Nat) : (pxs (ps.set k p))[j]? = if k * 4 ≤ j ∧ j < k * 4 + 4 then p.cells[j - k * 4]? else (pxs ps)[j]? := by
  induction ps generalizing k j with
  | nil => simp at h
  | cons q r ih =>
    cases k with
    | zero =>
      simp only [List.set_cons_zero, pxs, List.flatMap_cons, Nat.zero_mul, Nat.zero_le, true_and, Nat.zero_add, Nat.sub_zero]
      by_cases hj : j < 4
      · rw [if_pos hj, List.getElem?_append_left (by simpa [Pxl.cells] using hj)]
      · rw [if_neg hj, List.getElem?_append_right (by simp [Pxl.cells]; omega), List.getElem?_append_right (by simp [Pxl.cells]; omega)]
        rfl
    | succ k =>
      simp only [List.length_cons] at h
      simp only [List.set_cons_succ, pxs, List.flatMap_cons]
      by_cases hj : j < 4
      · rw [if_neg (by omega), List.getElem?_append_left (by simpa [Pxl.cells] using hj), List.getElem?_append_left (by simpa [Pxl.cells] using hj)]
      · have hq : q.cells.length = 4 := rfl
        rw [List.getElem?_append_right (by omega), List.getElem?_append_right (by omega), hq]
        have := ih k (by omega) (j - 4)
        simp only [pxs] at this
        rw [this]
        by_cases hc : k * 4 ≤ j - 4 ∧ j - 4 < k * 4 + 4
        · rw [if_pos hc, if_pos (by omega)]
          congr 1
          omega
        · rw [if_neg hc, if_neg (by omega)]

/-- A pixel of a row is overwritten. -/
theorem PixR.put {G : Nat → Prop} {w : World} {b o n cap : Nat} {ps : List Pxl} (h : PixR G w (.slice (some ⟨b, o, none⟩) n cap) ps) {cur : Array Value} {T : TypeId} (hb : w.heap[b]? = some (.cells cur T (0, 0))) {k : Nat} (hk : k < ps.length) (p : Pxl) :
    o + k * 4 + 4 ≤ cur.size ∧ PixR G (w.setCells b (o + k * 4) p.cells) (.slice (some ⟨b, o, none⟩) n cap) (ps.set k p) := by
  obtain ⟨hl, p', cap', e, hcap, h⟩ := h
  simp only [Value.slice.injEq] at e
  obtain ⟨rfl, rfl, rfl⟩ := e
  rcases h with h | ⟨b', o', e, hlt, hG, hc⟩
  · omega
  · simp only [Option.some.injEq, Addr.mk.injEq] at e
    obtain ⟨rfl, rfl, _⟩ := e
    have hsz : o + k * 4 + 4 ≤ cur.size := by
      have h3 := hc (k * 4 + 3) _ (pxs_get ps k hk).2.2.2
      rw [cell_of_row w b _ cur T (0, 0) hb] at h3
      have := (Array.getElem?_eq_some_iff.1 h3).1
      omega
    refine ⟨hsz, ⟨?_, some ⟨b, o, none⟩, cap, by simp, by simpa using hcap, .inr ⟨b, o, rfl, ?_, hG, fun j u hu => ?_⟩⟩⟩
    · rw [pxs_len, List.length_set]; omega
    · rw [size_setCells]; exact hlt
    · have hb2 := Blk.sets hb (o + k * 4) p.cells
      rw [cell_of_row _ b (o + j) _ T (0, 0) hb2, setMany_get _ _ _ (by simpa [Pxl.cells] using hsz)]
      rw [pxs_set_get ps k p hk j] at hu
      have hpl : p.cells.length = 4 := rfl
      rw [hpl]
      by_cases hj : k * 4 ≤ j ∧ j < k * 4 + 4
      · rw [if_pos hj] at hu
        rw [if_pos (by omega), ← hu]
        congr 1
        omega
      · rw [if_neg hj] at hu
        rw [if_neg (by omega)]
        have := hc j u hu
        rw [cell_of_row w b _ cur T (0, 0) hb] at this
        exact this

/-- What the law turns: the blocks of the acts so far, and what is new. -/
def Touched (lo hi : Nat → Nat) (i h : Nat) (k : Nat) : Prop := (∃ j, j < i ∧ lo j ≤ k ∧ k < hi j) ∨ h ≤ k

end Go.Gou
namespace Go.Proofs.Ytnamnmipgpcjjaa
open Go.RowKit Go.Gou

theorem run_none' (t ty e : TypeId) (i : TypeInfo) (ht : Try.prog.underlying t = some (.slice e)) (hi : Try.prog.info? e = some i) (w : World) (p : Option Addr) (n cap c : Nat) (hnc : n ≤ cap) :
    (Builtin.append_ #[t, t] ty #[.slice p n cap, .slice none 0 c]).run Try.prog w = .ok (.slice p n cap) w := by
  cases p <;> simp [Builtin.append_, run_underlying ht, sizeOf, typeInfo, hi, Builtin.lenOf, Builtin.firstCells, hnc, storeCells]

/-- 'append(xs, ys...)' of bytes. -/
theorem wpList_append_bytes {ops : Array Oper} {rest : List Oper} {o : Oper} {a : Act} {w : World} {Q : Exit → Act → World → Prop} (hgd : o.guard = none) (s x : Operand) (hop : o.op = .call { callee := .builtin .append, args := #[s, x], argTypes := #[44, 44] })
    (B : Nat) (v : Value) (xs ys : List Nat) (G : Nat → Prop) (u : Value) (hs : a.eval s = v) (hx : a.eval x = u) (hB : B ≤ w.heap.size) (hown : w.ownsRow B 5 1 v xs.length (u8s xs)) (hy : BytesAt G w u ys) (hn : xs.length + ys.length ≤ 1000000000)
    (h : ∀ v' w1, w1.ownsRow B 5 1 v' (xs ++ ys).length (u8s (xs ++ ys)) → Gou.Mod (fun k => v.ownBlock = some k) w w1 → (∀ g, v'.ownBlock = some g → v.ownBlock = some g ∨ w.heap.size ≤ g) → wpList Try.prog ops Q rest (a.put o.dst v') w1) :
    wpList Try.prog ops Q (o :: rest) a w := by
  obtain ⟨i0, hi0, hz0, hz1, hz2⟩ := info_parts info_u8
  have hrun : ∃ v' w1, (Builtin.append_ #[44, 44] o.type #[v, u]).run Try.prog w = .ok v' w1 ∧ w1.ownsRow B 5 1 v' (xs ++ ys).length (u8s (xs ++ ys)) ∧ Gou.Mod (fun k => v.ownBlock = some k) w w1 ∧ (∀ g, v'.ownBlock = some g → v.ownBlock = some g ∨ w.heap.size ≤ g) := by
    obtain ⟨p, cap, rfl, hcap, hc⟩ := hy
    cases p with
    | none =>
      have h0 : ys = [] := by
        rcases hc with hc | ⟨b, o, h, _⟩
        · exact hc
        · cases h
      subst h0
      have hv : ∃ p n c, v = .slice p n c ∧ n ≤ c := by
        rcases hown.2 with ⟨h, _⟩ | ⟨g, c, cur, h, _, _, hn, _⟩
        · exact ⟨none, 0, 0, h, Nat.le_refl _⟩
        · exact ⟨_, _, c, h, hn⟩
      obtain ⟨p, n, c, rfl, hnc⟩ := hv
      exact ⟨_, w, run_none' _ _ _ i0 Try.underlying44 hi0 w p n c cap hnc, by simpa using hown, Gou.Mod.refl _ _, fun g hg => .inl hg⟩
    | some ad =>
      obtain ⟨v', w', hr, h2, h3, h4, h5⟩ := run_append_own_at (P := Try.prog) w B 44 o.type 5 i0 (.int .u8 0) 1 1 Try.underlying44 hi0 hz0 hz1 hz2 rfl (by omega) _ xs.length _ hown ad ys.length cap (u8s ys) (by simp)
        (fun j u hu => by
          simp only [List.getElem?_map, Option.map_eq_some_iff] at hu
          obtain ⟨y, hy, rfl⟩ := hu
          obtain ⟨hj, rfl⟩ := List.getElem?_eq_some_iff.1 hy
          rcases hc with rfl | ⟨b, o2, e, hb, _, hc⟩
          · simp at hj
          · simp only [Option.some.injEq] at e
            subst e
            have hadd : (⟨b, o2, none⟩ : Addr).add j = ⟨b, o2 + j, none⟩ := by unfold Addr.add; split <;> simp_all
            rw [hadd, hc j hj]) (fun u hu => by
          simp only [List.mem_map] at hu
          obtain ⟨y, _, rfl⟩ := hu
          simp [Value.oneCell']) (by unfold maxLen; omega) (by omega) hB
      refine ⟨v', w', hr, by rw [List.length_append]; simpa [u8s] using h2, Gou.Mod.of_grown h3, fun g hg => ?_⟩
      rcases h5 with h5 | h5
      · left; rw [← h5]; exact hg
      · right
        rw [h5] at hg
        simp only [Option.some.injEq] at hg
        omega
  obtain ⟨v', w1, hr, h1, h2, h3⟩ := hrun
  refine wpList_plain hgd fun K hK => ?_
  unfold Oper.wp execOp
  simp only [hop, resolve, invoke, builtin, Sem.run_bind, Sem.run_pure, Result.andThen_ok, List.map_toArray, List.map_cons, List.map_nil, hs, hx, hr]
  exact hK _ _ (h v' w1 h1 h2 h3)

/-- A row of pixels is put, and any act: a new row, or nil. -/
theorem put_row (w : World) (p1 p2 p3 : Option Addr) (n1 n2 n3 k1 k2 k3 : Nat) (a : Ac) (h1 : n1 = a.op.look.content.pix.length) (h2 : n2 = a.op.look.filt.nodes.length) (h3 : n3 = a.op.look.back.nodes.length) (hx : LookR (fun _ => True) w a.op.look (.slice p1 n1 k1) (.slice p2 n2 k2) (.slice p3 n3 k3)) (hb : LookBorne a.op.look) (hs : PxSmall a.op.look.content) :
    Calls Try.prog 11 #[.agg (actC a (.slice p1 n1 k1) (.slice p2 n2 k2) (.slice p3 n3 k3))] w fun e w' => ∃ p n c cs q, n ≤ 2000000 ∧ e = .returned (.tuple #[.slice p n c, .int .i64 q]) ∧ w'.ownsRow w.heap.size 5 1 (.slice p n c) n cs ∧ Gou.Mod (fun _ => False) w w' := by
  subst h1 h2 h3
  refine (put_any w p1 p2 p3 k1 k2 k3 a hx hb hs).mono ?_
  rintro e w' ⟨hm, h⟩
  rcases hp : putOf a with _ | bs
  · rw [hp] at h
    subst h
    exact ⟨none, 0, 0, [], 1, by omega, rfl, ⟨rfl, .inl ⟨rfl, rfl⟩⟩, hm⟩
  · rw [hp] at h
    obtain ⟨v, rfl, hown⟩ := h
    obtain ⟨p, c, rfl⟩ := Gou.ownsRow_form hown
    refine ⟨p, _, c, _, 0, ?_, rfl, hown, hm⟩
    obtain ⟨es, he, hp⟩ := Option.bind_eq_some_iff.1 (show (encAct a).bind _ = some bs from hp)
    obtain ⟨_, _, hp⟩ := Option.bind_eq_some_iff.1 hp
    split at hp
    · simp only [Option.some.injEq] at hp
      subst hp
      have := (encAct_fine he hs).1
      omega
    · cases hp

end Go.Proofs.Ytnamnmipgpcjjaa

/- What comes in, opened: from the reading of an argument to the plain words on memory. -/
namespace Go.Gou
open Go.RowKit Go.ChangeShapes Go.WideShapes Go.Deep Go.Joins

section
variable {H : Type} {enc : TypeId × Value → H} {P : Program} {w : World} {base : Nat} {spare : Nat → Bool} {held : Bool}

theorem open_slice_fields {t e : TypeId} {fs : Array Field} {fuel : Nat} {cs : List Value} {x : DataW H × List MemPlace} (ht : P.underlying t = some (.slice e)) (he : P.underlying e = some (.struct fs))
    (hone : oneCellFields P fs = true) (hC : P.cellsOf e = fs.size) (h : DataW.trod enc P w base spare held fuel t cs = some x) :
    (cs = [.slice none 0 0] ∧ x = (.nil, [])) ∨
    ∃ (a : Addr) (len cap m : Nat) (D : Nat → DataW H) (Pl : Nat → List MemPlace), cs = [.slice (some a) len cap] ∧ base ≤ a.block ∧ len ≤ cap ∧ cap ≤ maxLen ∧ m = (if spare a.block then cap else len) ∧
      x = (.slice ((List.range len).map D) ((List.range (m - len)).map fun j => D (len + j)), MemPlace.row a (m * fs.size) ++ (List.range m).flatMap Pl) ∧
      ∀ i, i < m → ∃ (ys : List (DataW H × List MemPlace)) (n : Nat), D i = .agg (ys.map (·.1)) ∧ Pl i = ys.flatMap (·.2) ∧ ys.length = fs.size ∧
        ∀ (j : Nat) (f : Field), fs[j]? = some f → ∃ (v : Value) (y : DataW H × List MemPlace), w.cell? (a.add (i * fs.size + j)) = some v ∧ ys[j]? = some y ∧ DataW.trod enc P w base spare held n f.type [v] = some y := by
  rcases open_slice ht h with h0 | ⟨a, len, cap, m, n, D, Pl, hcs, hb, hl, hm, hmm, hx, hi⟩
  · exact .inl h0
  · refine .inr ⟨a, len, cap, m, D, Pl, hcs, hb, hl, hm, hmm, by rw [hC] at hx; exact hx, fun i him => ?_⟩
    obtain ⟨cs', hc, ht'⟩ := hi i him
    rw [hC] at hc
    obtain ⟨ys, n', hn', hy, hlen, hyl, hf⟩ := DataW.trod_struct he ht'
    obtain ⟨_, hcl, hat⟩ := World.cells?_some hc
    simp only [Prod.mk.injEq] at hy
    refine ⟨ys, n', hy.1, hy.2, hyl, fun j f hj => ?_⟩
    obtain ⟨ho, hk⟩ := hone_of hone j f hj
    have hjl : j < fs.size := (Array.getElem?_eq_some_iff.1 hj).1
    have hcell := hat j hjl
    have hv : cs'[j]? = some (cs'[j]'(by omega)) := List.getElem?_eq_getElem (by omega)
    have h1 := hf j f hj
    rw [ho, hk] at h1
    have hone' : (cs'.drop j).take 1 = [cs'[j]'(by omega)] := by
      rw [List.drop_eq_getElem_cons (by omega)]
      rfl
    rw [hone'] at h1
    have hys : ys[j]? = some (ys[j]'(by omega)) := List.getElem?_eq_getElem (by omega)
    refine ⟨_, _, ?_, hys, h1.trans hys⟩
    rw [← Go.Deep.add_add, hcell, hv]

/-- A slice of ints. -/
theorem open_ints_at {t e : TypeId} {fuel : Nat} {v : Value} {x : DataW H × List MemPlace} (ht : P.underlying t = some (.slice e)) (he : P.underlying e = some (.int .i64)) (hc : P.cellsOf e = 1)
    (h : DataW.trod enc P w base spare held fuel t [v] = some x) : ∃ xs, IntsAt w.heap.size w v xs ∧ (∀ y ∈ xs, (Lit.int .i64 y).wf = true) ∧ xs.length ≤ maxLen := by
  rcases open_slice1 ht hc h with ⟨hcs, _⟩ | ⟨a, len, cap, m, n, V, D, Pl, hcs, _, hl, hm, hmm, _, hi⟩
  · obtain rfl : v = .slice none 0 0 := by simpa using hcs
    exact ⟨[], ⟨none, 0, rfl, Nat.le_refl _, .inl rfl⟩, by simp, by simp⟩
  · obtain rfl : v = .slice (some a) len cap := by simpa using hcs
    have hlm : len ≤ m := by rw [hmm]; split <;> omega
    have hint : ∀ i, i < len → ∃ q : Int, V i = .int .i64 q ∧ (Lit.int .i64 q).wf = true := by
      intro i hil
      obtain ⟨_, ht'⟩ := hi i (by omega)
      obtain ⟨q, hq, _, hw⟩ := DataW.trod_int he ht'
      simp at hq
      exact ⟨q, hq, hw⟩
    obtain ⟨f, hf⟩ := choose_lt (p := fun i (q : Int) => V i = .int .i64 q ∧ (Lit.int .i64 q).wf = true) hint
    refine ⟨(List.range len).map f, ?_, ?_, by simp; omega⟩
    · by_cases h0 : len = 0
      · subst h0
        exact ⟨some a, cap, rfl, by simp, .inl rfl⟩
      · obtain ⟨b, o, sp⟩ := a
        have hsp : sp = none := by
          have := World.cell?_spot (hi 0 (by omega)).1
          simpa [Addr.add] using this
        subst hsp
        refine ⟨_, cap, by simp, by simpa using hl, .inr ⟨b, o, rfl, ?_, ?_⟩⟩
        · have := World.block_lt_of_cell? w _ (hi 0 (by omega)).1
          simpa [Addr.add] using this
        · intro i hil
          have hil' : i < len := by simpa using hil
          have h1 := (hi i (by omega)).1
          rw [add_plain] at h1
          rw [h1, (hf i hil').1]
          simp
    · intro y hy
      simp at hy
      obtain ⟨i, hil, rfl⟩ := hy
      exact (hf i hil).2

/-- What a node's fields are. -/
structure NodeT (P : Program) (e : TypeId) (fs : Array Field) (ti tn : TypeId) : Prop where
  ty : P.underlying e = some (.struct fs)
  one : oneCellFields P fs = true
  cells : P.cellsOf e = fs.size
  size : fs.size = 3
  f0 : ∃ f, fs[0]? = some f ∧ P.underlying f.type = some (.int .i64)
  f1 : ∃ f, fs[1]? = some f ∧ P.underlying f.type = some (.slice tn)
  f2 : ∃ f, fs[2]? = some f ∧ P.underlying f.type = some (.slice tn)
  tint : P.underlying tn = some (.int .i64)
  tc : P.cellsOf tn = 1

/-- A node's numbers are numbers of the machine. -/
structure NodeWf (n : GNode) : Prop where
  op : (Lit.int .i64 n.op).wf = true
  ins : ∀ x ∈ n.ins, (Lit.int .i64 x).wf = true
  ps : ∀ x ∈ n.ps, (Lit.int .i64 x).wf = true
  insl : n.ins.length ≤ maxLen
  psl : n.ps.length ≤ maxLen

instance : Inhabited GNode := ⟨⟨0, [], []⟩⟩

/-- A slice of nodes. -/
theorem open_nodes_at {t e ti tn : TypeId} {fs : Array Field} {fuel : Nat} {v : Value} {x : DataW H × List MemPlace} (N : NodeT P e fs ti tn) (ht : P.underlying t = some (.slice e))
    (h : DataW.trod enc P w base spare held fuel t [v] = some x) : ∃ ns, NodesAt w.heap.size w v ns ∧ (∀ n ∈ ns, NodeWf n) ∧ ns.length ≤ maxLen := by
  rcases open_slice_fields ht N.ty N.one N.cells h with ⟨hcs, _⟩ | ⟨a, len, cap, m, D, Pl, hcs, _, hl, hm, hmm, _, hi⟩
  · obtain rfl : v = .slice none 0 0 := by simpa using hcs
    exact ⟨[], ⟨none, 0, rfl, Nat.le_refl _, .inl rfl⟩, by simp, by simp⟩
  · obtain rfl : v = .slice (some a) len cap := by simpa using hcs
    have hlm : len ≤ m := by rw [hmm]; split <;> omega
    have hnode : ∀ i, i < len → ∃ n : GNode, NodeWf n ∧ ∃ vi vp, w.cell? (a.add (i * 3)) = some (.int .i64 n.op) ∧ w.cell? (a.add (i * 3 + 1)) = some vi ∧ w.cell? (a.add (i * 3 + 2)) = some vp ∧ IntsAt w.heap.size w vi n.ins ∧ IntsAt w.heap.size w vp n.ps := by
      intro i hil
      obtain ⟨ys, k, _, _, _, hf⟩ := hi i (by omega)
      rw [N.size] at hf
      obtain ⟨f0, h0, t0⟩ := N.f0
      obtain ⟨f1, h1, t1⟩ := N.f1
      obtain ⟨f2, h2, t2⟩ := N.f2
      obtain ⟨v0, y0, c0, _, r0⟩ := hf 0 f0 h0
      obtain ⟨v1, y1, c1, _, r1⟩ := hf 1 f1 h1
      obtain ⟨v2, y2, c2, _, r2⟩ := hf 2 f2 h2
      obtain ⟨q, hq, _, hw⟩ := DataW.trod_int t0 r0
      obtain rfl : v0 = .int .i64 q := by simpa using hq
      obtain ⟨ins, hi1, hw1, hl1⟩ := open_ints_at t1 N.tint N.tc r1
      obtain ⟨ps, hi2, hw2, hl2⟩ := open_ints_at t2 N.tint N.tc r2
      exact ⟨⟨q, ins, ps⟩, ⟨hw, hw1, hw2, hl1, hl2⟩, v1, v2, by simpa using c0, c1, c2, hi1, hi2⟩
    obtain ⟨f, hf⟩ := choose_lt (p := fun i (n : GNode) => NodeWf n ∧ ∃ vi vp, w.cell? (a.add (i * 3)) = some (.int .i64 n.op) ∧ w.cell? (a.add (i * 3 + 1)) = some vi ∧ w.cell? (a.add (i * 3 + 2)) = some vp ∧ IntsAt w.heap.size w vi n.ins ∧ IntsAt w.heap.size w vp n.ps) hnode
    refine ⟨(List.range len).map f, ?_, ?_, by simp; omega⟩
    · by_cases h0 : len = 0
      · subst h0
        exact ⟨some a, cap, rfl, by simp, .inl rfl⟩
      · obtain ⟨b, o, sp⟩ := a
        obtain ⟨_, _, _, hc0, _⟩ := hf 0 (by omega)
        have hsp : sp = none := by
          have := World.cell?_spot hc0
          simpa [Addr.add] using this
        subst hsp
        refine ⟨_, cap, by simp, by simpa using hl, .inr ⟨b, o, rfl, ?_, ?_⟩⟩
        · have := World.block_lt_of_cell? w _ hc0
          simpa [Addr.add] using this
        · intro i hil
          have hil' : i < len := by simpa using hil
          obtain ⟨_, vi, vp, k0, k1, k2, r1, r2⟩ := hf i hil'
          rw [add_plain] at k0 k1 k2
          refine ⟨vi, vp, ?_, by rw [Nat.add_assoc]; exact k1, by rw [Nat.add_assoc]; exact k2, by simpa using r1, by simpa using r2⟩
          rw [k0]
          simp
    · intro n hn
      simp at hn
      obtain ⟨i, hil, rfl⟩ := hn
      exact (hf i hil).1

end

end Go.Gou

/- What comes in, opened: rows of bytes, acts and rows of acts. -/
namespace Go.Gou
open Go.RowKit Go.ChangeShapes Go.WideShapes Go.Deep Go.Joins

section
variable {H : Type} {enc : TypeId × Value → H} {P : Program} {w : World} {base : Nat} {spare : Nat → Bool} {held : Bool}

/-- A row of bytes. -/
theorem open_bytes_at {t e : TypeId} {fuel : Nat} {v : Value} {x : DataW H × List MemPlace} (ht : P.underlying t = some (.slice e)) (he : P.underlying e = some (.int .u8)) (hc : P.cellsOf e = 1)
    (h : DataW.trod enc P w base spare held fuel t [v] = some x) : ∃ bs, BytesAt (fun _ => True) w v bs ∧ (∀ y ∈ bs, y < 256) ∧ bs.length ≤ maxLen := by
  rcases open_slice1 ht hc h with ⟨hcs, _⟩ | ⟨a, len, cap, m, n, V, D, Pl, hcs, _, hl, hm, hmm, _, hi⟩
  · obtain rfl : v = .slice none 0 0 := by simpa using hcs
    exact ⟨[], ⟨none, 0, rfl, Nat.le_refl _, .inl rfl⟩, by simp, by simp⟩
  · obtain rfl : v = .slice (some a) len cap := by simpa using hcs
    have hlm : len ≤ m := by rw [hmm]; split <;> omega
    have hint : ∀ i, i < len → ∃ q : Nat, V i = .int .u8 (q : Int) ∧ q < 256 := by
      intro i hil
      obtain ⟨_, ht'⟩ := hi i (by omega)
      obtain ⟨q, hq, _, hw⟩ := DataW.trod_int he ht'
      simp at hq
      simp only [Lit.wf, Bool.and_eq_true, decide_eq_true_eq] at hw
      have h1 : (0 : Int) ≤ q := hw.1
      have h2 : q ≤ 255 := hw.2
      exact ⟨q.toNat, by rw [hq]; congr 1; omega, by omega⟩
    obtain ⟨f, hf⟩ := choose_lt (p := fun i (q : Nat) => V i = .int .u8 (q : Int) ∧ q < 256) hint
    refine ⟨(List.range len).map f, ?_, ?_, by simp; omega⟩
    · by_cases h0 : len = 0
      · subst h0
        exact ⟨some a, cap, rfl, by simp, .inl rfl⟩
      · obtain ⟨b, o, sp⟩ := a
        have hsp : sp = none := by
          have := World.cell?_spot (hi 0 (by omega)).1
          simpa [Addr.add] using this
        subst hsp
        refine ⟨_, cap, by simp, by simpa using hl, .inr ⟨b, o, rfl, ?_, trivial, ?_⟩⟩
        · have := World.block_lt_of_cell? w _ (hi 0 (by omega)).1
          simpa [Addr.add] using this
        · intro i hil
          have hil' : i < len := by simpa using hil
          have h1 := (hi i (by omega)).1
          rw [add_plain] at h1
          rw [h1, (hf i hil').1]
          simp
    · intro y hy
      simp at hy
      obtain ⟨i, hil, rfl⟩ := hy
      exact (hf i hil).2

/-- A struct's cells, field by field. -/
def Parts (enc : TypeId × Value → H) (P : Program) (w : World) (base : Nat) (spare : Nat → Bool) (held : Bool) (n : Nat) : List Field → List Value → Prop
  | [], cs => cs = []
  | f :: r, cs => ∃ c1 c2 y, cs = c1 ++ c2 ∧ DataW.trod enc P w base spare held n f.type c1 = some y ∧ Parts enc P w base spare held n r c2

def contig (P : Program) : List Field → Nat → Option Nat
  | [], o => some o
  | f :: r, o => if f.offset = o then contig P r (o + P.cellsOf f.type) else none

theorem parts_of {n : Nat} {cs : List Value} : ∀ (fs : List Field) (o : Nat), contig P fs o = some cs.length → (∀ f ∈ fs, ∃ y, DataW.trod enc P w base spare held n f.type ((cs.drop f.offset).take (P.cellsOf f.type)) = some y) → Parts enc P w base spare held n fs (cs.drop o)
  | [], o, h, _ => by
    simp only [contig, Option.some.injEq] at h
    subst h
    show cs.drop cs.length = []
    simp
  | f :: r, o, h, hf => by
    rw [contig] at h
    split at h
    · rename_i ho
      obtain ⟨y, hy⟩ := hf f (List.mem_cons_self ..)
      rw [ho] at hy
      have := parts_of r _ h (fun g hg => hf g (List.mem_cons_of_mem _ hg))
      exact ⟨_, cs.drop (o + P.cellsOf f.type), y, by rw [← List.drop_drop]; exact (List.take_append_drop _ _).symm, hy, this⟩
    · cases h

theorem trod_parts {t : TypeId} {fs : Array Field} {fuel : Nat} {cs : List Value} {x : DataW H × List MemPlace} (ht : P.underlying t = some (.struct fs)) (hc : contig P fs.toList 0 = some (P.cellsOf t)) (h : DataW.trod enc P w base spare held fuel t cs = some x) :
    ∃ n, Parts enc P w base spare held n fs.toList cs := by
  obtain ⟨xs, n, _, _, hl, hxl, hf⟩ := DataW.trod_struct ht h
  refine ⟨n, ?_⟩
  have := parts_of (enc := enc) (P := P) (w := w) (base := base) (spare := spare) (held := held) (n := n) (cs := cs) fs.toList 0 (by rw [hc, hl]) (fun f hf' => by
    obtain ⟨i, hi⟩ := List.getElem?_of_mem hf'
    have hi' : fs[i]? = some f := by rw [← hi]; simp
    have h1 := hf i f hi'
    have : i < xs.length := by rw [hxl]; exact (Array.getElem?_eq_some_iff.1 hi').1
    exact ⟨xs[i], h1.trans (List.getElem?_eq_getElem this)⟩)
  simpa using this

theorem trod_slice_one {t e : TypeId} {fuel : Nat} {cs : List Value} {x : DataW H × List MemPlace} (ht : P.underlying t = some (.slice e)) (h : DataW.trod enc P w base spare held fuel t cs = some x) : ∃ v, cs = [v] := by
  rcases open_slice ht h with ⟨hcs, _⟩ | ⟨a, len, cap, m, n, D, Pl, hcs, _⟩
  · exact ⟨_, hcs⟩
  · exact ⟨_, hcs⟩

theorem IntsR.of_at {v : Value} {xs : List Int} (h : IntsAt w.heap.size w v xs) : IntsR (fun _ => True) w v xs := by
  obtain ⟨p, cap, rfl, hcap, h⟩ := h
  refine ⟨by simp, p, cap, rfl, hcap, ?_⟩
  rcases h with rfl | ⟨b, o, rfl, hb, hc⟩
  · exact .inl rfl
  · refine .inr ⟨b, o, rfl, hb, trivial, fun j u hu => ?_⟩
    simp only [ivs, List.getElem?_map, Option.map_eq_some_iff] at hu
    obtain ⟨y, hy, rfl⟩ := hu
    obtain ⟨hj, rfl⟩ := List.getElem?_eq_some_iff.1 hy
    exact hc j hj

theorem NodesR.of_at {v : Value} {ns : List GNode} (h : NodesAt w.heap.size w v ns) : NodesR (fun _ => True) w v ns := by
  obtain ⟨p, cap, rfl, hcap, h⟩ := h
  rcases h with rfl | ⟨b, o, rfl, hb, hc⟩
  · exact ⟨[], ⟨rfl, p, cap, rfl, hcap, .inl rfl⟩, NodeC.nil _ _⟩
  · have hcells : ∀ i, (h : i < ns.length) → ∃ q : Value × Value, w.cell? ⟨b, o + i * 3, none⟩ = some (.int .i64 ns[i].op) ∧ w.cell? ⟨b, o + i * 3 + 1, none⟩ = some q.1 ∧ w.cell? ⟨b, o + i * 3 + 2, none⟩ = some q.2 ∧ IntsAt w.heap.size w q.1 ns[i].ins ∧ IntsAt w.heap.size w q.2 ns[i].ps := fun i hi => by
      obtain ⟨vi, vp, h1⟩ := hc i hi
      exact ⟨(vi, vp), h1⟩
    obtain ⟨f, hf⟩ := choose_lt (p := fun i (q : Value × Value) => ∃ h : i < ns.length, w.cell? ⟨b, o + i * 3, none⟩ = some (.int .i64 ns[i].op) ∧ w.cell? ⟨b, o + i * 3 + 1, none⟩ = some q.1 ∧ w.cell? ⟨b, o + i * 3 + 2, none⟩ = some q.2 ∧ IntsAt w.heap.size w q.1 ns[i].ins ∧ IntsAt w.heap.size w q.2 ns[i].ps) (n := ns.length) (fun i hi => by
      obtain ⟨q, hq⟩ := hcells i hi
      exact ⟨q, hi, hq⟩)
    have hlen : ∀ l : List Nat, (l.flatMap fun i => [Value.int .i64 ns[i]!.op, (f i).1, (f i).2]).length = l.length * 3 := by
      intro l
      induction l with
      | nil => rfl
      | cons a r ih => rw [List.flatMap_cons, List.length_append, ih]; simp; omega
    have hget : ∀ (n : Nat) (j : Nat), j < n * 3 → ((List.range n).flatMap fun i => [Value.int .i64 ns[i]!.op, (f i).1, (f i).2])[j]? = [Value.int .i64 ns[j / 3]!.op, (f (j / 3)).1, (f (j / 3)).2][j % 3]? := by
      intro n
      induction n with
      | zero => intro j hj; omega
      | succ n ih =>
        intro j hj
        rw [List.range_succ, List.flatMap_append]
        by_cases hjn : j < n * 3
        · rw [List.getElem?_append_left (by rw [hlen]; simpa using hjn), ih j hjn]
        · rw [List.getElem?_append_right (by rw [hlen]; simp; omega), hlen]
          have e1 : j / 3 = n := by omega
          have e2 : j - (List.range n).length * 3 = j % 3 := by simp; omega
          rw [e1, e2]
          simp
    refine ⟨(List.range ns.length).flatMap fun i => [Value.int .i64 ns[i]!.op, (f i).1, (f i).2], ⟨by rw [hlen]; simp, some ⟨b, o, none⟩, cap, rfl, hcap, .inr ⟨b, o, rfl, hb, trivial, fun j u hu => ?_⟩⟩, ⟨by rw [hlen]; simp, fun i hi => ?_⟩⟩
    · have hj : j < ns.length * 3 := by
        have := (List.getElem?_eq_some_iff.1 hu).1
        rw [hlen] at this
        simpa using this
      rw [hget _ j hj] at hu
      obtain ⟨hi, h0, h1, h2, _⟩ := hf (j / 3) (by omega)
      have hbang : ns[j / 3]! = ns[j / 3] := getElem!_pos ns (j / 3) hi
      rw [hbang] at hu
      have hm : j % 3 = 0 ∨ j % 3 = 1 ∨ j % 3 = 2 := by omega
      rcases hm with hm | hm | hm
      · rw [hm] at hu; simp at hu; subst hu
        have : o + j = o + j / 3 * 3 := by omega
        rw [this]; exact h0
      · rw [hm] at hu; simp at hu; subst hu
        have : o + j = o + j / 3 * 3 + 1 := by omega
        rw [this]; exact h1
      · rw [hm] at hu; simp at hu; subst hu
        have : o + j = o + j / 3 * 3 + 2 := by omega
        rw [this]; exact h2
    · obtain ⟨hi', h0, h1, h2, h3, h4⟩ := hf i hi
      have hbang : ns[i]! = ns[i] := getElem!_pos ns i hi
      refine ⟨(f i).1, (f i).2, ?_, ?_, ?_, IntsR.of_at h3, IntsR.of_at h4⟩
      · rw [hget _ _ (by omega)]
        have e1 : i * 3 / 3 = i := by omega
        have e2 : i * 3 % 3 = 0 := by omega
        rw [e1, e2, hbang]; rfl
      · rw [hget _ _ (by omega)]
        have e1 : (i * 3 + 1) / 3 = i := by omega
        have e2 : (i * 3 + 1) % 3 = 1 := by omega
        rw [e1, e2]; rfl
      · rw [hget _ _ (by omega)]
        have e1 : (i * 3 + 2) / 3 = i := by omega
        have e2 : (i * 3 + 2) % 3 = 2 := by omega
        rw [e1, e2]; rfl

/-- Four bytes. -/
theorem open_px {t e : TypeId} {fuel : Nat} {cs : List Value} {x : DataW H × List MemPlace} (ht : P.underlying t = some (.array 4 e)) (he : P.underlying e = some (.int .u8)) (hc : P.cellsOf e = 1) (hct : P.cellsOf t = 4)
    (h : DataW.trod enc P w base spare held fuel t cs = some x) : ∃ p : Pxl, cs = p.cells ∧ p.Small := by
  obtain ⟨xs, m, _, _, hl, hxl, hi⟩ := DataW.trod_array ht h
  rw [hct] at hl
  have one : ∀ i, i < 4 → ∃ q : Nat, cs[i]? = some (.int .u8 (q : Int)) ∧ q < 256 := by
    intro i hi4
    have h1 := hi i hi4
    rw [hc, Nat.mul_one] at h1
    have hx : xs[i]? = some (xs[i]'(by omega)) := List.getElem?_eq_getElem (by omega)
    rw [hx] at h1
    obtain ⟨q, hq, _, hw⟩ := DataW.trod_int he h1
    simp only [Lit.wf, Bool.and_eq_true, decide_eq_true_eq] at hw
    have h2 : (0 : Int) ≤ q := hw.1
    have h3 : q ≤ 255 := hw.2
    refine ⟨q.toNat, ?_, by omega⟩
    have h4 := congrArg (fun l => l[0]?) hq
    simp only [List.getElem?_take, List.getElem?_drop, Nat.zero_lt_one, if_true, Nat.add_zero, List.getElem?_cons_zero] at h4
    rw [h4]
    congr 2
    omega
  obtain ⟨q0, h0, s0⟩ := one 0 (by omega)
  obtain ⟨q1, h1, s1⟩ := one 1 (by omega)
  obtain ⟨q2, h2, s2⟩ := one 2 (by omega)
  obtain ⟨q3, h3, s3⟩ := one 3 (by omega)
  obtain ⟨a, b, c, d, rfl⟩ : ∃ a b c d, cs = [a, b, c, d] := by
    match cs, hl with
    | [a, b, c, d], _ => exact ⟨a, b, c, d, rfl⟩
  simp at h0 h1 h2 h3
  subst h0 h1 h2 h3
  exact ⟨⟨q0, q1, q2, q3⟩, rfl, s0, s1, s2, s3⟩

instance : Inhabited Pxl := ⟨Pxl.zero⟩

/-- A row of pixels. -/
theorem open_pixels {t e u : TypeId} {fuel : Nat} {v : Value} {x : DataW H × List MemPlace} (ht : P.underlying t = some (.slice e)) (he : P.underlying e = some (.array 4 u)) (hu : P.underlying u = some (.int .u8)) (hc : P.cellsOf u = 1) (hct : P.cellsOf e = 4)
    (h : DataW.trod enc P w base spare held fuel t [v] = some x) : ∃ ps, PixR (fun _ => True) w v ps ∧ (∀ p ∈ ps, Pxl.Small p) ∧ ps.length ≤ maxLen := by
  rcases open_slice ht h with ⟨hcs, _⟩ | ⟨a, len, cap, m, n, D, Pl, hcs, _, hl, hm, hmm, _, hi⟩
  · obtain rfl : v = .slice none 0 0 := by simpa using hcs
    exact ⟨[], PixR.nil _ _, by simp, by simp⟩
  · obtain rfl : v = .slice (some a) len cap := by simpa using hcs
    have hlm : len ≤ m := by rw [hmm]; split <;> omega
    have hone : ∀ i, i < len → ∃ p : Pxl, p.Small ∧ ∀ j u, p.cells[j]? = some u → w.cell? (a.add (i * 4 + j)) = some u := by
      intro i hil
      obtain ⟨cs', h1, h2⟩ := hi i (by omega)
      obtain ⟨p, rfl, hs⟩ := open_px he hu hc hct h2
      rw [hct] at h1
      obtain ⟨_, _, hat⟩ := World.cells?_some h1
      refine ⟨p, hs, fun j u hj => ?_⟩
      have hj4 : j < 4 := by
        have := (List.getElem?_eq_some_iff.1 hj).1
        simpa [Pxl.cells] using this
      rw [← Go.Deep.add_add, hat j hj4]
      exact hj
    obtain ⟨f, hf⟩ := choose_lt (p := fun i (p : Pxl) => p.Small ∧ ∀ j u, p.cells[j]? = some u → w.cell? (a.add (i * 4 + j)) = some u) hone
    refine ⟨(List.range len).map f, ⟨by rw [pxs_len]; omega, some a, cap, by simp, by simpa using hl, ?_⟩, ?_, by simp; omega⟩
    · by_cases h0 : len = 0
      · subst h0; exact .inl (by simp)
      · obtain ⟨b, o, sp⟩ := a
        obtain ⟨_, h1⟩ := hf 0 (by omega)
        have hc0 := h1 0 _ rfl
        have hsp : sp = none := by
          have := World.cell?_spot hc0
          simpa [Addr.add] using this
        subst hsp
        refine .inr ⟨b, o, rfl, ?_, trivial, ?_⟩
        · have := World.block_lt_of_cell? w _ hc0
          simpa [Addr.add] using this
        · have key : ∀ (n : Nat) (j : Nat) (u : Value), n ≤ len → (pxs ((List.range n).map f))[j]? = some u → w.cell? ⟨b, o + j, none⟩ = some u := by
            intro n
            induction n with
            | zero => intro j u _ hu; simp at hu
            | succ n ih =>
              intro j u hn hu
              rw [List.range_succ, List.map_append, pxs, List.flatMap_append] at hu
              by_cases hj : j < (pxs ((List.range n).map f)).length
              · rw [List.getElem?_append_left hj] at hu
                exact ih j u (by omega) hu
              · rw [List.getElem?_append_right (by simp only [pxs] at hj; omega)] at hu
                rw [pxs_len] at hj
                simp at hj
                have hl2 : (((List.range n).map f).flatMap Pxl.cells).length = 4 * n := by
                  have := pxs_len ((List.range n).map f)
                  simpa [pxs] using this
                rw [hl2] at hu
                have := (hf n (by omega)).2 (j - 4 * n) u (by simpa using hu)
                rw [add_plain] at this
                have e : o + (n * 4 + (j - 4 * n)) = o + j := by omega
                rw [e] at this
                exact this
          intro j u hu
          exact key len j u (Nat.le_refl _) hu
    · intro p hp
      simp at hp
      obtain ⟨i, hil, rfl⟩ := hp
      exact (hf i hil).1
end

end Go.Gou

/- The arguments of this seat's laws, opened. -/
namespace Go.Proofs.Ytnamnmipgpcjjaa
open Go.RowKit Go.Gou Go.ChangeShapes Go.WideShapes Go.Deep Go.Joins

theorem laidOut : laidOutB Try.prog = true := by kernel_rfl
theorem own : ownKnob Try.prog.godebug = none := by kernel_rfl
theorem cellsNode : Try.prog.cellsOf 82 = 3 := by kernel_rfl
theorem cellsInt : Try.prog.cellsOf 3 = 1 := by kernel_rfl
theorem cellsByte : Try.prog.cellsOf 5 = 1 := by kernel_rfl
theorem cellsPx : Try.prog.cellsOf 27 = 4 := by kernel_rfl
theorem cellsAct : Try.prog.cellsOf 41 = 42 := by kernel_rfl

theorem nodeT : ∃ fs, NodeT Try.prog 82 fs 0 3 :=
  ⟨_, { ty := Try.underlying82, one := by kernel_rfl, cells := cellsNode, size := rfl, f0 := ⟨_, rfl, Try.underlying3⟩, f1 := ⟨_, rfl, Try.underlying72⟩, f2 := ⟨_, rfl, Try.underlying72⟩, tint := Try.underlying3, tc := cellsInt }⟩

set_option linter.constructorNameAsVariable false
set_option maxRecDepth 100000

section
variable {H : Type} {enc : TypeId × Value → H} {w : World} {base : Nat} {spare : Nat → Bool} {held : Bool} {r : Reach} {b0 : Nat} {v : Value} {d : DataW H} {p : List MemPlace} {fuel : Nat} {cs : List Value} {x : DataW H × List MemPlace}

theorem open_bytes (hv : Value.okWide Try.prog w r b0 44 v) (h : DataW.Trod enc Try.prog w base spare held 44 v d p) : ∃ bs, BytesAt (fun _ => True) w v bs ∧ ((∀ y ∈ bs, y < 256) ∧ bs.length ≤ maxLen) := by
  obtain ⟨a, len, cap, rfl⟩ := okWide_slice Try.underlying44 hv
  obtain ⟨n, h⟩ := h
  have h : DataW.trod enc Try.prog w base spare held n 44 [.slice a len cap] = some (d, p) := h
  obtain ⟨bs, h1, h2, h3⟩ := open_bytes_at Try.underlying44 Try.underlying5 cellsByte h
  exact ⟨bs, h1, h2, h3⟩
end

end Go.Proofs.Ytnamnmipgpcjjaa

/- An act that comes in, opened. -/
namespace Go.Gou
open Go.RowKit

/-- An act's lists are a machine's. -/
structure ActWf (a : Ac) : Prop where
  small : PxSmall a.op.look.content
  pix : a.op.look.content.pix.length ≤ maxLen
  filt : a.op.look.filt.nodes.length ≤ maxLen
  filts : ∀ n ∈ a.op.look.filt.nodes, NodeWf n
  back : a.op.look.back.nodes.length ≤ maxLen
  backs : ∀ n ∈ a.op.look.back.nodes, NodeWf n

instance : Inhabited Ac := ⟨Ac.zero⟩

/-- A slice value of acts, as a law is handed it. -/
def ActsR (w : World) (v : Value) (xs : List Ac) : Prop := ∃ (p : Option Addr) (cap : Nat), v = .slice p xs.length cap ∧ xs.length ≤ cap ∧ (xs.length = 0 ∨ ∃ b o, p = some ⟨b, o, none⟩ ∧ b < w.heap.size ∧
  ∀ i, (h : i < xs.length) → ∃ vp vf vb, (∀ j u, (actC xs[i] vp vf vb)[j]? = some u → w.cell? ⟨b, o + i * 42 + j, none⟩ = some u) ∧ LookR (fun _ => True) w xs[i].op.look vp vf vb)

end Go.Gou
namespace Go.Proofs.Ytnamnmipgpcjjaa
open Go.RowKit Go.Gou Go.ChangeShapes Go.WideShapes Go.Deep Go.Joins

set_option linter.constructorNameAsVariable false
set_option maxRecDepth 100000

section
variable {H : Type} {enc : TypeId × Value → H} {w : World} {base : Nat} {spare : Nat → Bool} {held : Bool} {r : Reach} {b0 : Nat} {v : Value} {d : DataW H} {p : List MemPlace} {fuel : Nat} {cs : List Value} {x : DataW H × List MemPlace}

theorem open_icell (h : DataW.trod enc Try.prog w base spare held fuel 3 cs = some x) : ∃ q : Int, cs = [.int .i64 q] := by
  obtain ⟨q, hq, _, _⟩ := DataW.trod_int Try.underlying3 h
  exact ⟨q, hq⟩
theorem open_bcell (h : DataW.trod enc Try.prog w base spare held fuel 4 cs = some x) : ∃ q : Bool, cs = [.bool q] := by
  obtain ⟨q, hq, _⟩ := DataW.trod_bool Try.underlying4 h
  exact ⟨q, hq⟩
theorem open_id (h : DataW.trod enc Try.prog w base spare held fuel 23 cs = some x) : ∃ i : Int × Int, cs = [.int .i64 i.1, .int .i64 i.2] := by
  obtain ⟨n, h⟩ := trod_parts Try.underlying23 (by kernel_rfl) h
  obtain ⟨c0, _, y0, rfl, h0, c1, _, y1, rfl, h1, rfl⟩ := h
  obtain ⟨q0, rfl⟩ := open_icell h0
  obtain ⟨q1, rfl⟩ := open_icell h1
  exact ⟨(q0, q1), rfl⟩
theorem open_rect (h : DataW.trod enc Try.prog w base spare held fuel 25 cs = some x) : ∃ i : Rc, cs = [.int .i64 i.x0, .int .i64 i.y0, .int .i64 i.x1, .int .i64 i.y1] := by
  obtain ⟨n, h⟩ := trod_parts Try.underlying25 (by kernel_rfl) h
  obtain ⟨c0, _, y0, rfl, h0, c1, _, y1, rfl, h1, c2, _, y2, rfl, h2, c3, _, y3, rfl, h3, rfl⟩ := h
  obtain ⟨q0, rfl⟩ := open_icell h0
  obtain ⟨q1, rfl⟩ := open_icell h1
  obtain ⟨q2, rfl⟩ := open_icell h2
  obtain ⟨q3, rfl⟩ := open_icell h3
  exact ⟨⟨q0, q1, q2, q3⟩, rfl⟩
theorem open_conf (h : DataW.trod enc Try.prog w base spare held fuel 39 cs = some x) : ∃ i : Cf, cs = [.bool i.fuse, .bool i.alias, .bool i.roi, .bool i.damage, .int .i64 i.room] := by
  obtain ⟨n, h⟩ := trod_parts Try.underlying39 (by kernel_rfl) h
  obtain ⟨c0, _, y0, rfl, h0, c1, _, y1, rfl, h1, c2, _, y2, rfl, h2, c3, _, y3, rfl, h3, c4, _, y4, rfl, h4, rfl⟩ := h
  obtain ⟨q0, rfl⟩ := open_bcell h0
  obtain ⟨q1, rfl⟩ := open_bcell h1
  obtain ⟨q2, rfl⟩ := open_bcell h2
  obtain ⟨q3, rfl⟩ := open_bcell h3
  obtain ⟨q4, rfl⟩ := open_icell h4
  exact ⟨⟨q0, q1, q2, q3, q4⟩, rfl⟩
theorem open_content (h : DataW.trod enc Try.prog w base spare held fuel 30 cs = some x) : ∃ (c : Ct) (vp : Value), cs = (contC c vp).toList ∧ PixR (fun _ => True) w vp c.pix ∧ PxSmall c ∧ c.pix.length ≤ maxLen := by
  obtain ⟨n, h⟩ := trod_parts Try.underlying30 (by kernel_rfl) h
  obtain ⟨c0, _, y0, rfl, h0, c1, _, y1, rfl, h1, c2, _, y2, rfl, h2, c3, _, y3, rfl, h3, c4, _, y4, rfl, h4, c5, _, y5, rfl, h5, c6, _, y6, rfl, h6, rfl⟩ := h
  obtain ⟨q0, rfl⟩ := open_icell h0
  obtain ⟨q1, rfl⟩ := open_rect h1
  obtain ⟨q2, rfl, s2⟩ := open_px Try.underlying27 Try.underlying5 cellsByte cellsPx h2
  obtain ⟨q3, rfl⟩ := open_icell h3
  obtain ⟨q4, rfl⟩ := open_icell h4
  obtain ⟨q5, rfl⟩ := open_icell h5
  obtain ⟨vp, rfl⟩ := trod_slice_one Try.underlying28 h6
  obtain ⟨ps, k1, k2, k3⟩ := open_pixels Try.underlying28 Try.underlying27 Try.underlying5 cellsByte cellsPx h6
  exact ⟨⟨q0, q1, q2, q3, q4, q5, ps⟩, vp, rfl, k1, ⟨s2, k2⟩, k3⟩
theorem open_graph (h : DataW.trod enc Try.prog w base spare held fuel 33 cs = some x) : ∃ (g : Gr) (vf : Value), cs = [vf, .int .i64 g.out] ∧ NodesR (fun _ => True) w vf g.nodes ∧ (∀ n ∈ g.nodes, NodeWf n) ∧ g.nodes.length ≤ maxLen := by
  obtain ⟨n, h⟩ := trod_parts Try.underlying33 (by kernel_rfl) h
  obtain ⟨c0, _, y0, rfl, h0, c1, _, y1, rfl, h1, rfl⟩ := h
  obtain ⟨vf, rfl⟩ := trod_slice_one Try.underlying31 h0
  obtain ⟨fs, hN⟩ := nodeT
  obtain ⟨ns, k1, k2, k3⟩ := open_nodes_at hN Try.underlying31 h0
  obtain ⟨q1, rfl⟩ := open_icell h1
  exact ⟨⟨ns, q1⟩, vf, rfl, NodesR.of_at k1, k2, k3⟩
theorem open_look (h : DataW.trod enc Try.prog w base spare held fuel 35 cs = some x) : ∃ (l : Lk) (vp vf vb : Value), cs = (lookC l vp vf vb).toList ∧ LookR (fun _ => True) w l vp vf vb ∧ PxSmall l.content ∧ l.content.pix.length ≤ maxLen ∧ l.filt.nodes.length ≤ maxLen ∧ (∀ n ∈ l.filt.nodes, NodeWf n) ∧ l.back.nodes.length ≤ maxLen ∧ (∀ n ∈ l.back.nodes, NodeWf n) := by
  obtain ⟨n, h⟩ := trod_parts Try.underlying35 (by kernel_rfl) h
  obtain ⟨c0, _, y0, rfl, h0, c1, _, y1, rfl, h1, c2, _, y2, rfl, h2, c3, _, y3, rfl, h3, c4, _, y4, rfl, h4, c5, _, y5, rfl, h5, c6, _, y6, rfl, h6, h⟩ := h
  obtain ⟨c7, _, y7, rfl, h7, c8, _, y8, rfl, h8, c9, _, y9, rfl, h9, c10, _, y10, rfl, h10, rfl⟩ := h
  obtain ⟨q0, rfl⟩ := open_icell h0
  obtain ⟨q1, rfl⟩ := open_icell h1
  obtain ⟨q2, rfl⟩ := open_bcell h2
  obtain ⟨q3, rfl⟩ := open_rect h3
  obtain ⟨q4, rfl⟩ := open_icell h4
  obtain ⟨q5, rfl⟩ := open_icell h5
  obtain ⟨q6, vp, rfl, a1, a2, a3⟩ := open_content h6
  obtain ⟨q7, rfl⟩ := open_bcell h7
  obtain ⟨q8, vf, rfl, b1, b2, b3⟩ := open_graph h8
  obtain ⟨q9, rfl⟩ := open_bcell h9
  obtain ⟨q10, vb, rfl, d1, d2, d3⟩ := open_graph h10
  exact ⟨⟨q0, q1, q2, q3, q4, q5, q6, q7, q8, q9, q10⟩, vp, vf, vb, rfl, ⟨a1, b1, d1⟩, a2, a3, b3, b2, d3, d2⟩
theorem open_op (h : DataW.trod enc Try.prog w base spare held fuel 37 cs = some x) : ∃ (o : Opr) (vp vf vb : Value), cs = (oprC o vp vf vb).toList ∧ LookR (fun _ => True) w o.look vp vf vb ∧ PxSmall o.look.content ∧ o.look.content.pix.length ≤ maxLen ∧ o.look.filt.nodes.length ≤ maxLen ∧ (∀ n ∈ o.look.filt.nodes, NodeWf n) ∧ o.look.back.nodes.length ≤ maxLen ∧ (∀ n ∈ o.look.back.nodes, NodeWf n) := by
  obtain ⟨n, h⟩ := trod_parts Try.underlying37 (by kernel_rfl) h
  obtain ⟨c0, _, y0, rfl, h0, c1, _, y1, rfl, h1, c2, _, y2, rfl, h2, c3, _, y3, rfl, h3, c4, _, y4, rfl, h4, rfl⟩ := h
  obtain ⟨q0, rfl⟩ := open_icell h0
  obtain ⟨q1, rfl⟩ := open_id h1
  obtain ⟨q2, rfl⟩ := open_id h2
  obtain ⟨q3, rfl⟩ := open_icell h3
  obtain ⟨q4, vp, vf, vb, rfl, k⟩ := open_look h4
  exact ⟨⟨q0, q1, q2, q3, q4⟩, vp, vf, vb, rfl, k⟩
theorem open_act_cells (h : DataW.trod enc Try.prog w base spare held fuel 41 cs = some x) : ∃ (a : Ac) (vp vf vb : Value), cs = (actC a vp vf vb).toList ∧ LookR (fun _ => True) w a.op.look vp vf vb ∧ ActWf a := by
  obtain ⟨n, h⟩ := trod_parts Try.underlying41 (by kernel_rfl) h
  obtain ⟨c0, _, y0, rfl, h0, c1, _, y1, rfl, h1, c2, _, y2, rfl, h2, c3, _, y3, rfl, h3, c4, _, y4, rfl, h4, rfl⟩ := h
  obtain ⟨q0, rfl⟩ := open_icell h0
  obtain ⟨q1, vp, vf, vb, rfl, k1, k2, k3, k4, k5, k6, k7⟩ := open_op h1
  obtain ⟨q2, rfl⟩ := open_icell h2
  obtain ⟨q3, rfl⟩ := open_icell h3
  obtain ⟨q4, rfl⟩ := open_conf h4
  exact ⟨⟨q0, q1, q2, q3, q4⟩, vp, vf, vb, rfl, k1, k2, k3, k4, k5, k6, k7⟩

theorem open_act (hv : Value.okWide Try.prog w r b0 41 v) (h : DataW.Trod enc Try.prog w base spare held 41 v d p) : ∃ a, ActV (fun _ => True) w v a ∧ ActWf a := by
  obtain ⟨cs, rfl, _⟩ := okWide_struct Try.underlying41 hv
  obtain ⟨n, h⟩ := h
  have h : DataW.trod enc Try.prog w base spare held n 41 cs.toList = some (d, p) := h
  obtain ⟨a, vp, vf, vb, hcs, h1, h2⟩ := open_act_cells h
  have : cs = actC a vp vf vb := Array.toList_inj.1 hcs
  subst this
  exact ⟨a, ⟨vp, vf, vb, rfl, h1⟩, h2⟩

theorem open_acts (hv : Value.okWide Try.prog w r b0 51 v) (h : DataW.Trod enc Try.prog w base spare held 51 v d p) : ∃ xs, ActsR w v xs ∧ ((∀ a ∈ xs, ActWf a) ∧ xs.length ≤ maxLen) := by
  obtain ⟨a, len, cap, rfl⟩ := okWide_slice Try.underlying51 hv
  obtain ⟨n, h⟩ := h
  have h : DataW.trod enc Try.prog w base spare held n 51 [.slice a len cap] = some (d, p) := h
  rcases open_slice Try.underlying51 h with ⟨hcs, _⟩ | ⟨a', len', cap', m, n', D, Pl, hcs, _, hl, hm, hmm, _, hi⟩
  · simp only [List.cons.injEq, Value.slice.injEq, and_true] at hcs
    obtain ⟨rfl, rfl, rfl⟩ := hcs
    exact ⟨[], ⟨none, 0, rfl, Nat.le_refl _, .inl rfl⟩, by simp, by simp⟩
  · simp only [List.cons.injEq, Value.slice.injEq, and_true] at hcs
    obtain ⟨rfl, rfl, rfl⟩ := hcs
    have hlm : len ≤ m := by rw [hmm]; split <;> omega
    have hone : ∀ i, i < len → ∃ x : Ac, ActWf x ∧ ∃ vp vf vb, (∀ j u, (actC x vp vf vb)[j]? = some u → w.cell? (a'.add (i * 42 + j)) = some u) ∧ LookR (fun _ => True) w x.op.look vp vf vb := by
      intro i hil
      obtain ⟨cs', h1, h2⟩ := hi i (by omega)
      obtain ⟨x, vp, vf, vb, rfl, k1, k2⟩ := open_act_cells h2
      rw [cellsAct] at h1
      obtain ⟨_, _, hat⟩ := World.cells?_some h1
      refine ⟨x, k2, vp, vf, vb, fun j u hj => ?_, k1⟩
      have hj4 : j < 42 := by
        have := (Array.getElem?_eq_some_iff.1 hj).1
        simpa [actC] using this
      rw [← Go.Deep.add_add, hat j hj4, Array.getElem?_toList]
      exact hj
    obtain ⟨f, hf⟩ := choose_lt (p := fun i (x : Ac) => ActWf x ∧ ∃ vp vf vb, (∀ j u, (actC x vp vf vb)[j]? = some u → w.cell? (a'.add (i * 42 + j)) = some u) ∧ LookR (fun _ => True) w x.op.look vp vf vb) hone
    refine ⟨(List.range len).map f, ⟨some a', cap, by simp, by simpa using hl, ?_⟩, ?_, by simp; omega⟩
    · by_cases h0 : len = 0
      · subst h0; exact .inl (by simp)
      · obtain ⟨b, o, sp⟩ := a'
        obtain ⟨_, vp, vf, vb, h1, _⟩ := hf 0 (by omega)
        have hc0 := h1 0 _ rfl
        have hsp : sp = none := by
          have := World.cell?_spot hc0
          simpa [Addr.add] using this
        subst hsp
        refine .inr ⟨b, o, rfl, ?_, fun i hil => ?_⟩
        · have := World.block_lt_of_cell? w _ hc0
          simpa [Addr.add] using this
        · have hil' : i < len := by simpa using hil
          obtain ⟨_, vp, vf, vb, k1, k2⟩ := hf i hil'
          simp only [List.getElem_map, List.getElem_range]
          refine ⟨vp, vf, vb, fun j u hu => ?_, k2⟩
          have := k1 j u hu
          rw [add_plain] at this
          rw [Nat.add_assoc]
          exact this
    · intro x hx
      simp at hx
      obtain ⟨i, hil, rfl⟩ := hx
      exact (hf i hil).1
end

end Go.Proofs.Ytnamnmipgpcjjaa

