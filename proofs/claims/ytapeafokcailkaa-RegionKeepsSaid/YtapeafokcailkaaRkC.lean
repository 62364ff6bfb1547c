/- Regions: a row's spans. -/
import Derived.Test.YtapeafokcailkaaRkB
set_option linter.unusedSimpArgs false
set_option linter.unusedVariables false
set_option linter.unusedSectionVars false
set_option linter.constructorNameAsVariable false
namespace Go.Gou
open Go.RowKit Go.Reg

theorem joinP_run_len : ∀ (l o : List Sp), (l.foldl joinStep o).length ≤ o.length + l.length
  | [], o => by simp
  | s :: l, o => by
    have h1 := joinStep_len o s
    have h2 := joinP_run_len l (joinStep o s)
    simp only [List.foldl_cons, List.length_cons]
    omega
theorem joinP_len (l : List Sp) : (joinP l).length ≤ l.length := by
  have := joinP_run_len l []
  simpa [joinP] using this
theorem rowOf_snoc (l : List Rt) (r : Rt) (y : Int) : rowOf (l ++ [r]) y = rowOf l y ++ (if r.y0 ≤ y ∧ y < r.y1 ∧ r.x0 < r.x1 then [⟨r.x0, r.x1⟩] else []) := by
  unfold rowOf
  rw [List.filter_append, List.map_append]
  congr 1
  by_cases h : r.y0 ≤ y ∧ y < r.y1 ∧ r.x0 < r.x1 <;> simp [h]
theorem rowOf_len (l : List Rt) (y : Int) : (rowOf l y).length ≤ l.length := by
  unfold rowOf
  rw [List.length_map]
  exact List.length_filter_le _ _
theorem rowOf_near {l : List Rt} {y : Int} (h : ∀ r ∈ l, Near r.x0) : ∀ s ∈ rowOf l y, Near s.a := by
  intro s hs
  unfold rowOf at hs
  rw [List.mem_map] at hs
  obtain ⟨r, hr, rfl⟩ := hs
  exact h r (List.mem_filter.1 hr).1
/-- Sorted and joined, a row's spans are what they are to be. -/
theorem spans_law {l : List Rt} {y : Int} {l' : List Sp} (hp : l'.Perm (rowOf l y)) (hr : Rise l') : Canon (joinP l') ∧ (∀ x, In (joinP l') x ↔ Has l x y) ∧ (joinP l').length ≤ l.length := by
  have hs : ∀ s ∈ l', s.a < s.b := fun s h => rowOf_some l y s (hp.mem_iff.1 h)
  obtain ⟨h1, h2⟩ := joinP_canon hs hr
  refine ⟨h1, fun x => ?_, Nat.le_trans (joinP_len l') (by rw [hp.length_eq]; exact rowOf_len l y)⟩
  rw [h2, ← rowOf_in]
  constructor
  · rintro ⟨s, h, k⟩
    exact ⟨s, hp.mem_iff.1 h, k⟩
  · rintro ⟨s, h, k⟩
    exact ⟨s, hp.mem_iff.2 h, k⟩
theorem Mod.own {w wr w2 : World} {e : TypeId} {k n : Nat} {v : Value} {cs : List Value} (h : Mod (fun _ => False) w wr) (hv : wr.ownsRow w.heap.size e k v n cs) (hm : Mod (fun b => v.ownBlock = some b) wr w2) : Mod (fun _ => False) w w2 :=
  h.trans hm fun i hi hs => absurd (own_ge hv i hs) (by omega)

end Go.Gou
namespace Go.Proofs.Ytapeafokcailkaa
open Go.RowKit Go.Gou Go.Reg
set_option maxRecDepth 100000

/-- What a row's spans come to. -/
def SpansP (w : World) (l : List Rt) (y : Int) (e : Ending) (w' : World) : Prop :=
  Gou.Mod (fun _ => False) w w' ∧ ∃ v s, e = .returned v ∧ w'.ownsRow w.heap.size 63 2 v s.length (sps s) ∧ Canon s ∧ (∀ x, In s x ↔ Has l x y) ∧ s.length ≤ l.length

set_option maxHeartbeats 8000000 in
theorem spans_any (w : World) (G : Nat → Prop) (p : Option Addr) (c : Nat) (l : List Rt) (y : Int) (hl : RtR G w (.slice p l.length c) l) (hn : l.length ≤ 1000000) (hN : ∀ r ∈ l, Near r.x0) :
    Calls Try.prog 55 #[.slice p l.length c, .int .i64 y] w (SpansP w l y) := by
  have HL := Lib.hid hl
  have Hn := Lib.hid hn
  have HN := Lib.hid hN
  clear hl hn hN
  go_enter Try.func55, Try.ntmps55
  go_wp2_with fail
  go_loopw [5, 10] (fun vo vi wr => ∃ (i : Nat) (o : List Sp), vi = .int .i64 i ∧ i ≤ l.length ∧ o = rowOf (l.take i) y ∧ o.length ≤ i ∧ wr.ownsRow w.heap.size 63 2 vo o.length (sps o) ∧ Gou.Mod (fun _ => False) w wr) (fun _ vi _ => l.length - (intOf vi).toNat)
  case atStart => exact ⟨0, [], rfl, by omega, rfl, by simp, World.ownsRow_nil _ _ _ _, Gou.Mod.refl _ _⟩
  case round =>
    obtain ⟨i, o, rfl, hi, ho, hol, hown, hm⟩ := hrel
    obtain ⟨po, co, rfl⟩ := Gou.ownsRow_form hown
    have Ho := Lib.hid ho
    have Hol := Lib.hid hol
    have Hown := Lib.hid hown
    have Hm := Lib.hid hm
    clear ho hol hown hm
    by_cases hil : i < l.length
    · have e1 : decide ((i : Int) < (l.length : Int)) = true := decide_eq_true (by omega)
      obtain ⟨-, bl, off, rfl, hb, -, hc⟩ := HL.out.cells (by omega)
      obtain ⟨k0, k1, k2, k3⟩ := hc i hil
      rw [← Hm.out.cell (p := ⟨bl, off + i * 4, none⟩) hb (fun h => h)] at k0
      rw [← Hm.out.cell (p := ⟨bl, off + i * 4 + 1, none⟩) hb (fun h => h)] at k1
      rw [← Hm.out.cell (p := ⟨bl, off + i * 4 + 2, none⟩) hb (fun h => h)] at k2
      rw [← Hm.out.cell (p := ⟨bl, off + i * 4 + 3, none⟩) hb (fun h => h)] at k3
      have hi1 : (i : Int) < (l.length : Int) := by omega
      have hi0 : (0 : Int) ≤ (i : Int) := by omega
      have wi : IntKind.i64.wrap ((i : Int) + 1) = (i : Int) + 1 := wrap_id (by omega) (by have := Hn.out; omega)
      have Hstep : Hid (rowOf (l.take (i + 1)) y = o ++ (if l[i].y0 ≤ y ∧ y < l[i].y1 ∧ l[i].x0 < l[i].x1 then [⟨l[i].x0, l[i].x1⟩] else [])) := Lib.hid (by rw [Ho.out, List.take_succ_eq_append_getElem hil, rowOf_snoc])
      have Hin := Lib.hid (And.intro hi hil)
      clear hc
      generalize l[i] = s at *
      obtain ⟨a, b, c', d⟩ := s
      simp only at k0 k1 k2 k3
      by_cases hq : b ≤ y ∧ y < d ∧ a < c'
      · obtain ⟨q1, q2, q3⟩ := hq
        have t1 : decide (b ≤ y) = true := decide_eq_true q1
        have t2 : decide (y < d) = true := decide_eq_true q2
        have t3 : decide (a < c') = true := decide_eq_true q3
        have Hs2 : Hid (rowOf (l.take (i + 1)) y = o ++ [⟨a, c'⟩]) := Lib.hid (by rw [Hstep.out, if_pos ⟨q1, q2, q3⟩])
        have Hown2 := Lib.hid (own_up Hown.out (Gou.Mod.alloc0 wr (.cells #[.int .i64 a, .int .i64 b, .int .i64 c', .int .i64 d] 36)))
        have Hm2 : Hid (Gou.Mod (fun _ => False) w (wr.alloc (.cells #[.int .i64 a, .int .i64 b, .int .i64 c', .int .i64 d] 36))) := Lib.hid (Hm.out.trans' (Gou.Mod.alloc0 _ _))
        clear q1 q2 q3 Hstep
        go_wp2_with (first | ((with_reducible show wpList _ _ _ (⟨_, Op.call ⟨.builtin .append, _, _⟩, _, _, _, _⟩ :: _) _ _); refine halt ?_) | fail)
        refine wpList_append_row T_sp rfl _ _ rfl (w.heap.size) (.slice po o.length co) (o.length) (sps o) (fun _ => True) (.slice (some ⟨wr.heap.size + 1, 0, none⟩) 1 1) (1) ([.int .i64 a, .int .i64 c']) rfl rfl (by have := Hm2.out.size; simp at this ⊢; omega) (own_up Hown2.out (Gou.Mod.alloc0 _ _)) (RowG.of_blk (two_new wr _ _ #[.int .i64 a, .int .i64 b, .int .i64 c', .int .i64 d] #[.int .i64 a, .int .i64 c']).2 2 1 rfl _ trivial) (spC_one ⟨a, c'⟩) (by have := Hol.out; have := Hn.out; have := Hin.out; first | (unfold maxLen; omega) | omega) (by have := Hol.out; have := Hn.out; have := Hin.out; first | (unfold maxLen; omega) | omega) ?_
        intro v5 w5 G5
        have Hm5 := Lib.hid (G5.mod0 (Hm2.out.trans' (Gou.Mod.alloc0 _ _)) (own_ge Hown2.out))
        have Hown5 := Lib.hid G5.own
        clear G5
        obtain ⟨p5, c5, rfl⟩ := Gou.ownsRow_form Hown5.out
        go_wp2_with fail
        go_roundw
        case rel =>
          refine ⟨i + 1, rowOf (l.take (i + 1)) y, by go_num, by have := Hin.out; omega, rfl, ?_, ?_, Hm5.out⟩
          · rw [Hs2.out]; have := Hol.out; simp; omega
          · rw [Hs2.out, sps_app]; have h := Hown5.out; simpa [sps, spC] using h
        case measure => have := Hin.out; simp [intOf, wi]; omega
      · have Hs2 : Hid (rowOf (l.take (i + 1)) y = o) := Lib.hid (by rw [Hstep.out, if_neg hq, List.append_nil])
        have Hm2 : Hid (Gou.Mod (fun _ => False) w (wr.alloc (.cells #[.int .i64 a, .int .i64 b, .int .i64 c', .int .i64 d] 36))) := Lib.hid (Hm.out.trans' (Gou.Mod.alloc0 _ _))
        have Hown2 := Lib.hid (own_up Hown.out (Gou.Mod.alloc0 wr (.cells #[.int .i64 a, .int .i64 b, .int .i64 c', .int .i64 d] 36)))
        have hcase : decide (b ≤ y) = false ∨ (decide (b ≤ y) = true ∧ decide (y < d) = false) ∨ (decide (b ≤ y) = true ∧ decide (y < d) = true ∧ decide (a < c') = false) := by
          by_cases q1 : b ≤ y
          · by_cases q2 : y < d
            · have q3 : ¬ a < c' := fun h => hq ⟨q1, q2, h⟩
              exact .inr (.inr ⟨decide_eq_true q1, decide_eq_true q2, decide_eq_false q3⟩)
            · exact .inr (.inl ⟨decide_eq_true q1, decide_eq_false q2⟩)
          · exact .inl (decide_eq_false q1)
        clear hq Hstep
        rcases hcase with t1 | ⟨t1, t2⟩ | ⟨t1, t2, t3⟩
        all_goals
          go_wp2_with fail
          go_roundw
          case rel =>
            refine ⟨i + 1, rowOf (l.take (i + 1)) y, by go_num, by have := Hin.out; omega, rfl, ?_, ?_, Hm2.out⟩
            · rw [Hs2.out]; have := Hol.out; omega
            · rw [Hs2.out]; exact Hown2.out
          case measure => have := Hin.out; simp [intOf, wi]; omega
    · obtain rfl : i = l.length := by omega
      have e1 : decide ((l.length : Int) < (l.length : Int)) = false := decide_eq_false (by omega)
      rw [List.take_length] at Ho
      go_wp2_with fail
      refine (sortSp_any wr w.heap.size (.slice po o.length co) o Hown.out (by rw [Ho.out]; exact rowOf_near HN.out) (by have := Hol.out; have := Hn.out; omega)).mono ?_
      rintro e w2 ⟨rfl, hm2, l', hp, hr, hs2⟩
      obtain ⟨p2, c2, hv2⟩ := hs2.form
      have hll : l'.length = o.length := hp.length_eq
      rw [Ho.out] at hp
      have Hlaw := Lib.hid (spans_law hp hr)
      have Hm2 := Lib.hid (Gou.Mod.own Hm.out Hown.out hm2)
      have Hll := Lib.hid hll
      have Hs2 := Lib.hid hs2
      clear hm2 hp hr hs2
      clear hv2 hll
      go_wp2_with fail
      have hj := joined_any w2 (fun _ => True) po co l' (by rw [Hll.out]; exact Hs2.out) (by have := Hol.out; have := Hn.out; have := Hll.out; omega)
      rw [Hll.out] at hj
      refine hj.mono ?_
      clear hj
      rintro e w3 ⟨hm3, v, rfl, hown3⟩
      have Hend : Hid (SpansP w l y (.returned v) w3) := Lib.hid ⟨Hm2.out.trans' hm3, v, joinP l', rfl, ownsRow_base hown3 Hm2.out.size, Hlaw.out.1, Hlaw.out.2.1, Hlaw.out.2.2⟩
      obtain ⟨p3, c3, rfl⟩ := Gou.ownsRow_form hown3
      clear hm3 hown3
      go_wp2_with fail
      go_ret
      exact Hend.out

end Go.Proofs.Ytapeafokcailkaa
