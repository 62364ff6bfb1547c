/- Regions: the document's parts: is a point in one; a number put where it belongs; is a point wanted. -/
import Derived.Test.YtapeafokcailkaaRlB
set_option linter.unusedSimpArgs false
set_option linter.unusedVariables false
set_option linter.unusedSectionVars false
set_option linter.constructorNameAsVariable false
namespace Go.Reg
theorem has_snoc (l : List Rt) (r : Rt) (x y : Int) : Has (l ++ [r]) x y ↔ Has l x y ∨ r.Has x y := by
  rw [Has.app, Has.cons]
  simp [Has.nil]
/-- What is wanted, by its number. -/
def howF (h : Int) : Bool → Bool → Bool := if h = 0 then orF else if h = 1 then andF else cutF
end Go.Reg
namespace Go.Proofs.Ytapeafokcailkaa
open Go.RowKit Go.Gou Go.Reg Go.Shelf
set_option maxRecDepth 100000

set_option maxHeartbeats 4000000 in
theorem refHasL_any (w : World) (p : Option Addr) (c : Nat) (l : List Rt) (x y : Int) (hl : RtR (fun _ => True) w (.slice p l.length c) l) (hn : l.length ≤ 1000000) :
    Calls Try.prog 57 #[.slice p l.length c, .int .i64 x, .int .i64 y] w fun e w' => e = .returned (.bool (decide (Has l x y))) ∧ Gou.Mod (fun _ => False) w w' := by
  have HL := Lib.hid hl
  have Hn := Lib.hid hn
  clear hl hn
  go_enter Try.func57, Try.ntmps57
  go_wp2_with fail
  go_loopw [7] (fun vi wr => ∃ i : Nat, vi = .int .i64 i ∧ i ≤ l.length ∧ ¬ Has (l.take i) x y ∧ Gou.Mod (fun _ => False) w wr) (fun vi _ => l.length - (intOf vi).toNat)
  case atStart => exact ⟨0, rfl, by omega, by simp [Has.nil], Gou.Mod.refl _ _⟩
  case round =>
    obtain ⟨i, rfl, hi, hno, hm⟩ := hrel
    have Hno := Lib.hid hno
    have Hm := Lib.hid hm
    clear hno hm
    by_cases hil : i < l.length
    · have e1 : decide ((i : Int) < (l.length : Int)) = true := decide_eq_true (by omega)
      obtain ⟨-, bl, off, rfl, hb, -, hc⟩ := HL.out.cells (by omega)
      obtain ⟨k0, k1, k2, k3⟩ := hc i hil
      rw [← Hm.out.cell (p := ⟨bl, off + i * 4, none⟩) hb (fun h => h)] at k0
      rw [← Hm.out.cell (p := ⟨bl, off + i * 4 + 1, none⟩) hb (fun h => h)] at k1
      rw [← Hm.out.cell (p := ⟨bl, off + i * 4 + 2, none⟩) hb (fun h => h)] at k2
      rw [← Hm.out.cell (p := ⟨bl, off + i * 4 + 3, none⟩) hb (fun h => h)] at k3
      have hi1 : (i : Int) < (l.length : Int) := by omega
      have hi0 : (0 : Int) ≤ (i : Int) := by omega
      have wi : IntKind.i64.wrap ((i : Int) + 1) = (i : Int) + 1 := wrap_id (by omega) (by have := Hn.out; omega)
      have Hyes := Lib.hid (fun (h : l[i].Has x y) => (⟨l[i], List.getElem_mem hil, h⟩ : Has l x y))
      have Hst := Lib.hid (fun (h : ¬ l[i].Has x y) => (by rw [List.take_succ_eq_append_getElem hil, has_snoc]; exact fun h2 => h2.elim Hno.out h : ¬ Has (l.take (i + 1)) x y))
      have Hin := Lib.hid (And.intro hi hil)
      have Hh := Lib.hid (fun (w' : World) => refHas_any l[i] x y w')
      clear hc
      generalize l[i] = s at *
      obtain ⟨a, b, c', d⟩ := s
      simp only at k0 k1 k2 k3
      obtain ⟨q, hq⟩ : ∃ q, q = decide ((⟨a, b, c', d⟩ : Rt).Has x y) := ⟨_, rfl⟩
      have Hq := Lib.hid hq
      rw [← hq] at Hh
      clear hq
      go_wp2_with fail
      refine (Hh.out _).mono ?_
      rintro e w2 ⟨rfl, hb2⟩
      have Hm2 := Lib.hid (Hm.out.trans' (Gou.Mod.of_below hb2 (fun _ => False)))
      clear hb2
      cases q with
      | true =>
        have Hy : Hid (Has l x y) := Lib.hid (Hyes.out (of_decide_eq_true Hq.out.symm))
        go_wp2_with fail
        go_ret
        exact ⟨ret_bool (by simp [Hy.out]), Hm2.out⟩
      | false =>
        have Hs2 := Lib.hid (Hst.out (of_decide_eq_false Hq.out.symm))
        go_wp2_with fail
        go_roundw
        case rel => exact ⟨i + 1, by go_num, by have := Hin.out; omega, Hs2.out, Hm2.out⟩
        case measure => have := Hin.out; simp [intOf, wi]; omega
    · obtain rfl : i = l.length := by omega
      have e1 : decide ((l.length : Int) < (l.length : Int)) = false := decide_eq_false (by omega)
      rw [List.take_length] at Hno
      go_wp2_with fail
      go_ret
      exact ⟨ret_bool (by simp [Hno.out]), Hm.out⟩

set_option maxHeartbeats 8000000 in
theorem refPut_any (w : World) (G : Nat → Prop) (p : Option Addr) (c : Nat) (xs : List Int) (n : Int) (hx : IntsR G w (.slice p xs.length c) xs) (hn : xs.length ≤ 1000000) :
    Calls Try.prog 38 #[.slice p xs.length c, .int .i64 n] w fun e w' => Gou.Mod (fun _ => False) w w' ∧ ∃ v, e = .returned v ∧ w'.ownsRow w.heap.size 3 1 v (putN xs n).length (ivs (putN xs n)) := by
  have HX := Lib.hid hx
  have Hn := Lib.hid hn
  clear hx hn
  go_enter Try.func38, Try.ntmps38
  go_wp2_with fail
  go_loopw [5, 6] (fun vo vi wr => ∃ (i : Nat) (o : List Int), vi = .int .i64 i ∧ i ≤ xs.length ∧ o = (xs.take i).filter (fun x => decide (x < n)) ∧ o.length ≤ xs.length + 1 + i ∧ wr.ownsRow w.heap.size 3 1 vo o.length (ivs o) ∧ Gou.Mod (fun _ => False) w wr) (fun _ vi _ => xs.length - (intOf vi).toNat)
  case atStart => exact ⟨0, [], rfl, by omega, by simp, by simp, World.ownsRow_nil _ _ _ _, Gou.Mod.refl _ _⟩
  case round =>
    obtain ⟨i, o, rfl, hi, ho, hol, hown, hm⟩ := hrel
    obtain ⟨po, co, rfl⟩ := Gou.ownsRow_form hown
    have Ho := Lib.hid ho
    have Hol := Lib.hid hol
    have Hown := Lib.hid hown
    have Hm := Lib.hid hm
    clear ho hol hown hm
    by_cases hil : i < xs.length
    · have e1 : decide ((i : Int) < (xs.length : Int)) = true := decide_eq_true (by omega)
      obtain ⟨-, bl, off, rfl, hb, -, hc⟩ := IntsR.cells HX.out (by omega)
      have k0 := hc i hil
      rw [← Hm.out.cell (p := ⟨bl, off + i, none⟩) hb (fun h => h)] at k0
      have hi1 : (i : Int) < (xs.length : Int) := by omega
      have hi0 : (0 : Int) ≤ (i : Int) := by omega
      have wi : IntKind.i64.wrap ((i : Int) + 1) = (i : Int) + 1 := wrap_id (by omega) (by have := Hn.out; omega)
      have Hstep : Hid ((xs.take (i + 1)).filter (fun x => decide (x < n)) = o ++ (if xs[i] < n then [xs[i]] else [])) := Lib.hid (by rw [Ho.out, List.take_succ_eq_append_getElem hil, List.filter_append]; by_cases h : xs[i] < n <;> simp [h])
      have Hin := Lib.hid (And.intro hi hil)
      clear hc
      generalize xs[i] = x at *
      by_cases hq : x < n
      · have t1 : decide (x < n) = true := decide_eq_true hq
        have Hs2 := Lib.hid (Hstep.out.trans (by rw [if_pos hq]))
        clear hq Hstep
        go_wp2_with (first | ((with_reducible show wpList _ _ _ (⟨_, Op.call ⟨.builtin .append, _, _⟩, _, _, _, _⟩ :: _) _ _); refine halt ?_) | fail)
        refine wpList_append_row T_int rfl _ _ rfl (w.heap.size) (.slice po o.length co) (o.length) (ivs o) (fun _ => True) (.slice (some ⟨wr.heap.size, 0, none⟩) 1 1) (1) ([.int .i64 x]) rfl rfl (by have := Hm.out.size; simp; omega) (own_up Hown.out (Gou.Mod.alloc0 _ _)) (RowG.of_blk (Blk.new _ _ #[.int .i64 x]) 1 1 rfl _ trivial) (ivs_one [x]) (by have := Hol.out; have := Hn.out; first | (unfold maxLen; omega) | omega) (by have := Hol.out; have := Hn.out; first | (unfold maxLen; omega) | omega) ?_
        intro v5 w5 G5
        have Hm5 := Lib.hid (G5.mod0 (Hm.out.trans' (Gou.Mod.alloc0 _ _)) (own_ge Hown.out))
        have Hown5 := Lib.hid G5.own
        clear G5
        obtain ⟨p5, c5, rfl⟩ := Gou.ownsRow_form Hown5.out
        go_wp2_with fail
        go_roundw
        case rel =>
          refine ⟨i + 1, o ++ [x], by go_num, by have := Hin.out; omega, Hs2.out.symm, by have := Hol.out; simp; omega, ?_, Hm5.out⟩
          have h := Hown5.out
          simpa [ivs] using h
        case measure => have := Hin.out; simp [intOf, wi]; omega
      · have t1 : decide (x < n) = false := decide_eq_false hq
        have Hs2 := Lib.hid (Hstep.out.trans (by rw [if_neg hq, List.append_nil]))
        clear hq Hstep
        go_wp2_with fail
        go_roundw
        case rel => exact ⟨i + 1, o, by go_num, by have := Hin.out; omega, Hs2.out.symm, by have := Hol.out; omega, Hown.out, Hm.out⟩
        case measure => have := Hin.out; simp [intOf, wi]; omega
    · obtain rfl : i = xs.length := by omega
      have e1 : decide ((xs.length : Int) < (xs.length : Int)) = false := decide_eq_false (by omega)
      rw [List.take_length] at Ho
      go_wp2_with (first | ((with_reducible show wpList _ _ _ (⟨_, Op.call ⟨.builtin .append, _, _⟩, _, _, _, _⟩ :: _) _ _); refine halt ?_) | fail)
      refine wpList_append_row T_int rfl _ _ rfl (w.heap.size) (.slice po o.length co) (o.length) (ivs o) (fun _ => True) (.slice (some ⟨wr.heap.size, 0, none⟩) 1 1) (1) ([.int .i64 n]) rfl rfl (by have := Hm.out.size; simp; omega) (own_up Hown.out (Gou.Mod.alloc0 _ _)) (RowG.of_blk (Blk.new _ _ #[.int .i64 n]) 1 1 rfl _ trivial) (ivs_one [n]) (by have := Hol.out; have := Hn.out; first | (unfold maxLen; omega) | omega) (by have := Hol.out; have := Hn.out; first | (unfold maxLen; omega) | omega) ?_
      intro v5 w5 G5
      have Hm5 := Lib.hid (G5.mod0 (Hm.out.trans' (Gou.Mod.alloc0 _ _)) (own_ge Hown.out))
      have Hown5 := Lib.hid G5.own
      clear G5
      obtain ⟨p5, c5, rfl⟩ := Gou.ownsRow_form Hown5.out
      obtain ⟨o2, ho2⟩ : ∃ o2, o2 = o ++ [n] := ⟨_, rfl⟩
      have Ho2 : Hid (o2 = xs.filter (fun x => decide (x < n)) ++ [n]) := Lib.hid (by rw [ho2, Ho.out])
      have Hol2 : Hid (o2.length ≤ xs.length + 1) := Lib.hid (by rw [Ho2.out]; have := List.length_filter_le (fun x => decide (x < n)) xs; simp; omega)
      have hown2 : w5.ownsRow w.heap.size 3 1 (.slice p5 o2.length c5) o2.length (ivs o2) := by
        have h := Hown5.out
        rw [ho2]
        simpa [ivs] using h
      have hl2 : o.length + 1 = o2.length := by rw [ho2]; simp
      have Hown2 := Lib.hid hown2
      have Hm2 := Lib.hid Hm5.out
      rw [hl2]
      clear ho2 hown2 hl2 Hown5 Hm5
      go_wp2_with fail
      go_loopw [5, 7] (fun vo vi wr => ∃ (i : Nat) (o : List Int), vi = .int .i64 i ∧ i ≤ xs.length ∧ o = xs.filter (fun x => decide (x < n)) ++ [n] ++ (xs.take i).filter (fun x => decide (n < x)) ∧ o.length ≤ xs.length + 1 + i ∧ wr.ownsRow w.heap.size 3 1 vo o.length (ivs o) ∧ Gou.Mod (fun _ => False) w wr) (fun _ vi _ => xs.length - (intOf vi).toNat)
      case atStart => exact ⟨0, o2, rfl, by omega, by rw [Ho2.out]; simp, by have := Hol2.out; omega, Hown2.out, Hm2.out⟩
      case round =>
        obtain ⟨i, o, rfl, hi, ho, hol, hown, hm⟩ := hrel
        obtain ⟨po, co, rfl⟩ := Gou.ownsRow_form hown
        have Ho := Lib.hid ho
        have Hol := Lib.hid hol
        have Hown := Lib.hid hown
        have Hm := Lib.hid hm
        clear ho hol hown hm
        by_cases hil : i < xs.length
        · have e1 : decide ((i : Int) < (xs.length : Int)) = true := decide_eq_true (by omega)
          obtain ⟨-, bl, off, rfl, hb, -, hc⟩ := IntsR.cells HX.out (by omega)
          have k0 := hc i hil
          rw [← Hm.out.cell (p := ⟨bl, off + i, none⟩) hb (fun h => h)] at k0
          have hi1 : (i : Int) < (xs.length : Int) := by omega
          have hi0 : (0 : Int) ≤ (i : Int) := by omega
          have wi : IntKind.i64.wrap ((i : Int) + 1) = (i : Int) + 1 := wrap_id (by omega) (by have := Hn.out; omega)
          have Hstep : Hid (xs.filter (fun x => decide (x < n)) ++ [n] ++ (xs.take (i + 1)).filter (fun x => decide (n < x)) = o ++ (if n < xs[i] then [xs[i]] else [])) := Lib.hid (by rw [Ho.out, List.take_succ_eq_append_getElem hil, List.filter_append]; by_cases h : n < xs[i] <;> simp [h])
          have Hin := Lib.hid (And.intro hi hil)
          clear hc
          generalize xs[i] = x at *
          by_cases hq : n < x
          · have t1 : decide (n < x) = true := decide_eq_true hq
            have Hs2 := Lib.hid (Hstep.out.trans (by rw [if_pos hq]))
            clear hq Hstep
            go_wp2_with (first | ((with_reducible show wpList _ _ _ (⟨_, Op.call ⟨.builtin .append, _, _⟩, _, _, _, _⟩ :: _) _ _); refine halt ?_) | fail)
            refine wpList_append_row T_int rfl _ _ rfl (w.heap.size) (.slice po o.length co) (o.length) (ivs o) (fun _ => True) (.slice (some ⟨wr.heap.size, 0, none⟩) 1 1) (1) ([.int .i64 x]) rfl rfl (by have := Hm.out.size; simp; omega) (own_up Hown.out (Gou.Mod.alloc0 _ _)) (RowG.of_blk (Blk.new _ _ #[.int .i64 x]) 1 1 rfl _ trivial) (ivs_one [x]) (by have := Hol.out; have := Hn.out; first | (unfold maxLen; omega) | omega) (by have := Hol.out; have := Hn.out; first | (unfold maxLen; omega) | omega) ?_
            intro v5 w5 G5
            have Hm5 := Lib.hid (G5.mod0 (Hm.out.trans' (Gou.Mod.alloc0 _ _)) (own_ge Hown.out))
            have Hown5 := Lib.hid G5.own
            clear G5
            obtain ⟨p5, c5, rfl⟩ := Gou.ownsRow_form Hown5.out
            go_wp2_with fail
            go_roundw
            case rel =>
              refine ⟨i + 1, o ++ [x], by go_num, by have := Hin.out; omega, Hs2.out.symm, by have := Hol.out; simp; omega, ?_, Hm5.out⟩
              have h := Hown5.out
              simpa [ivs] using h
            case measure => have := Hin.out; simp [intOf, wi]; omega
          · have t1 : decide (n < x) = false := decide_eq_false hq
            have Hs2 := Lib.hid (Hstep.out.trans (by rw [if_neg hq, List.append_nil]))
            clear hq Hstep
            go_wp2_with fail
            go_roundw
            case rel => exact ⟨i + 1, o, by go_num, by have := Hin.out; omega, Hs2.out.symm, by have := Hol.out; omega, Hown.out, Hm.out⟩
            case measure => have := Hin.out; simp [intOf, wi]; omega
        · obtain rfl : i = xs.length := by omega
          have e1 : decide ((xs.length : Int) < (xs.length : Int)) = false := decide_eq_false (by omega)
          rw [List.take_length] at Ho
          have Hp : Hid (putN xs n = o) := Lib.hid Ho.out.symm
          go_wp2_with fail
          go_ret
          exact ⟨Hm.out, _, rfl, by rw [Hp.out]; exact Hown.out⟩

set_option maxHeartbeats 4000000 in
theorem refWant_any (w : World) (pa pb : Option Addr) (ca cb : Nat) (a b : List Rt) (h x y : Int) (hA : RtR (fun _ => True) w (.slice pa a.length ca) a) (hB : RtR (fun _ => True) w (.slice pb b.length cb) b) (hna : a.length ≤ 1000000) (hnb : b.length ≤ 1000000) :
    Calls Try.prog 39 #[.slice pa a.length ca, .slice pb b.length cb, .int .i64 h, .int .i64 x, .int .i64 y] w fun e w' => e = .returned (.bool (decide (Pts a b (howF h) x y))) ∧ Gou.Mod (fun _ => False) w w' := by
  have hP : decide (Pts a b (howF h) x y) = howF h (decide (Has a x y)) (decide (Has b x y)) := by rw [Bool.eq_iff_iff, decide_eq_true_eq]; rfl
  rw [hP]
  have HA := Lib.hid (refHasL_any w pa ca a x y hA hna)
  have HB := Lib.hid (fun (w' : World) (hm : Gou.Mod (fun _ => False) w w') => refHasL_any w' pb cb b x y (hB.under hm) hnb)
  clear hA hB hna hnb hP
  generalize decide (Has a x y) = q1 at *
  generalize decide (Has b x y) = q2 at *
  go_enter Try.func39, Try.ntmps39
  go_wp2_with fail
  refine HA.out.mono ?_
  rintro e w1 ⟨rfl, hm1⟩
  have Hm1 := Lib.hid hm1
  clear hm1
  go_wp2_with fail
  refine (HB.out w1 Hm1.out).mono ?_
  rintro e w2 ⟨rfl, hm2⟩
  have Hm2 := Lib.hid (Hm1.out.trans' hm2)
  clear hm2 HA HB
  by_cases h0 : h = 0
  · have e0 : (h == 0) = true := by simpa using h0
    have hf : howF h = orF := by simp [howF, h0]
    have Hf := Lib.hid hf
    clear h0 hf
    cases q1 <;> cases q2
    all_goals go_wp2_with fail
    all_goals go_ret
    all_goals exact ⟨by rw [Hf.out]; rfl, Hm2.out⟩
  · have e0 : (h == 0) = false := by simpa using h0
    by_cases h1 : h = 1
    · have e1 : (h == 1) = true := by simpa using h1
      have hf : howF h = andF := by simp [howF, h1]
      have Hf := Lib.hid hf
      clear h0 h1 hf
      cases q1 <;> cases q2
      all_goals go_wp2_with fail
      all_goals go_ret
      all_goals exact ⟨by rw [Hf.out]; rfl, Hm2.out⟩
    · have e1 : (h == 1) = false := by simpa using h1
      have hf : howF h = cutF := by simp [howF, h0, h1]
      have Hf := Lib.hid hf
      clear h0 h1 hf
      cases q1 <;> cases q2
      all_goals go_wp2_with fail
      all_goals go_ret
      all_goals exact ⟨by rw [Hf.out]; rfl, Hm2.out⟩

end Go.Proofs.Ytapeafokcailkaa
