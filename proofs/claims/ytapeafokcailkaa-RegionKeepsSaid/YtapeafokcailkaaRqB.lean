/- Regions: their areas, the code's and the document's. -/
import Derived.Test.YtapeafokcailkaaRqA
set_option linter.unusedSimpArgs false
set_option linter.unusedVariables false
set_option linter.unusedSectionVars false
set_option linter.constructorNameAsVariable false
namespace Go.Reg
theorem areaP_bd (r : Rt) : 0 ≤ areaP r ∧ areaP r ≤ maxArea := by
  by_cases h : r.Some
  · rw [areaP_eq h]
    have := area_pos h
    unfold maxArea
    omega
  · unfold areaP maxArea
    rw [if_neg h]
    omega
theorem areasP_bd (l : List Rt) : 0 ≤ areasP l ∧ areasP l ≤ maxArea := by
  have key : ∀ (l : List Rt) (n : Int), 0 ≤ n → n ≤ maxArea → 0 ≤ l.foldl (fun n r => min (n + areaP r) maxArea) n ∧ l.foldl (fun n r => min (n + areaP r) maxArea) n ≤ maxArea := by
    intro l
    induction l with
    | nil => intro n h1 h2; exact ⟨h1, h2⟩
    | cons r l ih =>
      intro n h1 h2
      rw [List.foldl_cons]
      have := areaP_bd r
      exact ih _ (by unfold maxArea at *; omega) (by omega)
  exact key l 0 (by omega) (by unfold maxArea; omega)
theorem areasP_snoc (l : List Rt) (r : Rt) : areasP (l ++ [r]) = min (areasP l + areaP r) maxArea := by simp [areasP, List.foldl_append]
theorem areasP_take {l : List Rt} {i : Nat} (h : i < l.length) : areasP (l.take (i + 1)) = min (areasP (l.take i) + areaP l[i]) maxArea := by
  rw [List.take_succ_eq_append_getElem h, areasP_snoc]
end Go.Reg
namespace Go.Proofs.Ytapeafokcailkaa
open Go.RowKit Go.Gou Go.Reg Go.Shelf
set_option maxRecDepth 100000

set_option maxHeartbeats 8000000 in
theorem regArea_any (w : World) (p : Option Addr) (c : Nat) (l : List Rt) (hl : RtR (fun _ => True) w (.slice p l.length c) l) (hr : ∀ r ∈ l, r.Right) (hn : l.length ≤ 1000000000) :
    Calls Try.prog 20 #[.slice p l.length c] w fun e w' => e = .returned (.int .i64 (areasP l)) ∧ Gou.Mod (fun _ => False) w w' := by
  have HL := Lib.hid hl
  have HR := Lib.hid hr
  have Hn := Lib.hid hn
  clear hl hr hn
  go_enter Try.func20, Try.ntmps20
  go_wp2_with fail
  go_loopw [3, 8] (fun vn vi wr => ∃ i : Nat, vi = .int .i64 i ∧ i ≤ l.length ∧ vn = .int .i64 (areasP (l.take i)) ∧ Gou.Mod (fun _ => False) w wr) (fun vn vi _ => l.length - (intOf vi).toNat)
  case atStart => exact ⟨0, rfl, by omega, rfl, Gou.Mod.refl _ _⟩
  case round =>
    obtain ⟨i, rfl, hi, rfl, hm⟩ := hrel
    have Hm := Lib.hid hm
    clear hm
    by_cases hil : i < l.length
    · have e1 : decide ((i : Int) < (l.length : Int)) = true := decide_eq_true (by omega)
      obtain ⟨-, bl, off, rfl, hb, -, hc⟩ := HL.out.cells (by omega)
      obtain ⟨k0, k1, k2, k3⟩ := hc i hil
      rw [← Hm.out.cell (p := ⟨bl, off + i * 4, none⟩) hb (fun h => h)] at k0
      rw [← Hm.out.cell (p := ⟨bl, off + i * 4 + 1, none⟩) hb (fun h => h)] at k1
      rw [← Hm.out.cell (p := ⟨bl, off + i * 4 + 2, none⟩) hb (fun h => h)] at k2
      rw [← Hm.out.cell (p := ⟨bl, off + i * 4 + 3, none⟩) hb (fun h => h)] at k3
      have hi1 : (i : Int) < (l.length : Int) := by omega
      have hi0 : (0 : Int) ≤ (i : Int) := by omega
      have wi : IntKind.i64.wrap ((i : Int) + 1) = (i : Int) + 1 := wrap_id (by omega) (by have := Hn.out; omega)
      clear hc
      have Ht := Lib.hid (areasP_take hil)
      have Hbd := Lib.hid (areasP_bd (l.take i))
      have Hba := Lib.hid (areaP_bd l[i])
      have Hri := Lib.hid (HR.out _ (List.getElem_mem hil))
      have Hin := Lib.hid (And.intro hi hil)
      generalize l[i] = s at *
      generalize areasP (l.take i) = n at *
      have HA := Lib.hid (fun (w' : World) => rectArea_any s w' Hri.out)
      have wn : IntKind.i64.wrap (n + areaP s) = n + areaP s := wrap_id (by have := Hbd.out; have := Hba.out; omega) (by have := Hbd.out; have := Hba.out; unfold maxArea at *; omega)
      generalize areaP s = ar at *
      obtain ⟨a, b, c', d⟩ := s
      simp only at k0 k1 k2 k3
      go_wp2_with fail
      have HN := Lib.hid (Blk.new wr 36 #[.int .i64 a, .int .i64 b, .int .i64 c', .int .i64 d])
      have Hm3 : Hid (Gou.Mod (fun _ => False) w (wr.alloc (.cells #[.int .i64 a, .int .i64 b, .int .i64 c', .int .i64 d] 36))) := Lib.hid (Hm.out.trans' (Gou.Mod.alloc0 _ _))
      clear k0 k1 k2 k3 Hm
      generalize wr.alloc (.cells #[.int .i64 a, .int .i64 b, .int .i64 c', .int .i64 d] 36) = W3 at *
      generalize wr.heap.size = N at *
      obtain ⟨⟨cb0, cb1, cb2, cb3⟩, -⟩ := four HN.out
      go_wp2_with fail
      refine (HA.out _).mono ?_
      rintro e w4 ⟨rfl, hm4⟩
      have Hm4 := Lib.hid (Hm3.out.trans' hm4)
      clear hm4 cb0 cb1 cb2 cb3
      go_wp2_with fail
      go_roundw
      case rel => exact ⟨i + 1, by go_num, by have := Hin.out; omega, by rw [Ht.out]; rfl, Hm4.out⟩
      case measure => have := Hin.out; simp [intOf, wi]; omega
    · have hil' : i = l.length := by omega
      have e1 : decide ((i : Int) < (l.length : Int)) = false := decide_eq_false (by omega)
      rw [hil', List.take_length]
      go_wp2_with fail
      go_ret
      exact ⟨rfl, Hm.out⟩

set_option maxHeartbeats 8000000 in
theorem refAreas_any (w : World) (p : Option Addr) (c : Nat) (l : List Rt) (hl : RtR (fun _ => True) w (.slice p l.length c) l) (hr : ∀ r ∈ l, r.Right) (hn : l.length ≤ 1000000000) :
    Calls Try.prog 28 #[.slice p l.length c] w fun e w' => e = .returned (.int .i64 (areasP l)) ∧ Gou.Mod (fun _ => False) w w' := by
  have HL := Lib.hid hl
  have HR := Lib.hid hr
  have Hn := Lib.hid hn
  clear hl hr hn
  go_enter Try.func28, Try.ntmps28
  go_wp2_with fail
  go_loopw [3, 4] (fun vn vi wr => ∃ i : Nat, vi = .int .i64 i ∧ i ≤ l.length ∧ vn = .int .i64 (areasP (l.take i)) ∧ Gou.Mod (fun _ => False) w wr) (fun vn vi _ => l.length - (intOf vi).toNat)
  case atStart => exact ⟨0, rfl, by omega, rfl, Gou.Mod.refl _ _⟩
  case round =>
    obtain ⟨i, rfl, hi, rfl, hm⟩ := hrel
    have Hm := Lib.hid hm
    clear hm
    by_cases hil : i < l.length
    · have e1 : decide ((i : Int) < (l.length : Int)) = true := decide_eq_true (by omega)
      obtain ⟨-, bl, off, rfl, hb, -, hc⟩ := HL.out.cells (by omega)
      obtain ⟨k0, k1, k2, k3⟩ := hc i hil
      rw [← Hm.out.cell (p := ⟨bl, off + i * 4, none⟩) hb (fun h => h)] at k0
      rw [← Hm.out.cell (p := ⟨bl, off + i * 4 + 1, none⟩) hb (fun h => h)] at k1
      rw [← Hm.out.cell (p := ⟨bl, off + i * 4 + 2, none⟩) hb (fun h => h)] at k2
      rw [← Hm.out.cell (p := ⟨bl, off + i * 4 + 3, none⟩) hb (fun h => h)] at k3
      have hi1 : (i : Int) < (l.length : Int) := by omega
      have hi0 : (0 : Int) ≤ (i : Int) := by omega
      have wi : IntKind.i64.wrap ((i : Int) + 1) = (i : Int) + 1 := wrap_id (by omega) (by have := Hn.out; omega)
      clear hc
      have Ht := Lib.hid (areasP_take hil)
      have Hbd := Lib.hid (areasP_bd (l.take i))
      have Hba := Lib.hid (areaP_bd l[i])
      have Hri := Lib.hid (HR.out _ (List.getElem_mem hil))
      have Hin := Lib.hid (And.intro hi hil)
      generalize l[i] = s at *
      generalize areasP (l.take i) = n at *
      have HA := Lib.hid (fun (w' : World) => refArea_any s w' Hri.out)
      have wn : IntKind.i64.wrap (n + areaP s) = n + areaP s := wrap_id (by have := Hbd.out; have := Hba.out; omega) (by have := Hbd.out; have := Hba.out; unfold maxArea at *; omega)
      generalize areaP s = ar at *
      obtain ⟨a, b, c', d⟩ := s
      simp only at k0 k1 k2 k3
      go_wp2_with fail
      refine (HA.out _).mono ?_
      rintro e w4 ⟨rfl, hm4⟩
      have Hm4 := Lib.hid (Hm.out.trans' hm4)
      clear hm4 k0 k1 k2 k3
      by_cases hbig : maxArea < n + ar
      · have e2 : decide ((2305843009213693952 : Int) < n + ar) = true := decide_eq_true hbig
        go_wp2_with fail
        go_roundw
        case rel => exact ⟨i + 1, by go_num, by have := Hin.out; omega, by rw [Ht.out]; exact congrArg (Value.int .i64) (by unfold maxArea at *; omega), Hm4.out⟩
        case measure => have := Hin.out; simp [intOf, wi]; omega
      · have e2 : decide ((2305843009213693952 : Int) < n + ar) = false := decide_eq_false hbig
        go_wp2_with fail
        go_roundw
        case rel => exact ⟨i + 1, by go_num, by have := Hin.out; omega, by rw [Ht.out]; exact congrArg (Value.int .i64) (by unfold maxArea at *; omega), Hm4.out⟩
        case measure => have := Hin.out; simp [intOf, wi]; omega
    · have hil' : i = l.length := by omega
      have e1 : decide ((i : Int) < (l.length : Int)) = false := decide_eq_false (by omega)
      rw [hil', List.take_length]
      go_wp2_with fail
      go_ret
      exact ⟨rfl, Hm.out⟩

end Go.Proofs.Ytapeafokcailkaa
