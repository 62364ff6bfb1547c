/- The document's answer for layer 12: a matrix; the bounds of a node's parameters. -/
import Derived.Test.YtfphlkoneocejaaDoorRefC
namespace Go.Proofs.YtfphlkoneocejaaDoor
open Go.RowKit Go.Gou

set_option maxHeartbeats 1000000 in
theorem refMat_any (w : World) (v : Value) (xs : List Int) (hx : IntsAt w.heap.size w v xs) (hl : xs.length ≤ 1000) :
    Calls Tryd.prog 27 #[v] w fun e w' => e = .returned (.bool (matB xs)) ∧ w' = w := by
  obtain ⟨p, cap, rfl, _, hp⟩ := hx
  go_enter Tryd.func27, Tryd.ntmps27
  go_wp2_with fail
  go_loop [3] (fun i => ∃ k : Nat, k ≤ xs.length ∧ k ≤ 21 ∧ i = .int .i64 k ∧ (xs.take k).all (withinB (-32768) 32767) = true) (fun i => 21 - (intOf i).toNat)
  case atStart => exact ⟨0, Nat.zero_le _, Nat.zero_le _, rfl, rfl⟩
  case round =>
    obtain ⟨k, hk, hk21, rfl, hall⟩ := hrel
    have Hall := Lib.hid hall
    clear hall
    by_cases hlt : k < xs.length
    · by_cases hlt2 : k < 21
      · rcases hp with rfl | ⟨b, o, rfl, hb, hc⟩
        · simp at hlt
        have hc' := hc k hlt
        clear hc
        have hn : ∀ h : withinB (-32768) 32767 xs[k] = false, matB xs = false := by
          intro h
          rw [Bool.eq_false_iff]
          intro hm
          simp only [matB, Bool.and_eq_true, List.all_eq_true] at hm
          have := hm.2 _ (List.getElem_mem hlt)
          rw [h] at this
          cases this
        have HN := Lib.hid hn
        clear hn
        by_cases h1 : xs[k] < -32768
        · go_wp2
          go_ret
          exact ⟨ret_bool (by rw [HN.out (by simp [withinB]; omega)]), rfl⟩
        · by_cases h2 : 32767 < xs[k]
          · go_wp2
            go_ret
            exact ⟨ret_bool (by rw [HN.out (by simp [withinB]; omega)]), rfl⟩
          · go_wp2
            go_round
            case rel => exact ⟨k + 1, by omega, by omega, by go_num, by rw [List.all_take_succ _ _ _ hlt, Hall.out]; simp [withinB]; omega⟩
            case measure => simp [intOf]; omega
      · have hne : ((xs.length : Int) == 20) = false := beq_eq_false_iff_ne.2 (by omega)
        have Hr : Hid (matB xs = false) := by show _ = _; simp [matB]; omega
        go_wp2
        go_ret
        exact ⟨ret_bool Hr.out.symm, rfl⟩
    · have hkl : xs.length = k := by omega
      have Hr : Hid (matB xs = ((xs.length : Int) == 20)) := by
        show _ = _
        have h1 := Hall.out
        rw [List.take_of_length_le (by omega)] at h1
        simp only [matB, h1, Bool.and_true]
        by_cases h20 : xs.length = 20
        · rw [h20]; rfl
        · rw [decide_eq_false h20, beq_eq_false_iff_ne.2 (by omega)]
      go_wp2
      go_ret
      exact ⟨ret_bool (by rw [Hr.out, hkl]), rfl⟩

end Go.Proofs.YtfphlkoneocejaaDoor
