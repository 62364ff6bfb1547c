/- Texts of the scenes' proofs, laid together: RkD. -/
import Derived.Test.YtlpieeeeolfclaaGreatDoorZag
import Derived.Test.YtlpieeeeolfclaaGreatDoorZah
import Derived.Deep.Cut
set_option linter.unusedSimpArgs false
set_option linter.unusedVariables false
set_option linter.unusedSectionVars false
set_option linter.constructorNameAsVariable false

/- Regions: a row's edge; what is wanted. -/
namespace Go.Proofs.YtlpieeeeolfclaaGreatDoor
open Go.RowKit Go.Gou Go.Reg Go.Shelf
set_option maxRecDepth 100000

set_option maxHeartbeats 2000000 in
theorem edge_any (w : World) (G : Nat → Prop) (p : Option Addr) (c : Nat) (l : List Sp) (i : Nat) (u : Int) (hl : SpR G w (.slice p l.length c) l) (hn : l.length ≤ 40000000000) (h : (edgesOf l)[i]? = some u) :
    Calls Tryz.prog 80 #[.slice p l.length c, .int .i64 i] w fun e w' => e = .returned (.int .i64 u) ∧ w' = w := by
  have hi : i < 2 * l.length := by
    have := (List.getElem?_eq_some_iff.1 h).1
    rwa [edgesOf_len] at this
  obtain ⟨k, r, hr, rfl⟩ : ∃ k r, r < 2 ∧ i = 2 * k + r := ⟨i / 2, i % 2, by omega, by omega⟩
  have hk : k < l.length := by omega
  obtain ⟨ea, eb⟩ := edgesOf_get l k hk
  obtain ⟨-, b, off, rfl, hb, -, hc⟩ := hl.cells (by omega)
  obtain ⟨c0, c1⟩ := hc k hk
  obtain ⟨I, hI⟩ : ∃ I : Int, I = ((2 * k + r : Nat) : Int) := ⟨_, rfl⟩
  have q1 : I.tdiv 2 = (k : Int) := by rw [Int.tdiv_eq_ediv_of_nonneg (by omega)]; omega
  have q2 : IntKind.i64.wrap (k : Int) = k := wrap_id (by omega) (by omega)
  have q0 : I.tmod 2 = (r : Int) := by rw [Int.tmod_eq_emod_of_nonneg (by omega)]; omega
  have q3 : IntKind.i64.wrap (r : Int) = r := wrap_id (by omega) (by omega)
  have k0 : (0 : Int) ≤ (k : Int) := by omega
  have k1 : (k : Int) < (l.length : Int) := by omega
  rw [← hI]
  rcases (by omega : r = 0 ∨ r = 1) with rfl | rfl
  · obtain rfl : l[k].a = u := by rw [Nat.add_zero, ea] at h; simpa using h
    have q4 : (((0 : Nat) : Int) == 0) = true := rfl
    clear hI hi hr h ea eb hc c1 hl
    generalize l[k].a = u at *
    go_enter Tryz.func80, Tryz.ntmps80
    go_wp2_with fail
    go_ret
    exact ⟨rfl, rfl⟩
  · obtain rfl : l[k].b = u := by rw [eb] at h; simpa using h
    have q4 : (((1 : Nat) : Int) == 0) = false := rfl
    clear hI hi hr h ea eb hc c0 hl
    generalize l[k].b = u at *
    go_enter Tryz.func80, Tryz.ntmps80
    go_wp2_with fail
    go_ret
    exact ⟨rfl, rfl⟩

/-- What is wanted is told by function g as f tells it. -/
structure WantF (g : Nat) (f : Bool → Bool → Bool) : Prop where
  enters : ∀ args w, (callFunc g args).run Tryz.prog w = .ok (.enter g args) w
  tells : ∀ p q w, Calls Tryz.prog g #[.bool p, .bool q] w fun e w' => e = .returned (.bool (f p q)) ∧ w' = w
  none : f false false = false

theorem either_any (p q : Bool) (w : World) : Calls Tryz.prog 58 #[.bool p, .bool q] w fun e w' => e = .returned (.bool (orF p q)) ∧ w' = w := by
  cases p <;> cases q
  all_goals
    go_enter Tryz.func58, Tryz.ntmps58
    go_wp2
    go_ret
    exact ⟨rfl, rfl⟩
theorem both_any (p q : Bool) (w : World) : Calls Tryz.prog 57 #[.bool p, .bool q] w fun e w' => e = .returned (.bool (andF p q)) ∧ w' = w := by
  cases p <;> cases q
  all_goals
    go_enter Tryz.func57, Tryz.ntmps57
    go_wp2
    go_ret
    exact ⟨rfl, rfl⟩
theorem W_either : WantF 58 orF := ⟨enters_of Tryz.func58 (by kernel_rfl) rfl, either_any, rfl⟩
theorem W_both : WantF 57 andF := ⟨enters_of Tryz.func57 (by kernel_rfl) rfl, both_any, rfl⟩
end Go.Proofs.YtlpieeeeolfclaaGreatDoor

