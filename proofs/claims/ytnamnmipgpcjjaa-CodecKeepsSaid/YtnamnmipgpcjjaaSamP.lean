/- Acts as bytes: two pixels are held against each other. -/
import Derived.Test.YtnamnmipgpcjjaaSamA
import Derived.ChangeKeysEq
namespace Go.Proofs.Ytnamnmipgpcjjaa
open Go.RowKit Go.Gou
set_option maxRecDepth 100000

theorem u8_eq (w : World) (a b : Int) : (Op.equalIn 9999 5 (.int .u8 a) (.int .u8 b)).run Try.prog w = .ok (a == b) w := by
  have key : ∀ d : Nat, (Op.equalIn (d + 1) 5 (.int .u8 a) (.int .u8 b)).run Try.prog w = .ok (a == b) w := fun d => by
    simp [Op.equalIn, Sem.run_bind, run_underlying Try.underlying5]
  exact key 9998

set_option maxHeartbeats 1000000 in
theorem px_neq (x0 x1 x2 x3 y0 y1 y2 y3 : Nat) (w : World) : (binOp .neq 27 (.agg #[.int .u8 (x0 : Nat), .int .u8 (x1 : Nat), .int .u8 (x2 : Nat), .int .u8 (x3 : Nat)]) (.agg #[.int .u8 (y0 : Nat), .int .u8 (y1 : Nat), .int .u8 (y2 : Nat), .int .u8 (y3 : Nat)])).run Try.prog w = .ok (.bool (!decide (x0 = y0 ∧ x1 = y1 ∧ x2 = y2 ∧ x3 = y3))) w := by
  have h1 : (Op.equal 27 (.agg #[.int .u8 (x0 : Nat), .int .u8 (x1 : Nat), .int .u8 (x2 : Nat), .int .u8 (x3 : Nat)]) (.agg #[.int .u8 (y0 : Nat), .int .u8 (y1 : Nat), .int .u8 (y2 : Nat), .int .u8 (y3 : Nat)])).run Try.prog w = .ok (decide (x0 = y0 ∧ x1 = y1 ∧ x2 = y2 ∧ x3 = y3)) w := by
    show (Op.equalIn (9999 + 1) _ _ _).run _ _ = _
    obtain ⟨iu, hiu, -, -, -⟩ := info_parts info_u8
    rw [run_equalIn_array w 9999 _ _ Try.underlying27 hiu]
    have hc : Try.prog.cellsOf 5 = 1 := by kernel_rfl
    have hp0 : ∀ (a b c d : Value) (w : World), (part 5 #[a, b, c, d] (0 * 1)).run Try.prog w = .ok a w := fun _ _ _ _ _ => by kernel_rfl
    have hp1 : ∀ (a b c d : Value) (w : World), (part 5 #[a, b, c, d] (1 * 1)).run Try.prog w = .ok b w := fun _ _ _ _ _ => by kernel_rfl
    have hp2 : ∀ (a b c d : Value) (w : World), (part 5 #[a, b, c, d] (2 * 1)).run Try.prog w = .ok c w := fun _ _ _ _ _ => by kernel_rfl
    have hp3 : ∀ (a b c d : Value) (w : World), (part 5 #[a, b, c, d] (3 * 1)).run Try.prog w = .ok d w := fun _ _ _ _ _ => by kernel_rfl
    have hr : List.range 4 = [0, 1, 2, 3] := rfl
    rw [hc, hr]
    simp only [Op.eqItems, Sem.run_bind, hp0, hp1, hp2, hp3, u8_eq, Result.andThen_ok, Sem.run_ite, Sem.run_pure]
    by_cases h0 : x0 = y0 <;> by_cases h1 : x1 = y1 <;> by_cases h2 : x2 = y2 <;> by_cases h3 : x3 = y3 <;> simp [h0, h1, h2, h3] <;> omega
  simp only [binOp, Sem.run_bind, h1, Result.andThen_ok, Sem.run_pure]
end Go.Proofs.Ytnamnmipgpcjjaa
