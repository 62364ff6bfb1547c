/- Acts as bytes: rectangles and Ids are held against each other. -/
import Derived.Test.YtnamnmipgpcjjaaSamE
namespace Go.Proofs.Ytnamnmipgpcjjaa
open Go.RowKit Go.Gou
set_option maxRecDepth 100000

theorem i64_eq (w : World) (d : Nat) (a b : Int) : (Op.equalIn (d + 1) 3 (.int .i64 a) (.int .i64 b)).run Try.prog w = .ok (a == b) w := by
  simp [Op.equalIn, Sem.run_bind, run_underlying Try.underlying3]

set_option maxHeartbeats 1000000 in
theorem rect_eql (a b c d a' b' c' d' : Int) (w : World) : (Op.equal 25 (.agg #[.int .i64 a, .int .i64 b, .int .i64 c, .int .i64 d]) (.agg #[.int .i64 a', .int .i64 b', .int .i64 c', .int .i64 d'])).run Try.prog w = .ok (decide (a = a' ∧ b = b' ∧ c = c' ∧ d = d')) w := by
  show (Op.equalIn (9999 + 1) _ _ _).run _ _ = _
  have hp0 : ∀ (a b c d : Value) (w : World), (part 3 #[a, b, c, d] 0).run Try.prog w = .ok a w := fun _ _ _ _ _ => by kernel_rfl
  have hp1 : ∀ (a b c d : Value) (w : World), (part 3 #[a, b, c, d] 1).run Try.prog w = .ok b w := fun _ _ _ _ _ => by kernel_rfl
  have hp2 : ∀ (a b c d : Value) (w : World), (part 3 #[a, b, c, d] 2).run Try.prog w = .ok c w := fun _ _ _ _ _ => by kernel_rfl
  have hp3 : ∀ (a b c d : Value) (w : World), (part 3 #[a, b, c, d] 3).run Try.prog w = .ok d w := fun _ _ _ _ _ => by kernel_rfl
  have he : ∀ (w : World) (a b : Int), (Op.equalIn 9999 3 (.int .i64 a) (.int .i64 b)).run Try.prog w = .ok (a == b) w := fun w a b => i64_eq w 9998 a b
  rw [run_equalIn_struct w 9999 25 _ _ (by kernel_rfl) (by kernel_rfl)]
  simp only [Program.fieldsOf, Try.underlying25]
  generalize (9999 : Nat) = dd at *
  simp only [Op.eqFields]
  by_cases h0 : a = a' <;> by_cases h1 : b = b' <;> by_cases h2 : c = c' <;> by_cases h3 : d = d' <;> simp [Sem.run_bind, Sem.run_ite, hp0, hp1, hp2, hp3, he, h0, h1, h2, h3]

set_option maxHeartbeats 1000000 in
theorem id_eql (a b a' b' : Int) (w : World) : (Op.equal 23 (.agg #[.int .i64 a, .int .i64 b]) (.agg #[.int .i64 a', .int .i64 b'])).run Try.prog w = .ok (decide (a = a' ∧ b = b')) w := by
  show (Op.equalIn (9999 + 1) _ _ _).run _ _ = _
  have hp0 : ∀ (a b : Value) (w : World), (part 3 #[a, b] 0).run Try.prog w = .ok a w := fun _ _ _ => by kernel_rfl
  have hp1 : ∀ (a b : Value) (w : World), (part 3 #[a, b] 1).run Try.prog w = .ok b w := fun _ _ _ => by kernel_rfl
  have he : ∀ (w : World) (a b : Int), (Op.equalIn 9999 3 (.int .i64 a) (.int .i64 b)).run Try.prog w = .ok (a == b) w := fun w a b => i64_eq w 9998 a b
  rw [run_equalIn_struct w 9999 23 _ _ (by kernel_rfl) (by kernel_rfl)]
  simp only [Program.fieldsOf, Try.underlying23]
  generalize (9999 : Nat) = dd at *
  simp only [Op.eqFields]
  by_cases h0 : a = a' <;> by_cases h1 : b = b' <;> simp [Sem.run_bind, Sem.run_ite, hp0, hp1, he, h0, h1]

end Go.Proofs.Ytnamnmipgpcjjaa
