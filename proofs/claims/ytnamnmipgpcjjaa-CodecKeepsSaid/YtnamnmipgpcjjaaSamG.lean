/- Acts as bytes: confs and pixels are held against each other, as ==. -/
import Derived.Test.YtnamnmipgpcjjaaSamF
namespace Go.Proofs.Ytnamnmipgpcjjaa
open Go.RowKit Go.Gou
set_option maxRecDepth 100000

theorem bool_eq (w : World) (d : Nat) (a b : Bool) : (Op.equalIn (d + 1) 4 (.bool a) (.bool b)).run Try.prog w = .ok (a == b) w := by
  simp [Op.equalIn, Sem.run_bind, run_underlying Try.underlying4]

set_option maxHeartbeats 4000000 in
theorem conf_eql (c e : Cf) (w : World) : (Op.equal 39 (.agg #[.bool c.fuse, .bool c.alias, .bool c.roi, .bool c.damage, .int .i64 c.room]) (.agg #[.bool e.fuse, .bool e.alias, .bool e.roi, .bool e.damage, .int .i64 e.room])).run Try.prog w = .ok (decide (c = e)) w := by
  obtain ⟨a0, a1, a2, a3, a4⟩ := c
  obtain ⟨b0, b1, b2, b3, b4⟩ := e
  show (Op.equalIn (9999 + 1) _ _ _).run _ _ = _
  have hp0 : ∀ (a b c d e : Value) (w : World), (part 4 #[a, b, c, d, e] 0).run Try.prog w = .ok a w := fun _ _ _ _ _ _ => by kernel_rfl
  have hp1 : ∀ (a b c d e : Value) (w : World), (part 4 #[a, b, c, d, e] 1).run Try.prog w = .ok b w := fun _ _ _ _ _ _ => by kernel_rfl
  have hp2 : ∀ (a b c d e : Value) (w : World), (part 4 #[a, b, c, d, e] 2).run Try.prog w = .ok c w := fun _ _ _ _ _ _ => by kernel_rfl
  have hp3 : ∀ (a b c d e : Value) (w : World), (part 4 #[a, b, c, d, e] 3).run Try.prog w = .ok d w := fun _ _ _ _ _ _ => by kernel_rfl
  have hp4 : ∀ (a b c d e : Value) (w : World), (part 3 #[a, b, c, d, e] 4).run Try.prog w = .ok e w := fun _ _ _ _ _ _ => by kernel_rfl
  have he : ∀ (w : World) (a b : Int), (Op.equalIn 9999 3 (.int .i64 a) (.int .i64 b)).run Try.prog w = .ok (a == b) w := fun w a b => i64_eq w 9998 a b
  have hb : ∀ (w : World) (a b : Bool), (Op.equalIn 9999 4 (.bool a) (.bool b)).run Try.prog w = .ok (a == b) w := fun w a b => bool_eq w 9998 a b
  rw [run_equalIn_struct w 9999 39 _ _ (by kernel_rfl) (by kernel_rfl)]
  simp only [Program.fieldsOf, Try.underlying39]
  generalize (9999 : Nat) = dd at *
  simp only [Op.eqFields]
  by_cases h0 : a0 = b0
  · by_cases h1 : a1 = b1
    · by_cases h2 : a2 = b2
      · by_cases h3 : a3 = b3
        · by_cases h4 : a4 = b4
          · simp [Sem.run_bind, Sem.run_ite, hp0, hp1, hp2, hp3, hp4, he, hb, h0, h1, h2, h3, h4]
          · simp [Sem.run_bind, Sem.run_ite, hp0, hp1, hp2, hp3, hp4, he, hb, h0, h1, h2, h3, h4]
        · simp [Sem.run_bind, Sem.run_ite, hp0, hp1, hp2, hp3, hp4, he, hb, h0, h1, h2, h3]
      · simp [Sem.run_bind, Sem.run_ite, hp0, hp1, hp2, hp3, hp4, he, hb, h0, h1, h2]
    · simp [Sem.run_bind, Sem.run_ite, hp0, hp1, hp2, hp3, hp4, he, hb, h0, h1]
  · simp [Sem.run_bind, Sem.run_ite, hp0, hp1, hp2, hp3, hp4, he, hb, h0]

end Go.Proofs.Ytnamnmipgpcjjaa
