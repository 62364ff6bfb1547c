/- Texts of the scenes' proofs, laid together: Jump2. -/
import Derived.ScopeJumps
set_option linter.unusedSimpArgs false
set_option linter.unusedVariables false
set_option linter.unusedSectionVars false
set_option linter.constructorNameAsVariable false

/- A scope with two labels: the run jumps back to one, and on to the other one. -/
namespace Go

/-- As Q; by a goto to label l: J; by a goto to label m: K; by any other goto: no way out. -/
def Exit.jump2 (l m : Nat) (J K : Act → World → Prop) (Q : Exit → Act → World → Prop) : Exit → Act → World → Prop
  | .goto l', a, w => (l' = l ∧ J a w) ∨ (l' = m ∧ K a w)
  | e, a, w => Q e a w

section
variable {P : Program} {a : Act} {w : World} {Q : Exit → Act → World → Prop}

theorem wp_scope_jumps2 {c rest rest2 : Code} (l m : Nat) (J K : Act → World → Prop) (μ : Act → World → Nat) (hf : findLabel c l = some rest) (hg2 : findLabel c m = some rest2)
    (first : c.wp P (Exit.jump2 l m J K Q) a w)
    (pass : ∀ a w, J a w → rest.wp P (Exit.jump2 l m (fun a' w' => J a' w' ∧ μ a' w' < μ a w) K Q) a w)
    (over : ∀ a w, K a w → rest2.wp P (Exit.jump2 l m (fun _ _ => False) (fun _ _ => False) Q) a w) : (Code.scope c).wp P Q a w := by
  intro b k cs
  have hg : gotoIn l (.inScope c :: k) = some (.code rest :: .inScope c :: k) := by simp [gotoIn, hf]
  have hgm : gotoIn m (.inScope c :: k) = some (.code rest2 :: .inScope c :: k) := by simp [gotoIn, hg2]
  have last : ∀ a w, K a w → ∃ e a' w', Q e a' w' ∧ Arrives P (lone (b.at a (.code rest2 :: .inScope c :: k)) cs w) b k cs e a' w' := by
    intro a w hK
    obtain ⟨e, a₁, w₁, hq, harr⟩ := over a w hK b (.inScope c :: k) cs
    cases e with
    | normal => exact ⟨.normal, a₁, w₁, hq, Steps.trans harr (.one step_inScope)⟩
    | exit id => exact ⟨.exit id, a₁, w₁, hq, fun k' hk => harr k' (by simp [exitTo, hk])⟩
    | goto l' => rcases hq with ⟨_, h⟩ | ⟨_, h⟩ <;> exact h.elim
    | ret => exact ⟨_, a₁, w₁, hq, harr⟩
    | panic ch => exact ⟨_, a₁, w₁, hq, harr⟩
    | outgrown => exact ⟨_, a₁, w₁, hq, harr⟩
  have key : ∀ n a w, μ a w = n → J a w → ∃ e a' w', Q e a' w' ∧ Arrives P (lone (b.at a (.code rest :: .inScope c :: k)) cs w) b k cs e a' w' := by
    intro n
    induction n using Nat.strongRecOn with
    | _ n ih =>
      intro a w hn hJ
      obtain ⟨e, a₁, w₁, hq, harr⟩ := pass a w hJ b (.inScope c :: k) cs
      cases e with
      | normal => exact ⟨.normal, a₁, w₁, hq, Steps.trans harr (.one step_inScope)⟩
      | exit id => exact ⟨.exit id, a₁, w₁, hq, fun k' hk => harr k' (by simp [exitTo, hk])⟩
      | goto l' =>
        rcases hq with ⟨rfl, hJ', hlt⟩ | ⟨rfl, hK'⟩
        · obtain ⟨e₂, a₂, w₂, hq₂, harr₂⟩ := ih _ (by omega) a₁ w₁ rfl hJ'
          exact ⟨e₂, a₂, w₂, hq₂, .of_steps (harr _ hg) harr₂⟩
        · obtain ⟨e₂, a₂, w₂, hq₂, harr₂⟩ := last a₁ w₁ hK'
          exact ⟨e₂, a₂, w₂, hq₂, .of_steps (harr _ hgm) harr₂⟩
      | ret => exact ⟨_, a₁, w₁, hq, harr⟩
      | panic ch => exact ⟨_, a₁, w₁, hq, harr⟩
      | outgrown => exact ⟨_, a₁, w₁, hq, harr⟩
  obtain ⟨e, a₁, w₁, hq, harr⟩ := first b (.inScope c :: k) cs
  cases e with
  | normal => exact ⟨.normal, a₁, w₁, hq, .head step_scope (Steps.trans harr (.one step_inScope))⟩
  | exit id => exact ⟨.exit id, a₁, w₁, hq, fun k' hk => .head step_scope (harr k' (by simp [exitTo, hk]))⟩
  | goto l' =>
    rcases hq with ⟨rfl, hJ'⟩ | ⟨rfl, hK'⟩
    · obtain ⟨e₂, a₂, w₂, hq₂, harr₂⟩ := key _ a₁ w₁ rfl hJ'
      exact ⟨e₂, a₂, w₂, hq₂, .of_steps (.head step_scope (harr _ hg)) harr₂⟩
    · obtain ⟨e₂, a₂, w₂, hq₂, harr₂⟩ := last a₁ w₁ hK'
      exact ⟨e₂, a₂, w₂, hq₂, .of_steps (.head step_scope (harr _ hgm)) harr₂⟩
  | ret => exact ⟨_, a₁, w₁, hq, .of_steps (.one step_scope) harr⟩
  | panic ch => exact ⟨_, a₁, w₁, hq, .of_steps (.one step_scope) harr⟩
  | outgrown => exact ⟨_, a₁, w₁, hq, .of_steps (.one step_scope) harr⟩

/-- Only by the plain way out. -/
def Exit.only (X : Act → World → Prop) : Exit → Act → World → Prop
  | .normal, a, w => X a w
  | _, _, _ => False

theorem Exit.only_then {X : Act → World → Prop} {Y : Act → World → Prop} {Q : Exit → Act → World → Prop} (h : ∀ a w, X a w → Y a w) : ∀ e a w, Exit.only X e a w → Exit.then Y Q e a w
  | .normal, a, w, hx => h a w hx
  | .exit _, _, _, hx => hx.elim
  | .goto _, _, _, hx => hx.elim
  | .ret, _, _, hx => hx.elim
  | .panic _, _, _, hx => hx.elim
  | .outgrown, _, _, hx => hx.elim

/-- .. where four pieces of code lead to the label: its own pass is walked once. -/
theorem wp_scope_jumps2_at {c r1 r2 r3 r4 T rest2 : Code} (l m : Nat) (J K : Act → World → Prop) (μ : Act → World → Nat) (hc : c = r1.seq (r2.seq (r3.seq (r4.seq ((Code.label l).seq T))))) (hf : findLabel c l = some (Code.skip.seq T)) (hg2 : findLabel c m = some rest2)
    (first : r1.wp P (Exit.only fun a w => r2.wp P (Exit.only fun a w => r3.wp P (Exit.only fun a w => r4.wp P (Exit.only J) a w) a w) a w) a w)
    (pass : ∀ a w, J a w → T.wp P (Exit.jump2 l m (fun a' w' => J a' w' ∧ μ a' w' < μ a w) K Q) a w)
    (over : ∀ a w, K a w → rest2.wp P (Exit.jump2 l m (fun _ _ => False) (fun _ _ => False) Q) a w) : (Code.scope c).wp P Q a w := by
  refine wp_scope_jumps2 l m J K μ hf hg2 ?_ (fun a w hJ => wp_seq (wp_skip (pass a w hJ))) over
  have weak : ∀ (a0 : Act) (w0 : World) (e : Exit) (a : Act) (w : World), Exit.jump2 l m (fun a' w' => J a' w' ∧ μ a' w' < μ a0 w0) K Q e a w → Exit.jump2 l m J K Q e a w := by
    intro a0 w0 e a w h
    cases e with
    | goto l' => exact h.imp (fun h => ⟨h.1, h.2.1⟩) id
    | normal => exact h
    | exit _ => exact h
    | ret => exact h
    | panic _ => exact h
    | outgrown => exact h
  rw [hc]
  refine wp_seq (Code.wp_mono (Exit.only_then fun a w h => ?_) first)
  refine wp_seq (Code.wp_mono (Exit.only_then fun a w h => ?_) h)
  refine wp_seq (Code.wp_mono (Exit.only_then fun a w h => ?_) h)
  refine wp_seq (Code.wp_mono (Exit.only_then fun a w h => ?_) h)
  refine wp_seq (wp_label ?_)
  exact Code.wp_mono (weak a w) (pass a w h)
end
end Go

