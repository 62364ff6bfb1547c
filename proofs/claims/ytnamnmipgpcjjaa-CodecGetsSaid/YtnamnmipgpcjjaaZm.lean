/- Texts of the codec's proofs, laid together: BackA. -/
import Derived.Test.YtnamnmipgpcjjaaZl
import Derived.Great.BuildSlice
import Derived.Deep.RegionHeld
set_option linter.unusedSimpArgs false
set_option linter.unusedVariables false
set_option linter.unusedSectionVars false
set_option linter.constructorNameAsVariable false

/- Acts as bytes: acts are put behind acts. -/
namespace Go.Gou
open Go.RowKit

/-- The bytes of acts, one behind the other. -/
def Written : List Ac → List Nat → Prop
  | [], bs => bs = []
  | a :: r, bs => ∃ es rest, putOf a = some es ∧ PxSmall a.op.look.content ∧ LookBorne a.op.look ∧ bs = es ++ rest ∧ Written r rest

theorem Written.snoc {xs : List Ac} {bs : List Nat} (h : Written xs bs) {a : Ac} {es : List Nat} (hp : putOf a = some es) (hs : PxSmall a.op.look.content) (hb : LookBorne a.op.look) : Written (xs ++ [a]) (bs ++ es) := by
  induction xs generalizing bs with
  | nil => obtain rfl : bs = [] := h; exact ⟨es, [], hp, hs, hb, by simp, rfl⟩
  | cons x r ih =>
    obtain ⟨e1, rest, h1, h2, h3, rfl, h4⟩ := h
    exact ⟨e1, rest ++ es, h1, h2, h3, by rw [List.append_assoc], ih h4⟩

theorem Written.small {xs : List Ac} {bs : List Nat} (h : Written xs bs) : ∀ b ∈ bs, b < 256 := by
  induction xs generalizing bs with
  | nil => obtain rfl : bs = [] := h; intro b hb; cases hb
  | cons x r ih =>
    obtain ⟨e1, rest, h1, h2, h3, rfl, h4⟩ := h
    obtain ⟨e2, he2, hp⟩ := Option.bind_eq_some_iff.1 (show (encAct x).bind _ = some e1 from h1)
    obtain ⟨_, _, hp⟩ := Option.bind_eq_some_iff.1 hp
    split at hp
    · simp only [Option.some.injEq] at hp
      subst hp
      intro b hb
      exact (List.mem_append.1 hb).elim ((encAct_fine he2 h2).2 b) (ih h4 b)
    · cases hp

theorem Written.borne {xs : List Ac} {bs : List Nat} (h : Written xs bs) : ∀ x ∈ xs, LookBorne x.op.look := by
  induction xs generalizing bs with
  | nil => intro b hb; cases hb
  | cons x r ih =>
    obtain ⟨e1, rest, h1, h2, h3, rfl, h4⟩ := h
    intro y hy
    rcases List.mem_cons.1 hy with rfl | hy
    · exact h3
    · exact ih h4 y hy

theorem Written.reads {xs : List Ac} {bs : List Nat} (h : Written xs bs) : ∀ pre : List Nat, (∀ b ∈ pre, b < 256) → Reads (pre ++ bs) xs pre.length (pre ++ bs).length := by
  induction xs generalizing bs with
  | nil => obtain rfl : bs = [] := h; intro pre _; show pre.length = (pre ++ []).length; simp
  | cons x r ih =>
    intro pre hpre
    have hsm := h.small
    obtain ⟨e1, rest, h1, h2, h3, rfl, h4⟩ := h
    have hb : ∀ b ∈ pre ++ (e1 ++ rest), b < 256 := fun b hb => (List.mem_append.1 hb).elim (hpre b) (hsm b)
    have := ih h4 (pre ++ e1) (fun b hb => (List.mem_append.1 hb).elim (hpre b) fun h => hsm b (List.mem_append_left _ h))
    rw [List.append_assoc, List.length_append] at this
    refine ⟨pre.length + e1.length, act_of_putOf hb h2 h1 ⟨rest, by rw [List.drop_left]⟩, this⟩

/-- Cells of acts, one behind the other, whose lists lie where G says. -/
structure WantIn (G : Nat → Prop) (w : World) (cs : List Value) (xs : List Ac) : Prop where
  len : cs.length = xs.length * 42
  at_ : ∀ i, (h : i < xs.length) → ∃ vp vf vb, (∀ j, j < 42 → cs[i * 42 + j]? = (actC xs[i] vp vf vb)[j]?) ∧ LookR G w xs[i].op.look vp vf vb

theorem WantIn.nil (G : Nat → Prop) (w : World) : WantIn G w [] [] := ⟨rfl, fun i h => by simp at h⟩
theorem WantIn.mod {G S : Nat → Prop} {w w' : World} {cs : List Value} {xs : List Ac} (h : WantIn G w cs xs) (hm : Mod S w w') (hS : ∀ k, k < w.heap.size → G k → ¬ S k) : WantIn G w' cs xs :=
  ⟨h.len, fun i hi => by
    obtain ⟨vp, vf, vb, h1, h2⟩ := h.at_ i hi
    exact ⟨vp, vf, vb, h1, h2.mod hm hS⟩⟩
theorem WantIn.snoc {G : Nat → Prop} {w : World} {cs : List Value} {xs : List Ac} (h : WantIn G w cs xs) {a : Ac} {vp vf vb : Value} (hl : LookR G w a.op.look vp vf vb) : WantIn G w (cs ++ (actC a vp vf vb).toList) (xs ++ [a]) := by
  have hc : (actC a vp vf vb).toList.length = 42 := by simp [actC]
  refine ⟨by rw [List.length_append, h.len, hc, List.length_append]; simp; omega, fun i hi => ?_⟩
  by_cases hin : i < xs.length
  · obtain ⟨up, uf, ub, h1, h2⟩ := h.at_ i hin
    rw [List.getElem_append_left hin]
    refine ⟨up, uf, ub, fun j hj => ?_, h2⟩
    rw [List.getElem?_append_left (by rw [h.len]; have : (i + 1) * 42 ≤ xs.length * 42 := Nat.mul_le_mul_right _ (by omega); omega)]
    exact h1 j hj
  · have hi' : i = xs.length := by simp at hi; omega
    subst hi'
    have hg : (xs ++ [a])[xs.length] = a := by simp
    rw [hg]
    refine ⟨vp, vf, vb, fun j hj => ?_, hl⟩
    rw [List.getElem?_append_right (by rw [h.len]; omega), h.len, Nat.add_sub_cancel_left, Array.getElem?_toList]

theorem WantIn.toR {G : Nat → Prop} {TA : TypeId} {base : Nat} {w : World} {v : Value} {cs : List Value} {xs : List Ac} (h : WantIn G w cs xs) (hown : w.ownsRow base TA 42 v xs.length cs) : ActsR w v xs := by
  have hlt := hown.lt
  obtain ⟨hl, ho⟩ := hown
  rcases ho with ⟨rfl, h0⟩ | ⟨g, cap, cur, rfl, hg, hh, hn, _, _, ht⟩
  · obtain rfl := List.length_eq_zero_iff.1 h0
    exact ⟨none, 0, rfl, Nat.le_refl _, .inl rfl⟩
  · refine ⟨_, cap, rfl, hn, .inr ⟨g, 0, rfl, (hlt g rfl).2, fun i hi' => ?_⟩⟩
    obtain ⟨vp, vf, vb, h1, h2⟩ := h.at_ i hi'
    refine ⟨vp, vf, vb, fun j u hu => ?_, h2.imp fun _ _ _ => trivial⟩
    have hj : j < 42 := by
      have := (Array.getElem?_eq_some_iff.1 hu).1
      simpa [actC] using this
    have hc := h1 j hj
    rw [hu] at hc
    rw [Nat.zero_add, cell_of_row w g _ cur _ (0, 0) hh, ← Array.getElem?_toList, ← hc, ← ht, List.getElem?_take, if_pos (by
      have : (i + 1) * 42 ≤ xs.length * 42 := Nat.mul_le_mul_right _ (by omega)
      omega)]

end Go.Gou
namespace Go.Proofs.Ytnamnmipgpcjjaa
open Go.RowKit Go.Gou

set_option linter.constructorNameAsVariable false
set_option maxRecDepth 100000

/-- '[]api.Act{a}'. -/
theorem wpList_build_act {ops : Array Oper} {rest : List Oper} {o : Oper} {a : Act} {w : World} {Q : Exit → Act → World → Prop} (hg : o.guard = none) (x : Operand) (ho : o.op = .buildSlice 51 1 #[(0, x)])
    (d : Ac) (p1 p2 p3 : Option Addr) (n1 n2 n3 k1 k2 k3 : Nat) (hx : a.eval x = .agg (actC d (.slice p1 n1 k1) (.slice p2 n2 k2) (.slice p3 n3 k3)))
    (h : wpList Try.prog ops Q rest (a.put o.dst (.slice (some ⟨w.heap.size, 0, none⟩) 1 1)) (w.alloc (.cells (actC d (.slice p1 n1 k1) (.slice p2 n2 k2) (.slice p3 n3 k3)) 41))) : wpList Try.prog ops Q (o :: rest) a w := by
  obtain ⟨iA, hiA, hz0, hz1, hz2⟩ := info_parts info_act
  exact wpList_buildOne hg 51 41 x ho _ hx iA _ Try.underlying51 hiA hz0 (by rw [hz1]; simp [actC]) (by simp [Value.cells, actC]) (by simp [actC]) (by simp [actC]) h

/-- 'append(acts, a)'. -/
theorem wpList_append_act {ops : Array Oper} {rest : List Oper} {o : Oper} {a : Act} {w : World} {Q : Exit → Act → World → Prop} (hg : o.guard = none) (s x : Operand) (ho : o.op = .call { callee := .builtin .append, args := #[s, x], argTypes := #[51, 51] })
    (base : Nat) (v : Value) (n : Nat) (cs : List Value) (B : Nat) (d : Ac) (p1 p2 p3 : Option Addr) (n1 n2 n3 k1 k2 k3 : Nat) (hs : a.eval s = v) (hx : a.eval x = .slice (some ⟨B, 0, none⟩) 1 1) (hown : w.ownsRow base 41 42 v n cs)
    (hB : w.heap[B]? = some (.cells (actC d (.slice p1 n1 k1) (.slice p2 n2 k2) (.slice p3 n3 k3)) 41 (0, 0))) (hn : n ≤ 100000000) (hbase : base ≤ w.heap.size)
    (h : ∀ g cap w', w'.ownsRow base 41 42 (.slice (some ⟨g, 0, none⟩) (n + 1) cap) (n + 1) (cs ++ (actC d (.slice p1 n1 k1) (.slice p2 n2 k2) (.slice p3 n3 k3)).toList) → Gou.Mod (fun k => v.ownBlock = some k) w w' → (v.ownBlock = some g ∨ w.heap.size ≤ g) → wpList Try.prog ops Q rest (a.put o.dst (.slice (some ⟨g, 0, none⟩) (n + 1) cap)) w') : wpList Try.prog ops Q (o :: rest) a w := by
  obtain ⟨iA, hiA, hz0, hz1, hz2⟩ := info_parts info_act
  refine wpList_append_lies w hg s x 51 ho base 41 iA _ 42 336 Try.underlying51 hiA hz0 hz1 hz2 (by simp [Value.cells]) (by omega) v n cs hs hown ⟨B, 0, none⟩ 1 1 (actC d (.slice p1 n1 k1) (.slice p2 n2 k2) (.slice p3 n3 k3)).toList hx (by simp [actC]) (news_at hB rfl) (fun u hu => by
    have h1 := actC_one d p1 n1 k1 p2 n2 k2 p3 n3 k3
    rw [Array.all_eq_true_iff_forall_mem] at h1
    exact h1 u (by simpa using hu)) (by omega) (by unfold maxLen; omega) (by omega) hbase _ rfl (fun g cap w' h1 h2 h3 h4 => h g cap w' h1 (Gou.Mod.of_grown h2) (h3.imp id fun e => by omega))

end Go.Proofs.Ytnamnmipgpcjjaa

