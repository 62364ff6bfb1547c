/- A region that draws its order and ends in one operation that waits for all others: that operation may be met behind the region. Nothing of the program stands here. -/
import Derived.Deep.RegionHeld
set_option linter.unusedSimpArgs false
set_option linter.unusedVariables false
set_option linter.unusedSectionVars false
set_option linter.constructorNameAsVariable false
namespace Go.Gou
open Go

/-- The region with its operation n struck out (a constant in its place). -/
def dfr (ops : Array Oper) (n : Nat) (o : Oper) : Array Oper := ops.setIfInBounds n { o with op := .assign (.const (.bool true)) }

/-- What stands behind the region: the operation that was struck out, then all else. -/
def deferQ (P : Program) (o : Oper) (Q : Exit → Act → World → Prop) : Exit → Act → World → Prop
  | .normal, a, w => o.wp P a w (fun a' w' => Q .normal a' w') Q
  | .exit i, a, w => Q (.exit i) a w
  | .goto l, a, w => Q (.goto l) a w
  | .ret, a, w => Q .ret a w
  | .panic c, a, w => Q (.panic c) a w
  | .outgrown, a, w => Q .outgrown a w

def backB (md : Region.Mode) (ops : Array Oper) : Bool :=
  (List.range ops.size).all fun j => ((ops[j]?).map (fun o => o.after.all fun e => !Region.binds md e || decide (e.on < j))).getD false

def sinkN (md : Region.Mode) (ops : Array Oper) (n : Nat) : Bool :=
  (List.range ops.size).all fun j => decide (j = n) || ((ops[n]?).map (fun o => o.after.any fun e => Region.binds md e && e.on == j)).getD false

section
variable {P : Program} {ops : Array Oper} {md : Region.Mode} {n : Nat} {o : Oper} {Q : Exit → Act → World → Prop} {S : World → Prop}

theorem dfr_size : (dfr ops n o).size = ops.size := by simp [dfr]
theorem dfr_ne {j : Nat} (h : j ≠ n) : (dfr ops n o)[j]? = ops[j]? := by
  unfold dfr
  rw [Array.getElem?_setIfInBounds_ne (Ne.symm h)]
theorem dfr_eq (ho : ops[n]? = some o) : (dfr ops n o)[n]? = some { o with op := .assign (.const (.bool true)) } := by
  have hlt : n < ops.size := (Array.getElem?_eq_some_iff.1 ho).1
  unfold dfr
  simp [hlt]

theorem ready_dfr (ho : ops[n]? = some o) (listed : Array Bool) : Region.ready md (dfr ops n o) listed = Region.ready md ops listed := by
  unfold Region.ready
  rw [dfr_size]
  congr 1
  funext i
  by_cases h : i = n
  · subst h
    rw [dfr_eq ho, ho]
    rfl
  · rw [dfr_ne h]

theorem yielded_dfr (ho : ops[n]? = some o) (tmps : Array Value) : yielded (dfr ops n o) tmps = yielded ops tmps := by
  funext j
  unfold yielded
  by_cases h : j = n
  · subst h
    rw [dfr_eq ho, ho]
    rfl
  · rw [dfr_ne h]

theorem wp_deferQ {x : Oper} {a : Act} {w : World} {K : Act → World → Prop} (h : x.wp P a w K (deferQ P o Q)) : x.wp P a w K Q := by
  unfold Oper.wp at *
  generalize (execOp a.eval x).run P w = r at *
  cases r with
  | ok n w' =>
    cases n <;> simp only [Oper.upon] at h ⊢ <;>
      first
        | exact h
        | exact Calls.mono h (fun e w'' he => by cases e <;> exact he)
        | exact Rows.mono h (fun _ _ he => he)
  | halt x w' => cases x <;> simp only [Oper.upon] at h ⊢ <;> exact h

theorem wpOp_dfr (ho : ops[n]? = some o) {i : Nat} (hi : i ≠ n) {K : Act → World → Prop} {a : Act} {w : World} (h : wpOp P (dfr ops n o) (deferQ P o Q) i K a w) : wpOp P ops Q i K a w := by
  unfold wpOp at *
  rw [dfr_ne hi] at h
  rw [yielded_dfr ho] at h
  split
  · rename_i hn
    simpa [hn] using h
  · rename_i x hx
    simp only [hx] at h
    split
    · rename_i hw
      simp only [hw, if_true] at h
      exact h.imp wp_deferQ id
    · rename_i hw
      simpa [hw] using h

/-- Where nothing more may come up, all has. -/
theorem all_listed (hb : backB md ops = true) {listed : Array Bool} (hsz : listed.size = ops.size) (h : Region.ready md ops listed = []) : ∀ j, j < ops.size → listed.getD j false = true := by
  intro j
  induction j using Nat.strongRecOn with
  | _ j ih =>
    intro hj
    cases hl : listed.getD j false with
    | true => rfl
    | false =>
      exfalso
      have hl' : listed.getD j true = false := by
        have : j < listed.size := by omega
        simp [this] at hl ⊢
        exact hl
      have hm : j ∈ Region.ready md ops listed := by
        rw [mem_ready]
        refine ⟨hl', ops[j], by simp [hj], fun e he hbnd => ?_⟩
        have h1 := List.all_eq_true.1 hb j (List.mem_range.2 hj)
        simp only [Array.getElem?_eq_getElem hj, Option.map_some, Option.getD_some] at h1
        have h2 := (Array.all_eq_true_iff_forall_mem.1 h1) e he
        simp only [hbnd, Bool.not_true, Bool.false_or, decide_eq_true_eq] at h2
        exact ih e.on h2 (by omega)
      rw [h] at hm
      cases hm

theorem ready_nil {listed : Array Bool} (h : ∀ j, j < ops.size → listed.getD j true = true) : Region.ready md ops listed = [] := by
  rw [List.eq_nil_iff_forall_not_mem]
  intro j hj
  obtain ⟨h1, x, hx, _⟩ := mem_ready.1 hj
  rw [h j (Array.getElem?_eq_some_iff.1 hx).1] at h1
  cases h1

theorem wpAny_defer (ho : ops[n]? = some o) (hd : o.dst = none) (hg : o.guard = none) (hb : backB md ops = true) (hs : sinkN md ops n = true) :
    ∀ (fuel : Nat) (listed : Array Bool) (a : Act) (w : World), listed.size = ops.size → listed.getD n true = false → wpAny P md (dfr ops n o) (deferQ P o Q) fuel listed a w → wpAny P md ops Q fuel listed a w := by
  have hlt : n < ops.size := (Array.getElem?_eq_some_iff.1 ho).1
  have never : ∀ listed : Array Bool, listed.size = ops.size → listed.getD n true = false → Region.ready md ops listed ≠ [] := fun listed hsz hn h => by
    have h1 := all_listed hb hsz h n hlt
    have : n < listed.size := by omega
    simp [this] at h1 hn
    rw [h1] at hn
    cases hn
  intro fuel
  induction fuel with
  | zero =>
    intro listed a w hsz hn h
    have h1 := h.1
    rw [ready_dfr ho] at h1
    exact absurd h1 (never listed hsz hn)
  | succ fuel ih =>
    intro listed a w hsz hn h
    refine ⟨fun h0 => absurd h0 (never listed hsz hn), fun i hi => ?_⟩
    have h2 := h.2 i (by rw [ready_dfr ho]; exact hi)
    by_cases hin : i = n
    · subst hin
      have hall : Region.ready md ops (listed.setIfInBounds i true) = [] := by
        refine ready_nil fun j hj => ?_
        obtain ⟨_, x, hx, hxa⟩ := mem_ready.1 hi
        rw [ho] at hx
        obtain rfl := Option.some.inj hx
        by_cases hji : j = i
        · subst hji
          have : j < listed.size := by omega
          simp [this]
        · rw [getD_set_ne true (Ne.symm hji)]
          have h3 := List.all_eq_true.1 hs j (List.mem_range.2 hj)
          simp only [hji, decide_false, Bool.false_or, ho, Option.map_some, Option.getD_some] at h3
          obtain ⟨e, he, he2⟩ := Array.any_eq_true'.1 h3
          simp only [Bool.and_eq_true, beq_iff_eq] at he2
          have h4 := hxa e he he2.1
          rw [he2.2] at h4
          have : j < listed.size := by omega
          simp [this] at h4 ⊢
          exact h4
      have key : wpAny P md (dfr ops i o) (deferQ P o Q) fuel (listed.setIfInBounds i true) a w := by
        unfold wpOp at h2
        rw [dfr_eq ho] at h2
        have hw : Region.wanted { o with op := .assign (.const (.bool true)) } (yielded (dfr ops i o) a.tmps) = true := by simp [Region.wanted, hg]
        simp only [hw, if_true] at h2
        rcases h2 with h2 | ⟨h2, _⟩
        · simp only [Oper.wp, execOp, Sem.run_pure, Oper.upon, hd, Act.put] at h2
          exact h2
        · exfalso
          unfold Oper.asks at h2
          have := h2.1
          have h0 : (Sem.runT P (execOp a.eval { o with op := .assign (.const (.bool true)) }) w #[]).2 = #[] := rfl
          rw [h0] at this
          simp at this
      have key2 : o.wp P a w (fun a' w' => Q .normal a' w') Q := by
        cases fuel with
        | zero => exact key.2
        | succ f => exact key.1 (by rw [ready_dfr ho]; exact hall)
      unfold wpOp
      rw [ho]
      have hw : Region.wanted o (yielded ops a.tmps) = true := by simp [Region.wanted, hg]
      simp only [hw, if_true]
      refine .inl (Oper.wp_mono (fun a' w' hq => ?_) key2)
      cases fuel with
      | zero => exact ⟨hall, hq⟩
      | succ f => exact ⟨fun _ => hq, by rw [hall]; simp⟩
    · refine wpOp_mono (fun a' w' h3 => ih _ a' w' (by simpa using hsz) ?_ h3) (wpOp_dfr ho hin h2)
      rw [getD_set_ne true hin]
      exact hn

/-- THE BEGINNING: as the kit's 'wp_region_held_drew', the last operation met behind the region. -/
theorem wp_region_defer {id : Nat} {a : Act} {w : World} (n : Nat) (o : Oper) (ho : ops[n]? = some o) (hm : P.follows .mixedOrders = true) (hd : o.dst = none) (hg : o.guard = none) (hb : backB .any ops = true) (hs : sinkN .any ops n = true)
    (hS : S w.drew) (h : S w.drew → wpAnyH P .any (dfr ops n o) (deferQ P o Q) S ops.size (Array.replicate ops.size false) a w.drew) : (Code.region id ops true).wp P Q a w :=
  have hlt : n < ops.size := (Array.getElem?_eq_some_iff.1 ho).1
  wp_region_any hm (wpAny_defer ho hd hg hb hs _ _ _ _ (by simp) (by simp [hlt]) (wpAny_of_held _ _ _ _ (h hS)))
end

end Go.Gou
