/- Texts of the scenes' proofs, laid together: Defer, Fk, RiE, RiF. -/
import Derived.Deep.RegionHeld
import Derived.Test.YtlpieeeeolfclaaGreatDoorZad
import Derived.Deep.MidRow
set_option linter.unusedSimpArgs false
set_option linter.unusedVariables false
set_option linter.unusedSectionVars false
set_option linter.constructorNameAsVariable false

/- A region that draws its order and ends in one operation that waits for all others: that operation may be met behind the region. Nothing of the program stands here. -/
namespace Go.Gou
open Go

/-- The region with its operation n struck out (a constant in its place). -/
def dfr (ops : Array Oper) (n : Nat) (o : Oper) : Array Oper := ops.setIfInBounds n { o with op := .assign (.const (.bool true)) }

/-- What stands behind the region: the operation that was struck out, then all else. -/
def deferQ (P : Program) (o : Oper) (Q : Exit → Act → World → Prop) : Exit → Act → World → Prop
  | .normal, a, w => o.wp P a w (fun a' w' => Q .normal a' w') Q
  | .exit i, a, w => Q (.exit i) a w
  | .goto l, a, w => Q (.goto l) a w
  | .ret, a, w => Q .ret a w
  | .panic c, a, w => Q (.panic c) a w
  | .outgrown, a, w => Q .outgrown a w

def backB (md : Region.Mode) (ops : Array Oper) : Bool :=
  (List.range ops.size).all fun j => ((ops[j]?).map (fun o => o.after.all fun e => !Region.binds md e || decide (e.on < j))).getD false

def sinkN (md : Region.Mode) (ops : Array Oper) (n : Nat) : Bool :=
  (List.range ops.size).all fun j => decide (j = n) || ((ops[n]?).map (fun o => o.after.any fun e => Region.binds md e && e.on == j)).getD false

section
variable {P : Program} {ops : Array Oper} {md : Region.Mode} {n : Nat} {o : Oper} {Q : Exit → Act → World → Prop} {S : World → Prop}

theorem dfr_size : (dfr ops n o).size = ops.size := by simp [dfr]
theorem dfr_ne {j : Nat} (h : j ≠ n) : (dfr ops n o)[j]? = ops[j]? := by
  unfold dfr
  rw [Array.getElem?_setIfInBounds_ne (Ne.symm h)]
theorem dfr_eq (ho : ops[n]? = some o) : (dfr ops n o)[n]? = some { o with op := .assign (.const (.bool true)) } := by
  have hlt : n < ops.size := (Array.getElem?_eq_some_iff.1 ho).1
  unfold dfr
  simp [hlt]

theorem ready_dfr (ho : ops[n]? = some o) (listed : Array Bool) : Region.ready md (dfr ops n o) listed = Region.ready md ops listed := by
  unfold Region.ready
  rw [dfr_size]
  congr 1
  funext i
  by_cases h : i = n
  · subst h
    rw [dfr_eq ho, ho]
    rfl
  · rw [dfr_ne h]

theorem yielded_dfr (ho : ops[n]? = some o) (tmps : Array Value) : yielded (dfr ops n o) tmps = yielded ops tmps := by
  funext j
  unfold yielded
  by_cases h : j = n
  · subst h
    rw [dfr_eq ho, ho]
    rfl
  · rw [dfr_ne h]

theorem wp_deferQ {x : Oper} {a : Act} {w : World} {K : Act → World → Prop} (h : x.wp P a w K (deferQ P o Q)) : x.wp P a w K Q := by
  unfold Oper.wp at *
  generalize (execOp a.eval x).run P w = r at *
  cases r with
  | ok n w' =>
    cases n <;> simp only [Oper.upon] at h ⊢ <;>
      first
        | exact h
        | exact Calls.mono h (fun e w'' he => by cases e <;> exact he)
        | exact Rows.mono h (fun _ _ he => he)
  | halt x w' => cases x <;> simp only [Oper.upon] at h ⊢ <;> exact h

theorem wpOp_dfr (ho : ops[n]? = some o) {i : Nat} (hi : i ≠ n) {K : Act → World → Prop} {a : Act} {w : World} (h : wpOp P (dfr ops n o) (deferQ P o Q) i K a w) : wpOp P ops Q i K a w := by
  unfold wpOp at *
  rw [dfr_ne hi] at h
  rw [yielded_dfr ho] at h
  split
  · rename_i hn
    simpa [hn] using h
  · rename_i x hx
    simp only [hx] at h
    split
    · rename_i hw
      simp only [hw, if_true] at h
      exact h.imp wp_deferQ id
    · rename_i hw
      simpa [hw] using h

/-- Where nothing more may come up, all has. -/
theorem all_listed (hb : backB md ops = true) {listed : Array Bool} (hsz : listed.size = ops.size) (h : Region.ready md ops listed = []) : ∀ j, j < ops.size → listed.getD j false = true := by
  intro j
  induction j using Nat.strongRecOn with
  | _ j ih =>
    intro hj
    cases hl : listed.getD j false with
    | true => rfl
    | false =>
      exfalso
      have hl' : listed.getD j true = false := by
        have : j < listed.size := by omega
        simp [this] at hl ⊢
        exact hl
      have hm : j ∈ Region.ready md ops listed := by
        rw [mem_ready]
        refine ⟨hl', ops[j], by simp [hj], fun e he hbnd => ?_⟩
        have h1 := List.all_eq_true.1 hb j (List.mem_range.2 hj)
        simp only [Array.getElem?_eq_getElem hj, Option.map_some, Option.getD_some] at h1
        have h2 := (Array.all_eq_true_iff_forall_mem.1 h1) e he
        simp only [hbnd, Bool.not_true, Bool.false_or, decide_eq_true_eq] at h2
        exact ih e.on h2 (by omega)
      rw [h] at hm
      cases hm

theorem ready_nil {listed : Array Bool} (h : ∀ j, j < ops.size → listed.getD j true = true) : Region.ready md ops listed = [] := by
  rw [List.eq_nil_iff_forall_not_mem]
  intro j hj
  obtain ⟨h1, x, hx, _⟩ := mem_ready.1 hj
  rw [h j (Array.getElem?_eq_some_iff.1 hx).1] at h1
  cases h1

theorem wpAny_defer (ho : ops[n]? = some o) (hd : o.dst = none) (hg : o.guard = none) (hb : backB md ops = true) (hs : sinkN md ops n = true) :
    ∀ (fuel : Nat) (listed : Array Bool) (a : Act) (w : World), listed.size = ops.size → listed.getD n true = false → wpAny P md (dfr ops n o) (deferQ P o Q) fuel listed a w → wpAny P md ops Q fuel listed a w := by
  have hlt : n < ops.size := (Array.getElem?_eq_some_iff.1 ho).1
  have never : ∀ listed : Array Bool, listed.size = ops.size → listed.getD n true = false → Region.ready md ops listed ≠ [] := fun listed hsz hn h => by
    have h1 := all_listed hb hsz h n hlt
    have : n < listed.size := by omega
    simp [this] at h1 hn
    rw [h1] at hn
    cases hn
  intro fuel
  induction fuel with
  | zero =>
    intro listed a w hsz hn h
    have h1 := h.1
    rw [ready_dfr ho] at h1
    exact absurd h1 (never listed hsz hn)
  | succ fuel ih =>
    intro listed a w hsz hn h
    refine ⟨fun h0 => absurd h0 (never listed hsz hn), fun i hi => ?_⟩
    have h2 := h.2 i (by rw [ready_dfr ho]; exact hi)
    by_cases hin : i = n
    · subst hin
      have hall : Region.ready md ops (listed.setIfInBounds i true) = [] := by
        refine ready_nil fun j hj => ?_
        obtain ⟨_, x, hx, hxa⟩ := mem_ready.1 hi
        rw [ho] at hx
        obtain rfl := Option.some.inj hx
        by_cases hji : j = i
        · subst hji
          have : j < listed.size := by omega
          simp [this]
        · rw [getD_set_ne true (Ne.symm hji)]
          have h3 := List.all_eq_true.1 hs j (List.mem_range.2 hj)
          simp only [hji, decide_false, Bool.false_or, ho, Option.map_some, Option.getD_some] at h3
          obtain ⟨e, he, he2⟩ := Array.any_eq_true'.1 h3
          simp only [Bool.and_eq_true, beq_iff_eq] at he2
          have h4 := hxa e he he2.1
          rw [he2.2] at h4
          have : j < listed.size := by omega
          simp [this] at h4 ⊢
          exact h4
      have key : wpAny P md (dfr ops i o) (deferQ P o Q) fuel (listed.setIfInBounds i true) a w := by
        unfold wpOp at h2
        rw [dfr_eq ho] at h2
        have hw : Region.wanted { o with op := .assign (.const (.bool true)) } (yielded (dfr ops i o) a.tmps) = true := by simp [Region.wanted, hg]
        simp only [hw, if_true] at h2
        rcases h2 with h2 | ⟨h2, _⟩
        · simp only [Oper.wp, execOp, Sem.run_pure, Oper.upon, hd, Act.put] at h2
          exact h2
        · exfalso
          unfold Oper.asks at h2
          have := h2.1
          have h0 : (Sem.runT P (execOp a.eval { o with op := .assign (.const (.bool true)) }) w #[]).2 = #[] := rfl
          rw [h0] at this
          simp at this
      have key2 : o.wp P a w (fun a' w' => Q .normal a' w') Q := by
        cases fuel with
        | zero => exact key.2
        | succ f => exact key.1 (by rw [ready_dfr ho]; exact hall)
      unfold wpOp
      rw [ho]
      have hw : Region.wanted o (yielded ops a.tmps) = true := by simp [Region.wanted, hg]
      simp only [hw, if_true]
      refine .inl (Oper.wp_mono (fun a' w' hq => ?_) key2)
      cases fuel with
      | zero => exact ⟨hall, hq⟩
      | succ f => exact ⟨fun _ => hq, by rw [hall]; simp⟩
    · refine wpOp_mono (fun a' w' h3 => ih _ a' w' (by simpa using hsz) ?_ h3) (wpOp_dfr ho hin h2)
      rw [getD_set_ne true hin]
      exact hn

/-- THE BEGINNING: as the kit's 'wp_region_held_drew', the last operation met behind the region. -/
theorem wp_region_defer {id : Nat} {a : Act} {w : World} (n : Nat) (o : Oper) (ho : ops[n]? = some o) (hm : P.follows .mixedOrders = true) (hd : o.dst = none) (hg : o.guard = none) (hb : backB .any ops = true) (hs : sinkN .any ops n = true)
    (hS : S w.drew) (h : S w.drew → wpAnyH P .any (dfr ops n o) (deferQ P o Q) S ops.size (Array.replicate ops.size false) a w.drew) : (Code.region id ops true).wp P Q a w :=
  have hlt : n < ops.size := (Array.getElem?_eq_some_iff.1 ho).1
  wp_region_any hm (wpAny_defer ho hd hg hb hs _ _ _ _ (by simp) (by simp [hlt]) (wpAny_of_held _ _ _ _ (h hS)))
end

end Go.Gou

/- Drawn regions, walked by hand: the steps in few words. -/
namespace Go.Gou
open Go.RowKit
theorem uSa {α : Type _} (l : List α) (i : Nat) (a : α) : l.toArray.setIfInBounds i a = (l.set i a).toArray := by rw [List.setIfInBounds_toArray]
theorem uSb {α : Type _} (a : α) (l : List α) (b : α) : (a :: l).set 0 b = b :: l := rfl
theorem uSc {α : Type _} (a : α) (l : List α) (n : Nat) (b : α) : (a :: l).set (n + 1) b = a :: l.set n b := rfl
/-- Which operation stands where. -/
inductive Nth : List Oper → Nat → Oper → Prop
  | z {o : Oper} {l : List Oper} : Nth (o :: l) 0 o
  | s {o x : Oper} {l : List Oper} {n : Nat} : Nth l n o → Nth (x :: l) (n + 1) o
theorem Nth.get {l : List Oper} {n : Nat} {o : Oper} (h : Nth l n o) : l.toArray[n]? = some o := by
  induction h with
  | z => rfl
  | s _ ih => simpa using ih
/-- Which operation stands where; the row of operations with a constant in its place. -/
inductive Dfr : List Oper → Nat → Oper → List Oper → Prop
  | z {d : Option Tmp} {op : Op} {t : TypeId} {p : String} {e : Array Edge} {g : Option (Nat × Bool)} {l : List Oper} : Dfr ({ dst := d, op := op, type := t, pos := p, after := e, guard := g } :: l) 0 { dst := d, op := op, type := t, pos := p, after := e, guard := g } ({ dst := d, op := .assign (.const (.bool true)), type := t, pos := p, after := e, guard := g } :: l)
  | s {o x : Oper} {l l' : List Oper} {n : Nat} : Dfr l n o l' → Dfr (x :: l) (n + 1) o (x :: l')
theorem Dfr.get {l l' : List Oper} {n : Nat} {o : Oper} (h : Dfr l n o l') : l[n]? = some o ∧ l.set n { o with op := .assign (.const (.bool true)) } = l' := by
  induction h with
  | z => exact ⟨rfl, rfl⟩
  | s _ ih => exact ⟨by simpa using ih.1, by simpa using ih.2⟩
theorem rup {S : Nat → Prop} {w w' : World} {b o : Nat} {cs : List Value} (h : w.rangeAt b o cs) (hm : Gou.Mod S w w') (hS : ¬ S b) : w'.rangeAt b o cs := fun j v hv => by
  have h1 := h j v hv
  exact (hm.cell (p := ⟨b, o + j, none⟩) (World.block_lt_of_cell? _ _ h1) hS).trans h1
section
variable {P : Program} {md : Region.Mode} {l : List Oper} {Q : Exit → Act → World → Prop} {S : World → Prop} {fuel : Nat} {listed : Array Bool} {a : Act} {w : World}
/-- An operation that yields its value in every world. -/
theorem tk (i : Nat) (v : Value) (hS : S w) {oi : Oper} {b' : Act} (hn : Nth l i oi := by repeat constructor) (hs : Region.noSelect l.toArray = true := by kernel_rfl) (hf : Region.free md l.toArray listed i = true := by kernel_rfl) (hr : (Region.ready md l.toArray listed).contains i = true := by kernel_rfl)
    (hw : Region.wanted oi (yielded l.toArray a.tmps) = true := by rfl) (hy : ∀ w', (execOp a.eval oi).run P w' = .ok (.value v) w' := by (intro w'; go_simp; try with_reducible rfl))
    (ha : a.put oi.dst v = b' := by first | (simp only [Act.put, uSa, uSb, uSc]; done) | (simp only [Act.put, uSa, uSb, uSc]; exact rfl) | exact rfl)
    (hQ : ∀ c a w, Q (.panic c) (a.put oi.dst v) w → Q (.panic c) a w := by exact fun _ _ _ h => h)
    (h : wpAnyH P md l.toArray Q S fuel (listed.setIfInBounds i true) b' w) : wpAnyH P md l.toArray Q S (fuel + 1) listed a w :=
  wpAnyH_take hn.get hs hf hr hQ (.inl ⟨hw, fun w' _ => hy w'⟩) hS (ha ▸ h)
/-- The same, by the kernel. -/
theorem tkK (i : Nat) (v : Value) (hS : S w) {oi : Oper} {b' : Act} (hn : Nth l i oi := by repeat constructor) (hs : Region.noSelect l.toArray = true := by kernel_rfl) (hf : Region.free md l.toArray listed i = true := by kernel_rfl) (hr : (Region.ready md l.toArray listed).contains i = true := by kernel_rfl)
    (hw : Region.wanted oi (yielded l.toArray a.tmps) = true := by rfl) (hy : ∀ w', (execOp a.eval oi).run P w' = .ok (.value v) w' := by (intro w'; kernel_rfl))
    (ha : a.put oi.dst v = b' := by first | (simp only [Act.put, uSa, uSb, uSc]; done) | (simp only [Act.put, uSa, uSb, uSc]; exact rfl) | exact rfl)
    (hQ : ∀ c a w, Q (.panic c) (a.put oi.dst v) w → Q (.panic c) a w := by exact fun _ _ _ h => h)
    (h : wpAnyH P md l.toArray Q S fuel (listed.setIfInBounds i true) b' w) : wpAnyH P md l.toArray Q S (fuel + 1) listed a w :=
  wpAnyH_take hn.get hs hf hr hQ (.inl ⟨hw, fun w' _ => hy w'⟩) hS (ha ▸ h)
/-- An operation that its guard keeps from being done. -/
theorem tkU (i : Nat) (hS : S w) {oi : Oper} {b' : Act} (hn : Nth l i oi := by repeat constructor) (hs : Region.noSelect l.toArray = true := by kernel_rfl) (hf : Region.free md l.toArray listed i = true := by kernel_rfl) (hr : (Region.ready md l.toArray listed).contains i = true := by kernel_rfl)
    (hw : Region.wanted oi (yielded l.toArray a.tmps) = false := by rfl)
    (ha : a.put oi.dst undef = b' := by first | (simp only [Act.put, uSa, uSb, uSc]; done) | (simp only [Act.put, uSa, uSb, uSc]; exact rfl) | exact rfl)
    (hQ : ∀ c a w, Q (.panic c) (a.put oi.dst undef) w → Q (.panic c) a w := by exact fun _ _ _ h => h)
    (h : wpAnyH P md l.toArray Q S fuel (listed.setIfInBounds i true) b' w) : wpAnyH P md l.toArray Q S (fuel + 1) listed a w :=
  wpAnyH_take hn.get hs hf hr hQ (.inr ⟨hw, rfl⟩) hS (ha ▸ h)
/-- A cell that is read, of a block that the region leaves alone. -/
theorem tkC {SB : Nat → Prop} {W : World} (i : Nat) {b o : Nat} {v : Value} (g : W.cell? ⟨b, o, none⟩ = some v) (ns : ¬ SB b) (hS : Gou.Mod SB W w) {oi : Oper} {b' : Act} (hn : Nth l i oi := by repeat constructor) (hs : Region.noSelect l.toArray = true := by kernel_rfl) (hf : Region.free md l.toArray listed i = true := by kernel_rfl) (hr : (Region.ready md l.toArray listed).contains i = true := by kernel_rfl)
    (hw : Region.wanted oi (yielded l.toArray a.tmps) = true := by rfl) (hy : ∀ w' : World, w'.cell? ⟨b, o, none⟩ = some v → (execOp a.eval oi).run P w' = .ok (.value v) w' := by (intro w' g; go_simp; try with_reducible rfl))
    (ha : a.put oi.dst v = b' := by first | (simp only [Act.put, uSa, uSb, uSc]; done) | (simp only [Act.put, uSa, uSb, uSc]; exact rfl) | exact rfl)
    (hQ : ∀ c a w, Q (.panic c) (a.put oi.dst v) w → Q (.panic c) a w := by exact fun _ _ _ h => h)
    (h : wpAnyH P md l.toArray Q (fun w' => Gou.Mod SB W w') fuel (listed.setIfInBounds i true) b' w) : wpAnyH P md l.toArray Q (fun w' => Gou.Mod SB W w') (fuel + 1) listed a w :=
  wpAnyH_take hn.get hs hf hr hQ (.inl ⟨hw, fun w' hw' => hy w' ((hw'.cell (p := ⟨b, o, none⟩) (World.block_lt_of_cell? _ _ g) ns).trans g)⟩) hS (ha ▸ h)
/-- A row of cells that is read, likewise. -/
theorem tkR {SB : Nat → Prop} {W : World} (i : Nat) (v : Value) {b o : Nat} {cs : List Value} (g : W.rangeAt b o cs) (ns : ¬ SB b) {T : TypeId} {d : TypeDesc} (hu : P.underlying T = some d) (hi : (P.info? T).map (·.size) = some cs.length) (hS : Gou.Mod SB W w)
    {oi : Oper} {b' : Act} (hn : Nth l i oi := by repeat constructor) (hs : Region.noSelect l.toArray = true := by kernel_rfl) (hf : Region.free md l.toArray listed i = true := by kernel_rfl) (hr : (Region.ready md l.toArray listed).contains i = true := by kernel_rfl)
    (hw : Region.wanted oi (yielded l.toArray a.tmps) = true := by rfl) {x : Operand} (ho : oi.op = .load T x := by rfl) (hx : a.eval x = .pointer (some ⟨b, o, none⟩) := by rfl) (hd : d.isRow = true := by rfl) (hv : v = .agg cs.toArray := by rfl)
    (ha : a.put oi.dst v = b' := by first | (simp only [Act.put, uSa, uSb, uSc]; done) | (simp only [Act.put, uSa, uSb, uSc]; exact rfl) | exact rfl)
    (hQ : ∀ c a w, Q (.panic c) (a.put oi.dst v) w → Q (.panic c) a w := by exact fun _ _ _ h => h)
    (h : wpAnyH P md l.toArray Q (fun w' => Gou.Mod SB W w') fuel (listed.setIfInBounds i true) b' w) : wpAnyH P md l.toArray Q (fun w' => Gou.Mod SB W w') (fuel + 1) listed a w := by
  subst hv
  exact wpAnyH_take hn.get hs hf hr hQ (yieldsIf_load_mid hw T _ ho b o hx cs _ (fun w' hw' => rup g hw' ns) hu hd hi) hS (ha ▸ h)
/-- The one operation that may come up. -/
theorem rd (i : Nat) {o : Oper} (hn : Nth l i o := by repeat constructor) (hr : Region.ready md l.toArray listed = [i] := by kernel_rfl) (hw : Region.wanted o (yielded l.toArray a.tmps) = true := by rfl)
    (h : ∀ K : Act → World → Prop, Shut (∀ a w, S w → (S w → wpAnyH P md l.toArray Q S fuel (listed.setIfInBounds i true) a w) → K a w) → Oper.wp P o a w K Q) : wpAnyH P md l.toArray Q S (fuel + 1) listed a w :=
  wpAnyH_ready hr (by simp) (AllReadyH.cons hn.get (fun K hK => by rw [if_pos hw]; exact h K hK) AllReadyH.nil)
/-- All have come up. -/
theorem dn (hS : S w) (hr : Region.ready md l.toArray listed = [] := by kernel_rfl) (h : Q .normal a w) : wpAnyH P md l.toArray Q S fuel listed a w := wpAnyH_done hr h _
/-- Cells that are stored into a row, as the one operation that may come up. -/
theorem stR {SB : Nat → Prop} {W : World} (i : Nat) (b o : Nat) (cells : Array Value) (hS : Gou.Mod SB W w) (hb : SB b) {T : TypeId} (ht : w.there b o cells.size) (hi : (P.info? T).map (·.size) = some cells.size) (h1 : cells.all (·.oneCell') = true)
    {oi : Oper} (hn : Nth l i oi := by repeat constructor) (hr : Region.ready md l.toArray listed = [i] := by kernel_rfl) (hw : Region.wanted oi (yielded l.toArray a.tmps) = true := by rfl) {x y : Operand} (ho : oi.op = .store T x y := by rfl) (hd : oi.dst = none := by rfl) (hx : a.eval x = .pointer (some ⟨b, o, none⟩) := by rfl) (hy : a.eval y = .agg cells := by rfl)
    (h : Gou.Mod SB W (w.setCells b o cells.toList) → wpAnyH P md l.toArray Q (fun w' => Gou.Mod SB W w') fuel (listed.setIfInBounds i true) a (w.setCells b o cells.toList)) : wpAnyH P md l.toArray Q (fun w' => Gou.Mod SB W w') (fuel + 1) listed a w := by
  refine rd i hn hr hw (h := fun K hK => ?_)
  refine wp_store_mid T x y ho b o cells hx hy ht hi h1 ?_
  have e : a.put oi.dst undef = a := by rw [hd]; rfl
  rw [e]
  have M : Gou.Mod SB W (w.setCells b o cells.toList) := hS.trans' ((Blk.setMod w b o cells.toList).imp (fun k _ h => by rw [h]; exact hb))
  exact hK _ _ M h
/-- A region whose last operation is met behind it. -/
theorem wdf (n : Nat) {id : Nat} {o : Oper} {l' : List Oper} (hS : S w.drew) (hn : Dfr l n o l' := by repeat constructor) (hm : P.follows .mixedOrders = true := by kernel_rfl) (hd : o.dst = none := by rfl) (hg : o.guard = none := by rfl) (hb : backB .any l.toArray = true := by kernel_rfl) (hs : sinkN .any l.toArray n = true := by kernel_rfl)
    (h : S w.drew → wpAnyH P .any l'.toArray (deferQ P o Q) S l.toArray.size (Array.replicate l.toArray.size false) a w.drew) : (Code.region id l.toArray true).wp P Q a w :=
  wp_region_defer n o (by simpa using hn.get.1) hm hd hg hb hs hS (fun g => by
    have e : dfr l.toArray n o = l'.toArray := by unfold dfr; rw [List.setIfInBounds_toArray, hn.get.2]
    rw [e]; exact h g)
/-- Two operations that may come up. -/
theorem rd2 (i j : Nat) {o p : Oper} (hn : Nth l i o := by repeat constructor) (hp : Nth l j p := by repeat constructor) (hr : Region.ready md l.toArray listed = [i, j] := by kernel_rfl) (hw : Region.wanted o (yielded l.toArray a.tmps) = true := by rfl) (hv : Region.wanted p (yielded l.toArray a.tmps) = true := by rfl)
    (h : ∀ K : Act → World → Prop, Shut (∀ a w, S w → (S w → wpAnyH P md l.toArray Q S fuel (listed.setIfInBounds i true) a w) → K a w) → Oper.wp P o a w K Q)
    (g : ∀ K : Act → World → Prop, Shut (∀ a w, S w → (S w → wpAnyH P md l.toArray Q S fuel (listed.setIfInBounds j true) a w) → K a w) → Oper.wp P p a w K Q) : wpAnyH P md l.toArray Q S (fuel + 1) listed a w :=
  wpAnyH_ready hr (by simp) (AllReadyH.cons hn.get (fun K hK => by rw [if_pos hw]; exact h K hK) (AllReadyH.cons hp.get (fun K hK => by rw [if_pos hv]; exact g K hK) AllReadyH.nil))
end
section
variable {P : Program} {ops : Array Oper} {rest : List Oper} {a : Act} {w : World} {Q : Exit → Act → World → Prop} {T : TypeId} {b o n : Nat} {d : TypeDesc} {dst : Option Tmp} {x y : Operand} {t : TypeId} {p : String} {e : Array Edge} {g : Option (Nat × Bool)}
/-- The operation at hand is a load, a store, of this type. -/
theorem lT (T : TypeId) (h : wpList P ops Q ({ dst := dst, op := .load T x, type := t, pos := p, after := e, guard := g } :: rest) a w) : wpList P ops Q ({ dst := dst, op := .load T x, type := t, pos := p, after := e, guard := g } :: rest) a w := h
theorem sT (T : TypeId) (h : wpList P ops Q ({ dst := dst, op := .store T x y, type := t, pos := p, after := e, guard := g } :: rest) a w) : wpList P ops Q ({ dst := dst, op := .store T x y, type := t, pos := p, after := e, guard := g } :: rest) a w := h
/-- A load of a whole struct, in a plain region. -/
theorem ldA {cs : List Value} {v : Array Value} (hc : w.rangeAt b o cs) (hu : P.underlying T = some d) (hi : (P.info? T).map (·.size) = some n) (hn : cs.length = n := by rfl) (hx : a.eval x = .pointer (some ⟨b, o, none⟩) := by rfl) (hd : d.isRow = true := by rfl) (hv : cs.toArray = v := by first | exact Array.toArray_toList .. | rfl)
    (h : wpList P ops Q rest (a.put dst (.agg v)) w) : wpList P ops Q ({ dst := dst, op := .load T x, type := t, pos := p, after := e, guard := none } :: rest) a w :=
  wpList_load_mid rfl T x rfl b o hx cs d hc hu hd (by rw [hn]; exact hi) (by rw [hv]; exact h)
/-- The same, behind a guard that holds. -/
theorem ldG {cs : List Value} {v : Array Value} (hc : w.rangeAt b o cs) (hu : P.underlying T = some d) (hi : (P.info? T).map (·.size) = some n) (hw : Region.wanted { dst := dst, op := .load T x, type := t, pos := p, after := e, guard := g } (yielded ops a.tmps) = true := by rfl) (hn : cs.length = n := by rfl) (hx : a.eval x = .pointer (some ⟨b, o, none⟩) := by rfl) (hd : d.isRow = true := by rfl) (hv : cs.toArray = v := by first | exact Array.toArray_toList .. | rfl)
    (h : wpList P ops Q rest (a.put dst (.agg v)) w) : wpList P ops Q ({ dst := dst, op := .load T x, type := t, pos := p, after := e, guard := g } :: rest) a w :=
  wpList_step fun K hK => by rw [if_pos hw]; exact wp_load_mid T x rfl b o hx cs d hc hu hd (by rw [hn]; exact hi) (hK _ _ (by rw [hv]; exact h))
/-- A store of a whole struct. -/
theorem stA (cells : Array Value) (ht : w.there b o n) (hi : (P.info? T).map (·.size) = some n) (h1 : cells.all (·.oneCell') = true) (hn : cells.size = n := by rfl) (hx : a.eval x = .pointer (some ⟨b, o, none⟩) := by rfl) (hy : a.eval y = .agg cells := by rfl)
    (h : wpList P ops Q rest a (w.setCells b o cells.toList)) : wpList P ops Q ({ dst := none, op := .store T x y, type := t, pos := p, after := e, guard := none } :: rest) a w :=
  wpList_store_mid rfl T x y rfl b o cells hx hy (by rw [hn]; exact ht) (by rw [hn]; exact hi) h1 h
end
/-- A box just made and filled: the world gets a name. -/
theorem newB {P : Program} {c : Code} {Q : Exit → Act → World → Prop} {a : Act} {w : World} {T : TypeId} {z cs : Array Value} (hs : z.size = cs.size) (h : ∀ W', Blk W' w.heap.size T cs → Gou.Mod (fun _ => False) w W' → Code.wp P c Q a W') : Code.wp P c Q a ((w.alloc (.cells z T)).setCells w.heap.size 0 cs.toList) := by
  have h1 : Blk (w.alloc (.cells z T)) w.heap.size T z := heap_alloc_new _ _
  have h2 := h1.sets 0 cs.toList
  rw [setMany_all z cs.toList (by rw [hs]; simp), Array.toArray_toList] at h2
  exact h _ h2 ((Gou.Mod.alloc (fun _ => False) w (.cells z T)).trans (Blk.setMod _ w.heap.size 0 cs.toList) (fun k hk e => by omega))
/-- A store into a box: likewise. -/
theorem putB {P : Program} {c : Code} {Q : Exit → Act → World → Prop} {a : Act} {w : World} {b o : Nat} {vs : List Value} (h : ∀ W', Gou.Mod (fun k => k = b) w W' → (∀ T cs, Blk w b T cs → Blk W' b T (setMany cs o vs)) → Code.wp P c Q a W') : Code.wp P c Q a (w.setCells b o vs) :=
  h _ (Blk.setMod w b o vs) (fun _ _ hb => hb.sets o vs)
end Go.Gou

/- Regions: the code's rectangles moved, grown, joined. -/
namespace Go.Proofs.YtlpieeeeolfclaaGreatDoor
open Go.RowKit Go.Gou Go.Reg
set_option maxRecDepth 100000

set_option maxHeartbeats 4000000 in
theorem rectMove_any (r : Rt) (dx dy : Int) (w : World) (hr : r.Right) (hx : Near dx) (hy : Near dy) :
    Calls Tryz.prog 33 #[rtV r, .int .i64 dx, .int .i64 dy] w fun e w' => e = .returned (rtV (moveP dx dy r)) ∧ Below w.heap.size w w' := by
  obtain ⟨a, b, c, d⟩ := r
  have key : ∀ s : Bool, decide (Rt.Some ⟨a, b, c, d⟩) = s → Calls Tryz.prog 33 #[.agg #[.int .i64 a, .int .i64 b, .int .i64 c, .int .i64 d], .int .i64 dx, .int .i64 dy] w fun e w' => e = .returned (rtV (if s then someP ⟨cutN (movedP a dx), cutN (movedP b dy), cutN (movedP c dx), cutN (movedP d dy)⟩ else Rt.zero)) ∧ Below w.heap.size w w' := by
    intro s hh
    obtain ⟨ha, hb', hc, hd⟩ := hr
    go_enter Tryz.func33, Tryz.ntmps33
    go_wp2_with fail
    refine (rectEmpty_any ⟨a, b, c, d⟩ _).mono ?_
    rintro e w1 ⟨rfl, hb⟩
    rw [hh]
    obtain ⟨B0, B1⟩ := two_new w 32 32 #[.int .i64 a, .int .i64 b, .int .i64 c, .int .i64 d] #[.int .i64 0, .int .i64 0, .int .i64 0, .int .i64 0]
    have HB1 := Lib.hid (B1.up hb)
    have Hm : Hid (Below w.heap.size w w1) := Lib.hid ((below2 _ _ _).trans (hb.mono (by simp; omega)))
    obtain ⟨⟨d0, d1, d2, d3⟩, ⟨f0, f1, f2, f3⟩⟩ := four (B1.up hb)
    obtain ⟨⟨c0, c1, c2, c3⟩, -⟩ := four (B0.up hb)
    have Hz : Hid (w.heap.size + 1 < w1.heap.size) := Lib.hid (Blk.lt HB1.out)
    clear hb B0 B1 hh
    cases s with
    | true =>
      clear d0 d1 d2 d3 f0 f1 f2 f3
      go_wp2_with fail
      refine wp_region_held_drew (S := fun w' => Gou.Mod (fun k => k = w.heap.size + 1) w1 w') (by kernel_rfl) (Gou.Mod.drew _ _) (fun hHeld => ?_)
      refine tk 0 (.pointer (some ⟨w.heap.size, 0, none⟩)) hHeld (h := ?_)
      refine tkC 1 c0 (by show ¬ (w.heap.size = _); omega) hHeld (h := ?_)
      refine tk 2 (.int .i64 dx) hHeld (h := ?_)
      refine tk 4 (.pointer (some ⟨w.heap.size, 1, none⟩)) hHeld (h := ?_)
      refine tkC 5 c1 (by show ¬ (w.heap.size = _); omega) hHeld (h := ?_)
      refine tk 6 (.int .i64 dy) hHeld (h := ?_)
      refine tk 8 (.pointer (some ⟨w.heap.size, 2, none⟩)) hHeld (h := ?_)
      refine tkC 9 c2 (by show ¬ (w.heap.size = _); omega) hHeld (h := ?_)
      refine tk 10 (.int .i64 dx) hHeld (h := ?_)
      refine tk 12 (.pointer (some ⟨w.heap.size, 3, none⟩)) hHeld (h := ?_)
      refine tkC 13 c3 (by show ¬ (w.heap.size = _); omega) hHeld (h := ?_)
      refine tk 14 (.int .i64 dy) hHeld (h := ?_)
      refine rd 3 (h := fun K hK => ?_)
      go_simp
      refine (moved_any a dx _ ha hx).mono ?_
      rintro e w' ⟨rfl, rfl⟩
      refine hK _ _ hHeld (fun hHeld => ?_)
      clear hK K
      try simp only [Act.put, uSa, uSb, uSc]
      refine rd 7 (h := fun K hK => ?_)
      go_simp
      refine (moved_any b dy _ hb' hy).mono ?_
      rintro e w' ⟨rfl, rfl⟩
      refine hK _ _ hHeld (fun hHeld => ?_)
      clear hK K
      try simp only [Act.put, uSa, uSb, uSc]
      refine rd 11 (h := fun K hK => ?_)
      go_simp
      refine (moved_any c dx _ hc hx).mono ?_
      rintro e w' ⟨rfl, rfl⟩
      refine hK _ _ hHeld (fun hHeld => ?_)
      clear hK K
      try simp only [Act.put, uSa, uSb, uSc]
      refine rd 15 (h := fun K hK => ?_)
      go_simp
      refine (moved_any d dy _ hd hy).mono ?_
      rintro e w' ⟨rfl, rfl⟩
      refine hK _ _ hHeld (fun hHeld => ?_)
      clear hK K
      try simp only [Act.put, uSa, uSb, uSc]
      refine tk 16 (.agg #[.int .i64 (movedP a dx), .int .i64 (movedP b dy), .int .i64 (movedP c dx), .int .i64 (movedP d dy)]) hHeld (h := ?_)
      refine rd 17 (h := fun K hK => ?_)
      go_simp
      refine (whole_any ⟨movedP a dx, movedP b dy, movedP c dx, movedP d dy⟩ _).mono ?_
      rintro e w3 ⟨rfl, hb3⟩
      have M3 : Hid (Gou.Mod (fun _ => False) w1 w3) := Lib.hid ((Gou.Mod.drew _ _).trans' (hb3))
      clear hb3 hHeld
      refine hK _ _ (M3.out.imp (fun _ _ h => h.elim)) (fun hHeld => ?_)
      clear hK K
      try simp only [Act.put, uSa, uSb, uSc]
      refine rd 18 (h := fun K hK => ?_)
      refine wp_store_mid 32 _ _ rfl (w.heap.size + 1) 0 #[.int .i64 (someP ⟨cutN (movedP a dx), cutN (movedP b dy), cutN (movedP c dx), cutN (movedP d dy)⟩).x0, .int .i64 (someP ⟨cutN (movedP a dx), cutN (movedP b dy), cutN (movedP c dx), cutN (movedP d dy)⟩).y0, .int .i64 (someP ⟨cutN (movedP a dx), cutN (movedP b dy), cutN (movedP c dx), cutN (movedP d dy)⟩).x1, .int .i64 (someP ⟨cutN (movedP a dx), cutN (movedP b dy), cutN (movedP c dx), cutN (movedP d dy)⟩).y1] rfl rfl ((HB1.out.mod0 M3.out).there 0 4 (by simp)) size_rect (one4 _ _ _ _) ?_
      refine hK _ _ ((M3.out.imp (fun _ _ h => h.elim)).trans' (Blk.setMod _ _ _ _)) (fun hHeld => ?_)
      clear hK K
      try simp only [Act.put, uSa, uSb, uSc]
      refine wpAnyH_done (by kernel_rfl) ?_ _
      clear hHeld
      go_wp2_with fail
      have h := store_end (N := w.heap.size + 1) Hm.out (by omega) (Nat.le_of_lt (Nat.lt_of_lt_of_le (by omega) Hz.out)) HB1.out M3.out (.int .i64 (someP ⟨cutN (movedP a dx), cutN (movedP b dy), cutN (movedP c dx), cutN (movedP d dy)⟩).x0) (.int .i64 (someP ⟨cutN (movedP a dx), cutN (movedP b dy), cutN (movedP c dx), cutN (movedP d dy)⟩).y0) (.int .i64 (someP ⟨cutN (movedP a dx), cutN (movedP b dy), cutN (movedP c dx), cutN (movedP d dy)⟩).x1) (.int .i64 (someP ⟨cutN (movedP a dx), cutN (movedP b dy), cutN (movedP c dx), cutN (movedP d dy)⟩).y1)
      exact ret_rect (someP ⟨cutN (movedP a dx), cutN (movedP b dy), cutN (movedP c dx), cutN (movedP d dy)⟩) rfl rfl rfl h.1 Tryz.underlying32 rfl size_rect ⟨rfl, h.2⟩
    | false =>
      clear c0 c1 c2 c3
      go_wp2_with fail
      have h := set4 HB1.out Hm.out (by omega) (.int .i64 0) (.int .i64 0) (.int .i64 0) (.int .i64 0)
      exact ret_rect ⟨0, 0, 0, 0⟩ rfl rfl rfl h.1 Tryz.underlying32 rfl size_rect ⟨rfl, h.2⟩
  refine (key _ rfl).mono ?_
  rintro e w' ⟨rfl, hb⟩
  exact ⟨by simp only [decide_eq_true_eq, cut_moved]; rfl, hb⟩

set_option maxHeartbeats 4000000 in
theorem rectGrow_any (r : Rt) (l u x y : Int) (w : World) (hr : r.Right) (hl : Near l) (hu : Near u) (hx : Near x) (hy : Near y) :
    Calls Tryz.prog 34 #[rtV r, .int .i64 l, .int .i64 u, .int .i64 x, .int .i64 y] w fun e w' => e = .returned (rtV (growP l u x y r)) ∧ Below w.heap.size w w' := by
  obtain ⟨a, b, c, d⟩ := r
  have key : ∀ s : Bool, decide (Rt.Some ⟨a, b, c, d⟩) = s → Calls Tryz.prog 34 #[.agg #[.int .i64 a, .int .i64 b, .int .i64 c, .int .i64 d], .int .i64 l, .int .i64 u, .int .i64 x, .int .i64 y] w fun e w' => e = .returned (rtV (if s then someP ⟨cutN (a - l), cutN (b - u), cutN (c + x), cutN (d + y)⟩ else Rt.zero)) ∧ Below w.heap.size w w' := by
    intro s hh
    obtain ⟨ha, hb', hc, hd⟩ := hr
    have e1 : IntKind.i64.wrap (a - l) = a - l := wrap_id (by simp only [Near, far] at *; omega) (by simp only [Near, far] at *; omega)
    have e2 : IntKind.i64.wrap (b - u) = b - u := wrap_id (by simp only [Near, far] at *; omega) (by simp only [Near, far] at *; omega)
    have e3 : IntKind.i64.wrap (c + x) = c + x := wrap_id (by simp only [Near, far] at *; omega) (by simp only [Near, far] at *; omega)
    have e4 : IntKind.i64.wrap (d + y) = d + y := wrap_id (by simp only [Near, far] at *; omega) (by simp only [Near, far] at *; omega)
    clear ha hb' hc hd hl hu hx hy
    go_enter Tryz.func34, Tryz.ntmps34
    go_wp2_with fail
    refine (rectEmpty_any ⟨a, b, c, d⟩ _).mono ?_
    rintro e w1 ⟨rfl, hb⟩
    rw [hh]
    obtain ⟨B0, B1⟩ := two_new w 32 32 #[.int .i64 a, .int .i64 b, .int .i64 c, .int .i64 d] #[.int .i64 0, .int .i64 0, .int .i64 0, .int .i64 0]
    have HB1 := Lib.hid (B1.up hb)
    have Hm : Hid (Below w.heap.size w w1) := Lib.hid ((below2 _ _ _).trans (hb.mono (by simp; omega)))
    obtain ⟨⟨d0, d1, d2, d3⟩, ⟨f0, f1, f2, f3⟩⟩ := four (B1.up hb)
    obtain ⟨⟨c0, c1, c2, c3⟩, -⟩ := four (B0.up hb)
    have Hz : Hid (w.heap.size + 1 < w1.heap.size) := Lib.hid (Blk.lt HB1.out)
    clear hb B0 B1 hh
    cases s with
    | true =>
      clear d0 d1 d2 d3 f0 f1 f2 f3
      go_wp2_with fail
      refine (whole_any ⟨a - l, b - u, c + x, d + y⟩ _).mono ?_
      rintro e w3 ⟨rfl, hm3⟩
      have HB3 := Lib.hid (HB1.out.mod0 hm3)
      have Hm3 : Hid (Below w.heap.size w w3) := Lib.hid (Hm.out.trans (hm3.below (by have := Hz.out; omega) (fun _ _ h => h)))
      clear hm3
      obtain ⟨⟨d0, d1, d2, d3⟩, ⟨f0, f1, f2, f3⟩⟩ := four HB3.out
      go_wp2_with fail
      have h := set4 HB3.out Hm3.out (by omega) (.int .i64 (someP ⟨cutN (a - l), cutN (b - u), cutN (c + x), cutN (d + y)⟩).x0) (.int .i64 (someP ⟨cutN (a - l), cutN (b - u), cutN (c + x), cutN (d + y)⟩).y0) (.int .i64 (someP ⟨cutN (a - l), cutN (b - u), cutN (c + x), cutN (d + y)⟩).x1) (.int .i64 (someP ⟨cutN (a - l), cutN (b - u), cutN (c + x), cutN (d + y)⟩).y1)
      exact ret_rect (someP ⟨cutN (a - l), cutN (b - u), cutN (c + x), cutN (d + y)⟩) rfl rfl rfl h.1 Tryz.underlying32 rfl size_rect ⟨rfl, h.2⟩
    | false =>
      clear c0 c1 c2 c3
      go_wp2_with fail
      have h := set4 HB1.out Hm.out (by omega) (.int .i64 0) (.int .i64 0) (.int .i64 0) (.int .i64 0)
      exact ret_rect ⟨0, 0, 0, 0⟩ rfl rfl rfl h.1 Tryz.underlying32 rfl size_rect ⟨rfl, h.2⟩
  refine (key _ rfl).mono ?_
  rintro e w' ⟨rfl, hb⟩
  exact ⟨by simp only [decide_eq_true_eq]; rfl, hb⟩

end Go.Proofs.YtlpieeeeolfclaaGreatDoor

/- Regions: the code's rectangles joined. -/
namespace Go.Proofs.YtlpieeeeolfclaaGreatDoor
open Go.RowKit Go.Gou Go.Reg
set_option maxRecDepth 100000

theorem min_ite (a b : Int) : (if b < a then b else a) = min a b := by split <;> omega
theorem max_ite (a b : Int) : (if a < b then b else a) = max a b := by split <;> omega

theorem refine_eq_bool {P : Program} {f : FuncId} {args : Array Value} {w : World} {B : Nat} {p q : Bool} (h : p = q) (hc : Calls P f args w fun e w' => e = .returned (.bool (!p)) ∧ Below B w w') :
    Calls P f args w fun e w' => e = .returned (.bool (!q)) ∧ Below B w w' := h ▸ hc

/-- The three boxes of the joining. -/
structure JBox (w w1 : World) (a0 a1 a2 a3 b0 b1 b2 b3 : Int) : Prop where
  A : Blk w1 w.heap.size 32 #[.int .i64 a0, .int .i64 a1, .int .i64 a2, .int .i64 a3]
  B : Blk w1 (w.heap.size + 1) 32 #[.int .i64 b0, .int .i64 b1, .int .i64 b2, .int .i64 b3]
  Z : Blk w1 (w.heap.size + 1 + 1) 32 #[.int .i64 0, .int .i64 0, .int .i64 0, .int .i64 0]
  M : Below w.heap.size w w1

theorem JBox.up {w w1 w2 : World} {a0 a1 a2 a3 b0 b1 b2 b3 : Int} (h : JBox w w1 a0 a1 a2 a3 b0 b1 b2 b3) (hb : Below w1.heap.size w1 w2) : JBox w w2 a0 a1 a2 a3 b0 b1 b2 b3 :=
  ⟨h.A.up hb, h.B.up hb, h.Z.up hb, h.M.trans (hb.mono (by have := h.Z.lt; omega))⟩

set_option maxHeartbeats 4000000 in
theorem rectJoin_any (a b : Rt) (w : World) :
    Calls Tryz.prog 42 #[rtV a, rtV b] w fun e w' => e = .returned (rtV (if a.Some then (if b.Some then ⟨min a.x0 b.x0, min a.y0 b.y0, max a.x1 b.x1, max a.y1 b.y1⟩ else a) else if b.Some then b else Rt.zero)) ∧ Below w.heap.size w w' := by
  obtain ⟨a0, a1, a2, a3⟩ := a
  obtain ⟨b0, b1, b2, b3⟩ := b
  have key : ∀ s t : Bool, decide (Rt.Some ⟨a0, a1, a2, a3⟩) = s → decide (Rt.Some ⟨b0, b1, b2, b3⟩) = t → Calls Tryz.prog 42 #[.agg #[.int .i64 a0, .int .i64 a1, .int .i64 a2, .int .i64 a3], .agg #[.int .i64 b0, .int .i64 b1, .int .i64 b2, .int .i64 b3]] w
      fun e w' => e = .returned (rtV (if s then (if t then ⟨min a0 b0, min a1 b1, max a2 b2, max a3 b3⟩ else ⟨a0, a1, a2, a3⟩) else if t then ⟨b0, b1, b2, b3⟩ else Rt.zero)) ∧ Below w.heap.size w w' := by
    intro s t hs ht
    have HS := Lib.hid hs
    have HT := Lib.hid ht
    clear hs ht
    have EA := Lib.hid (fun (w : World) => refine_eq_bool HS.out (rectEmpty_any ⟨a0, a1, a2, a3⟩ w))
    have EB := Lib.hid (fun (w : World) => refine_eq_bool HT.out (rectEmpty_any ⟨b0, b1, b2, b3⟩ w))
    clear HS HT
    go_enter Tryz.func42, Tryz.ntmps42
    go_wp2_with fail
    refine (EA.out _).mono ?_
    rintro e w1 ⟨rfl, hb⟩
    have J1 : Hid (JBox w w1 a0 a1 a2 a3 b0 b1 b2 b3) := Lib.hid ⟨(three_new w _ _ _ _ _ _).1.up hb, (three_new w _ _ _ _ _ _).2.1.up hb, (three_new w _ _ _ _ _ _).2.2.up hb, (below3 _ _ _ _).trans (hb.mono (by simp; omega))⟩
    clear hb
    cases s with
    | true =>
      obtain ⟨⟨c0, c1, c2, c3⟩, -⟩ := four J1.out.A
      go_wp2_with fail
      refine (EA.out _).mono ?_
      rintro e w2 ⟨rfl, hb⟩
      have J2 := Lib.hid (J1.out.up hb)
      clear hb J1 c0 c1 c2 c3
      obtain ⟨⟨c0, c1, c2, c3⟩, -⟩ := four J2.out.B
      go_wp2_with fail
      refine (EB.out _).mono ?_
      rintro e w3 ⟨rfl, hb⟩
      have J3 := Lib.hid (J2.out.up hb)
      clear hb J2 c0 c1 c2 c3
      obtain ⟨⟨c0, c1, c2, c3⟩, -⟩ := four J3.out.A
      obtain ⟨⟨d0, d1, d2, d3⟩, ⟨f0, f1, f2, f3⟩⟩ := four J3.out.Z
      cases t with
      | true =>
        obtain ⟨⟨k0, k1, k2, k3⟩, -⟩ := four J3.out.B
        go_wp2_with fail
        all_goals refine ret_rect ⟨_, _, _, _⟩ rfl rfl rfl (set4 J3.out.Z J3.out.M (by omega) _ _ _ _).1 Tryz.underlying32 rfl size_rect ⟨ret_val (congrArg rtV ?_), (set4 J3.out.Z J3.out.M (by omega) _ _ _ _).2⟩
        all_goals simp only [Rt.mk.injEq]
        all_goals omega
      | false =>
        go_wp2_with fail
        have h := set4 J3.out.Z J3.out.M (by omega) (.int .i64 a0) (.int .i64 a1) (.int .i64 a2) (.int .i64 a3)
        exact ret_rect ⟨a0, a1, a2, a3⟩ rfl rfl rfl h.1 Tryz.underlying32 rfl size_rect ⟨rfl, h.2⟩
    | false =>
      obtain ⟨⟨c0, c1, c2, c3⟩, -⟩ := four J1.out.B
      go_wp2_with fail
      refine (EB.out _).mono ?_
      rintro e w2 ⟨rfl, hb⟩
      have J2 := Lib.hid (J1.out.up hb)
      clear hb J1 c0 c1 c2 c3
      cases t with
      | true =>
        obtain ⟨⟨c0, c1, c2, c3⟩, -⟩ := four J2.out.A
        go_wp2_with fail
        refine (EA.out _).mono ?_
        rintro e w3 ⟨rfl, hb⟩
        have J3 := Lib.hid (J2.out.up hb)
        clear hb J2 c0 c1 c2 c3
        obtain ⟨⟨c0, c1, c2, c3⟩, -⟩ := four J3.out.B
        obtain ⟨⟨d0, d1, d2, d3⟩, ⟨f0, f1, f2, f3⟩⟩ := four J3.out.Z
        go_wp2_with fail
        have h := set4 J3.out.Z J3.out.M (by omega) (.int .i64 b0) (.int .i64 b1) (.int .i64 b2) (.int .i64 b3)
        exact ret_rect ⟨b0, b1, b2, b3⟩ rfl rfl rfl h.1 Tryz.underlying32 rfl size_rect ⟨rfl, h.2⟩
      | false =>
        obtain ⟨⟨d0, d1, d2, d3⟩, ⟨f0, f1, f2, f3⟩⟩ := four J2.out.Z
        go_wp2_with fail
        have h := set4 J2.out.Z J2.out.M (by omega) (.int .i64 0) (.int .i64 0) (.int .i64 0) (.int .i64 0)
        exact ret_rect ⟨0, 0, 0, 0⟩ rfl rfl rfl h.1 Tryz.underlying32 rfl size_rect ⟨rfl, h.2⟩
  refine (key _ _ rfl rfl).mono ?_
  rintro e w' ⟨rfl, hb⟩
  exact ⟨by simp only [decide_eq_true_eq], hb⟩

end Go.Proofs.YtlpieeeeolfclaaGreatDoor

