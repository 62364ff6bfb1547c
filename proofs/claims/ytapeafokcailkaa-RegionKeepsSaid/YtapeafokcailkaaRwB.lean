/- Rows that grow: 'append' of a row of elements of k cells, whichever. -/
import Derived.Test.YtapeafokcailkaaRwA
import Derived.Test.YtapeafokcailkaaRows
import Derived.Test.YtapeafokcailkaaProg
import Derived.Maps.AppendAt
import Derived.Deep.RegionHeld
import Derived.Great.BuildSlice
import Derived.Laws.Rows
set_option linter.unusedSimpArgs false
set_option linter.unusedVariables false
set_option linter.unusedSectionVars false
set_option linter.constructorNameAsVariable false
namespace Go.Gou
open Go.RowKit Go.Reg

/-- The walk stands still here. -/
theorem halt {p : Prop} (h : Shut p) : p := h

/-- What is to be known of a slice's type. -/
structure RowT (P : Program) (t e : TypeId) (k bytes : Nat) (z : Value) : Prop where
  und : P.underlying t = some (.slice e)
  info : (P.info? e).map (fun i => (i.zero, i.size, i.bytes)) = some (some z, k, bytes)
  zc : z.cells.size = k
  pos : 0 < k

theorem run_append_none {P : Program} (t ty e : TypeId) (i : TypeInfo) (ht : P.underlying t = some (.slice e)) (hi : P.info? e = some i) (w : World) (p : Option Addr) (n cap c : Nat) (hnc : n ≤ cap) :
    (Builtin.append_ #[t, t] ty #[.slice p n cap, .slice none 0 c]).run P w = .ok (.slice p n cap) w := by
  cases p <;> simp [Builtin.append_, run_underlying ht, sizeOf, typeInfo, hi, Builtin.lenOf, Builtin.firstCells, hnc, storeCells]

/-- What a row that has grown is. -/
structure Grown (w : World) (B : Nat) (e : TypeId) (k : Nat) (v : Value) (n : Nat) (cs : List Value) (v' : Value) (w' : World) : Prop where
  own : w'.ownsRow B e k v' n cs
  mod : Mod (fun b => v.ownBlock = some b) w w'
  blk : ∀ g, v'.ownBlock = some g → v.ownBlock = some g ∨ w.heap.size ≤ g

theorem run_append_row {P : Program} {t e : TypeId} {k bytes : Nat} {z : Value} (T : RowT P t e k bytes z) (ty : TypeId) (w : World) (B : Nat) (v : Value) (n : Nat) (cs : List Value) (G : Nat → Prop) (u : Value) (m : Nat) (ds : List Value) (hB : B ≤ w.heap.size) (hown : w.ownsRow B e k v n cs)
    (hy : RowG G w k u m ds) (h1 : ∀ d ∈ ds, d.oneCell' = true) (hn : n + m ≤ maxLen) (hby : (n + m) * bytes ≤ 140737488355328) :
    ∃ v' w', (Builtin.append_ #[t, t] ty #[v, u]).run P w = .ok v' w' ∧ Grown w B e k v (n + m) (cs ++ ds) v' w' := by
  obtain ⟨i0, hi0, hz0, hz1, hz2⟩ := info_parts T.info
  obtain ⟨hyl, p, cap, rfl, hcap, hc⟩ := hy
  cases p with
  | none =>
    have h0 : m = 0 := by
      rcases hc with hc | ⟨b, o, h, _⟩
      · exact hc
      · cases h
    subst h0
    have hds : ds = [] := List.length_eq_zero_iff.1 (by simpa using hyl)
    subst hds
    have hv : ∃ p n c, v = .slice p n c ∧ n ≤ c := by
      rcases hown.2 with ⟨h, _⟩ | ⟨g, c, cur, h, _, _, hn, _⟩
      · exact ⟨none, 0, 0, h, Nat.le_refl _⟩
      · exact ⟨_, _, c, h, hn⟩
    obtain ⟨p, n', c, rfl, hnc⟩ := hv
    exact ⟨_, w, run_append_none _ _ _ i0 T.und hi0 w p n' c cap hnc, by simpa using hown, Mod.refl _ _, fun g hg => .inl hg⟩
  | some ad =>
    obtain ⟨v', w', hr, h2, h3, h4, h5⟩ := run_append_own_at (P := P) w B t ty e i0 z k bytes T.und hi0 hz0 hz1 hz2 T.zc T.pos v n cs hown ad m cap ds hyl
      (fun j u hu => by
        have hj := (List.getElem?_eq_some_iff.1 hu).1
        rcases hc with h0 | ⟨b, o2, e, hb, _, hc⟩
        · subst h0
          omega
        · simp only [Option.some.injEq] at e
          subst e
          have hadd : (⟨b, o2, none⟩ : Addr).add j = ⟨b, o2 + j, none⟩ := by unfold Addr.add; split <;> simp_all
          rw [hadd, hc j u hu]) h1 hn hby hB
    refine ⟨v', w', hr, h2, Mod.of_grown h3, fun g hg => ?_⟩
    rcases h5 with h5 | h5
    · left; rw [← h5]; exact hg
    · right
      rw [h5] at hg
      simp only [Option.some.injEq] at hg
      omega

/-- 'append(xs, ys...)', in a plain region. -/
theorem wpList_append_row {P : Program} {t e : TypeId} {k bytes : Nat} {z : Value} (T : RowT P t e k bytes z) {ops : Array Oper} {rest : List Oper} {o : Oper} {a : Act} {w : World} {Q : Exit → Act → World → Prop} (hgd : o.guard = none) (s x : Operand) (hop : o.op = .call { callee := .builtin .append, args := #[s, x], argTypes := #[t, t] })
    (B : Nat) (v : Value) (n : Nat) (cs : List Value) (G : Nat → Prop) (u : Value) (m : Nat) (ds : List Value) (hs : a.eval s = v) (hx : a.eval x = u) (hB : B ≤ w.heap.size) (hown : w.ownsRow B e k v n cs) (hy : RowG G w k u m ds) (h1 : ∀ d ∈ ds, d.oneCell' = true)
    (hn : n + m ≤ maxLen) (hby : (n + m) * bytes ≤ 140737488355328) (h : ∀ v' w1, Grown w B e k v (n + m) (cs ++ ds) v' w1 → wpList P ops Q rest (a.put o.dst v') w1) : wpList P ops Q (o :: rest) a w := by
  obtain ⟨v', w1, hr, h2⟩ := run_append_row T o.type w B v n cs G u m ds hB hown hy h1 hn hby
  refine wpList_plain hgd fun K hK => ?_
  unfold Oper.wp execOp
  simp only [hop, resolve, invoke, builtin, Sem.run_bind, Sem.run_pure, Result.andThen_ok, List.map_toArray, List.map_cons, List.map_nil, hs, hx, hr]
  exact hK _ _ (h v' w1 h2)

/-- 'append(xs, ys...)', at one operation. -/
theorem wp_append_row {P : Program} {t e : TypeId} {k bytes : Nat} {z : Value} (T : RowT P t e k bytes z) {o : Oper} {a : Act} {w : World} {K : Act → World → Prop} {Q : Exit → Act → World → Prop} (s x : Operand) (hop : o.op = .call { callee := .builtin .append, args := #[s, x], argTypes := #[t, t] })
    (B : Nat) (v : Value) (n : Nat) (cs : List Value) (G : Nat → Prop) (u : Value) (m : Nat) (ds : List Value) (hs : a.eval s = v) (hx : a.eval x = u) (hB : B ≤ w.heap.size) (hown : w.ownsRow B e k v n cs) (hy : RowG G w k u m ds) (h1 : ∀ d ∈ ds, d.oneCell' = true)
    (hn : n + m ≤ maxLen) (hby : (n + m) * bytes ≤ 140737488355328) (h : ∀ v' w1, Grown w B e k v (n + m) (cs ++ ds) v' w1 → K (a.put o.dst v') w1) : o.wp P a w K Q := by
  obtain ⟨v', w1, hr, h2⟩ := run_append_row T o.type w B v n cs G u m ds hB hown hy h1 hn hby
  unfold Oper.wp execOp
  simp only [hop, resolve, invoke, builtin, Sem.run_bind, Sem.run_pure, Result.andThen_ok, List.map_toArray, List.map_cons, List.map_nil, hs, hx, hr]
  exact h v' w1 h2

theorem wpList_buildOne {P : Program} {ops : Array Oper} {rest : List Oper} {o : Oper} {a : Act} {w : World} {Q : Exit → Act → World → Prop} (hg : o.guard = none) (t e : TypeId) (x : Operand) (ho : o.op = .buildSlice t 1 #[(0, x)])
    (cs : Array Value) (hx : a.eval x = .agg cs) (ie : TypeInfo) (z : Value) (hu : P.underlying t = some (.slice e)) (hie : P.info? e = some ie) (hz : ie.zero = some z) (hs : ie.size = cs.size) (hzs : z.cells.size = cs.size) (h0 : 0 < cs.size) (hsm : cs.size ≤ 2 ^ 24)
    (h : wpList P ops Q rest (a.put o.dst (.slice (some ⟨w.heap.size, 0, none⟩) 1 1)) (w.alloc (.cells cs e))) : wpList P ops Q (o :: rest) a w := by
  refine wpList_buildSlice hg t e 1 _ ho cs ie z hu hie hz (by omega) (by omega) ?_ h
  have := Great.fill_whole (s := cs.size) h0 [.agg cs] ((Array.range (1 * cs.size)).map (z.cells[· % z.cells.size]!)) (fun v hv => by
    simp only [List.mem_cons, List.not_mem_nil, or_false] at hv
    subst hv
    rfl) (by simp)
  rw [hs]
  simpa [hx, Value.cells] using this

/-- A row that lies in a block whole. -/
theorem RowG.of_blk {w : World} {b : Nat} {T : TypeId} {cs : Array Value} (h : Blk w b T cs) (k n : Nat) (hn : cs.size = n * k) (G : Nat → Prop) (hG : G b) : RowG G w k (.slice (some ⟨b, 0, none⟩) n n) n cs.toList :=
  ⟨by simpa using hn, _, n, rfl, Nat.le_refl _, .inr ⟨b, 0, rfl, h.lt, hG, fun j u hu => by
    rw [Nat.zero_add]
    exact h.cell j (by rw [← hu, Array.getElem?_toList])⟩⟩

theorem spC_one (s : Sp) : ∀ d ∈ spC s, d.oneCell' = true := by
  intro d hd
  simp [spC] at hd
  rcases hd with rfl | rfl <;> simp [Value.oneCell']
theorem rtC_one (r : Rt) : ∀ d ∈ rtC r, d.oneCell' = true := by
  intro d hd
  simp [rtC] at hd
  rcases hd with rfl | rfl | rfl | rfl <;> simp [Value.oneCell']
theorem ivs_one (xs : List Int) : ∀ d ∈ ivs xs, d.oneCell' = true := by
  intro d hd
  simp [ivs] at hd
  obtain ⟨x, _, rfl⟩ := hd
  simp [Value.oneCell']
theorem rts_one (l : List Rt) : ∀ d ∈ rts l, d.oneCell' = true := by
  intro d hd
  simp only [rts, List.mem_flatMap] at hd
  obtain ⟨r, _, h⟩ := hd
  exact rtC_one r d h
theorem sps_one (l : List Sp) : ∀ d ∈ sps l, d.oneCell' = true := by
  intro d hd
  simp only [sps, List.mem_flatMap] at hd
  obtain ⟨r, _, h⟩ := hd
  exact spC_one r d h

end Go.Gou
namespace Go.Proofs.Ytapeafokcailkaa
open Go.RowKit Go.Gou Go.Reg

theorem T_int : RowT Try.prog 47 3 1 8 (.int .i64 0) := ⟨Try.underlying47, by kernel_rfl, rfl, by omega⟩
theorem T_sp : RowT Try.prog 57 63 2 16 (.agg #[.int .i64 0, .int .i64 0]) := ⟨Try.underlying57, by kernel_rfl, rfl, by omega⟩
theorem T_rt : RowT Try.prog 22 36 4 32 (.agg #[.int .i64 0, .int .i64 0, .int .i64 0, .int .i64 0]) := ⟨Try.underlying22, by kernel_rfl, rfl, by omega⟩
theorem T_reg : RowT Try.prog 27 36 4 32 (.agg #[.int .i64 0, .int .i64 0, .int .i64 0, .int .i64 0]) := ⟨Try.underlying27, by kernel_rfl, rfl, by omega⟩

end Go.Proofs.Ytapeafokcailkaa
