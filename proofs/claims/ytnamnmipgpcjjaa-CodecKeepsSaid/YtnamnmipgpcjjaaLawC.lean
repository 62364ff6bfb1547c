/- Acts as bytes: rows of bytes are appended; acts are overwritten. -/
import Derived.Test.YtnamnmipgpcjjaaLawB
namespace Go.Gou
open Go.RowKit

/-- Only a content has pixels, and it has no filter. -/
theorem actG_alone {a : Ac} {es : List Nat} (h : actG a es) : a.op.look.content.pix = [] ∨ (a.op.look.filt.nodes = [] ∧ a.op.look.back.nodes = []) := by
  obtain ⟨b, _, _, ⟨hb, rfl⟩, h, rfl⟩ := h
  have z : Opr.zero.look.content.pix = [] := rfl
  have zl : Lk.zero.content.pix = [] := rfl
  rcases h with ⟨hr, h⟩ | ⟨_, h⟩
  · rcases h with ⟨rfl, x, e1, _, h1, ⟨y, e2, _, h2, ⟨rfl, rfl⟩, rfl⟩, rfl⟩ | ⟨h12, h⟩
    · exact .inl z
    rcases h with ⟨rfl, c, e1, _, h1, ⟨rfl, rfl⟩, rfl⟩ | ⟨h13, h⟩
    · exact .inl z
    rcases h with ⟨rfl, ⟨rfl, rfl⟩⟩ | ⟨h14, h⟩
    · exact .inl z
    obtain ⟨o, e1, _, h1, ⟨rfl, rfl⟩, rfl⟩ := h
    obtain ⟨i, a, _, hi, ⟨t, e2, _, ht, ⟨at_, e3, _, ha, ⟨l, e4, _, hl, ⟨rfl, rfl⟩, rfl⟩, rfl⟩, rfl⟩, rfl⟩ := h1
    show l.content.pix = [] ∨ (l.filt.nodes = [] ∧ l.back.nodes = [])
    clear hi ht ha
    generalize (b : Int) = k at *
    rcases hl with ⟨rfl, x, e1, _, h1, ⟨y, e2, _, h2, ⟨rfl, rfl⟩, rfl⟩, rfl⟩ | ⟨h5, h⟩
    · exact .inl zl
    rcases h with ⟨rfl, f, e1, _, h1, h, rfl⟩ | ⟨h6, h⟩
    · rcases h with ⟨rfl, b, e2, _, h2, ⟨rfl, rfl⟩, rfl⟩ | ⟨hf, ⟨rfl, rfl⟩⟩ <;> exact .inl zl
    rcases h with ⟨rfl, x, e1, _, h1, ⟨rfl, rfl⟩, rfl⟩ | ⟨h7, h⟩
    · exact .inl zl
    rcases h with ⟨rfl, x, e1, _, h1, ⟨rfl, rfl⟩, rfl⟩ | ⟨h8, h⟩
    · exact .inl zl
    rcases h with ⟨rfl, c, e1, _, h1, ⟨rfl, rfl⟩, rfl⟩ | ⟨h9, h⟩
    · exact .inr ⟨rfl, rfl⟩
    rcases h with ⟨rfl, f, e1, _, h1, h, rfl⟩ | ⟨h10, h⟩
    · rcases h with ⟨rfl, b, e2, _, h2, ⟨rfl, rfl⟩, rfl⟩ | ⟨hf, ⟨rfl, rfl⟩⟩ <;> exact .inl zl
    rcases h with ⟨rfl, f, e1, _, h1, h, rfl⟩ | ⟨h11, h⟩
    · rcases h with ⟨rfl, b, e2, _, h2, ⟨rfl, rfl⟩, rfl⟩ | ⟨hf, ⟨rfl, rfl⟩⟩ <;> exact .inl zl
    obtain ⟨rfl, rfl⟩ := h
    exact .inl zl
  · exact h.elim

theorem setMany_get (cs : Array Value) (o : Nat) (vs : List Value) (h : o + vs.length ≤ cs.size) (j : Nat) : (setMany cs o vs)[j]? = if o ≤ j ∧ j < o + vs.length then vs[j - o]? else cs[j]? := by
  induction vs generalizing cs o with
  | nil =>
    rw [setMany, if_neg (by simp)]
  | cons v r ih =>
    simp only [List.length_cons] at h
    rw [setMany, ih (cs.setIfInBounds o v) (o + 1) (by simp; omega)]
    by_cases h1 : j = o
    · subst h1
      rw [if_neg (by omega), if_pos (by simp)]
      simp [Array.getElem?_setIfInBounds]
      omega
    · by_cases h2 : o + 1 ≤ j ∧ j < o + 1 + r.length
      · rw [if_pos h2, if_pos (by simp; omega)]
        have : j - o = (j - (o + 1)) + 1 := by omega
        rw [this, List.getElem?_cons_succ]
      · rw [if_neg h2, if_neg (by simp; omega), Array.getElem?_setIfInBounds, if_neg (fun h => h1 h.symm)]

theorem pxs_len (ps : List Pxl) : (pxs ps).length = 4 * ps.length := by
  induction ps with
  | nil => rfl
  | cons p r ih => simp only [pxs, List.flatMap_cons, List.length_append] at ih ⊢; rw [ih]; simp [Pxl.cells]; omega
theorem pxs_set_get (ps : List Pxl) (k : Nat) (p : Pxl) (h : k < ps.length) (j : Nat) : (pxs (ps.set k p))[j]? = if k * 4 ≤ j ∧ j < k * 4 + 4 then p.cells[j - k * 4]? else (pxs ps)[j]? := by
  induction ps generalizing k j with
  | nil => simp at h
  | cons q r ih =>
    cases k with
    | zero =>
      simp only [List.set_cons_zero, pxs, List.flatMap_cons, Nat.zero_mul, Nat.zero_le, true_and, Nat.zero_add, Nat.sub_zero]
      by_cases hj : j < 4
      · rw [if_pos hj, List.getElem?_append_left (by simpa [Pxl.cells] using hj)]
      · rw [if_neg hj, List.getElem?_append_right (by simp [Pxl.cells]; omega), List.getElem?_append_right (by simp [Pxl.cells]; omega)]
        rfl
    | succ k =>
      simp only [List.length_cons] at h
      simp only [List.set_cons_succ, pxs, List.flatMap_cons]
      by_cases hj : j < 4
      · rw [if_neg (by omega), List.getElem?_append_left (by simpa [Pxl.cells] using hj), List.getElem?_append_left (by simpa [Pxl.cells] using hj)]
      · have hq : q.cells.length = 4 := rfl
        rw [List.getElem?_append_right (by omega), List.getElem?_append_right (by omega), hq]
        have := ih k (by omega) (j - 4)
        simp only [pxs] at this
        rw [this]
        by_cases hc : k * 4 ≤ j - 4 ∧ j - 4 < k * 4 + 4
        · rw [if_pos hc, if_pos (by omega)]
          congr 1
          omega
        · rw [if_neg hc, if_neg (by omega)]

/-- A pixel of a row is overwritten. -/
theorem PixR.put {G : Nat → Prop} {w : World} {b o n cap : Nat} {ps : List Pxl} (h : PixR G w (.slice (some ⟨b, o, none⟩) n cap) ps) {cur : Array Value} {T : TypeId} (hb : w.heap[b]? = some (.cells cur T (0, 0))) {k : Nat} (hk : k < ps.length) (p : Pxl) :
    o + k * 4 + 4 ≤ cur.size ∧ PixR G (w.setCells b (o + k * 4) p.cells) (.slice (some ⟨b, o, none⟩) n cap) (ps.set k p) := by
  obtain ⟨hl, p', cap', e, hcap, h⟩ := h
  simp only [Value.slice.injEq] at e
  obtain ⟨rfl, rfl, rfl⟩ := e
  rcases h with h | ⟨b', o', e, hlt, hG, hc⟩
  · omega
  · simp only [Option.some.injEq, Addr.mk.injEq] at e
    obtain ⟨rfl, rfl, _⟩ := e
    have hsz : o + k * 4 + 4 ≤ cur.size := by
      have h3 := hc (k * 4 + 3) _ (pxs_get ps k hk).2.2.2
      rw [cell_of_row w b _ cur T (0, 0) hb] at h3
      have := (Array.getElem?_eq_some_iff.1 h3).1
      omega
    refine ⟨hsz, ⟨?_, some ⟨b, o, none⟩, cap, by simp, by simpa using hcap, .inr ⟨b, o, rfl, ?_, hG, fun j u hu => ?_⟩⟩⟩
    · rw [pxs_len, List.length_set]; omega
    · rw [size_setCells]; exact hlt
    · have hb2 := Blk.sets hb (o + k * 4) p.cells
      rw [cell_of_row _ b (o + j) _ T (0, 0) hb2, setMany_get _ _ _ (by simpa [Pxl.cells] using hsz)]
      rw [pxs_set_get ps k p hk j] at hu
      have hpl : p.cells.length = 4 := rfl
      rw [hpl]
      by_cases hj : k * 4 ≤ j ∧ j < k * 4 + 4
      · rw [if_pos hj] at hu
        rw [if_pos (by omega), ← hu]
        congr 1
        omega
      · rw [if_neg hj] at hu
        rw [if_neg (by omega)]
        have := hc j u hu
        rw [cell_of_row w b _ cur T (0, 0) hb] at this
        exact this

/-- What the law turns: the blocks of the acts so far, and what is new. -/
def Touched (lo hi : Nat → Nat) (i h : Nat) (k : Nat) : Prop := (∃ j, j < i ∧ lo j ≤ k ∧ k < hi j) ∨ h ≤ k

end Go.Gou
namespace Go.Proofs.Ytnamnmipgpcjjaa
open Go.RowKit Go.Gou

theorem run_none' (t ty e : TypeId) (i : TypeInfo) (ht : Try.prog.underlying t = some (.slice e)) (hi : Try.prog.info? e = some i) (w : World) (p : Option Addr) (n cap c : Nat) (hnc : n ≤ cap) :
    (Builtin.append_ #[t, t] ty #[.slice p n cap, .slice none 0 c]).run Try.prog w = .ok (.slice p n cap) w := by
  cases p <;> simp [Builtin.append_, run_underlying ht, sizeOf, typeInfo, hi, Builtin.lenOf, Builtin.firstCells, hnc, storeCells]

/-- 'append(xs, ys...)' of bytes. -/
theorem wpList_append_bytes {ops : Array Oper} {rest : List Oper} {o : Oper} {a : Act} {w : World} {Q : Exit → Act → World → Prop} (hgd : o.guard = none) (s x : Operand) (hop : o.op = .call { callee := .builtin .append, args := #[s, x], argTypes := #[44, 44] })
    (B : Nat) (v : Value) (xs ys : List Nat) (G : Nat → Prop) (u : Value) (hs : a.eval s = v) (hx : a.eval x = u) (hB : B ≤ w.heap.size) (hown : w.ownsRow B 5 1 v xs.length (u8s xs)) (hy : BytesAt G w u ys) (hn : xs.length + ys.length ≤ 1000000000)
    (h : ∀ v' w1, w1.ownsRow B 5 1 v' (xs ++ ys).length (u8s (xs ++ ys)) → Gou.Mod (fun k => v.ownBlock = some k) w w1 → (∀ g, v'.ownBlock = some g → v.ownBlock = some g ∨ w.heap.size ≤ g) → wpList Try.prog ops Q rest (a.put o.dst v') w1) :
    wpList Try.prog ops Q (o :: rest) a w := by
  obtain ⟨i0, hi0, hz0, hz1, hz2⟩ := info_parts info_u8
  have hrun : ∃ v' w1, (Builtin.append_ #[44, 44] o.type #[v, u]).run Try.prog w = .ok v' w1 ∧ w1.ownsRow B 5 1 v' (xs ++ ys).length (u8s (xs ++ ys)) ∧ Gou.Mod (fun k => v.ownBlock = some k) w w1 ∧ (∀ g, v'.ownBlock = some g → v.ownBlock = some g ∨ w.heap.size ≤ g) := by
    obtain ⟨p, cap, rfl, hcap, hc⟩ := hy
    cases p with
    | none =>
      have h0 : ys = [] := by
        rcases hc with hc | ⟨b, o, h, _⟩
        · exact hc
        · cases h
      subst h0
      have hv : ∃ p n c, v = .slice p n c ∧ n ≤ c := by
        rcases hown.2 with ⟨h, _⟩ | ⟨g, c, cur, h, _, _, hn, _⟩
        · exact ⟨none, 0, 0, h, Nat.le_refl _⟩
        · exact ⟨_, _, c, h, hn⟩
      obtain ⟨p, n, c, rfl, hnc⟩ := hv
      exact ⟨_, w, run_none' _ _ _ i0 Try.underlying44 hi0 w p n c cap hnc, by simpa using hown, Gou.Mod.refl _ _, fun g hg => .inl hg⟩
    | some ad =>
      obtain ⟨v', w', hr, h2, h3, h4, h5⟩ := run_append_own_at (P := Try.prog) w B 44 o.type 5 i0 (.int .u8 0) 1 1 Try.underlying44 hi0 hz0 hz1 hz2 rfl (by omega) _ xs.length _ hown ad ys.length cap (u8s ys) (by simp)
        (fun j u hu => by
          simp only [List.getElem?_map, Option.map_eq_some_iff] at hu
          obtain ⟨y, hy, rfl⟩ := hu
          obtain ⟨hj, rfl⟩ := List.getElem?_eq_some_iff.1 hy
          rcases hc with rfl | ⟨b, o2, e, hb, _, hc⟩
          · simp at hj
          · simp only [Option.some.injEq] at e
            subst e
            have hadd : (⟨b, o2, none⟩ : Addr).add j = ⟨b, o2 + j, none⟩ := by unfold Addr.add; split <;> simp_all
            rw [hadd, hc j hj]) (fun u hu => by
          simp only [List.mem_map] at hu
          obtain ⟨y, _, rfl⟩ := hu
          simp [Value.oneCell']) (by unfold maxLen; omega) (by omega) hB
      refine ⟨v', w', hr, by rw [List.length_append]; simpa [u8s] using h2, Gou.Mod.of_grown h3, fun g hg => ?_⟩
      rcases h5 with h5 | h5
      · left; rw [← h5]; exact hg
      · right
        rw [h5] at hg
        simp only [Option.some.injEq] at hg
        omega
  obtain ⟨v', w1, hr, h1, h2, h3⟩ := hrun
  refine wpList_plain hgd fun K hK => ?_
  unfold Oper.wp execOp
  simp only [hop, resolve, invoke, builtin, Sem.run_bind, Sem.run_pure, Result.andThen_ok, List.map_toArray, List.map_cons, List.map_nil, hs, hx, hr]
  exact hK _ _ (h v' w1 h1 h2 h3)

/-- A row of pixels is put, and any act: a new row, or nil. -/
theorem put_row (w : World) (p1 p2 p3 : Option Addr) (n1 n2 n3 k1 k2 k3 : Nat) (a : Ac) (h1 : n1 = a.op.look.content.pix.length) (h2 : n2 = a.op.look.filt.nodes.length) (h3 : n3 = a.op.look.back.nodes.length) (hx : LookR (fun _ => True) w a.op.look (.slice p1 n1 k1) (.slice p2 n2 k2) (.slice p3 n3 k3)) (hb : LookBorne a.op.look) (hs : PxSmall a.op.look.content) :
    Calls Try.prog 11 #[.agg (actC a (.slice p1 n1 k1) (.slice p2 n2 k2) (.slice p3 n3 k3))] w fun e w' => ∃ p n c cs q, n ≤ 2000000 ∧ e = .returned (.tuple #[.slice p n c, .int .i64 q]) ∧ w'.ownsRow w.heap.size 5 1 (.slice p n c) n cs ∧ Gou.Mod (fun _ => False) w w' := by
  subst h1 h2 h3
  refine (put_any w p1 p2 p3 k1 k2 k3 a hx hb hs).mono ?_
  rintro e w' ⟨hm, h⟩
  rcases hp : putOf a with _ | bs
  · rw [hp] at h
    subst h
    exact ⟨none, 0, 0, [], 1, by omega, rfl, ⟨rfl, .inl ⟨rfl, rfl⟩⟩, hm⟩
  · rw [hp] at h
    obtain ⟨v, rfl, hown⟩ := h
    obtain ⟨p, c, rfl⟩ := Gou.ownsRow_form hown
    refine ⟨p, _, c, _, 0, ?_, rfl, hown, hm⟩
    obtain ⟨es, he, hp⟩ := Option.bind_eq_some_iff.1 (show (encAct a).bind _ = some bs from hp)
    obtain ⟨_, _, hp⟩ := Option.bind_eq_some_iff.1 hp
    split at hp
    · simp only [Option.some.injEq] at hp
      subst hp
      have := (encAct_fine he hs).1
      omega
    · cases hp

end Go.Proofs.Ytnamnmipgpcjjaa
