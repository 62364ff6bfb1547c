/- Steps of a region that draws its order, each with letters for what it makes: a literal, an append of numbers. -/
import Derived.Test.YtfphlkoneocejaaHeapA
import Derived.Test.YtfphlkoneocejaaGrow
import Derived.Laws.OwnMore
namespace Go.Proofs.Ytfphlkoneocejaa
open Go.RowKit Go.Gou

section
variable {ops : Array Oper} {o : Oper} {a : Act} {w : World} {K : Act → World → Prop} {Q : Exit → Act → World → Prop} {E : Prop}

theorem step_lit0 (hop : o.op = .buildSlice 25 0 #[]) (hgd : o.guard = none) (B : Nat) (hB : B ≤ w.heap.size)
    (h : ∀ g w1, w1.ownsRow B 3 1 (.slice (some ⟨g, 0, none⟩) 0 0) 0 [] → Mod (fun _ => False) w w1 → K (a.put o.dst (.slice (some ⟨g, 0, none⟩) 0 0)) w1) :
    if Region.wanted o (yielded ops a.tmps) = true then Oper.wp Try.prog o a w K Q else E := by
  have hw : Region.wanted o (yielded ops a.tmps) = true := by simp [Region.wanted, hgd]
  rw [if_pos hw]
  have hx := h w.heap.size (w.alloc (.cells #[] 3)) (own_at (cs := #[]) (heap_alloc_new w _) hB (by unfold maxLen; omega) rfl) (Mod.alloc _ _ _)
  unfold Oper.wp execOp
  rw [hop]
  go_simp
  exact hx

theorem step_lit1 {x : Operand} {i vi vp : Value} (hop : o.op = .buildSlice 22 1 #[(0, x)]) (hgd : o.guard = none) (hx : a.eval x = .agg #[i, vi, vp])
    (h : ∀ B w1, w1.heap[B]? = some (.cells #[i, vi, vp] 27 (0, 0)) → Mod (fun _ => False) w w1 → K (a.put o.dst (.slice (some ⟨B, 0, none⟩) 1 1)) w1) :
    if Region.wanted o (yielded ops a.tmps) = true then Oper.wp Try.prog o a w K Q else E := by
  have hw : Region.wanted o (yielded ops a.tmps) = true := by simp [Region.wanted, hgd]
  rw [if_pos hw]
  have hy := h w.heap.size (w.alloc (.cells #[i, vi, vp] 27)) (heap_alloc_new w _) (Mod.alloc _ _ _)
  unfold Oper.wp execOp
  rw [hop]
  generalize a.eval = ρ at *
  go_simp
  exact hy
end

theorem run_none (t ty e : TypeId) (i : TypeInfo) (ht : Try.prog.underlying t = some (.slice e)) (hi : Try.prog.info? e = some i) (w : World) (ad : Addr) (n cap c : Nat) (hnc : n ≤ cap) :
    (Builtin.append_ #[t, t] ty #[.slice (some ad) n cap, .slice none 0 c]).run Try.prog w = .ok (.slice (some ad) n cap) w := by
  simp [Builtin.append_, run_underlying ht, sizeOf, typeInfo, hi, Builtin.lenOf, Builtin.firstCells, hnc, storeCells]

section
variable {ops : Array Oper} {o : Oper} {a : Act} {w : World} {K : Act → World → Prop} {Q : Exit → Act → World → Prop} {E : Prop}

/-- 'append([]int{}, l...)'. -/
theorem step_ints (s x : Operand) (hop : o.op = .call { callee := .builtin .append, args := #[s, x], argTypes := #[25, 25] }) (hgd : o.guard = none)
    (B : Nat) (hB : B ≤ w.heap.size) (g0 : Nat) (hs : a.eval s = .slice (some ⟨g0, 0, none⟩) 0 0) (hown : w.ownsRow B 3 1 (.slice (some ⟨g0, 0, none⟩) 0 0) 0 [])
    (p : Option Addr) (c : Nat) (l : List Int) (B2 : Nat) (hx : a.eval x = .slice p l.length c) (hl : IntsAt B2 w (.slice p l.length c) l) (hn : l.length ≤ 100000)
    (h : ∀ g cap w1, w1.ownsRow B 3 1 (.slice (some ⟨g, 0, none⟩) l.length cap) l.length (iv l) → w.grownBy w1 (some g0) → (g = g0 ∨ g = w.heap.size) → K (a.put o.dst (.slice (some ⟨g, 0, none⟩) l.length cap)) w1) :
    if Region.wanted o (yielded ops a.tmps) = true then Oper.wp Try.prog o a w K Q else E := by
  have hw : Region.wanted o (yielded ops a.tmps) = true := by simp [Region.wanted, hgd]
  rw [if_pos hw]
  obtain ⟨i0, hi0, hz0, hz1, hz2⟩ := info_parts info_int
  have hrun : ∃ g cap w1, (Builtin.append_ #[25, 25] o.type #[.slice (some ⟨g0, 0, none⟩) 0 0, .slice p l.length c]).run Try.prog w = .ok (.slice (some ⟨g, 0, none⟩) l.length cap) w1 ∧
      w1.ownsRow B 3 1 (.slice (some ⟨g, 0, none⟩) l.length cap) l.length (iv l) ∧ w.grownBy w1 (some g0) ∧ (g = g0 ∨ g = w.heap.size) := by
    by_cases h0 : l = []
    · subst h0
      obtain ⟨p', cap', he, hcap, hp⟩ := hl
      cases p with
      | none => exact ⟨g0, 0, w, run_none _ _ _ i0 Try.underlying25 hi0 w _ 0 0 c (Nat.le_refl _), hown, ⟨rfl, rfl, rfl, Nat.le_refl _, fun _ _ _ => rfl⟩, .inl rfl⟩
      | some ad =>
        obtain ⟨v', w', hr, h2, h3, h4, h5⟩ := run_append_own_at (P := Try.prog) w B 25 o.type 3 i0 (.int .i64 0) 1 8 Try.underlying25 hi0 hz0 hz1 hz2 rfl (by omega) _ 0 [] hown ad 0 c [] rfl (fun j u h => by simp at h) (fun u h => by cases h) (by unfold maxLen; omega) (by omega) hB
        rcases h2.2 with ⟨hnil, _⟩ | ⟨g, cap, cur, rfl, _⟩
        · have := (h4.1 hnil).1
          simp at this
        · exact ⟨g, cap, w', hr, h2, h3, by simpa [Value.ownBlock] using h5⟩
    · have hpos : 0 < l.length := List.length_pos_iff.2 h0
      obtain ⟨b, o2, cap2, he, hcap, hb, hc⟩ := ints_cells hl hpos
      simp only [Value.slice.injEq, true_and] at he
      obtain ⟨rfl, rfl⟩ := he
      obtain ⟨g, cap, w', hr, h2, h3, h4, _⟩ := run_append_lies (P := Try.prog) w 25 o.type B 3 i0 (.int .i64 0) 1 8 Try.underlying25 hi0 hz0 hz1 hz2 rfl (by omega) _ 0 [] hown ⟨b, o2, none⟩ l.length c (iv l) (by simp [iv])
        (fun j u hu => by
          have hadd : (⟨b, o2, none⟩ : Addr).add j = ⟨b, o2 + j, none⟩ := by unfold Addr.add; split <;> simp_all
          simp only [iv, List.getElem?_map, Option.map_eq_some_iff] at hu
          obtain ⟨y, hy, rfl⟩ := hu
          obtain ⟨hj, hy2⟩ := List.getElem?_eq_some_iff.1 hy
          rw [hadd, hc j hj]
          simp [List.getD, hy]) (fun u hu => by
          simp only [iv, List.mem_map] at hu
          obtain ⟨y, _, rfl⟩ := hu
          simp [Value.oneCell']) hpos (by unfold maxLen; omega) (by omega) hB _ rfl
      refine ⟨g, cap, w', by simpa using hr, by simpa using h2, h3, ?_⟩
      simp [Value.ownBlock] at h4
      rcases h4 with h4 | h4
      · exact .inl h4.symm
      · exact .inr h4
  obtain ⟨g, cap, w1, hr, h1, h2, h3⟩ := hrun
  unfold Oper.wp execOp
  simp only [hop, resolve, invoke, builtin, Sem.run_bind, Sem.run_pure, Result.andThen_ok, List.map_toArray, List.map_cons, List.map_nil, hs, hx, hr]
  exact h g cap w1 h1 h2 h3
end

end Go.Proofs.Ytfphlkoneocejaa
