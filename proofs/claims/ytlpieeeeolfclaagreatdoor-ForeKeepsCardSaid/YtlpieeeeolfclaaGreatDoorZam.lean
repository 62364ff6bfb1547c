/- Texts of the scenes' proofs, laid together: HeapA, HeapB, HeapC, HeapD. -/
import Derived.Test.YtlpieeeeolfclaaGreatDoorRows
import Derived.Test.YtlpieeeeolfclaaGreatDoorZab
import Derived.Deep.RegionLaw
import Derived.Deep.RegionLawGrows
import Derived.Deep.AppendLies
import Derived.BigRegion
import Derived.RegionTactic
set_option linter.unusedSimpArgs false
set_option linter.unusedVariables false
set_option linter.unusedSectionVars false
set_option linter.constructorNameAsVariable false

/- The heap of places: its methods, each once. Only what stands in it is told, not its order. -/
namespace Go.Proofs.YtlpieeeeolfclaaGreatDoor
open Go.RowKit Go.Gou

abbrev iv (xs : List Int) : List Value := xs.map (.int .i64)

/-- The places' heap behind a pointer: its cell N, and the row that it owns. -/
structure PlAt (w : World) (N base : Nat) (v : Value) (xs : List Int) : Prop where
  cell : Cell1 w N 75 v
  own : w.ownsRow base 3 1 v xs.length (iv xs)
  apart : v.ownBlock ≠ some N

theorem info_int : (Tryz.prog.info? 3).map (fun i => (i.zero, i.size, i.bytes)) = some (some (.int .i64 0), 1, 8) := by kernel_rfl

theorem len_any (p : Option Addr) (n c : Nat) (w : World) (hn : n ≤ maxLen) :
    Calls Tryz.prog 51 #[.slice p n c] w fun e w' => e = .returned (.int .i64 n) ∧ w = w' := by
  unfold maxLen at hn
  go_enter Tryz.func51, Tryz.ntmps51
  go_wp2
  go_ret
  exact ⟨rfl, rfl⟩

theorem less_any (b o n c i j : Nat) (x y : Int) (w : World) (hn : n ≤ maxLen) (hi : i < n) (hj : j < n) (hx : w.cell? ⟨b, o + i, none⟩ = some (.int .i64 x)) (hy : w.cell? ⟨b, o + j, none⟩ = some (.int .i64 y)) :
    Calls Tryz.prog 137 #[.slice (some ⟨b, o, none⟩) n c, .int .i64 i, .int .i64 j] w fun e w' => e = .returned (.bool (decide (x < y))) ∧ ∃ k, w' = w.drewN k := by
  unfold maxLen at hn
  have hi' : (i : Int) < n := by omega
  have hj' : (j : Int) < n := by omega
  have hi0 : (0 : Int) ≤ i := by omega
  have hj0 : (0 : Int) ≤ j := by omega
  go_enter Tryz.func137, Tryz.ntmps137
  go_wp2
  go_quiet (fail)
  go_wp2
  go_ret
  exact ⟨rfl, _, rfl⟩

theorem swap_any (b o n c i j : Nat) (x y : Int) (w : World) (hn : n ≤ maxLen) (hi : i < n) (hj : j < n) (hx : w.cell? ⟨b, o + i, none⟩ = some (.int .i64 x)) (hy : w.cell? ⟨b, o + j, none⟩ = some (.int .i64 y))
    (hf : ∀ k, w.frozen? ⟨b, k, none⟩ = false) :
    Calls Tryz.prog 140 #[.slice (some ⟨b, o, none⟩) n c, .int .i64 i, .int .i64 j] w fun e w' => e = .returned (.tuple #[]) ∧ w'.Alike ((w.setCell ⟨b, o + i, none⟩ (.int .i64 y)).setCell ⟨b, o + j, none⟩ (.int .i64 x)) ∧ w'.tape = w.tape := by
  unfold maxLen at hn
  have hi' : (i : Int) < n := by omega
  have hj' : (j : Int) < n := by omega
  have hi0 : (0 : Int) ≤ i := by omega
  have hj0 : (0 : Int) ≤ j := by omega
  obtain ⟨v', hy'⟩ := cell?_setCell_some (w := w) (p := ⟨b, o + i, none⟩) (x := .int .i64 y) (q := ⟨b, o + j, none⟩) (v := .int .i64 y) (by go_simp)
  go_enter Tryz.func140, Tryz.ntmps140
  go_region
  all_goals (go_end0; exact ⟨rfl, ⟨rfl, rfl, rfl⟩, rfl⟩)


/-! Calls by the heap's interface: the dynamic type is a pointer to places. -/
theorem nil_len (F : Nat) (a : Addr) (w : World) : (nilAhead (F + 1) 74 (.pointer (some a)) "Len").run Tryz.prog w = .ok (some false) w := by kernel_rfl
theorem nil_less (F : Nat) (a : Addr) (w : World) : (nilAhead (F + 1) 74 (.pointer (some a)) "Less").run Tryz.prog w = .ok (some false) w := by kernel_rfl
theorem nil_swap (F : Nat) (a : Addr) (w : World) : (nilAhead (F + 1) 74 (.pointer (some a)) "Swap").run Tryz.prog w = .ok (some false) w := by kernel_rfl
theorem nil_push (F : Nat) (a : Addr) (w : World) : (nilAhead (F + 1) 74 (.pointer (some a)) "Push").run Tryz.prog w = .ok (some false) w := by kernel_rfl
theorem nil_pop (F : Nat) (a : Addr) (w : World) : (nilAhead (F + 1) 74 (.pointer (some a)) "Pop").run Tryz.prog w = .ok (some false) w := by kernel_rfl
theorem meth_push (F : Nat) (a : Addr) (w : World) : (method (F + 1) 74 (.pointer (some a)) "Push").run Tryz.prog w = .ok (139, .pointer (some a)) w := by kernel_rfl
theorem meth_pop (F : Nat) (a : Addr) (w : World) : (method (F + 1) 74 (.pointer (some a)) "Pop").run Tryz.prog w = .ok (138, .pointer (some a)) w := by kernel_rfl
theorem meth_len0 (F : Nat) (a : Addr) (w : World) : (method (F + 1) 74 (.pointer (some a)) "Len").run Tryz.prog w = ((loadVar 75 a).bind fun v => pure (51, v)).run Tryz.prog w := by kernel_rfl
theorem meth_less0 (F : Nat) (a : Addr) (w : World) : (method (F + 1) 74 (.pointer (some a)) "Less").run Tryz.prog w = ((loadVar 75 a).bind fun v => pure (137, v)).run Tryz.prog w := by kernel_rfl
theorem meth_swap0 (F : Nat) (a : Addr) (w : World) : (method (F + 1) 74 (.pointer (some a)) "Swap").run Tryz.prog w = ((loadVar 75 a).bind fun v => pure (140, v)).run Tryz.prog w := by kernel_rfl
theorem load_places (N : Nat) (v : Value) (w : World) (f : FuncId) (h : w.cell? ⟨N, 0, none⟩ = some v) : ((loadVar 75 ⟨N, 0, none⟩).bind fun v => pure (f, v)).run Tryz.prog w = .ok (f, v) w := by
  have e : ((loadVar 75 ⟨N, 0, none⟩).bind fun v => pure (f, v)).run Tryz.prog w = ((Sem.load .plain ⟨N, 0, none⟩ fun v => .pure v).bind fun v => pure (f, v)).run Tryz.prog w := by kernel_rfl
  rw [e]
  simp [Sem.bind, Sem.run, h, pure]
theorem meth_len {N : Nat} {v : Value} {w : World} (h : w.cell? ⟨N, 0, none⟩ = some v) (F : Nat) : (method (F + 1) 74 (.pointer (some ⟨N, 0, none⟩)) "Len").run Tryz.prog w = .ok (51, v) w := by rw [meth_len0, load_places _ _ _ _ h]
theorem meth_less {N : Nat} {v : Value} {w : World} (h : w.cell? ⟨N, 0, none⟩ = some v) (F : Nat) : (method (F + 1) 74 (.pointer (some ⟨N, 0, none⟩)) "Less").run Tryz.prog w = .ok (137, v) w := by rw [meth_less0, load_places _ _ _ _ h]
theorem meth_swap {N : Nat} {v : Value} {w : World} (h : w.cell? ⟨N, 0, none⟩ = some v) (F : Nat) : (method (F + 1) 74 (.pointer (some ⟨N, 0, none⟩)) "Swap").run Tryz.prog w = .ok (140, v) w := by rw [meth_swap0, load_places _ _ _ _ h]

/-- What a call on the heap may have turned: its cell, and its row. -/
def Own2 (N : Nat) (v : Value) : Nat → Prop := fun k => k = N ∨ v.ownBlock = some k

/-- The new row lies where the old one lay, or in a new block. -/
def Lies (w : World) (v v' : Value) : Prop := v'.ownBlock = v.ownBlock ∨ ∃ g, v'.ownBlock = some g ∧ w.heap.size ≤ g

theorem assert_int (x : Int) (w : World) : (Instr.typeAssert (.iface 3 (.int .i64 x)) 20 3 false).run Tryz.prog w = .ok (.int .i64 x) w := by kernel_rfl

def PushPost (w : World) (N base : Nat) (v : Value) (ys : List Int) (e : Ending) (w' : World) : Prop :=
  ∃ v', e = .returned (.tuple #[]) ∧ PlAt w' N base v' ys ∧ Mod (Own2 N v) w w' ∧ Lies w v v'

theorem push_post {w w1 : World} {N base g cap : Nat} {v : Value} {xs : List Int} {x : Int} (h : PlAt w N base v xs) (o : Obj)
    (hown1 : w1.ownsRow base 3 1 (.slice (some ⟨g, 0, none⟩) (xs.length + 1) cap) (xs.length + 1) (iv xs ++ [.int .i64 x])) (hgrow : (w.alloc o).drew.grownBy w1 v.ownBlock)
    (hat : v.ownBlock = some g ∨ g = w.heap.size + 1) : PushPost w N base v (xs ++ [x]) (.returned (.tuple #[])) (w1.setCell ⟨N, 0, none⟩ (.slice (some ⟨g, 0, none⟩) (xs.length + 1) cap)) := by
  have hN := h.cell.lt
  have hg : g ≠ N := by
    rcases hat with hat | rfl
    · intro e
      exact h.apart (e ▸ hat)
    · omega
  have m1 : Mod (Own2 N v) w w1 := by
    refine ((Mod.alloc _ w o).trans (Mod.drew (fun _ => False) _) (fun _ _ h => h.elim)).trans (Mod.of_grown hgrow) fun i _ hi => .inr hi
  have c1 : Cell1 w1 N 75 v := by
    exact ((h.cell.mod (Mod.alloc (fun _ => False) w o) (fun h => h)).mod (Mod.drew (fun _ => False) _) (fun h => h)).mod (Mod.of_grown hgrow) fun e => h.apart e
  refine ⟨_, rfl, ⟨c1.set _, ?_, ?_⟩, m1.trans (Mod.setCell _ _ _) fun i _ hi => .inl hi, ?_⟩
  · have := ownsRow_mod hown1 (Mod.setCell w1 ⟨N, 0, none⟩ (.slice (some ⟨g, 0, none⟩) (xs.length + 1) cap)) (fun k hk => by
      simp [Value.ownBlock] at hk
      subst hk
      exact hg)
    simpa [iv] using this
  · simp [Value.ownBlock]
    exact hg
  · rcases hat with hat | rfl
    · exact .inl (by rw [hat]; rfl)
    · exact .inr ⟨w.heap.size + 1, rfl, by omega⟩

set_option maxHeartbeats 1000000 in
theorem push_any (w : World) (N base : Nat) (v : Value) (xs : List Int) (x : Int) (h : PlAt w N base v xs) (hn : xs.length ≤ 100000) (hbase : base ≤ w.heap.size) :
    Calls Tryz.prog 139 #[.pointer (some ⟨N, 0, none⟩), .iface 3 (.int .i64 x)] w (PushPost w N base v (xs ++ [x])) := by
  obtain ⟨i0, hi0, hz0, hz1, hz2⟩ := info_parts info_int
  have hc := h.cell.cell
  have hN := h.cell.lt
  have hP := fun (w1 : World) (g cap : Nat) (o : Obj) => push_post (w1 := w1) (g := g) (cap := cap) (x := x) h o
  have HP := Lib.hid hP
  clear hP
  have hh := Lib.hid h
  have hown := h.own
  have hap := Lib.hid h.apart
  clear h
  go_enter Tryz.func139, Tryz.ntmps139
  have hfz := hh.out.cell.frozen
  have has := assert_int
  have hst := fun (w1 : World) (o : Obj) (hgrow : (w.alloc o).drew.grownBy w1 v.ownBlock) => And.intro (hgrow.cell (a := ⟨N, 0, none⟩) (v := v) (by go_simp) (fun e => hap.out e.symm)) ((hgrow.frozen_far ⟨N, 0, none⟩ (by simp only [World.size_drew, World.size_alloc]; omega) (fun e => hap.out e.symm)).trans (by rw [World.frozen?_drew, World.frozen?_alloc_old (h := Nat.ne_of_lt hN)]))
  have Hst := Lib.hid hst
  clear hst
  go_region_law
    ((refine step_append_lies _ (by rfl) _ _ _ (by rfl) base 3 i0 _ 1 8 Tryz.underlying75 hi0 hz0 hz1 hz2 rfl (by omega) v xs.length (iv xs) (by rfl) ((hown.alloc _).drew)
        ⟨w.heap.size, 0, none⟩ 1 1 [.int .i64 x] (by rfl) (by rfl) (World.news_of_block (cs := #[.int .i64 x]) (t := 3) (fr := (0, 0)) (heap_alloc_new w _)) (by simp [Value.oneCell'])
        (by omega) (by unfold maxLen; omega) (by omega) (by simp; omega) (w.heap.size + 1) (by simp) ?_; intro g cap w1 hown1 hgrow hat hlt; obtain ⟨hc1, hf1⟩ := Hst.out _ _ hgrow))
  all_goals
    go_end0
    exact HP.out _ _ _ _ hown1 hgrow hat

end Go.Proofs.YtlpieeeeolfclaaGreatDoor

/- The heap of places: up, down, Push and Pop. -/
namespace Go.Proofs.YtlpieeeeolfclaaGreatDoor
open Go.RowKit Go.Gou

/-- Behind a swap: the same row, two of its numbers in each other's place. -/
theorem swap_perm (xs : List Int) (i j : Nat) (hi : i < xs.length) (hj : j < xs.length) : ((xs.set i (xs.getD j 0)).set j (xs.getD i 0)).Perm xs := by
  have ei : xs.getD i 0 = xs[i] := by simp [List.getD, hi]
  have ej : xs.getD j 0 = xs[j] := by simp [List.getD, hj]
  rw [ei, ej]
  rw [List.perm_iff_count]
  intro a
  rw [List.count_set (by simpa using hj), List.count_set hi]
  by_cases e : i = j
  · subst e
    simp
    have : xs[i] = a → 0 < xs.count a := fun h => List.count_pos_iff.2 (h ▸ List.getElem_mem hi)
    split <;> simp_all <;> omega
  · rw [List.getElem_set_ne e]
    have h1 : xs[i] = a → 0 < xs.count a := fun h => List.count_pos_iff.2 (h ▸ List.getElem_mem hi)
    have h2 : xs[j] = a → 0 < xs.count a := fun h => List.count_pos_iff.2 (h ▸ List.getElem_mem hj)
    by_cases ha : xs[i] = a <;> by_cases hb : xs[j] = a <;> simp [ha, hb] <;> first | (have := h1 ha; omega) | (have := h2 hb; omega) | omega

def UpPost (w : World) (N base : Nat) (v : Value) (xs : List Int) (w' : World) : Prop :=
  ∃ ys : List Int, ys.Perm xs ∧ PlAt w' N base v ys ∧ Mod (fun k => v.ownBlock = some k) w w'

theorem iv_set (xs : List Int) (i : Nat) (x : Int) : iv (xs.set i x) = (iv xs).set i (.int .i64 x) := by simp [iv, List.map_set]

theorem pl_swap {w w' : World} {N base g cap : Nat} {xs : List Int} (h : PlAt w N base (.slice (some ⟨g, 0, none⟩) xs.length cap) xs) (i j : Nat) (hi : i < xs.length) (hj : j < xs.length)
    (ha : w'.Alike ((w.setCell ⟨g, i, none⟩ (.int .i64 (xs.getD j 0))).setCell ⟨g, j, none⟩ (.int .i64 (xs.getD i 0)))) (ht : w'.tape = w.tape) :
    UpPost w N base (.slice (some ⟨g, 0, none⟩) xs.length cap) xs w' := by
  have hg : g ≠ N := fun e => h.apart (by rw [e]; rfl)
  obtain ⟨s1, _⟩ := h.own.stored i (.int .i64 (xs.getD j 0))
  obtain ⟨s2, _⟩ := s1.stored j (.int .i64 (xs.getD i 0))
  have hm : Mod (fun k => (Value.slice (some ⟨g, 0, none⟩) xs.length cap).ownBlock = some k) w ((w.setCell ⟨g, i, none⟩ (.int .i64 (xs.getD j 0))).setCell ⟨g, j, none⟩ (.int .i64 (xs.getD i 0))) :=
    ((Mod.setCell w ⟨g, i, none⟩ _).imp (fun k _ hk => by subst hk; rfl)).trans (Mod.setCell _ _ _) (fun k _ hk => by subst hk; rfl)
  have hal : Mod (fun _ => False) ((w.setCell ⟨g, i, none⟩ (.int .i64 (xs.getD j 0))).setCell ⟨g, j, none⟩ (.int .i64 (xs.getD i 0))) w' := by
    exact Mod.of_alike ha ht
  refine ⟨_, swap_perm xs i j hi hj, ⟨?_, ?_, h.apart⟩, hm.trans hal fun _ _ h => h.elim⟩
  · exact (h.cell.mod hm (fun e => h.apart e)).mod hal (fun h => h)
  · have := ownsRow_mod s2 hal (fun _ _ h => h)
    simpa [iv_set] using this

theorem PlAt.drewN {w : World} {N base : Nat} {v : Value} {xs : List Int} (h : PlAt w N base v xs) (k : Nat) : PlAt (w.drewN k) N base v xs :=
  ⟨h.cell.mod (Mod.drewN (fun _ => False) w k) (fun h => h), ownsRow_mod h.own (Mod.drewN (fun _ => False) w k) (fun _ _ h => h), h.apart⟩

theorem UpPost.trans {w w1 w2 : World} {N base : Nat} {v : Value} {xs ys : List Int} (h1 : UpPost w N base v xs w1) (h2 : UpPost w1 N base v ys w2) (hp : ys.Perm xs) : UpPost w N base v xs w2 := by
  obtain ⟨_, _, _, hm1⟩ := h1
  obtain ⟨zs, hp2, hpl2, hm2⟩ := h2
  exact ⟨zs, hp2.trans hp, hpl2, hm1.trans' hm2⟩

theorem UpPost.drewN {w w' : World} {N base : Nat} {v : Value} {xs : List Int} (h : UpPost w N base v xs w') (k : Nat) : UpPost w N base v xs (w'.drewN k) := by
  obtain ⟨ys, hp, hpl, hm⟩ := h
  exact ⟨ys, hp, hpl.drewN k, hm.trans (Mod.drewN (fun _ => False) w' k) fun _ _ h => h.elim⟩

set_option maxHeartbeats 1000000 in
theorem up_any (w : World) (N base : Nat) (v : Value) (xs : List Int) (j : Nat) (h : PlAt w N base v xs) (hj : j < xs.length) (hn : xs.length ≤ 100000) :
    Calls Tryz.prog 66 #[.iface 74 (.pointer (some ⟨N, 0, none⟩)), .int .i64 j] w fun e w' => e = .returned (.tuple #[]) ∧ UpPost w N base v xs w' := by
  have hn0 : 0 < xs.length := by omega
  obtain ⟨g, cap, rfl, hbg, hgw⟩ := h.own.form hn0
  have hh := Lib.hid h
  clear h
  go_enter Tryz.func66, Tryz.ntmps66
  go_wp2
  go_loopw [1] (fun jv wr => ∃ j' : Nat, jv = .int .i64 j' ∧ j' < xs.length ∧ UpPost w N base (.slice (some ⟨g, 0, none⟩) xs.length cap) xs wr) (fun jv _ => (intOf jv).toNat)
  case atStart => exact ⟨j, rfl, hj, xs, List.Perm.refl _, hh.out, Mod.refl _ _⟩
  case round =>
    obtain ⟨j', rfl, hj', ys, hp, hpl, hmod⟩ := hrel
    have hlen : ys.length = xs.length := hp.length_eq
    have Hpl := Lib.hid hpl
    have hc := hpl.cell.cell
    have hmet := meth_less hc
    have hmes := fun (k F : Nat) => meth_swap (w := wr.drewN k) (N := N) (v := .slice (some ⟨g, 0, none⟩) xs.length cap) hc F
    have hnl := nil_less
    have hns := nil_swap
    clear hpl
    have hup : UpPost w N base (.slice (some ⟨g, 0, none⟩) xs.length cap) xs wr := ⟨ys, hp, Hpl.out, hmod⟩
    have Hup := Lib.hid hup
    clear hup
    by_cases h0 : j' = 0
    · subst h0
      go_wp2_with fail
      go_end0
      exact ⟨rfl, Hup.out⟩
    · obtain ⟨i, hi, hij⟩ : ∃ i : Nat, ((j' : Int) - 1) / 2 = i ∧ i < j' := ⟨(j' - 1) / 2, by omega, by omega⟩
      have hne : ((i : Int) == (j' : Int)) = false := by simp; omega
      have hown : wr.ownsRow base 3 1 (.slice (some ⟨g, 0, none⟩) xs.length cap) xs.length (iv ys) := by have := Hpl.out.own; rwa [hlen] at this
      have ci := hown.cellAt i (by omega)
      have cj := hown.cellAt j' (by omega)
      have ei : (iv ys)[i]? = some (.int .i64 (ys.getD i 0)) := by simp [iv, List.getD, show i < ys.length by omega]
      have ej : (iv ys)[j']? = some (.int .i64 (ys.getD j' 0)) := by simp [iv, List.getD, show j' < ys.length by omega]
      rw [ei] at ci
      rw [ej] at cj
      clear ei ej
      have hsw := fun (k : Nat) (w' : World) (ha : w'.Alike (((wr.drewN k).setCell ⟨g, i, none⟩ (.int .i64 (ys.getD j' 0))).setCell ⟨g, j', none⟩ (.int .i64 (ys.getD i 0)))) (ht : w'.tape = (wr.drewN k).tape) =>
        pl_swap (w := wr.drewN k) (xs := ys) (g := g) (cap := cap) (by rw [hlen]; exact Hpl.out.drewN k) i j' (by omega) (by omega) ha ht
      have Hsw := Lib.hid hsw
      clear hsw
      generalize ys.getD i 0 = x at *
      generalize ys.getD j' 0 = y at *
      have hmax : xs.length ≤ maxLen := by unfold maxLen; omega
      have hfr : ∀ k, wr.frozen? ⟨g, k, none⟩ = false := fun k => hown.frozenAt k
      cases hlt : decide (y < x) with
      | false =>
        go_wp2_with fail
        refine (less_any g 0 xs.length cap j' i y x wr hmax (by omega) (by omega) (by rw [Nat.zero_add]; exact cj) (by rw [Nat.zero_add]; exact ci)).mono ?_
        rintro e w1 ⟨rfl, k, rfl⟩
        rw [hlt]
        go_wp2_with fail
        go_end0
        exact ⟨rfl, Hup.out.drewN k⟩
      | true =>
        go_wp2_with fail
        refine (less_any g 0 xs.length cap j' i y x wr hmax (by omega) (by omega) (by rw [Nat.zero_add]; exact cj) (by rw [Nat.zero_add]; exact ci)).mono ?_
        rintro e w1 ⟨rfl, k, rfl⟩
        rw [hlt]
        go_wp2_with fail
        refine (swap_any g 0 xs.length cap i j' x y (wr.drewN k) hmax (by omega) (by omega) (by rw [Nat.zero_add]; exact ci) (by rw [Nat.zero_add]; exact cj) hfr).mono ?_
        rintro e w2 ⟨rfl, ha, ht⟩
        simp only [Nat.zero_add] at ha
        have h2 := Hsw.out _ _ ha ht
        go_wp2_with fail
        go_roundw
        case rel => exact ⟨i, rfl, by omega, UpPost.trans (Hup.out.drewN k) (by rw [hlen] at h2; exact h2) hp⟩
        case measure => simp [intOf]; omega

end Go.Proofs.YtlpieeeeolfclaaGreatDoor

/- The heap of places: down, Push and Pop (written by gen_heapc.py). -/
namespace Go.Proofs.YtlpieeeeolfclaaGreatDoor
open Go.RowKit Go.Gou

theorem drewN_drewN (w : World) (a b : Nat) : (w.drewN a).drewN b = w.drewN (a + b) := by
  simp [World.drewN, Nat.add_assoc]

def DownPost (w : World) (N base : Nat) (v : Value) (xs : List Int) (e : Ending) (w' : World) : Prop := ∃ b : Bool, e = .returned (.bool b) ∧ UpPost w N base v xs w'

theorem pl_swap' {w w' : World} {N base g cap n : Nat} {xs ys : List Int} (hlen : ys.length = xs.length) (h : PlAt w N base (.slice (some ⟨g, 0, none⟩) xs.length cap) ys) (k i j : Nat) (hi : i < ys.length) (hj : j < ys.length)
    (ha : w'.Alike (((w.drewN k).setCell ⟨g, i, none⟩ (.int .i64 (ys.getD j 0))).setCell ⟨g, j, none⟩ (.int .i64 (ys.getD i 0)))) (ht : w'.tape = (w.drewN k).tape) :
    UpPost (w.drewN k) N base (.slice (some ⟨g, 0, none⟩) ys.length cap) ys w' :=
  pl_swap (w := w.drewN k) (xs := ys) (g := g) (cap := cap) (by rw [hlen]; exact h.drewN k) i j hi hj ha ht

set_option maxHeartbeats 2000000 in
theorem down_any (w : World) (N base : Nat) (v : Value) (xs : List Int) (n : Nat) (h : PlAt w N base v xs) (hnx : n ≤ xs.length) (hx0 : 0 < xs.length) (hn : xs.length ≤ 100000) :
    Calls Tryz.prog 67 #[.iface 74 (.pointer (some ⟨N, 0, none⟩)), .int .i64 0, .int .i64 n] w (DownPost w N base v xs) := by
  obtain ⟨g, cap, rfl, hbg, hgw⟩ := h.own.form hx0
  have hh := Lib.hid h
  clear h
  go_enter Tryz.func67, Tryz.ntmps67
  go_wp2
  go_loopw [7] (fun iv wr => ∃ i : Nat, iv = .int .i64 i ∧ i < xs.length ∧ UpPost w N base (.slice (some ⟨g, 0, none⟩) xs.length cap) xs wr) (fun iv _ => xs.length - (intOf iv).toNat)
  case atStart => exact ⟨0, rfl, hx0, xs, List.Perm.refl _, hh.out, Mod.refl _ _⟩
  case round =>
    obtain ⟨i, rfl, hix, ys, hp, hpl, hmod⟩ := hrel
    have hlen : ys.length = xs.length := hp.length_eq
    have Hpl := Lib.hid hpl
    have hc := hpl.cell.cell
    have hmet := fun (F : Nat) => meth_less (w := wr) (N := N) (v := .slice (some ⟨g, 0, none⟩) xs.length cap) hc F
    have hmetk := fun (k F : Nat) => meth_less (w := wr.drewN k) (N := N) (v := .slice (some ⟨g, 0, none⟩) xs.length cap) hc F
    have hmes := fun (k F : Nat) => meth_swap (w := wr.drewN k) (N := N) (v := .slice (some ⟨g, 0, none⟩) xs.length cap) hc F
    have hnl := nil_less
    have hns := nil_swap
    clear hpl
    have hup : UpPost w N base (.slice (some ⟨g, 0, none⟩) xs.length cap) xs wr := ⟨ys, hp, Hpl.out, hmod⟩
    have Hup := Lib.hid hup
    clear hup
    by_cases hb : n ≤ 2 * i + 1
    · go_wp2_with fail
      go_ret
      exact ⟨_, rfl, Hup.out⟩
    · have hj1 : 2 * i + 1 < n := by omega
      clear hb
      have hown : wr.ownsRow base 3 1 (.slice (some ⟨g, 0, none⟩) xs.length cap) xs.length (iv ys) := by have := Hpl.out.own; rwa [hlen] at this
      have ci := hown.cellAt i (by omega)
      have c1 := hown.cellAt (2 * i + 1) (by omega)
      have ei : (iv ys)[i]? = some (.int .i64 (ys.getD i 0)) := by simp [iv, List.getD, show i < ys.length by omega]
      have e1 : (iv ys)[2 * i + 1]? = some (.int .i64 (ys.getD (2 * i + 1) 0)) := by simp [iv, List.getD, show 2 * i + 1 < ys.length by omega]
      rw [ei] at ci
      rw [e1] at c1
      clear ei e1
      have hsw1 := fun (k : Nat) (w' : World) ha ht => pl_swap' (w := wr) (w' := w') (n := n) hlen Hpl.out k i (2 * i + 1) (by omega) (by omega) ha ht
      have Hsw1 := Lib.hid hsw1
      clear hsw1
      have hmax : xs.length ≤ maxLen := by unfold maxLen; omega
      have hfr : ∀ k, wr.frozen? ⟨g, k, none⟩ = false := fun k => hown.frozenAt k
      obtain ⟨j1, hj1e⟩ : ∃ j1 : Nat, j1 = 2 * i + 1 := ⟨_, rfl⟩
      have hji : (2 * (i : Int) + 1) = (j1 : Int) := by omega
      have hjn : ¬ ((n : Int) ≤ (j1 : Int)) := by omega
      have hjp : ¬ ((j1 : Int) < 0) := by omega
      have hjb : i < j1 ∧ j1 < n := by omega
      obtain ⟨j2, hj2e, hj2b⟩ : ∃ j2 : Nat, ((j1 : Int) + 1) = j2 ∧ j2 = j1 + 1 := ⟨j1 + 1, by omega, rfl⟩
      rw [← hj1e] at c1 Hsw1
      have Hj1e := Lib.hid hj1e
      clear hj1e hj1
      obtain ⟨hb1, hb2⟩ := hjb
      by_cases h2 : j2 < n
      · have c2 := hown.cellAt j2 (by omega)
        have e2 : (iv ys)[j2]? = some (.int .i64 (ys.getD j2 0)) := by simp [iv, List.getD, show j2 < ys.length by omega]
        rw [e2] at c2
        clear e2
        have hsw2 := fun (k : Nat) (w' : World) ha ht => pl_swap' (w := wr) (w' := w') (n := n) hlen Hpl.out k i j2 (by omega) (by omega) ha ht
        have Hsw2 := Lib.hid hsw2
        clear hsw2
        have hb3 : i < j2 := by omega
        have Hj2b := Lib.hid hj2b
        clear hj2b
        generalize ys.getD i 0 = x at *
        generalize ys.getD j1 0 = y at *
        generalize ys.getD j2 0 = z at *
        cases hlt : decide (z < y) with
        | true =>
          go_wp2_with fail
          refine (less_any g 0 xs.length cap j2 j1 z y wr hmax (by omega) (by omega) (by rw [Nat.zero_add]; exact c2) (by rw [Nat.zero_add]; exact c1)).mono ?_
          rintro e w1 ⟨rfl, k1, rfl⟩
          rw [hlt]
          clear hlt
          have hjl : j2 < n := by omega
          have hij : i < j2 := by omega
          cases hlt2 : decide (z < x) with
          | false =>
            go_wp2_with fail
            refine (less_any g 0 xs.length cap j2 i z x (wr.drewN k1) hmax (by omega) (by omega) (by rw [Nat.zero_add]; exact c2) (by rw [Nat.zero_add]; exact ci)).mono ?_
            rintro e w1 ⟨rfl, k2, rfl⟩
            rw [hlt2]
            try rw [drewN_drewN]
            go_wp2_with fail
            go_ret
            exact ⟨_, rfl, (Hup.out.drewN (k1 + k2))⟩
          | true =>
            go_wp2_with fail
            refine (less_any g 0 xs.length cap j2 i z x (wr.drewN k1) hmax (by omega) (by omega) (by rw [Nat.zero_add]; exact c2) (by rw [Nat.zero_add]; exact ci)).mono ?_
            rintro e w1 ⟨rfl, k2, rfl⟩
            rw [hlt2]
            try rw [drewN_drewN]
            go_wp2_with fail
            refine (swap_any g 0 xs.length cap i j2 x z (wr.drewN (k1 + k2)) hmax (by omega) (by omega) (by rw [Nat.zero_add]; exact ci) (by rw [Nat.zero_add]; exact c2) hfr).mono ?_
            rintro e w2 ⟨rfl, ha, ht⟩
            simp only [Nat.zero_add] at ha
            have h2 := Hsw2.out _ _ ha ht
            go_wp2_with fail
            go_roundw
            case rel => exact ⟨j2, by first | rfl | (congr 1; omega) | (push_cast; rfl), by omega, UpPost.trans ((Hup.out.drewN (k1 + k2))) (by rw [hlen] at h2; exact h2) hp⟩
            case measure => simp [intOf]; omega
        | false =>
          go_wp2_with fail
          refine (less_any g 0 xs.length cap j2 j1 z y wr hmax (by omega) (by omega) (by rw [Nat.zero_add]; exact c2) (by rw [Nat.zero_add]; exact c1)).mono ?_
          rintro e w1 ⟨rfl, k1, rfl⟩
          rw [hlt]
          clear hlt
          have hjl : j1 < n := by omega
          have hij : i < j1 := by omega
          cases hlt2 : decide (y < x) with
          | false =>
            go_wp2_with fail
            refine (less_any g 0 xs.length cap j1 i y x (wr.drewN k1) hmax (by omega) (by omega) (by rw [Nat.zero_add]; exact c1) (by rw [Nat.zero_add]; exact ci)).mono ?_
            rintro e w1 ⟨rfl, k2, rfl⟩
            rw [hlt2]
            try rw [drewN_drewN]
            go_wp2_with fail
            go_ret
            exact ⟨_, rfl, (Hup.out.drewN (k1 + k2))⟩
          | true =>
            go_wp2_with fail
            refine (less_any g 0 xs.length cap j1 i y x (wr.drewN k1) hmax (by omega) (by omega) (by rw [Nat.zero_add]; exact c1) (by rw [Nat.zero_add]; exact ci)).mono ?_
            rintro e w1 ⟨rfl, k2, rfl⟩
            rw [hlt2]
            try rw [drewN_drewN]
            go_wp2_with fail
            refine (swap_any g 0 xs.length cap i j1 x y (wr.drewN (k1 + k2)) hmax (by omega) (by omega) (by rw [Nat.zero_add]; exact ci) (by rw [Nat.zero_add]; exact c1) hfr).mono ?_
            rintro e w2 ⟨rfl, ha, ht⟩
            simp only [Nat.zero_add] at ha
            have h2 := Hsw1.out _ _ ha ht
            go_wp2_with fail
            go_roundw
            case rel => exact ⟨j1, by first | rfl | (congr 1; omega) | (push_cast; rfl), by omega, UpPost.trans ((Hup.out.drewN (k1 + k2))) (by rw [hlen] at h2; exact h2) hp⟩
            case measure => simp [intOf]; omega
      · have Hj2b := Lib.hid hj2b
        clear hj2b
        generalize ys.getD i 0 = x at *
        generalize ys.getD j1 0 = y at *
        have hjl : j1 < n := by omega
        have hij : i < j1 := by omega
        cases hlt2 : decide (y < x) with
        | false =>
          go_wp2_with fail
          refine (less_any g 0 xs.length cap j1 i y x (wr) hmax (by omega) (by omega) (by rw [Nat.zero_add]; exact c1) (by rw [Nat.zero_add]; exact ci)).mono ?_
          rintro e w1 ⟨rfl, k2, rfl⟩
          rw [hlt2]
          try rw [drewN_drewN]
          go_wp2_with fail
          go_ret
          exact ⟨_, rfl, (Hup.out.drewN k2)⟩
        | true =>
          go_wp2_with fail
          refine (less_any g 0 xs.length cap j1 i y x (wr) hmax (by omega) (by omega) (by rw [Nat.zero_add]; exact c1) (by rw [Nat.zero_add]; exact ci)).mono ?_
          rintro e w1 ⟨rfl, k2, rfl⟩
          rw [hlt2]
          try rw [drewN_drewN]
          go_wp2_with fail
          refine (swap_any g 0 xs.length cap i j1 x y (wr.drewN k2) hmax (by omega) (by omega) (by rw [Nat.zero_add]; exact ci) (by rw [Nat.zero_add]; exact c1) hfr).mono ?_
          rintro e w2 ⟨rfl, ha, ht⟩
          simp only [Nat.zero_add] at ha
          have h2 := Hsw1.out _ _ ha ht
          go_wp2_with fail
          go_roundw
          case rel => exact ⟨j1, by first | rfl | (congr 1; omega) | (push_cast; rfl), by omega, UpPost.trans ((Hup.out.drewN k2)) (by rw [hlen] at h2; exact h2) hp⟩
          case measure => simp [intOf]; omega

end Go.Proofs.YtlpieeeeolfclaaGreatDoor

/- The heap of places: Push and Pop, whole. -/
namespace Go.Proofs.YtlpieeeeolfclaaGreatDoor
open Go.RowKit Go.Gou

def HPushPost (w : World) (N base : Nat) (v : Value) (x : Int) (xs : List Int) (e : Ending) (w' : World) : Prop :=
  ∃ v' ys, e = .returned (.tuple #[]) ∧ ys.Perm (x :: xs) ∧ PlAt w' N base v' ys ∧ Mod (Own2 N v) w w' ∧ Lies w v v'

set_option maxHeartbeats 1000000 in
theorem heap_push (w : World) (N base : Nat) (v : Value) (xs : List Int) (x : Int) (h : PlAt w N base v xs) (hn : xs.length ≤ 90000) (hbase : base ≤ w.heap.size) :
    Calls Tryz.prog 49 #[.iface 74 (.pointer (some ⟨N, 0, none⟩)), .iface 3 (.int .i64 x)] w (HPushPost w N base v x xs) := by
  have hnp := nil_push
  have hmp := meth_push
  have hnl := nil_len
  go_enter Tryz.func49, Tryz.ntmps49
  go_wp2_with fail
  refine (push_any w N base v xs x h (by omega) hbase).mono ?_
  rintro e w1 ⟨v1, rfl, hpl, hmod, hlies⟩
  have hc1 := hpl.cell.cell
  have hml := fun (F : Nat) => meth_len hc1 F
  obtain ⟨g, cap, rfl, _, _⟩ := hpl.own.form (by simp)
  have hln : (xs ++ [x]).length = xs.length + 1 := by simp
  have hmax : (xs ++ [x]).length ≤ maxLen := by unfold maxLen; simp; omega
  rw [hln] at hml hc1
  have Hpl := Lib.hid hpl
  clear hpl
  clear hln
  go_wp2_with fail
  refine (len_any (some ⟨g, 0, none⟩) (xs.length + 1) cap w1 (by simpa using hmax)).mono ?_
  rintro e w2 ⟨rfl, rfl⟩
  go_wp2_with fail
  have hu := up_any w1 N base _ (xs ++ [x]) xs.length Hpl.out (by simp) (by simp; omega)
  refine hu.mono ?_
  rintro e w2 ⟨rfl, ys, hp, hpl2, hm2⟩
  have hpp : ys.Perm (x :: xs) := hp.trans (List.perm_append_singleton _ _)
  have hfin : HPushPost w N base v x xs (.returned (.tuple #[])) w2 := by
    refine ⟨_, ys, rfl, hpp, hpl2, hmod.trans hm2 ?_, hlies⟩
    intro k hk hown
    rcases hlies with hl | ⟨g', hl, hge⟩
    · exact .inr (hl ▸ hown)
    · rw [hl] at hown
      obtain rfl := Option.some.inj hown
      omega
  have Hfin := Lib.hid hfin
  clear hfin
  go_wp2_with fail
  go_end0
  exact Hfin.out

def PopPost (w : World) (N base : Nat) (v : Value) (x : Int) (ys : List Int) (e : Ending) (w' : World) : Prop :=
  ∃ v', e = .returned (.iface 3 (.int .i64 x)) ∧ PlAt w' N base v' ys ∧ Mod (fun k => k = N) w w' ∧ v'.ownBlock = v.ownBlock

set_option maxHeartbeats 1000000 in
theorem pop_any (w : World) (N base : Nat) (v : Value) (ys : List Int) (x : Int) (h : PlAt w N base v (ys ++ [x])) (hn : ys.length ≤ 90000) :
    Calls Tryz.prog 138 #[.pointer (some ⟨N, 0, none⟩)] w (PopPost w N base v x ys) := by
  obtain ⟨g, cap, rfl, hbg, hgw⟩ := h.own.form (by simp)
  have hc := h.cell.cell
  have hf := h.cell.frozen
  have hlen : (ys ++ [x]).length = ys.length + 1 := by simp
  have hcap : ys.length ≤ cap := by have := ownsRow_cap h.own; omega
  have hcx := h.own.cellAt ys.length (by simp)
  have hex : (iv (ys ++ [x]))[ys.length]? = some (.int .i64 x) := by simp [iv]
  rw [hex] at hcx
  clear hex
  have Hh := Lib.hid h
  clear h
  have Hlen := Lib.hid hlen
  rw [hlen] at hc
  clear hlen
  go_enter Tryz.func138, Tryz.ntmps138
  go_wp2_with fail
  go_ret
  rw [Hlen.out]
  have hpl := Hh.out
  rw [Hlen.out] at hpl
  refine ⟨_, rfl, ⟨hpl.cell.set _, ?_, ?_⟩, Mod.setCell w ⟨N, 0, none⟩ _, rfl⟩
  · have hg : g ≠ N := fun e => hpl.apart (by rw [e]; rfl)
    have hown := ownsRow_pop (n := ys.length) (size := 1) (xs := iv ys) (last := [.int .i64 x]) (by simp [iv]) (by simpa [iv] using hpl.own)
    exact ownsRow_mod hown (Mod.setCell w ⟨N, 0, none⟩ _) (fun k hk => by
      simp [Value.ownBlock] at hk
      subst hk
      exact hg)
  · exact hpl.apart

def HPopPost (w : World) (N base : Nat) (v : Value) (xs : List Int) (e : Ending) (w' : World) : Prop :=
  ∃ v' x ys, e = .returned (.iface 3 (.int .i64 x)) ∧ xs.Perm (x :: ys) ∧ PlAt w' N base v' ys ∧ Mod (Own2 N v) w w' ∧ v'.ownBlock = v.ownBlock

set_option maxHeartbeats 1000000 in
theorem heap_pop (w : World) (N base : Nat) (v : Value) (xs : List Int) (h : PlAt w N base v xs) (hn : xs.length ≤ 90000) (h0 : 0 < xs.length) :
    Calls Tryz.prog 52 #[.iface 74 (.pointer (some ⟨N, 0, none⟩))] w (HPopPost w N base v xs) := by
  obtain ⟨g, cap, rfl, hbg, hgw⟩ := h.own.form h0
  have hc := h.cell.cell
  have hnl := nil_len
  have hns := nil_swap
  have hnp := nil_pop
  have hmp := meth_pop
  have hml := fun (F : Nat) => meth_len (w := w) (N := N) (v := .slice (some ⟨g, 0, none⟩) xs.length cap) hc F
  have hms := fun (F : Nat) => meth_swap (w := w) (N := N) (v := .slice (some ⟨g, 0, none⟩) xs.length cap) hc F
  have c0 := h.own.cellAt 0 (by omega)
  have c1 := h.own.cellAt (xs.length - 1) (by omega)
  have e0 : (iv xs)[0]? = some (.int .i64 (xs.getD 0 0)) := by simp [iv, List.getD, h0]
  have e1 : (iv xs)[xs.length - 1]? = some (.int .i64 (xs.getD (xs.length - 1) 0)) := by simp [iv, List.getD, show xs.length - 1 < xs.length by omega]
  rw [e0] at c0
  rw [e1] at c1
  clear e0 e1
  obtain ⟨m, hm, hmn⟩ : ∃ m : Nat, ((xs.length : Int) - 1) = m ∧ m = xs.length - 1 := ⟨xs.length - 1, by omega, rfl⟩
  rw [← hmn] at c1
  have Hmn := Lib.hid hmn
  clear hmn
  have hmax : xs.length ≤ maxLen := by unfold maxLen; omega
  have hfr : ∀ k, w.frozen? ⟨g, k, none⟩ = false := fun k => h.own.frozenAt k
  have Hh := Lib.hid h
  clear h
  have hmlt : m < xs.length := by have := Hmn.out; omega
  go_enter Tryz.func52, Tryz.ntmps52
  go_wp2_with fail
  refine (len_any (some ⟨g, 0, none⟩) xs.length cap w hmax).mono ?_
  rintro e w1 ⟨rfl, rfl⟩
  go_wp2_with fail
  refine (swap_any g 0 xs.length cap 0 m (xs.getD 0 0) (xs.getD m 0) w hmax h0 hmlt (by simpa using c0) (by simpa using c1) hfr).mono ?_
  rintro e w2 ⟨rfl, ha, ht⟩
  simp only [Nat.zero_add] at ha
  obtain ⟨ys, hp, hpl, hmod⟩ := pl_swap (w := w) (w' := w2) Hh.out 0 m h0 hmlt ha ht
  clear ha ht
  have hlen := hp.length_eq
  go_wp2_with fail
  refine (down_any w2 N base _ ys m hpl (by omega) (by omega) (by omega)).mono ?_
  rintro e w3 ⟨b, rfl, zs, hp3, hpl3, hmod3⟩
  have hlz : zs.length = xs.length := hp3.length_eq.trans hlen
  obtain ⟨us, x, rfl⟩ : ∃ us x, zs = us ++ [x] := by
    rcases List.eq_nil_or_concat zs with rfl | ⟨l, b, rfl⟩
    · simp at hlz; omega
    · exact ⟨l, b, by simp⟩
  go_wp2_with fail
  refine (pop_any w3 N base _ us x hpl3 (by simp at hlz; omega)).mono ?_
  rintro e w4 ⟨v4, rfl, hpl4, hmod4, hob⟩
  have hfin : HPopPost w N base (.slice (some ⟨g, 0, none⟩) xs.length cap) xs (.returned (.iface 3 (.int .i64 x))) w4 := by
    refine ⟨v4, x, us, rfl, ?_, hpl4, ?_, hob⟩
    · exact (hp.symm.trans hp3.symm).trans (List.perm_append_singleton _ _)
    · refine ((hmod.imp (fun k _ hk => .inr hk)).trans hmod3 (fun k _ hk => .inr hk)).trans hmod4 (fun k _ hk => .inl hk)
  have Hfin := Lib.hid hfin
  clear hfin
  go_wp2_with fail
  go_ret
  exact Hfin.out

end Go.Proofs.YtlpieeeeolfclaaGreatDoor

