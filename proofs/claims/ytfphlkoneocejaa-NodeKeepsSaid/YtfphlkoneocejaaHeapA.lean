/- The heap of places: its methods, each once. Only what stands in it is told, not its order. -/
import Derived.Test.YtfphlkoneocejaaRows
import Derived.Test.YtfphlkoneocejaaMod
import Derived.Deep.RegionLaw
import Derived.Deep.RegionLawGrows
import Derived.Deep.AppendLies
import Derived.BigRegion
import Derived.RegionTactic
namespace Go.Proofs.Ytfphlkoneocejaa
open Go.RowKit Go.Gou

abbrev iv (xs : List Int) : List Value := xs.map (.int .i64)

/-- The places' heap behind a pointer: its cell N, and the row that it owns. -/
structure PlAt (w : World) (N base : Nat) (v : Value) (xs : List Int) : Prop where
  cell : Cell1 w N 51 v
  own : w.ownsRow base 3 1 v xs.length (iv xs)
  apart : v.ownBlock ≠ some N

theorem info_int : (Try.prog.info? 3).map (fun i => (i.zero, i.size, i.bytes)) = some (some (.int .i64 0), 1, 8) := by kernel_rfl

theorem len_any (p : Option Addr) (n c : Nat) (w : World) (hn : n ≤ maxLen) :
    Calls Try.prog 27 #[.slice p n c] w fun e w' => e = .returned (.int .i64 n) ∧ w = w' := by
  unfold maxLen at hn
  go_enter Try.func27, Try.ntmps27
  go_wp2
  go_ret
  exact ⟨rfl, rfl⟩

theorem less_any (b o n c i j : Nat) (x y : Int) (w : World) (hn : n ≤ maxLen) (hi : i < n) (hj : j < n) (hx : w.cell? ⟨b, o + i, none⟩ = some (.int .i64 x)) (hy : w.cell? ⟨b, o + j, none⟩ = some (.int .i64 y)) :
    Calls Try.prog 49 #[.slice (some ⟨b, o, none⟩) n c, .int .i64 i, .int .i64 j] w fun e w' => e = .returned (.bool (decide (x < y))) ∧ ∃ k, w' = w.drewN k := by
  unfold maxLen at hn
  have hi' : (i : Int) < n := by omega
  have hj' : (j : Int) < n := by omega
  have hi0 : (0 : Int) ≤ i := by omega
  have hj0 : (0 : Int) ≤ j := by omega
  go_enter Try.func49, Try.ntmps49
  go_wp2
  go_quiet (fail)
  go_wp2
  go_ret
  exact ⟨rfl, _, rfl⟩

theorem swap_any (b o n c i j : Nat) (x y : Int) (w : World) (hn : n ≤ maxLen) (hi : i < n) (hj : j < n) (hx : w.cell? ⟨b, o + i, none⟩ = some (.int .i64 x)) (hy : w.cell? ⟨b, o + j, none⟩ = some (.int .i64 y))
    (hf : ∀ k, w.frozen? ⟨b, k, none⟩ = false) :
    Calls Try.prog 52 #[.slice (some ⟨b, o, none⟩) n c, .int .i64 i, .int .i64 j] w fun e w' => e = .returned (.tuple #[]) ∧ w'.Alike ((w.setCell ⟨b, o + i, none⟩ (.int .i64 y)).setCell ⟨b, o + j, none⟩ (.int .i64 x)) ∧ w'.tape = w.tape := by
  unfold maxLen at hn
  have hi' : (i : Int) < n := by omega
  have hj' : (j : Int) < n := by omega
  have hi0 : (0 : Int) ≤ i := by omega
  have hj0 : (0 : Int) ≤ j := by omega
  obtain ⟨v', hy'⟩ := cell?_setCell_some (w := w) (p := ⟨b, o + i, none⟩) (x := .int .i64 y) (q := ⟨b, o + j, none⟩) (v := .int .i64 y) (by go_simp)
  go_enter Try.func52, Try.ntmps52
  go_region
  all_goals (go_end0; exact ⟨rfl, ⟨rfl, rfl, rfl⟩, rfl⟩)


/-! Calls by the heap's interface: the dynamic type is a pointer to places. -/
theorem nil_len (F : Nat) (a : Addr) (w : World) : (nilAhead (F + 1) 50 (.pointer (some a)) "Len").run Try.prog w = .ok (some false) w := by kernel_rfl
theorem nil_less (F : Nat) (a : Addr) (w : World) : (nilAhead (F + 1) 50 (.pointer (some a)) "Less").run Try.prog w = .ok (some false) w := by kernel_rfl
theorem nil_swap (F : Nat) (a : Addr) (w : World) : (nilAhead (F + 1) 50 (.pointer (some a)) "Swap").run Try.prog w = .ok (some false) w := by kernel_rfl
theorem nil_push (F : Nat) (a : Addr) (w : World) : (nilAhead (F + 1) 50 (.pointer (some a)) "Push").run Try.prog w = .ok (some false) w := by kernel_rfl
theorem nil_pop (F : Nat) (a : Addr) (w : World) : (nilAhead (F + 1) 50 (.pointer (some a)) "Pop").run Try.prog w = .ok (some false) w := by kernel_rfl
theorem meth_push (F : Nat) (a : Addr) (w : World) : (method (F + 1) 50 (.pointer (some a)) "Push").run Try.prog w = .ok (51, .pointer (some a)) w := by kernel_rfl
theorem meth_pop (F : Nat) (a : Addr) (w : World) : (method (F + 1) 50 (.pointer (some a)) "Pop").run Try.prog w = .ok (50, .pointer (some a)) w := by kernel_rfl
theorem meth_len0 (F : Nat) (a : Addr) (w : World) : (method (F + 1) 50 (.pointer (some a)) "Len").run Try.prog w = ((loadVar 51 a).bind fun v => pure (27, v)).run Try.prog w := by kernel_rfl
theorem meth_less0 (F : Nat) (a : Addr) (w : World) : (method (F + 1) 50 (.pointer (some a)) "Less").run Try.prog w = ((loadVar 51 a).bind fun v => pure (49, v)).run Try.prog w := by kernel_rfl
theorem meth_swap0 (F : Nat) (a : Addr) (w : World) : (method (F + 1) 50 (.pointer (some a)) "Swap").run Try.prog w = ((loadVar 51 a).bind fun v => pure (52, v)).run Try.prog w := by kernel_rfl
theorem load_places (N : Nat) (v : Value) (w : World) (f : FuncId) (h : w.cell? ⟨N, 0, none⟩ = some v) : ((loadVar 51 ⟨N, 0, none⟩).bind fun v => pure (f, v)).run Try.prog w = .ok (f, v) w := by
  have e : ((loadVar 51 ⟨N, 0, none⟩).bind fun v => pure (f, v)).run Try.prog w = ((Sem.load .plain ⟨N, 0, none⟩ fun v => .pure v).bind fun v => pure (f, v)).run Try.prog w := by kernel_rfl
  rw [e]
  simp [Sem.bind, Sem.run, h, pure]
theorem meth_len {N : Nat} {v : Value} {w : World} (h : w.cell? ⟨N, 0, none⟩ = some v) (F : Nat) : (method (F + 1) 50 (.pointer (some ⟨N, 0, none⟩)) "Len").run Try.prog w = .ok (27, v) w := by rw [meth_len0, load_places _ _ _ _ h]
theorem meth_less {N : Nat} {v : Value} {w : World} (h : w.cell? ⟨N, 0, none⟩ = some v) (F : Nat) : (method (F + 1) 50 (.pointer (some ⟨N, 0, none⟩)) "Less").run Try.prog w = .ok (49, v) w := by rw [meth_less0, load_places _ _ _ _ h]
theorem meth_swap {N : Nat} {v : Value} {w : World} (h : w.cell? ⟨N, 0, none⟩ = some v) (F : Nat) : (method (F + 1) 50 (.pointer (some ⟨N, 0, none⟩)) "Swap").run Try.prog w = .ok (52, v) w := by rw [meth_swap0, load_places _ _ _ _ h]

/-- What a call on the heap may have turned: its cell, and its row. -/
def Own2 (N : Nat) (v : Value) : Nat → Prop := fun k => k = N ∨ v.ownBlock = some k

/-- The new row lies where the old one lay, or in a new block. -/
def Lies (w : World) (v v' : Value) : Prop := v'.ownBlock = v.ownBlock ∨ ∃ g, v'.ownBlock = some g ∧ w.heap.size ≤ g

theorem assert_int (x : Int) (w : World) : (Instr.typeAssert (.iface 3 (.int .i64 x)) 20 3 false).run Try.prog w = .ok (.int .i64 x) w := by kernel_rfl

def PushPost (w : World) (N base : Nat) (v : Value) (ys : List Int) (e : Ending) (w' : World) : Prop :=
  ∃ v', e = .returned (.tuple #[]) ∧ PlAt w' N base v' ys ∧ Mod (Own2 N v) w w' ∧ Lies w v v'

theorem push_post {w w1 : World} {N base g cap : Nat} {v : Value} {xs : List Int} {x : Int} (h : PlAt w N base v xs) (o : Obj)
    (hown1 : w1.ownsRow base 3 1 (.slice (some ⟨g, 0, none⟩) (xs.length + 1) cap) (xs.length + 1) (iv xs ++ [.int .i64 x])) (hgrow : (w.alloc o).drew.grownBy w1 v.ownBlock)
    (hat : v.ownBlock = some g ∨ g = w.heap.size + 1) : PushPost w N base v (xs ++ [x]) (.returned (.tuple #[])) (w1.setCell ⟨N, 0, none⟩ (.slice (some ⟨g, 0, none⟩) (xs.length + 1) cap)) := by
  have hN := h.cell.lt
  have hg : g ≠ N := by
    rcases hat with hat | rfl
    · intro e
      exact h.apart (e ▸ hat)
    · omega
  have m1 : Mod (Own2 N v) w w1 := by
    refine ((Mod.alloc _ w o).trans (Mod.drew (fun _ => False) _) (fun _ _ h => h.elim)).trans (Mod.of_grown hgrow) fun i _ hi => .inr hi
  have c1 : Cell1 w1 N 51 v := by
    exact ((h.cell.mod (Mod.alloc (fun _ => False) w o) (fun h => h)).mod (Mod.drew (fun _ => False) _) (fun h => h)).mod (Mod.of_grown hgrow) fun e => h.apart e
  refine ⟨_, rfl, ⟨c1.set _, ?_, ?_⟩, m1.trans (Mod.setCell _ _ _) fun i _ hi => .inl hi, ?_⟩
  · have := ownsRow_mod hown1 (Mod.setCell w1 ⟨N, 0, none⟩ (.slice (some ⟨g, 0, none⟩) (xs.length + 1) cap)) (fun k hk => by
      simp [Value.ownBlock] at hk
      subst hk
      exact hg)
    simpa [iv] using this
  · simp [Value.ownBlock]
    exact hg
  · rcases hat with hat | rfl
    · exact .inl (by rw [hat]; rfl)
    · exact .inr ⟨w.heap.size + 1, rfl, by omega⟩

set_option maxHeartbeats 1000000 in
theorem push_any (w : World) (N base : Nat) (v : Value) (xs : List Int) (x : Int) (h : PlAt w N base v xs) (hn : xs.length ≤ 100000) (hbase : base ≤ w.heap.size) :
    Calls Try.prog 51 #[.pointer (some ⟨N, 0, none⟩), .iface 3 (.int .i64 x)] w (PushPost w N base v (xs ++ [x])) := by
  obtain ⟨i0, hi0, hz0, hz1, hz2⟩ := info_parts info_int
  have hc := h.cell.cell
  have hN := h.cell.lt
  have hP := fun (w1 : World) (g cap : Nat) (o : Obj) => push_post (w1 := w1) (g := g) (cap := cap) (x := x) h o
  have HP := Lib.hid hP
  clear hP
  have hh := Lib.hid h
  have hown := h.own
  have hap := Lib.hid h.apart
  clear h
  go_enter Try.func51, Try.ntmps51
  have hfz := hh.out.cell.frozen
  have has := assert_int
  have hst := fun (w1 : World) (o : Obj) (hgrow : (w.alloc o).drew.grownBy w1 v.ownBlock) => And.intro (hgrow.cell (a := ⟨N, 0, none⟩) (v := v) (by go_simp) (fun e => hap.out e.symm)) ((hgrow.frozen_far ⟨N, 0, none⟩ (by simp only [World.size_drew, World.size_alloc]; omega) (fun e => hap.out e.symm)).trans (by rw [World.frozen?_drew, World.frozen?_alloc_old (h := Nat.ne_of_lt hN)]))
  have Hst := Lib.hid hst
  clear hst
  go_region_law
    ((refine step_append_lies _ (by rfl) _ _ _ (by rfl) base 3 i0 _ 1 8 Try.underlying51 hi0 hz0 hz1 hz2 rfl (by omega) v xs.length (iv xs) (by rfl) ((hown.alloc _).drew)
        ⟨w.heap.size, 0, none⟩ 1 1 [.int .i64 x] (by rfl) (by rfl) (World.news_of_block (cs := #[.int .i64 x]) (t := 3) (fr := (0, 0)) (heap_alloc_new w _)) (by simp [Value.oneCell'])
        (by omega) (by unfold maxLen; omega) (by omega) (by simp; omega) (w.heap.size + 1) (by simp) ?_; intro g cap w1 hown1 hgrow hat hlt; obtain ⟨hc1, hf1⟩ := Hst.out _ _ hgrow))
  all_goals
    go_end0
    exact HP.out _ _ _ _ hown1 hgrow hat

end Go.Proofs.Ytfphlkoneocejaa
