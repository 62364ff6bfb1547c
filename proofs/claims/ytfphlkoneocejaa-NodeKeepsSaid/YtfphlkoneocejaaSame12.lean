/- Two filters that read alike are the same, as the law's own words have it (Equal, Same). -/
import Derived.Test.YtfphlkoneocejaaBounds12
import Derived.Deep.RegionHeld3
namespace Go.Proofs.Ytfphlkoneocejaa
open Go.RowKit Go.Gou

set_option maxHeartbeats 2000000 in
theorem equal_any (w : World) (v v2 : Value) (xs : List Int) (h1 : IntsAt w.heap.size w v xs) (h2 : IntsAt w.heap.size w v2 xs) (hl : xs.length ≤ maxLen) :
    Calls Try.prog 18 #[v, v2] w fun e w' => e = .returned (.bool true) ∧ ∃ m, w' = w.drewN m := by
  have H1 := Lib.hid h1
  have H2 := Lib.hid h2
  obtain ⟨p1, c1, rfl⟩ := h1.len
  obtain ⟨p2, c2, rfl⟩ := h2.len
  clear h1 h2
  unfold maxLen at hl
  go_enter Try.func18, Try.ntmps18
  go_wp2_with fail
  go_loopw [5] (fun c wr => ∃ k : Nat, c = .int .i64 k ∧ k ≤ xs.length ∧ ∃ m, wr = w.drewN m) (fun c _ => xs.length - (intOf c).toNat)
  case atStart => exact ⟨0, rfl, Nat.zero_le _, 0, rfl⟩
  case round =>
    obtain ⟨k, rfl, hk, hb0⟩ := hrel
    have hb : Below w.heap.size w wr := by
      obtain ⟨m, rfl⟩ := hb0
      exact below_drewN (Below.refl _ _) m
    have Hb0 := Lib.hid hb0
    clear hb0
    by_cases hkl : k < xs.length
    · obtain ⟨b1, o1, d1, hv1, _, hb1, hc1⟩ := ints_cells H1.out (by omega)
      obtain ⟨b2, o2, d2, hv2, _, hb2, hc2⟩ := ints_cells H2.out (by omega)
      simp only [Value.slice.injEq, true_and] at hv1 hv2
      obtain ⟨rfl, rfl⟩ := hv1
      obtain ⟨rfl, rfl⟩ := hv2
      have hx := hc1 k hkl
      have hy := hc2 k hkl
      rw [← hb.cell (p := ⟨b1, o1 + k, none⟩) hb1] at hx
      rw [← hb.cell (p := ⟨b2, o2 + k, none⟩) hb2] at hy
      have hkI : (k : Int) < (xs.length : Int) := by omega
      have hk0 : (0 : Int) ≤ (k : Int) := by omega
      have Hb := Lib.hid hb
      clear hc1 hc2 hb
      generalize xs.getD k 0 = x at *
      have e1 : (x != x) = false := by simp
      go_wp2_with fail
      go_quiet (fail)
      go_wp2_with fail
      go_roundw
      case rel =>
        obtain ⟨m, rfl⟩ := Hb0.out
        exact ⟨k + 1, by go_num, by omega, _, by rw [World.drewN_drewN]⟩
      case measure => simp [intOf]; omega
    · obtain rfl : k = xs.length := by omega
      go_wp2_with fail
      go_ret
      exact ⟨rfl, Hb0.out⟩

/-- Two boxes, a filter's in each. -/
structure SB (w : World) (x y a b : Value) (wr : World) : Prop where
  box : BoxAt w x y wr
  n0 : wr.cell? ⟨w.heap.size + 1, 0, none⟩ = some a
  n1 : wr.cell? ⟨w.heap.size + 1, 1, none⟩ = some b
  lt1 : w.heap.size + 1 < wr.heap.size

theorem SB.start (w : World) (x y a b : Value) (T U : TypeId) : SB w x y a b ((w.alloc (.cells #[x, y] T)).alloc (.cells #[a, b] U)) := by
  have h : w.heap.size + 1 = (w.alloc (.cells #[x, y] T)).heap.size := by simp
  refine ⟨(BoxAt.start w x y T).alloc _, ?_, ?_, by simp⟩
  · rw [h, World.cell?_alloc_new]; rfl
  · rw [h, World.cell?_alloc_new]; rfl

theorem SB.step {w : World} {x y a b : Value} {wr w2 : World} (h : SB w x y a b wr) (hb : Below wr.heap.size wr w2) : SB w x y a b w2 :=
  ⟨h.box.step hb, by rw [hb.cell (p := ⟨w.heap.size + 1, 0, none⟩) h.lt1]; exact h.n0, by rw [hb.cell (p := ⟨w.heap.size + 1, 1, none⟩) h.lt1]; exact h.n1, Nat.lt_of_lt_of_le h.lt1 hb.size⟩

set_option maxHeartbeats 4000000 in
theorem same_any (w : World) (v v2 : Value) (g : Gr) (h1 : GrV w v g) (h2 : GrV w v2 g) (hli : ∀ n ∈ g.nodes, n.ins.length ≤ maxLen) (hlp : ∀ n ∈ g.nodes, n.ps.length ≤ maxLen) (hl : g.nodes.length ≤ maxLen) :
    Calls Try.prog 10 #[v, v2] w fun e w' => e = .returned (.bool true) ∧ Below w.heap.size w w' := by
  obtain ⟨p1, c1, rfl⟩ := h1.form
  obtain ⟨p2, c2, rfl⟩ := h2.form
  have H1 := Lib.hid h1
  have H2 := Lib.hid h2
  have Hli := Lib.hid hli
  have Hlp := Lib.hid hlp
  clear h1 h2 hli hlp
  unfold maxLen at hl
  have e0 : (g.out != g.out) = false := by simp
  have e1 : ((g.nodes.length : Int) != (g.nodes.length : Int)) = false := by simp
  go_enter Try.func10, Try.ntmps10
  go_wp2_with fail
  obtain ⟨wo, hwo⟩ : ∃ wo : World, wo = w := ⟨_, rfl⟩
  go_loopw [5] (fun c wr => ∃ k : Nat, c = .int .i64 k ∧ k ≤ g.nodes.length ∧ SB w (.slice p1 g.nodes.length c1) (.int .i64 g.out) (.slice p2 g.nodes.length c2) (.int .i64 g.out) wr) (fun c _ => g.nodes.length - (intOf c).toNat)
  case atStart => exact ⟨0, rfl, Nat.zero_le _, SB.start _ _ _ _ _ _ _⟩
  case round =>
    obtain ⟨k, rfl, hk, hb⟩ := hrel
    have Hb := Lib.hid hb
    obtain ⟨⟨b0, b1, blt, bbel⟩, n0, n1, nlt⟩ := hb
    by_cases hkl : k < g.nodes.length
    · obtain ⟨x1, o1, rfl, hx1, vi1, vp1, m0, m1, m2, hi1, hp1⟩ := gr_node H1.out k hkl
      obtain ⟨x2, o2, rfl, hx2, vi2, vp2, q0, q1, q2, hi2, hp2⟩ := gr_node H2.out k hkl
      have hli := Hli.out _ (List.getElem_mem hkl)
      have hlp := Hlp.out _ (List.getElem_mem hkl)
      rw [← bbel.cell (p := ⟨x1, o1 + k * 3, none⟩) hx1] at m0
      rw [← bbel.cell (p := ⟨x1, o1 + k * 3 + 1, none⟩) hx1] at m1
      rw [← bbel.cell (p := ⟨x1, o1 + k * 3 + 2, none⟩) hx1] at m2
      rw [← bbel.cell (p := ⟨x2, o2 + k * 3, none⟩) hx2] at q0
      rw [← bbel.cell (p := ⟨x2, o2 + k * 3 + 1, none⟩) hx2] at q1
      rw [← bbel.cell (p := ⟨x2, o2 + k * 3 + 2, none⟩) hx2] at q2
      have hkI : (k : Int) < (g.nodes.length : Int) := by omega
      have hk0 : (0 : Int) ≤ (k : Int) := by omega
      have Hi : Hid (∀ m, Calls Try.prog 18 #[vi1, vi2] (wr.drewN m) fun e w2 => e = .returned (.bool true) ∧ ∃ q, w2 = (wr.drewN m).drewN q) := fun m =>
        equal_any _ vi1 vi2 _ ((hi1.up bbel).up (below_drewN (Below.refl _ _) m)) ((hi2.up bbel).up (below_drewN (Below.refl _ _) m)) hli
      have Hp : Hid (∀ m, Calls Try.prog 18 #[vp1, vp2] (wr.drewN m) fun e w2 => e = .returned (.bool true) ∧ ∃ q, w2 = (wr.drewN m).drewN q) := fun m =>
        equal_any _ vp1 vp2 _ ((hp1.up bbel).up (below_drewN (Below.refl _ _) m)) ((hp2.up bbel).up (below_drewN (Below.refl _ _) m)) hlp
      obtain ⟨pi1, ci1, rfl⟩ := hi1.len
      obtain ⟨pi2, ci2, rfl⟩ := hi2.len
      obtain ⟨pp1, cp1, rfl⟩ := hp1.len
      obtain ⟨pp2, cp2, rfl⟩ := hp2.len
      have lx1 : x1 < wr.heap.size := Nat.lt_of_lt_of_le hx1 bbel.size
      have lx2 : x2 < wr.heap.size := Nat.lt_of_lt_of_le hx2 bbel.size
      have Hq : Hid (∀ m x y, (x = .slice pi1 g.nodes[k].ins.length ci1 ∧ y = .slice pi2 g.nodes[k].ins.length ci2) ∨ (x = .slice pp1 g.nodes[k].ps.length cp1 ∧ y = .slice pp2 g.nodes[k].ps.length cp2) →
          Calls Try.prog 18 #[x, y] (wr.drewN m) fun e w2 => e = .returned (.bool true) ∧ ∃ q, w2 = (wr.drewN m).drewN q) := fun m x y h => by
        rcases h with ⟨rfl, rfl⟩ | ⟨rfl, rfl⟩
        · exact Hi.out m
        · exact Hp.out m
      clear Hi Hp hi1 hi2 hp1 hp2 H1 H2 Hli Hlp hli hlp bbel hx1 hx2
      generalize g.nodes[k] = nd at *
      have e2 : (nd.op != nd.op) = false := by simp
      go_wp2_with fail
      go_quiet (first | (go_at_call 18; exact Calls.quiet_of (Hq.out _ _ _ (by first | exact .inl ⟨rfl, rfl⟩ | exact .inr ⟨rfl, rfl⟩))))
      go_wp2_with fail
      go_roundw
      case rel => exact ⟨k + 1, by go_num, by omega, Hb.out.step (below_drewN (Below.refl _ _) _)⟩
      case measure => simp [intOf]; omega
    · obtain rfl : k = g.nodes.length := by omega
      go_wp2_with fail
      go_ret
      exact ⟨rfl, Hb.out.box.bel⟩

end Go.Proofs.Ytfphlkoneocejaa
