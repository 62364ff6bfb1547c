/- The document's answer for layer 12: pixels and matrices. -/
import Derived.Test.YtfphlkoneocejaaDoorRefB
namespace Go.Proofs.YtfphlkoneocejaaDoor
open Go.RowKit Go.Gou

theorem near_at (w : World) (v : Value) (xs : List Int) (a b lo hi : Int) (A B : Nat) (r : Bool) (ha : a = A) (hb : b = B) (hr : (seg xs A B).all (withinB lo hi) = r) (hv : IntsAt w.heap.size w v xs) (hab : A ≤ B) (hB : B ≤ xs.length) (hl : xs.length ≤ 1000) :
    Calls Tryd.prog 19 #[v, .int .i64 a, .int .i64 b, .int .i64 lo, .int .i64 hi] w fun e w' => e = .returned (.bool r) ∧ w' = w := by
  subst ha hb hr
  exact near_any w v xs A B lo hi hv hab hB hl

theorem below_drewN' (w : World) (n : Nat) : Below w.heap.size w (w.drewN n) := below_drewN (Below.refl _ _) _

theorem seg_eq (l : List Int) (a b : Nat) : seg l a b = (l.drop a).take (b - a) := rfl

set_option maxHeartbeats 2000000 in
theorem refPixel_any (w : World) (v : Value) (xs : List Int) (f : Nat) (hf : f = 0 ∨ f = 4) (hx : IntsAt w.heap.size w v xs) (hl : f + 4 ≤ xs.length) (hle : xs.length ≤ 1000) :
    Calls Tryd.prog 28 #[v, .int .i64 f] w fun e w' => e = .returned (.bool (pixB ((xs.drop f).take 4))) ∧ Below w.heap.size w w' := by
  have hx0 := hx
  obtain ⟨b, o, cap, rfl, hcap, hb, hc⟩ := ints_cells hx (by omega)
  have hsg : seg xs f (f + 4) = (xs.drop f).take 4 := by rw [seg_eq]; congr 1; omega
  have hnear := fun (wx : World) (hbx : Below w.heap.size w wx) (g : Int) (hg : g = f + 4) (r : Bool) (hr : ((xs.drop f).take 4).all (withinB 0 255) = r) => near_at wx _ xs f g 0 255 f (f + 4) r rfl (by rw [hg]; simp) (by rw [hsg]; exact hr) (hx0.up hbx) (by omega) hl hle
  have hgd : ∀ i, i < 4 → xs.getD (f + i) 0 = ((xs.drop f).take 4).getD i 0 := by
    intro i hi
    simp [List.getD, hi]
  have c0 := hc (f + 0) (by omega)
  have c1 := hc (f + 1) (by omega)
  have c2 := hc (f + 2) (by omega)
  have c3 := hc (f + 3) (by omega)
  rw [hgd 0 (by omega)] at c0
  rw [hgd 1 (by omega)] at c1
  rw [hgd 2 (by omega)] at c2
  rw [hgd 3 (by omega)] at c3
  have Hl4 : Hid (((xs.drop f).take 4).length = 4) := by show _ = _; simp; omega
  have hn : xs.length ≤ 1000 ∧ f + 4 ≤ xs.length := ⟨hle, hl⟩
  obtain ⟨hn1, hn2⟩ := hn
  clear hc hx hx0 hgd hsg
  generalize (xs.drop f).take 4 = l at *
  generalize xs.length = n at *
  have Hnear := Lib.hid hnear
  clear hnear
  cases hall : l.all (withinB 0 255) with
  | false =>
    have Hall := Lib.hid hall
    have Hb : Hid (pixB l = false) := by show _ = _; simp [pixB, hall]
    clear hall
    rcases hf with rfl | rfl
    all_goals
      have Hn := Lib.hid (fun (m : Nat) (g : Int) (hg : g = _) => Hnear.out _ (below_drewN' w m) g hg false Hall.out)
      go_enter Tryd.func28, Tryd.ntmps28
      go_wp2_with fail
      go_quiet (first | (go_at_call 19; exact Calls.quiet_of_same (Hn.out _ _ (by decide))))
      go_wp2
      go_ret
      exact ⟨ret_bool Hb.out.symm, below_drewN' _ _⟩
  | true =>
    have Hall := Lib.hid hall
    obtain ⟨l0, u0⟩ := within_getD hall (i := 0) (by rw [Hl4.out]; omega)
    obtain ⟨l1, u1⟩ := within_getD hall (i := 1) (by rw [Hl4.out]; omega)
    obtain ⟨l2, u2⟩ := within_getD hall (i := 2) (by rw [Hl4.out]; omega)
    obtain ⟨l3, u3⟩ := within_getD hall (i := 3) (by rw [Hl4.out]; omega)
    have Hp : Hid (pixB l = pxRight (l.getD 0 0) (l.getD 1 0) (l.getD 2 0) (l.getD 3 0)) := by
      show _ = _
      simp only [pixB, hall, Bool.true_and]
    clear hall
    generalize l.getD 0 0 = x0 at *
    generalize l.getD 1 0 = x1 at *
    generalize l.getD 2 0 = x2 at *
    generalize l.getD 3 0 = x3 at *
    rcases hf with rfl | rfl
    · simp only [Nat.add_zero, Nat.zero_add, Nat.reduceAdd] at c0 c1 c2 c3 hn2
      have Hn := Lib.hid (fun (w' : World) (hb : Below w.heap.size w w') (g : Int) (hg : g = _) => Hnear.out w' hb g hg true Hall.out)
      have k0n : 0 < n := by omega
      have k0 : (0 : Int) < (n : Int) := by omega
      have k1 : (1 : Int) < (n : Int) := by omega
      have k2 : (2 : Int) < (n : Int) := by omega
      have k3 : (3 : Int) < (n : Int) := by omega
      have s1 : IntKind.i64.wrap 1 = 1 := by decide
      have s2 : IntKind.i64.wrap 2 = 2 := by decide
      have s3 : IntKind.i64.wrap 3 = 3 := by decide
      have s4 : IntKind.i64.wrap 4 = 4 := by decide
      clear hl hle hn1 hn2
      change Calls Tryd.prog 28 #[.slice (some ⟨b, o, none⟩) n cap, .int .i64 0] _ _
      go_enter Tryd.func28, Tryd.ntmps28
      go_wp2_with fail
      go_region_held3 (fun w' => Below w.heap.size w w' ∧ w'.cell? ⟨b, o, none⟩ = some (.int .i64 x0) ∧ w'.cell? ⟨b, o + 1, none⟩ = some (.int .i64 x1) ∧ w'.cell? ⟨b, o + 2, none⟩ = some (.int .i64 x2) ∧ w'.cell? ⟨b, o + 3, none⟩ = some (.int .i64 x3))
        (first | exact ⟨(Below.refl _ _).drew, c0, c1, c2, c3⟩ | (obtain ⟨g0, g1, g2, g3, g4⟩ := ‹Below w.heap.size w _ ∧ _›; exact ⟨later_below g0 hb3, later_cell g0 hb3 hb g1, later_cell g0 hb3 hb g2, later_cell g0 hb3 hb g3, later_cell g0 hb3 hb g4⟩) | assumption)
        (first | (go_at_call 19; refine (Hn.out _ (by first | assumption | exact (Below.refl _ _).drew | exact (‹Below w.heap.size w _ ∧ _›).1) _ (by decide)).mono ?_; rintro e w3 ⟨rfl, rfl⟩) | (go_at_call 32; refine (refRight_any _ _ _ _ _).mono ?_; rintro e w3 ⟨rfl, hb3⟩))
      go_wp2
      go_ret
      exact ⟨ret_bool (by rw [Hp.out]; first | rfl | simp only [wrap_u8 l0 u0, wrap_u8 l1 u1, wrap_u8 l2 u2, wrap_u8 l3 u3]), (‹Below w.heap.size w _ ∧ _›).1⟩
    · simp only [Nat.add_zero, Nat.zero_add, Nat.reduceAdd] at c0 c1 c2 c3 hn2
      have Hn := Lib.hid (fun (w' : World) (hb : Below w.heap.size w w') (g : Int) (hg : g = _) => Hnear.out w' hb g hg true Hall.out)
      have k0 : (4 : Int) < (n : Int) := by omega
      have k1 : (5 : Int) < (n : Int) := by omega
      have k2 : (6 : Int) < (n : Int) := by omega
      have k3 : (7 : Int) < (n : Int) := by omega
      have s1 : IntKind.i64.wrap 5 = 5 := by decide
      have s2 : IntKind.i64.wrap 6 = 6 := by decide
      have s3 : IntKind.i64.wrap 7 = 7 := by decide
      have s4 : IntKind.i64.wrap 8 = 8 := by decide
      clear hl hle hn1 hn2
      change Calls Tryd.prog 28 #[.slice (some ⟨b, o, none⟩) n cap, .int .i64 4] _ _
      go_enter Tryd.func28, Tryd.ntmps28
      go_wp2_with fail
      go_region_held3 (fun w' => Below w.heap.size w w' ∧ w'.cell? ⟨b, o + 4, none⟩ = some (.int .i64 x0) ∧ w'.cell? ⟨b, o + 5, none⟩ = some (.int .i64 x1) ∧ w'.cell? ⟨b, o + 6, none⟩ = some (.int .i64 x2) ∧ w'.cell? ⟨b, o + 7, none⟩ = some (.int .i64 x3))
        (first | exact ⟨(Below.refl _ _).drew, c0, c1, c2, c3⟩ | (obtain ⟨g0, g1, g2, g3, g4⟩ := ‹Below w.heap.size w _ ∧ _›; exact ⟨later_below g0 hb3, later_cell g0 hb3 hb g1, later_cell g0 hb3 hb g2, later_cell g0 hb3 hb g3, later_cell g0 hb3 hb g4⟩) | assumption)
        (first | (go_at_call 19; refine (Hn.out _ (by first | assumption | exact (Below.refl _ _).drew | exact (‹Below w.heap.size w _ ∧ _›).1) _ (by decide)).mono ?_; rintro e w3 ⟨rfl, rfl⟩) | (go_at_call 32; refine (refRight_any _ _ _ _ _).mono ?_; rintro e w3 ⟨rfl, hb3⟩))
      go_wp2
      go_ret
      exact ⟨ret_bool (by rw [Hp.out]; first | rfl | simp only [wrap_u8 l0 u0, wrap_u8 l1 u1, wrap_u8 l2 u2, wrap_u8 l3 u3]), (‹Below w.heap.size w _ ∧ _›).1⟩

end Go.Proofs.YtfphlkoneocejaaDoor
