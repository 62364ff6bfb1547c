/- The heap of places: down, Push and Pop (written by gen_heapc.py). -/
import Derived.Test.YtfphlkoneocejaaHeapB
namespace Go.Proofs.Ytfphlkoneocejaa
open Go.RowKit Go.Gou

theorem drewN_drewN (w : World) (a b : Nat) : (w.drewN a).drewN b = w.drewN (a + b) := by
  simp [World.drewN, Nat.add_assoc]

def DownPost (w : World) (N base : Nat) (v : Value) (xs : List Int) (e : Ending) (w' : World) : Prop := ∃ b : Bool, e = .returned (.bool b) ∧ UpPost w N base v xs w'

theorem pl_swap' {w w' : World} {N base g cap n : Nat} {xs ys : List Int} (hlen : ys.length = xs.length) (h : PlAt w N base (.slice (some ⟨g, 0, none⟩) xs.length cap) ys) (k i j : Nat) (hi : i < ys.length) (hj : j < ys.length)
    (ha : w'.Alike (((w.drewN k).setCell ⟨g, i, none⟩ (.int .i64 (ys.getD j 0))).setCell ⟨g, j, none⟩ (.int .i64 (ys.getD i 0)))) (ht : w'.tape = (w.drewN k).tape) :
    UpPost (w.drewN k) N base (.slice (some ⟨g, 0, none⟩) ys.length cap) ys w' :=
  pl_swap (w := w.drewN k) (xs := ys) (g := g) (cap := cap) (by rw [hlen]; exact h.drewN k) i j hi hj ha ht

set_option maxHeartbeats 2000000 in
theorem down_any (w : World) (N base : Nat) (v : Value) (xs : List Int) (n : Nat) (h : PlAt w N base v xs) (hnx : n ≤ xs.length) (hx0 : 0 < xs.length) (hn : xs.length ≤ 100000) :
    Calls Try.prog 32 #[.iface 50 (.pointer (some ⟨N, 0, none⟩)), .int .i64 0, .int .i64 n] w (DownPost w N base v xs) := by
  obtain ⟨g, cap, rfl, hbg, hgw⟩ := h.own.form hx0
  have hh := Lib.hid h
  clear h
  go_enter Try.func32, Try.ntmps32
  go_wp2
  go_loopw [7] (fun iv wr => ∃ i : Nat, iv = .int .i64 i ∧ i < xs.length ∧ UpPost w N base (.slice (some ⟨g, 0, none⟩) xs.length cap) xs wr) (fun iv _ => xs.length - (intOf iv).toNat)
  case atStart => exact ⟨0, rfl, hx0, xs, List.Perm.refl _, hh.out, Mod.refl _ _⟩
  case round =>
    obtain ⟨i, rfl, hix, ys, hp, hpl, hmod⟩ := hrel
    have hlen : ys.length = xs.length := hp.length_eq
    have Hpl := Lib.hid hpl
    have hc := hpl.cell.cell
    have hmet := fun (F : Nat) => meth_less (w := wr) (N := N) (v := .slice (some ⟨g, 0, none⟩) xs.length cap) hc F
    have hmetk := fun (k F : Nat) => meth_less (w := wr.drewN k) (N := N) (v := .slice (some ⟨g, 0, none⟩) xs.length cap) hc F
    have hmes := fun (k F : Nat) => meth_swap (w := wr.drewN k) (N := N) (v := .slice (some ⟨g, 0, none⟩) xs.length cap) hc F
    have hnl := nil_less
    have hns := nil_swap
    clear hpl
    have hup : UpPost w N base (.slice (some ⟨g, 0, none⟩) xs.length cap) xs wr := ⟨ys, hp, Hpl.out, hmod⟩
    have Hup := Lib.hid hup
    clear hup
    by_cases hb : n ≤ 2 * i + 1
    · go_wp2_with fail
      go_ret
      exact ⟨_, rfl, Hup.out⟩
    · have hj1 : 2 * i + 1 < n := by omega
      clear hb
      have hown : wr.ownsRow base 3 1 (.slice (some ⟨g, 0, none⟩) xs.length cap) xs.length (iv ys) := by have := Hpl.out.own; rwa [hlen] at this
      have ci := hown.cellAt i (by omega)
      have c1 := hown.cellAt (2 * i + 1) (by omega)
      have ei : (iv ys)[i]? = some (.int .i64 (ys.getD i 0)) := by simp [iv, List.getD, show i < ys.length by omega]
      have e1 : (iv ys)[2 * i + 1]? = some (.int .i64 (ys.getD (2 * i + 1) 0)) := by simp [iv, List.getD, show 2 * i + 1 < ys.length by omega]
      rw [ei] at ci
      rw [e1] at c1
      clear ei e1
      have hsw1 := fun (k : Nat) (w' : World) ha ht => pl_swap' (w := wr) (w' := w') (n := n) hlen Hpl.out k i (2 * i + 1) (by omega) (by omega) ha ht
      have Hsw1 := Lib.hid hsw1
      clear hsw1
      have hmax : xs.length ≤ maxLen := by unfold maxLen; omega
      have hfr : ∀ k, wr.frozen? ⟨g, k, none⟩ = false := fun k => hown.frozenAt k
      obtain ⟨j1, hj1e⟩ : ∃ j1 : Nat, j1 = 2 * i + 1 := ⟨_, rfl⟩
      have hji : (2 * (i : Int) + 1) = (j1 : Int) := by omega
      have hjn : ¬ ((n : Int) ≤ (j1 : Int)) := by omega
      have hjp : ¬ ((j1 : Int) < 0) := by omega
      have hjb : i < j1 ∧ j1 < n := by omega
      obtain ⟨j2, hj2e, hj2b⟩ : ∃ j2 : Nat, ((j1 : Int) + 1) = j2 ∧ j2 = j1 + 1 := ⟨j1 + 1, by omega, rfl⟩
      rw [← hj1e] at c1 Hsw1
      have Hj1e := Lib.hid hj1e
      clear hj1e hj1
      obtain ⟨hb1, hb2⟩ := hjb
      by_cases h2 : j2 < n
      · have c2 := hown.cellAt j2 (by omega)
        have e2 : (iv ys)[j2]? = some (.int .i64 (ys.getD j2 0)) := by simp [iv, List.getD, show j2 < ys.length by omega]
        rw [e2] at c2
        clear e2
        have hsw2 := fun (k : Nat) (w' : World) ha ht => pl_swap' (w := wr) (w' := w') (n := n) hlen Hpl.out k i j2 (by omega) (by omega) ha ht
        have Hsw2 := Lib.hid hsw2
        clear hsw2
        have hb3 : i < j2 := by omega
        have Hj2b := Lib.hid hj2b
        clear hj2b
        generalize ys.getD i 0 = x at *
        generalize ys.getD j1 0 = y at *
        generalize ys.getD j2 0 = z at *
        cases hlt : decide (z < y) with
        | true =>
          go_wp2_with fail
          refine (less_any g 0 xs.length cap j2 j1 z y wr hmax (by omega) (by omega) (by rw [Nat.zero_add]; exact c2) (by rw [Nat.zero_add]; exact c1)).mono ?_
          rintro e w1 ⟨rfl, k1, rfl⟩
          rw [hlt]
          clear hlt
          have hjl : j2 < n := by omega
          have hij : i < j2 := by omega
          cases hlt2 : decide (z < x) with
          | false =>
            go_wp2_with fail
            refine (less_any g 0 xs.length cap j2 i z x (wr.drewN k1) hmax (by omega) (by omega) (by rw [Nat.zero_add]; exact c2) (by rw [Nat.zero_add]; exact ci)).mono ?_
            rintro e w1 ⟨rfl, k2, rfl⟩
            rw [hlt2]
            try rw [drewN_drewN]
            go_wp2_with fail
            go_ret
            exact ⟨_, rfl, (Hup.out.drewN (k1 + k2))⟩
          | true =>
            go_wp2_with fail
            refine (less_any g 0 xs.length cap j2 i z x (wr.drewN k1) hmax (by omega) (by omega) (by rw [Nat.zero_add]; exact c2) (by rw [Nat.zero_add]; exact ci)).mono ?_
            rintro e w1 ⟨rfl, k2, rfl⟩
            rw [hlt2]
            try rw [drewN_drewN]
            go_wp2_with fail
            refine (swap_any g 0 xs.length cap i j2 x z (wr.drewN (k1 + k2)) hmax (by omega) (by omega) (by rw [Nat.zero_add]; exact ci) (by rw [Nat.zero_add]; exact c2) hfr).mono ?_
            rintro e w2 ⟨rfl, ha, ht⟩
            simp only [Nat.zero_add] at ha
            have h2 := Hsw2.out _ _ ha ht
            go_wp2_with fail
            go_roundw
            case rel => exact ⟨j2, by first | rfl | (congr 1; omega) | (push_cast; rfl), by omega, UpPost.trans ((Hup.out.drewN (k1 + k2))) (by rw [hlen] at h2; exact h2) hp⟩
            case measure => simp [intOf]; omega
        | false =>
          go_wp2_with fail
          refine (less_any g 0 xs.length cap j2 j1 z y wr hmax (by omega) (by omega) (by rw [Nat.zero_add]; exact c2) (by rw [Nat.zero_add]; exact c1)).mono ?_
          rintro e w1 ⟨rfl, k1, rfl⟩
          rw [hlt]
          clear hlt
          have hjl : j1 < n := by omega
          have hij : i < j1 := by omega
          cases hlt2 : decide (y < x) with
          | false =>
            go_wp2_with fail
            refine (less_any g 0 xs.length cap j1 i y x (wr.drewN k1) hmax (by omega) (by omega) (by rw [Nat.zero_add]; exact c1) (by rw [Nat.zero_add]; exact ci)).mono ?_
            rintro e w1 ⟨rfl, k2, rfl⟩
            rw [hlt2]
            try rw [drewN_drewN]
            go_wp2_with fail
            go_ret
            exact ⟨_, rfl, (Hup.out.drewN (k1 + k2))⟩
          | true =>
            go_wp2_with fail
            refine (less_any g 0 xs.length cap j1 i y x (wr.drewN k1) hmax (by omega) (by omega) (by rw [Nat.zero_add]; exact c1) (by rw [Nat.zero_add]; exact ci)).mono ?_
            rintro e w1 ⟨rfl, k2, rfl⟩
            rw [hlt2]
            try rw [drewN_drewN]
            go_wp2_with fail
            refine (swap_any g 0 xs.length cap i j1 x y (wr.drewN (k1 + k2)) hmax (by omega) (by omega) (by rw [Nat.zero_add]; exact ci) (by rw [Nat.zero_add]; exact c1) hfr).mono ?_
            rintro e w2 ⟨rfl, ha, ht⟩
            simp only [Nat.zero_add] at ha
            have h2 := Hsw1.out _ _ ha ht
            go_wp2_with fail
            go_roundw
            case rel => exact ⟨j1, by first | rfl | (congr 1; omega) | (push_cast; rfl), by omega, UpPost.trans ((Hup.out.drewN (k1 + k2))) (by rw [hlen] at h2; exact h2) hp⟩
            case measure => simp [intOf]; omega
      · have Hj2b := Lib.hid hj2b
        clear hj2b
        generalize ys.getD i 0 = x at *
        generalize ys.getD j1 0 = y at *
        have hjl : j1 < n := by omega
        have hij : i < j1 := by omega
        cases hlt2 : decide (y < x) with
        | false =>
          go_wp2_with fail
          refine (less_any g 0 xs.length cap j1 i y x (wr) hmax (by omega) (by omega) (by rw [Nat.zero_add]; exact c1) (by rw [Nat.zero_add]; exact ci)).mono ?_
          rintro e w1 ⟨rfl, k2, rfl⟩
          rw [hlt2]
          try rw [drewN_drewN]
          go_wp2_with fail
          go_ret
          exact ⟨_, rfl, (Hup.out.drewN k2)⟩
        | true =>
          go_wp2_with fail
          refine (less_any g 0 xs.length cap j1 i y x (wr) hmax (by omega) (by omega) (by rw [Nat.zero_add]; exact c1) (by rw [Nat.zero_add]; exact ci)).mono ?_
          rintro e w1 ⟨rfl, k2, rfl⟩
          rw [hlt2]
          try rw [drewN_drewN]
          go_wp2_with fail
          refine (swap_any g 0 xs.length cap i j1 x y (wr.drewN k2) hmax (by omega) (by omega) (by rw [Nat.zero_add]; exact ci) (by rw [Nat.zero_add]; exact c1) hfr).mono ?_
          rintro e w2 ⟨rfl, ha, ht⟩
          simp only [Nat.zero_add] at ha
          have h2 := Hsw1.out _ _ ha ht
          go_wp2_with fail
          go_roundw
          case rel => exact ⟨j1, by first | rfl | (congr 1; omega) | (push_cast; rfl), by omega, UpPost.trans ((Hup.out.drewN k2)) (by rw [hlen] at h2; exact h2) hp⟩
          case measure => simp [intOf]; omega

end Go.Proofs.Ytfphlkoneocejaa
