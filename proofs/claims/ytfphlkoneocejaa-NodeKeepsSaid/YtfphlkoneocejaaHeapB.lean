/- The heap of places: up, down, Push and Pop. -/
import Derived.Test.YtfphlkoneocejaaHeapA
namespace Go.Proofs.Ytfphlkoneocejaa
open Go.RowKit Go.Gou

/-- Behind a swap: the same row, two of its numbers in each other's place. -/
theorem swap_perm (xs : List Int) (i j : Nat) (hi : i < xs.length) (hj : j < xs.length) : ((xs.set i (xs.getD j 0)).set j (xs.getD i 0)).Perm xs := by
  have ei : xs.getD i 0 = xs[i] := by simp [List.getD, hi]
  have ej : xs.getD j 0 = xs[j] := by simp [List.getD, hj]
  rw [ei, ej]
  rw [List.perm_iff_count]
  intro a
  rw [List.count_set (by simpa using hj), List.count_set hi]
  by_cases e : i = j
  · subst e
    simp
    have : xs[i] = a → 0 < xs.count a := fun h => List.count_pos_iff.2 (h ▸ List.getElem_mem hi)
    split <;> simp_all <;> omega
  · rw [List.getElem_set_ne e]
    have h1 : xs[i] = a → 0 < xs.count a := fun h => List.count_pos_iff.2 (h ▸ List.getElem_mem hi)
    have h2 : xs[j] = a → 0 < xs.count a := fun h => List.count_pos_iff.2 (h ▸ List.getElem_mem hj)
    by_cases ha : xs[i] = a <;> by_cases hb : xs[j] = a <;> simp [ha, hb] <;> first | (have := h1 ha; omega) | (have := h2 hb; omega) | omega

def UpPost (w : World) (N base : Nat) (v : Value) (xs : List Int) (w' : World) : Prop :=
  ∃ ys : List Int, ys.Perm xs ∧ PlAt w' N base v ys ∧ Mod (fun k => v.ownBlock = some k) w w'

theorem iv_set (xs : List Int) (i : Nat) (x : Int) : iv (xs.set i x) = (iv xs).set i (.int .i64 x) := by simp [iv, List.map_set]

theorem pl_swap {w w' : World} {N base g cap : Nat} {xs : List Int} (h : PlAt w N base (.slice (some ⟨g, 0, none⟩) xs.length cap) xs) (i j : Nat) (hi : i < xs.length) (hj : j < xs.length)
    (ha : w'.Alike ((w.setCell ⟨g, i, none⟩ (.int .i64 (xs.getD j 0))).setCell ⟨g, j, none⟩ (.int .i64 (xs.getD i 0)))) (ht : w'.tape = w.tape) :
    UpPost w N base (.slice (some ⟨g, 0, none⟩) xs.length cap) xs w' := by
  have hg : g ≠ N := fun e => h.apart (by rw [e]; rfl)
  obtain ⟨s1, _⟩ := h.own.stored i (.int .i64 (xs.getD j 0))
  obtain ⟨s2, _⟩ := s1.stored j (.int .i64 (xs.getD i 0))
  have hm : Mod (fun k => (Value.slice (some ⟨g, 0, none⟩) xs.length cap).ownBlock = some k) w ((w.setCell ⟨g, i, none⟩ (.int .i64 (xs.getD j 0))).setCell ⟨g, j, none⟩ (.int .i64 (xs.getD i 0))) :=
    ((Mod.setCell w ⟨g, i, none⟩ _).imp (fun k _ hk => by subst hk; rfl)).trans (Mod.setCell _ _ _) (fun k _ hk => by subst hk; rfl)
  have hal : Mod (fun _ => False) ((w.setCell ⟨g, i, none⟩ (.int .i64 (xs.getD j 0))).setCell ⟨g, j, none⟩ (.int .i64 (xs.getD i 0))) w' := by
    exact Mod.of_alike ha ht
  refine ⟨_, swap_perm xs i j hi hj, ⟨?_, ?_, h.apart⟩, hm.trans hal fun _ _ h => h.elim⟩
  · exact (h.cell.mod hm (fun e => h.apart e)).mod hal (fun h => h)
  · have := ownsRow_mod s2 hal (fun _ _ h => h)
    simpa [iv_set] using this

theorem PlAt.drewN {w : World} {N base : Nat} {v : Value} {xs : List Int} (h : PlAt w N base v xs) (k : Nat) : PlAt (w.drewN k) N base v xs :=
  ⟨h.cell.mod (Mod.drewN (fun _ => False) w k) (fun h => h), ownsRow_mod h.own (Mod.drewN (fun _ => False) w k) (fun _ _ h => h), h.apart⟩

theorem UpPost.trans {w w1 w2 : World} {N base : Nat} {v : Value} {xs ys : List Int} (h1 : UpPost w N base v xs w1) (h2 : UpPost w1 N base v ys w2) (hp : ys.Perm xs) : UpPost w N base v xs w2 := by
  obtain ⟨_, _, _, hm1⟩ := h1
  obtain ⟨zs, hp2, hpl2, hm2⟩ := h2
  exact ⟨zs, hp2.trans hp, hpl2, hm1.trans' hm2⟩

theorem UpPost.drewN {w w' : World} {N base : Nat} {v : Value} {xs : List Int} (h : UpPost w N base v xs w') (k : Nat) : UpPost w N base v xs (w'.drewN k) := by
  obtain ⟨ys, hp, hpl, hm⟩ := h
  exact ⟨ys, hp, hpl.drewN k, hm.trans (Mod.drewN (fun _ => False) w' k) fun _ _ h => h.elim⟩

set_option maxHeartbeats 1000000 in
theorem up_any (w : World) (N base : Nat) (v : Value) (xs : List Int) (j : Nat) (h : PlAt w N base v xs) (hj : j < xs.length) (hn : xs.length ≤ 100000) :
    Calls Try.prog 31 #[.iface 50 (.pointer (some ⟨N, 0, none⟩)), .int .i64 j] w fun e w' => e = .returned (.tuple #[]) ∧ UpPost w N base v xs w' := by
  have hn0 : 0 < xs.length := by omega
  obtain ⟨g, cap, rfl, hbg, hgw⟩ := h.own.form hn0
  have hh := Lib.hid h
  clear h
  go_enter Try.func31, Try.ntmps31
  go_wp2
  go_loopw [1] (fun jv wr => ∃ j' : Nat, jv = .int .i64 j' ∧ j' < xs.length ∧ UpPost w N base (.slice (some ⟨g, 0, none⟩) xs.length cap) xs wr) (fun jv _ => (intOf jv).toNat)
  case atStart => exact ⟨j, rfl, hj, xs, List.Perm.refl _, hh.out, Mod.refl _ _⟩
  case round =>
    obtain ⟨j', rfl, hj', ys, hp, hpl, hmod⟩ := hrel
    have hlen : ys.length = xs.length := hp.length_eq
    have Hpl := Lib.hid hpl
    have hc := hpl.cell.cell
    have hmet := meth_less hc
    have hmes := fun (k F : Nat) => meth_swap (w := wr.drewN k) (N := N) (v := .slice (some ⟨g, 0, none⟩) xs.length cap) hc F
    have hnl := nil_less
    have hns := nil_swap
    clear hpl
    have hup : UpPost w N base (.slice (some ⟨g, 0, none⟩) xs.length cap) xs wr := ⟨ys, hp, Hpl.out, hmod⟩
    have Hup := Lib.hid hup
    clear hup
    by_cases h0 : j' = 0
    · subst h0
      go_wp2_with fail
      go_end0
      exact ⟨rfl, Hup.out⟩
    · obtain ⟨i, hi, hij⟩ : ∃ i : Nat, ((j' : Int) - 1) / 2 = i ∧ i < j' := ⟨(j' - 1) / 2, by omega, by omega⟩
      have hne : ((i : Int) == (j' : Int)) = false := by simp; omega
      have hown : wr.ownsRow base 3 1 (.slice (some ⟨g, 0, none⟩) xs.length cap) xs.length (iv ys) := by have := Hpl.out.own; rwa [hlen] at this
      have ci := hown.cellAt i (by omega)
      have cj := hown.cellAt j' (by omega)
      have ei : (iv ys)[i]? = some (.int .i64 (ys.getD i 0)) := by simp [iv, List.getD, show i < ys.length by omega]
      have ej : (iv ys)[j']? = some (.int .i64 (ys.getD j' 0)) := by simp [iv, List.getD, show j' < ys.length by omega]
      rw [ei] at ci
      rw [ej] at cj
      clear ei ej
      have hsw := fun (k : Nat) (w' : World) (ha : w'.Alike (((wr.drewN k).setCell ⟨g, i, none⟩ (.int .i64 (ys.getD j' 0))).setCell ⟨g, j', none⟩ (.int .i64 (ys.getD i 0)))) (ht : w'.tape = (wr.drewN k).tape) =>
        pl_swap (w := wr.drewN k) (xs := ys) (g := g) (cap := cap) (by rw [hlen]; exact Hpl.out.drewN k) i j' (by omega) (by omega) ha ht
      have Hsw := Lib.hid hsw
      clear hsw
      generalize ys.getD i 0 = x at *
      generalize ys.getD j' 0 = y at *
      have hmax : xs.length ≤ maxLen := by unfold maxLen; omega
      have hfr : ∀ k, wr.frozen? ⟨g, k, none⟩ = false := fun k => hown.frozenAt k
      cases hlt : decide (y < x) with
      | false =>
        go_wp2_with fail
        refine (less_any g 0 xs.length cap j' i y x wr hmax (by omega) (by omega) (by rw [Nat.zero_add]; exact cj) (by rw [Nat.zero_add]; exact ci)).mono ?_
        rintro e w1 ⟨rfl, k, rfl⟩
        rw [hlt]
        go_wp2_with fail
        go_end0
        exact ⟨rfl, Hup.out.drewN k⟩
      | true =>
        go_wp2_with fail
        refine (less_any g 0 xs.length cap j' i y x wr hmax (by omega) (by omega) (by rw [Nat.zero_add]; exact cj) (by rw [Nat.zero_add]; exact ci)).mono ?_
        rintro e w1 ⟨rfl, k, rfl⟩
        rw [hlt]
        go_wp2_with fail
        refine (swap_any g 0 xs.length cap i j' x y (wr.drewN k) hmax (by omega) (by omega) (by rw [Nat.zero_add]; exact ci) (by rw [Nat.zero_add]; exact cj) hfr).mono ?_
        rintro e w2 ⟨rfl, ha, ht⟩
        simp only [Nat.zero_add] at ha
        have h2 := Hsw.out _ _ ha ht
        go_wp2_with fail
        go_roundw
        case rel => exact ⟨i, rfl, by omega, UpPost.trans (Hup.out.drewN k) (by rw [hlen] at h2; exact h2) hp⟩
        case measure => simp [intOf]; omega

end Go.Proofs.Ytfphlkoneocejaa
