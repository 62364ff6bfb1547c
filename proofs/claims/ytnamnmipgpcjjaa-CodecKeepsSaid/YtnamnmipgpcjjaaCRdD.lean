/- Acts as bytes: lists of numbers. -/
import Derived.Test.YtnamnmipgpcjjaaCMem
import Derived.Deep.OwnShut
namespace Go.Gou
open Go.RowKit

def listAt (bs : List Nat) (n : Nat) : Option (List Int × Nat) := (withinAt bs n 0 100).bind fun p => timesAt (numAt bs) p.2 p.1.toNat

theorem withinAt_bounds {bs : List Nat} {n : Nat} {lo hi x : Int} {m : Nat} (h : withinAt bs n lo hi = some (x, m)) : lo ≤ x ∧ x ≤ hi := by
  unfold withinAt at h
  split at h
  · split at h
    · rename_i _ hb
      simp only [Option.some.injEq, Prod.mk.injEq] at h
      obtain ⟨rfl, _⟩ := h
      exact hb
    · cases h
  · cases h

theorem ownsRow_far {w w' : World} {base base' : Nat} {e : TypeId} {k : Nat} {v : Value} {n : Nat} {xs : List Value} {R : Nat} (h : w.ownsRow base e k v n xs) (hm : Mod (fun k => k = R) w w') (hR : R < base) : w'.ownsRow base e k v n xs :=
  ownsRow_mod h hm fun b hb e => by have := (h.lt b hb).1; omega

theorem Mod.grown {w w1 w2 : World} {S : Nat → Prop} {base : Nat} {e : TypeId} {k : Nat} {v : Value} {n : Nat} {xs : List Value} (h : Mod S w w1) (ho : w1.ownsRow base e k v n xs) (hg : w1.grownBy w2 v.ownBlock) (hb : w.heap.size ≤ base) : Mod S w w2 :=
  h.trans (Mod.of_grown hg) fun i hi hs => by have := (ho.lt i hs).1; omega

theorem RdAt.grown {w w1 w2 : World} {R : Nat} {vb : Value} {bs : List Nat} {n q : Nat} (H : RdAt w R vb bs n) (h1 : RdAt w1 R vb bs q) (hm : Mod (fun k => k = R) w w1) {base : Nat} {e : TypeId} {k : Nat} {v : Value} {c : Nat} {xs : List Value} (ho : w1.ownsRow base e k v c xs)
    (hg : w1.grownBy w2 v.ownBlock) (hb : w.heap.size ≤ base) : RdAt w2 R vb bs q :=
  have hne : v.ownBlock ≠ some R := fun hR => by have := (ho.lt R hR).1; have := H.lt; omega
  H.over (hm.grown ho hg hb) h1 (fun o => hg.cell_far ⟨R, o, none⟩ (by have := h1.lt; simpa using this) (fun e => hne e.symm)) (hg.frozen_far ⟨R, 1, none⟩ (by have := h1.lt; simpa using this) (fun e => hne e.symm))

end Go.Gou
namespace Go.Proofs.Ytnamnmipgpcjjaa
open Go.RowKit Go.Gou

theorem info_int : (Try.prog.info? 3).map (fun i => (i.zero, i.size, i.bytes)) = some (some (.int .i64 0), 1, 8) := by kernel_rfl

def IsInts (B : Nat) (w : World) (v : Value) (xs : List Int) : Prop := IntsR (fun b => B ≤ b) w v xs

/-- On the way through a list. -/
structure ListC (w : World) (R : Nat) (vb : Value) (bs : List Nat) (m0 : Nat) (j : Nat) (xs : List Int) (m : Nat) (v : Value) (wr : World) : Prop where
  at_ : timesAt (numAt bs) m0 j = some (xs, m)
  len : xs.length = j
  own : wr.ownsRow w.heap.size 3 1 v j (ivs xs)
  rd : RdAt wr R vb bs m
  mod : Mod (fun k => k = R) w wr

set_option maxRecDepth 100000 in
set_option maxHeartbeats 4000000 in
theorem list_any (w : World) (R : Nat) (vb : Value) (bs : List Nat) (n : Nat) (h : RdAt w R vb bs n) :
    Calls Try.prog 72 #[.pointer (some ⟨R, 0, none⟩)] w (RdP w R vb bs (IsInts w.heap.size) (listAt bs n)) := by
  have H := Lib.hid h
  have hR := h.lt
  clear h
  obtain ⟨i0, hi0, hz0, hz1, hz2⟩ := info_parts info_int
  go_enter Try.func72, Try.ntmps72
  go_wp2_with fail
  refine (within_any _ R vb bs n 0 100 H.out).mono ?_
  intro e w1 h1
  cases hn : withinAt bs n 0 100 with
  | none =>
    rw [hn] at h1
    obtain ⟨rfl, h2⟩ := h1.fault (J := IsInts w.heap.size) (res := listAt bs n) (Mod.refl _ _) (by unfold listAt; rw [hn]; rfl)
    exact ⟨rfl, h2⟩
  | some p =>
    obtain ⟨x, m0⟩ := p
    have hb := withinAt_bounds hn
    obtain ⟨k, rfl⟩ : ∃ k : Nat, x = (k : Int) := ⟨x.toNat, by omega⟩
    have hk : k ≤ 100 := by omega
    have hres : Hid (listAt bs n = timesAt (numAt bs) m0 k) := Lib.hid (by unfold listAt; rw [hn]; rfl)
    rw [hn] at h1
    obtain ⟨hm1, _, rfl, rfl, hr1⟩ := h1
    have Hr1 := Lib.hid hr1
    have Hm1 := Lib.hid hm1
    clear hn hb hr1 hm1
    go_wp2_with fail
    go_loopw [3, 4] (fun v c wr => ∃ (j : Nat) (xs : List Int) (m : Nat), c = .int .i64 ((k : Int) - (j : Int)) ∧ j ≤ k ∧ ListC w R vb bs m0 j xs m v wr) (fun _ c _ => (intOf c).toNat)
    case atStart => exact ⟨0, [], m0, by simp, by omega, rfl, rfl, World.ownsRow_nil _ _ _ _, Hr1.out, Hm1.out⟩
    case round =>
      obtain ⟨j, xs, m, rfl, hj, hc⟩ := hrel
      obtain ⟨p0, c0, rfl⟩ := ownsRow_form hc.own
      have Hc := Lib.hid hc
      clear hc
      by_cases hjk : j < k
      · have e1 : decide ((0 : Int) < (k : Int) - (j : Int)) = true := by simp; omega
        go_wp2_with fail
        refine (number_any _ R vb bs m Hc.out.rd).mono ?_
        intro e w2 h2
        cases hn : numAt bs m with
        | none =>
          rw [hn] at h2
          have hnone : timesAt (numAt bs) m0 k = none := timesAt_none (k := j) (by rw [timesAt, Hc.out.at_]; simp only [hn]) (by omega)
          obtain ⟨rfl, h3⟩ := h2.fault (J := IsInts w.heap.size) (res := listAt bs n) Hc.out.mod (hres.out.trans hnone)
          exact ⟨rfl, h3⟩
        | some p =>
          obtain ⟨x, q⟩ := p
          rw [hn] at h2
          obtain ⟨hm2, _, rfl, rfl, hr2⟩ := h2
          have hown := ownsRow_far (base' := 0) Hc.out.own hm2 hR
          have hx2 : Hid (timesAt (numAt bs) m0 (j + 1) = some (xs ++ [x], q)) := Lib.hid (by rw [timesAt, Hc.out.at_]; simp only [hn])
          have Hr2 := Lib.hid hr2
          have Hm2 := Lib.hid (Hc.out.mod.trans' hm2)
          have hlen := Hc.out.len
          have hsz : w.heap.size ≤ w2.heap.size := Hm2.out.size
          have Hown := Lib.hid (hown.alloc (.cells #[.int .i64 x] 3))
          clear hn hr2 hm2
          go_wp2_with (at_builtin; go_loud (refine wpList_append_lies _ rfl _ _ 72 rfl w.heap.size 3 i0 (.int .i64 0) 1 8 Try.underlying72 hi0 hz0 hz1 hz2 rfl (by omega) (.slice p0 j c0) j (ivs xs) rfl Hown.out ⟨w2.heap.size, 0, none⟩ 1 1 [.int .i64 x] rfl rfl (cell_one_new _ _ _) (by simp [Value.oneCell']) (by omega) (by unfold maxLen; omega) (by omega) (by simp; omega) (w2.heap.size + 1) (by simp) ?_))
          intro gg cp w3 hown3 hgrow3 hat3 hlt3
          have hC : ListC w R vb bs m0 (j + 1) (xs ++ [x]) q (.slice (some ⟨gg, 0, none⟩) (j + 1) cp) w3 :=
            ⟨hx2.out, by simp [hlen], by simpa using hown3, H.out.grown (Hr2.out.alloc _) (Hm2.out.trans' (Mod.alloc _ _ _)) Hown.out hgrow3 (Nat.le_refl _), (Hm2.out.trans' (Mod.alloc _ _ _)).grown Hown.out hgrow3 (Nat.le_refl _)⟩
          have HC := Lib.hid hC
          clear hown3 hgrow3 hat3 hlt3 hC Hown hown
          go_wp2_with fail
          go_roundw
          case rel => exact ⟨j + 1, xs ++ [x], q, by go_num, by omega, HC.out⟩
          case measure => simp [intOf]; omega
      · obtain rfl : j = k := by omega
        have e1 : decide ((0 : Int) < (j : Int) - (j : Int)) = false := by simp
        go_wp2_with fail
        go_ret
        rw [hres.out, Hc.out.at_]
        refine ⟨Hc.out.mod, _, rfl, ?_, Hc.out.rd⟩
        show RowG _ _ 1 (.slice p0 j c0) xs.length _
        rw [Hc.out.len]
        exact RowG.of_own Hc.out.own

end Go.Proofs.Ytnamnmipgpcjjaa
