/- Acts as bytes: the reader's ground: must, raw. -/
import Derived.Test.YtnamnmipgpcjjaaMod
import Derived.WalkMore
import Derived.Deep.RegionHeld3
import Derived.Deep.RegionWith
import Derived.StillTailTactics
import Derived.Test.YtnamnmipgpcjjaaRows
import Derived.Test.YtnamnmipgpcjjaaProg
namespace Go.Gou
open Go.RowKit

/-- A slice value that reads as bytes, in blocks that are good. -/
def BytesAt (G : Nat → Prop) (w : World) (v : Value) (bs : List Nat) : Prop :=
  ∃ (p : Option Addr) (cap : Nat), v = .slice p bs.length cap ∧ bs.length ≤ cap ∧ (bs = [] ∨ ∃ b o, p = some ⟨b, o, none⟩ ∧ b < w.heap.size ∧ G b ∧
    ∀ i, (h : i < bs.length) → w.cell? ⟨b, o + i, none⟩ = some (.int .u8 bs[i]))

theorem BytesAt.mod {G S : Nat → Prop} {w w' : World} {v : Value} {bs : List Nat} (h : BytesAt G w v bs) (hm : Mod S w w') (hS : ∀ k, k < w.heap.size → G k → ¬ S k) : BytesAt G w' v bs := by
  obtain ⟨p, cap, rfl, hcap, h⟩ := h
  refine ⟨p, cap, rfl, hcap, h.imp id ?_⟩
  rintro ⟨b, o, rfl, hB, hG, hc⟩
  exact ⟨b, o, rfl, Nat.lt_of_lt_of_le hB hm.size, hG, fun i hi => by rw [hm.cell (p := ⟨b, o + i, none⟩) hB (hS b hB hG)]; exact hc i hi⟩

theorem BytesAt.len {G : Nat → Prop} {w : World} {v : Value} {bs : List Nat} (h : BytesAt G w v bs) : ∃ p cap, v = .slice p bs.length cap := by
  obtain ⟨p, cap, rfl, _⟩ := h
  exact ⟨p, cap, rfl⟩

theorem BytesAt.cells {G : Nat → Prop} {w : World} {v : Value} {bs : List Nat} (h : BytesAt G w v bs) (h0 : 0 < bs.length) :
    ∃ b o cap, v = .slice (some ⟨b, o, none⟩) bs.length cap ∧ bs.length ≤ cap ∧ b < w.heap.size ∧ G b ∧ ∀ i, i < bs.length → w.cell? ⟨b, o + i, none⟩ = some (.int .u8 (bs.getD i 0 : Nat)) := by
  obtain ⟨p, cap, rfl, hcap, h⟩ := h
  rcases h with rfl | ⟨b, o, rfl, hb, hG, hc⟩
  · simp at h0
  · exact ⟨b, o, cap, rfl, hcap, hb, hG, fun i hi => by rw [hc i hi]; simp [List.getD, hi]⟩

/-- The reader's box R: what is read, and the place. -/
structure RdAt (w : World) (R : Nat) (vb : Value) (bs : List Nat) (at_ : Nat) : Prop where
  c0 : w.cell? ⟨R, 0, none⟩ = some vb
  c1 : w.cell? ⟨R, 1, none⟩ = some (.int .i64 at_)
  f1 : w.frozen? ⟨R, 1, none⟩ = false
  bytes : BytesAt (fun k => k ≠ R) w vb bs
  le : at_ ≤ bs.length
  byte : ∀ x ∈ bs, x < 256
  len : bs.length ≤ maxLen

theorem RdAt.lt {w : World} {R : Nat} {vb : Value} {bs : List Nat} {n : Nat} (h : RdAt w R vb bs n) : R < w.heap.size := by
  rcases Nat.lt_or_ge R w.heap.size with h' | h'
  · exact h'
  · have := h.c0
    simp [World.cell?, Array.getElem?_eq_none h'] at this

theorem RdAt.mod {S : Nat → Prop} {w w' : World} {R : Nat} {vb : Value} {bs : List Nat} {n : Nat} (h : RdAt w R vb bs n) (hm : Mod S w w') (hR : ¬ S R) (hS : ∀ k, k < w.heap.size → k ≠ R → ¬ S k) : RdAt w' R vb bs n :=
  ⟨by rw [hm.cell (p := ⟨R, 0, none⟩) h.lt hR]; exact h.c0, by rw [hm.cell (p := ⟨R, 1, none⟩) h.lt hR]; exact h.c1, by rw [hm.frozen (p := ⟨R, 1, none⟩) h.lt hR]; exact h.f1, h.bytes.mod hm hS, h.le, h.byte, h.len⟩

theorem RdAt.setAt {w : World} {R : Nat} {vb : Value} {bs : List Nat} {n : Nat} (h : RdAt w R vb bs n) (m : Nat) (hm : m ≤ bs.length) : RdAt (w.setCell ⟨R, 1, none⟩ (.int .i64 m)) R vb bs m :=
  ⟨by rw [World.cell?_setCell_other _ _ _ _ (by simp)]; exact h.c0, World.cell?_setCell_same (u := .int .i64 n) w _ _ h.c1, by rw [World.frozen?_setCell]; exact h.f1,
    h.bytes.mod (Mod.setCell _ _ _) (fun _ _ h => h), hm, h.byte, h.len⟩

end Go.Gou

namespace Go.Proofs.Ytnamnmipgpcjjaa
open Go.RowKit Go.Gou

/-- The chain of a panic that 'must' throws. -/
abbrev faultC : List PanicEntry := [{ v := .iface 84 (.agg #[]), recovered := false }]

theorem must_true (w : World) : Calls Try.prog 22 #[.bool true] w fun e w' => e = .returned (.tuple #[]) ∧ w' = w := by
  go_enter Try.func22, Try.ntmps22
  go_wp2
  go_end0
  exact ⟨rfl, rfl⟩

theorem must_false (w : World) : Calls Try.prog 22 #[.bool false] w fun e w' => e = .panicked faultC ∧ w' = w := by
  go_enter Try.func22, Try.ntmps22
  go_wp2
  exact ⟨rfl, rfl, rfl⟩

set_option maxRecDepth 100000 in
theorem raw_none (w : World) (R : Nat) (vb : Value) (bs : List Nat) (h : RdAt w R vb bs bs.length) :
    Calls Try.prog 34 #[.pointer (some ⟨R, 0, none⟩)] w fun e w' => e = .panicked faultC ∧ RdAt w' R vb bs bs.length ∧ Mod (fun k => k = R) w w' := by
  have H := Lib.hid h
  obtain ⟨p, cap, rfl⟩ := h.bytes.len
  obtain ⟨c0, c1, f1, _, _, _, hl⟩ := h
  unfold maxLen at hl
  go_enter Try.func34, Try.ntmps34
  go_wp2_with fail
  have hd : decide ((bs.length : Int) < (bs.length : Int)) = false := by simp
  go_still_tail 10, (by kernel_rfl)
  change wpList _ _ _ _ _ w.drew
  have Hd := Lib.hid (H.out.mod (Mod.drew (fun _ => False) w) (fun h => h) (fun _ _ _ h => h))
  have Hm := Lib.hid (Mod.drew (fun k => k = R) w)
  generalize w.drew = w2 at *
  clear H c0 c1 f1
  go_wp2_with (first | (go_at_call 22; refine (must_false _).mono ?_; rintro e w' ⟨rfl, rfl⟩))
  exact ⟨rfl, rfl, Hd.out, Hm.out⟩

theorem raw_some (w : World) (R : Nat) (vb : Value) (bs : List Nat) (n : Nat) (h : RdAt w R vb bs n) (hn : n < bs.length) :
    Calls Try.prog 34 #[.pointer (some ⟨R, 0, none⟩)] w fun e w' => e = .returned (.int .u8 (bs.getD n 0 : Nat)) ∧ RdAt w' R vb bs (n + 1) ∧ Mod (fun k => k = R) w w' := by
  have H := Lib.hid h
  obtain ⟨b, o, cap, rfl, hcap, hb, hG, hc⟩ := h.bytes.cells (by omega)
  obtain ⟨c0, c1, f1, _, _, hby, hl⟩ := h
  unfold maxLen at hl
  have hx := hc n hn
  have hnI : (n : Int) < (bs.length : Int) := by omega
  have hd : decide ((n : Int) < (bs.length : Int)) = true := by simp [hnI]
  clear hc
  go_enter Try.func34, Try.ntmps34
  go_wp2_with fail
  go_quiet (first | (go_at_call 22; exact Calls.quiet_of_same (must_true _)))
  obtain ⟨nq1, rfl⟩ : ∃ q : Nat, q = nq := ⟨_, rfl⟩
  go_wp2_with fail
  have hs1 : IntKind.i64.wrap ((n : Int) + 1 - 1) = n := by
    have : (n : Int) + 1 - 1 = n := by omega
    rw [this]
    exact IntWalk.i64_in _ (by omega)
  go_quiet (fail)
  go_wp2_with fail
  go_ret
  refine ⟨by simp [List.getD, hn], ?_, ?_⟩
  · have h1 := ((H.out.mod (Mod.drewN (fun _ => False) w nq1) (fun h => h) (fun _ _ _ h => h)).setAt (n + 1) (by omega)).mod (Mod.drewN (fun _ => False) _ nq) (fun h => h) (fun _ _ _ h => h)
    simpa using h1
  · exact (((Mod.drewN (fun _ => False) w nq1).imp fun _ _ h => h.elim).trans' (Mod.setCell (w.drewN nq1) ⟨R, 1, none⟩ _)).trans (Mod.drewN (fun _ => False) _ nq) fun _ _ h => h.elim

end Go.Proofs.Ytnamnmipgpcjjaa
