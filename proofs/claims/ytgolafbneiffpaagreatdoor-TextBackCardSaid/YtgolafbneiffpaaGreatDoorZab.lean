/- Texts of the scenes' proofs, laid together: CRdF, CRdG, CRdH. -/
import Derived.Test.YtgolafbneiffpaaGreatDoorZaa
import Derived.Deep.RegionLawGrows
set_option maxHeartbeats 64000000
set_option linter.unusedSimpArgs false
set_option linter.unusedVariables false
set_option linter.unusedSectionVars false
set_option linter.constructorNameAsVariable false
namespace Go.Gou
open Go.RowKit
theorem Loc.own {w : World} {R : Nat} {vb : Value} {bs : List Nat} {T : TypeId} {N L : Nat} {z cs : Array Value} {m : Nat} {wr : World} (h : Loc w R vb bs T N L z cs m wr) (p : Addr) (u : Value) (hp : w.heap.size ≤ p.block) (hN : N ≠ p.block) (hL : L ≠ p.block) :
  Loc w R vb bs T N L z cs m (wr.setCell p u) := by
 obtain ⟨n, hn⟩ := h.old
 exact ⟨h.old, hn.own h.rd h.mod _ _ hp, h.mod.own _ _ hp, h.hN, h.hL, h.ne, h.res.mod (Mod.setCell _ _ _) hN, h.loc.mod (Mod.setCell _ _ _) hL⟩
theorem Loc.alloc {w : World} {R : Nat} {vb : Value} {bs : List Nat} {T : TypeId} {N L : Nat} {z cs : Array Value} {m : Nat} {wr : World} (h : Loc w R vb bs T N L z cs m wr) (o : Obj) : Loc w R vb bs T N L z cs m (wr.alloc o) :=
 h.step (Mod.alloc _ _ _) (h.rd.alloc _)
theorem Loc.grown {w : World} {R : Nat} {vb : Value} {bs : List Nat} {T : TypeId} {N L : Nat} {z cs : Array Value} {m : Nat} {wr w2 : World} (h : Loc w R vb bs T N L z cs m wr) {base : Nat} {e : TypeId} {k : Nat} {v : Value} {c : Nat} {xs : List Value}
  (ho : wr.ownsRow base e k v c xs) (hg : wr.grownBy w2 v.ownBlock) (hb : w.heap.size ≤ base) (hN : v.ownBlock ≠ some N) (hL : v.ownBlock ≠ some L) : Loc w R vb bs T N L z cs m w2 := by
 obtain ⟨n, hn⟩ := h.old
 exact ⟨h.old, hn.grown h.rd h.mod ho hg hb, h.mod.grown ho hg hb, h.hN, h.hL, h.ne, h.res.mod (Mod.of_grown hg) hN, h.loc.mod (Mod.of_grown hg) hL⟩
def upl (B N L : Nat) (v : Value) (k : Nat) : Prop := B ≤ k ∧ k ≠ N ∧ k ≠ L ∧ v.ownBlock ≠ some k
structure GrIn (w : World) (R : Nat) (vb : Value) (bs : List Nat) (T TN : TypeId) (N L : Nat) (z : Array Value) (out : Int) (m0 j : Nat) (ns : List ubb) (q : Nat) (vs : Value) (cs : List Value) (wr : World) : Prop where
 loc : Loc w R vb bs T N L z #[vs, iV out] q wr
 own : wr.ownsRow w.heap.size TN 3 vs j cs
 nodes : NodeC (upl w.heap.size N L vs) wr cs ns
 at_ : ukh (umt bs) m0 j = some (ns, q)
 len : ns.length = j
 neN : vs.ownBlock ≠ some N
 neL : vs.ownBlock ≠ some L
theorem GrIn.step {w : World} {R : Nat} {vb : Value} {bs : List Nat} {T TN : TypeId} {N L : Nat} {z : Array Value} {out : Int} {m0 j : Nat} {ns : List ubb} {q : Nat} {vs : Value} {cs : List Value} {wr : World} (h : GrIn w R vb bs T TN N L z out m0 j ns q vs cs wr)
  {w2 w4 w6 w9 : World} {op : Int} {is ps : List Int} {q1 q2 q3 gg cp : Nat} {vi vp x0 : Value} {o o2 : Obj} (hm2 : Mod (fun k => k = R) wr w2) (hr2 : RdAt w2 R vb bs q1)
  (hm4 : Mod (fun k => k = R) (w2.alloc o) w4) (hr4 : RdAt w4 R vb bs q2) (hi : IntsR (fun k => (w2.alloc o).heap.size ≤ k) w4 vi is)
  (hm6 : Mod (fun k => k = R) (w4.setCell ⟨w2.heap.size, 1, none⟩ vi) w6) (hr6 : RdAt w6 R vb bs q3) (hp : IntsR (fun k => (w4.setCell ⟨w2.heap.size, 1, none⟩ vi).heap.size ≤ k) w6 vp ps)
  (hx0 : x0 = iV op)
  (hown : w9.ownsRow w.heap.size TN 3 (.slice (some ⟨gg, 0, none⟩) (j + 1) cp) (j + 1) (cs ++ [x0, vi, vp]))
  (hgrow : ((w6.setCell ⟨w2.heap.size, 2, none⟩ vp).alloc o2).grownBy w9 vs.ownBlock) (hat : vs.ownBlock = some gg ∨ gg = ((w6.setCell ⟨w2.heap.size, 2, none⟩ vp).alloc o2).heap.size)
  (hnext : ukh (umt bs) m0 (j + 1) = some (ns ++ [⟨op, is, ps⟩], q3)) :
  GrIn w R vb bs T TN N L z out m0 (j + 1) (ns ++ [⟨op, is, ps⟩]) q3 (.slice (some ⟨gg, 0, none⟩) (j + 1) cp) (cs ++ [x0, vi, vp]) (w9.setCell ⟨L, 0, none⟩ (.slice (some ⟨gg, 0, none⟩) (j + 1) cp)) := by
 subst hx0
 obtain ⟨n0, hn0⟩ := h.loc.old
 have hR := hn0.lt
 have hNs := h.loc.hN
 have hLs := h.loc.hL
 have hNl := Blk.lt h.loc.res
 have hLl := Blk.lt h.loc.loc
 have s0 := h.loc.mod.size
 have s2 := hm2.size
 have s4 := hm4.size
 have s6 := hm6.size
 have e2 : (w2.alloc o).heap.size = w2.heap.size + 1 := by simp
 have e4 : (w4.setCell ⟨w2.heap.size, 1, none⟩ vi).heap.size = w4.heap.size := by simp
 have e8 : ((w6.setCell ⟨w2.heap.size, 2, none⟩ vp).alloc o2).heap.size = w6.heap.size + 1 := by simp
 have hvlt : ∀ k, vs.ownBlock = some k → w.heap.size ≤ k ∧ k < wr.heap.size := fun k hk => h.own.lt k hk
 have s9 := hgrow.size
 have hS : ∀ k, k = R ∨ k = w2.heap.size ∨ vs.ownBlock = some k → ¬ (k = N) ∧ ¬ (k = L) := fun k hk => by
  rcases hk with rfl | rfl | hk
  ·omega
  ·omega
  ·exact ⟨fun e => h.neN (e ▸ hk), fun e => h.neL (e ▸ hk)⟩
 let S : Nat → Prop := fun k => k = R ∨ k = w2.heap.size ∨ vs.ownBlock = some k
 have p1 : Mod S wr w2 := hm2.imp fun _ _ h => .inl h
 have p2 : Mod S w2 (w2.alloc o) := Mod.alloc _ _ _
 have p3 : Mod S (w2.alloc o) w4 := hm4.imp fun _ _ h => .inl h
 have p4 : Mod S w4 (w4.setCell ⟨w2.heap.size, 1, none⟩ vi) := (Mod.setCell _ _ _).imp fun _ _ h => .inr (.inl h)
 have p5 : Mod S (w4.setCell ⟨w2.heap.size, 1, none⟩ vi) w6 := hm6.imp fun _ _ h => .inl h
 have p6 : Mod S w6 (w6.setCell ⟨w2.heap.size, 2, none⟩ vp) := (Mod.setCell _ _ _).imp fun _ _ h => .inr (.inl h)
 have p7 : Mod S (w6.setCell ⟨w2.heap.size, 2, none⟩ vp) ((w6.setCell ⟨w2.heap.size, 2, none⟩ vp).alloc o2) := Mod.alloc _ _ _
 have p8 : Mod S ((w6.setCell ⟨w2.heap.size, 2, none⟩ vp).alloc o2) w9 := (Mod.of_grown hgrow).imp fun _ _ h => .inr (.inr h)
 have p48 : Mod S w4 w9 := (((p4.trans' p5).trans' p6).trans' p7).trans' p8
 have p68 : Mod S w6 w9 := (p6.trans' p7).trans' p8
 have hM : Mod S wr w9 := ((p1.trans' p2).trans' p3).trans' p48
 have pL : Mod (fun k => k = L) w9 (w9.setCell ⟨L, 0, none⟩ (.slice (some ⟨gg, 0, none⟩) (j + 1) cp)) := Mod.setCell w9 ⟨L, 0, none⟩ _
 -- the boxes
 have hl2 := (h.loc.step hm2 hr2).alloc o
 have hl5 := (hl2.step hm4 hr4).own ⟨w2.heap.size, 1, none⟩ vi (by simp; omega) (by simp; omega) (by simp; omega)
 have hl8 := (((hl5.step hm6 hr6).own ⟨w2.heap.size, 2, none⟩ vp (by simp; omega) (by simp; omega) (by simp; omega)).alloc o2)
 have hown8 : ((w6.setCell ⟨w2.heap.size, 2, none⟩ vp).alloc o2).ownsRow w.heap.size TN 3 vs j cs := by
  refine uac h.own (S := fun k => k = R ∨ k = w2.heap.size) ?_ fun k hk e => by have := hvlt k hk; omega
  refine ((((((hm2.imp fun _ _ h => .inl h).trans' (Mod.alloc _ _ _)).trans' (hm4.imp fun _ _ h => .inl h)).trans' ((Mod.setCell w4 _ vi).imp fun _ _ h => .inr h)).trans' (hm6.imp fun _ _ h => .inl h)).trans' ((Mod.setCell w6 _ vp).imp fun _ _ h => .inr h)).trans' (Mod.alloc _ _ _)
 have hl9 := (hl8.grown hown8 hgrow (Nat.le_refl _) h.neN h.neL).put 0 (.slice (some ⟨gg, 0, none⟩) (j + 1) cp)
 have hggN : gg ≠ N := by
  rcases hat with hat | hat
  ·exact fun e => h.neN (e ▸ hat)
  ·omega
 have hggL : gg ≠ L := by
  rcases hat with hat | hat
  ·exact fun e => h.neL (e ▸ hat)
  ·omega
 have hgv : ∀ k, k < wr.heap.size → vs.ownBlock ≠ some k → gg ≠ k := fun k hk hv => by
  rcases hat with hat | hat
  ·exact fun e => hv (e ▸ hat)
  ·omega
 have hgn : ∀ k, wr.heap.size ≤ k → k < w6.heap.size → gg ≠ k := fun k hk hk6 => by
  rcases hat with hat | hat
  ·have := hvlt gg hat; omega
  ·omega
 refine ⟨hl9, uac hown pL (fun k hk => by simp only [Value.ownBlock, Option.some.injEq] at hk; subst hk; exact hggL), ?_, hnext, by simp [h.len], by simpa [Value.ownBlock] using hggN, by simpa [Value.ownBlock] using hggL⟩
 refine NodeC.snoc ?_ ⟨op, is, ps⟩ vi vp ?_ ?_
 ·have n1 := h.nodes.imp (G' := fun k => k < wr.heap.size ∧ upl w.heap.size N L vs k) (fun k hk hG => ⟨hk, hG⟩)
  have n2 := n1.mod hM (fun k hk hG hS => by
   rcases hS with rfl | rfl | hS
   ·have := hG.2.1; omega
   ·omega
   ·exact hG.2.2.2.2 hS)
  have n3 := n2.mod pL (fun k hk hG => hG.2.2.2.1)
  refine n3.imp fun k hk hG => ⟨hG.2.1, hG.2.2.1, hG.2.2.2.1, ?_⟩
  simp only [Value.ownBlock, ne_eq, Option.some.injEq]
  exact hgv k hG.1 hG.2.2.2.2
 ·have n1 := RowG.imp hi (G' := fun k => w2.heap.size < k ∧ k < w4.heap.size) (fun k hk hG => ⟨by omega, hk⟩)
  have n2 := RowG.mod n1 p48 (fun k hk hG hS => by
   rcases hS with rfl | rfl | hS
   ·omega
   ·omega
   ·have := hvlt k hS; omega)
  have n3 := RowG.mod n2 pL (fun k hk hG => by omega)
  refine RowG.imp n3 fun k hk hG => ⟨by omega, by omega, by omega, ?_⟩
  simp only [Value.ownBlock, ne_eq, Option.some.injEq]
  exact hgn k (by omega) (by omega)
 ·have n1 := RowG.imp hp (G' := fun k => w4.heap.size ≤ k ∧ k < w6.heap.size) (fun k hk hG => ⟨by omega, hk⟩)
  have n2 := RowG.mod n1 p68 (fun k hk hG hS => by
   rcases hS with rfl | rfl | hS
   ·omega
   ·omega
   ·have := hvlt k hS; omega)
  have n3 := RowG.mod n2 pL (fun k hk hG => by omega)
  refine RowG.imp n3 fun k hk hG => ⟨by omega, by omega, by omega, ?_⟩
  simp only [Value.ownBlock, ne_eq, Option.some.injEq]
  exact hgn k (by omega) (by omega)
theorem utb {bs : List Nat} {m : Nat} {op : Int} {q1 q2 q3 : Nat} {is ps : List Int} {m0 j : Nat} {ns : List ubb} (h : ukh (umt bs) m0 j = some (ns, m)) (h1 : ukw bs m = some (op, q1)) (h2 : um6 bs q1 = some (is, q2)) (h3 : um6 bs q2 = some (ps, q3)) :
  ukh (umt bs) m0 (j + 1) = some (ns ++ [⟨op, is, ps⟩], q3) := by
 have : umt bs m = some (⟨op, is, ps⟩, q3) := by simp [umt, h1, h2, h3]
 rw [ukh, h]
 simp only [this]
theorem un6 {bs : List Nat} {n m : Nat} {out : Int} {k m0 : Nat} (h : ukw bs n = some (out, m)) (h0 : uks bs m 0 1000 = some ((k : Int), m0)) {j q : Nat} {ns : List ubb} (hj : ukh (umt bs) m0 j = some (ns, q)) (hq : umt bs q = none) (hk : j < k) : ulq bs n = none := by
 have h1 : ukh (umt bs) m0 k = none := um1 (k := j) (by rw [ukh, hj]; simp only [hq]) hk
 simp [ulq, h, h0, h1]
end Go.Gou
namespace Go.Proofs.YtgolafbneiffpaaGreatDoor
open Go.RowKit Go.Gou
def upb (B : Nat) (w : World) (v : Value) (g : Gr) : Prop := ∃ p c, v = .agg #[.slice p g.nodes.length c, iV g.out] ∧ NodesR (fun b => B ≤ b) w (.slice p g.nodes.length c) g.nodes
theorem info_node : (Tryz.prog.info? 58).map (fun i => (i.zero, i.size, i.bytes)) = some (some (.agg #[iV 0, .slice none 0 0, .slice none 0 0]), 3, 56) := by kernel_rfl
set_option maxRecDepth 100000 in
theorem ue1 (w : World) (R : Nat) (vb : Value) (bs : List Nat) (n : Nat) (h : RdAt w R vb bs n) :
  Calls Tryz.prog 131 #[.pointer (some ⟨R, 0, none⟩)] w (RdP w R vb bs (upb w.heap.size) (ulq bs n)) := by
 have H := hd' h
 have hR := h.lt
 clear h
 obtain ⟨iN, hiN, hz0, hz1, hz2⟩ := info_parts info_node
 have hz3 : (Value.agg #[iV 0, .slice none 0 0, .slice none 0 0]).cells.size = 3 := rfl
 go_enter Tryz.func131, Tryz.ntmps131
 go_wp2_with fail
 refine (ukk _ R vb bs n (H.o.alloc _)).mono ?_
 intro e w1 h1
 cases hn : ukw bs n with
 | none =>
  rw [hn] at h1
  obtain ⟨rfl, h2⟩ := h1.fault (J := upb w.heap.size) (res := ulq bs n) (Mod.alloc _ _ _) (by unfold ulq; rw [hn]; rfl)
  exact ⟨rfl, h2⟩
 | some p =>
  obtain ⟨out, m⟩ := p
  rw [hn] at h1
  obtain ⟨hm1, _, rfl, rfl, hr1⟩ := h1
  have Hl0 := hd' (Loc.start H.o hm1 hr1 #[.slice none 0 0, iV out])
  have Hn := hd' hn
  clear hm1 hr1 hn
  go_wp2_with fail
  refine (uap _ R vb bs m 0 1000 Hl0.o.rd).mono ?_
  intro e w2 h2
  cases hn2 : uks bs m 0 1000 with
  | none =>
   rw [hn2] at h2
   obtain ⟨rfl, h3⟩ := h2.fault (J := upb w.heap.size) (res := ulq bs n) Hl0.o.mod (by have := Hn.o; simp [ulq, this, hn2])
   exact ⟨rfl, h3⟩
  | some p =>
   obtain ⟨x, m0⟩ := p
   have hb := umq hn2
   obtain ⟨k, rfl⟩ : ∃ k : Nat, x = (k : Int) := ⟨x.toNat, by omega⟩
   have hk : k ≤ 1000 := by omega
   rw [hn2] at h2
   obtain ⟨hm2, _, rfl, rfl, hr2⟩ := h2
   have hl2 := Hl0.o.step hm2 hr2
   have Hl2 := hd' hl2
   have Hn2 := hd' hn2
   generalize hL : w1.heap.size = L at *
   clear Hl0 hn2 hb hm2 hr2 hl2 hL
   clear w1
   go_wp2_with fail
   go_loopw [4, 5] (fun c _ wr => ∃ (j : Nat) (ns : List ubb) (q : Nat) (vs : Value) (cs : List Value), c = iV ((k : Int) - (j : Int)) ∧ j ≤ k ∧ GrIn w R vb bs 33 58 w.heap.size L #[.slice none 0 0, iV 0] out m0 j ns q vs cs wr) (fun c _ _ => (intOf c).toNat)
   case atStart => exact ⟨0, [], m0, _, [], by simp, by omega, Hl2.o, World.ownsRow_nil _ _ _ _, NodeC.nil _ _, rfl, rfl, by simp [Value.ownBlock], by simp [Value.ownBlock]⟩
   case round =>
    obtain ⟨j, ns, q, vs, cs, rfl, hj, hc⟩ := hrel
    obtain ⟨p0, c0, rfl⟩ := ownsRow_form hc.own
    have Hc := hd' hc
    have hlc := hc.loc.loc
    have hLw := Blk.lt hlc
    clear hc
    by_cases hjk : j < k
    ·have e1 : decide ((0 : Int) < (k : Int) - (j : Int)) = true := by simp; omega
     clear hlc
     go_wp2_with fail
     refine (ukk _ R vb bs q Hc.o.loc.rd).mono ?_
     intro e w2 h2
     cases hn1 : ukw bs q with
     | none =>
      rw [hn1] at h2
      obtain ⟨rfl, h3⟩ := h2.fault (J := upb w.heap.size) (res := ulq bs n) Hc.o.loc.mod (un6 Hn.o Hn2.o Hc.o.at_ (by simp [umt, hn1]) hjk)
      exact ⟨rfl, h3⟩
     | some p =>
      obtain ⟨op, q1⟩ := p
      rw [hn1] at h2
      obtain ⟨hm2, _, rfl, rfl, hr2⟩ := h2
      have Hm2 := hd' hm2
      have Hr2 := hd' hr2
      have Hn3 := hd' hn1
      have Hl3 := hd' (Hc.o.loc.step hm2 hr2)
      clear hn1 hm2 hr2
      go_wp2_with fail
      refine (uu9 _ R vb bs q1 (Hr2.o.alloc _)).mono ?_
      intro e w4 h4
      cases hn4 : um6 bs q1 with
      | none =>
       rw [hn4] at h4
       obtain ⟨rfl, h3⟩ := h4.fault (J := upb w.heap.size) (res := ulq bs n) (Hl3.o.alloc _).mod (un6 Hn.o Hn2.o Hc.o.at_ (by have := Hn3.o; simp [umt, this, hn4]) hjk)
       exact ⟨rfl, h3⟩
      | some p =>
       obtain ⟨is, q2⟩ := p
       rw [hn4] at h4
       obtain ⟨hm4, vi, rfl, hi4, hr4⟩ := h4
       obtain ⟨pi, ci, rfl, -⟩ := RowG.form hi4
       have Hm4 := hd' hm4
       have Hr4 := hd' hr4
       have Hi4 := hd' hi4
       have Hn4 := hd' hn4
       have hX : Blk w4 w2.heap.size 58 #[iV op, .slice none 0 0, .slice none 0 0] := Blk.mod (heap_alloc_new w2 _) hm4 (by have := Hl3.o.mod.size; omega)
       have hx1 := hX.cell 1 rfl
       have hg1 := hX.frozen 1
       have HX := hd' (hX.set 1 (.slice pi is.length ci))
       have Hl4 := hd' (((Hl3.o.alloc _).step hm4 hr4).own ⟨w2.heap.size, 1, none⟩ (.slice pi is.length ci) (by have := Hl3.o.mod.size; simp; omega) (by have := Blk.lt Hl3.o.res; simp; omega) (by have := Blk.lt Hl3.o.loc; simp; omega))
       clear hn4 hm4 hr4 hi4 hX
       go_wp2_with fail
       refine (uu9 _ R vb bs q2 Hl4.o.rd).mono ?_
       intro e w6 h6
       cases hn6 : um6 bs q2 with
       | none =>
        rw [hn6] at h6
        obtain ⟨rfl, h3⟩ := h6.fault (J := upb w.heap.size) (res := ulq bs n) Hl4.o.mod (un6 Hn.o Hn2.o Hc.o.at_ (by have g1 := Hn3.o; have g2 := Hn4.o; simp [umt, g1, g2, hn6]) hjk)
        exact ⟨rfl, h3⟩
       | some p =>
        obtain ⟨ps, q3⟩ := p
        rw [hn6] at h6
        obtain ⟨hm6, vp, rfl, hi6, hr6⟩ := h6
        obtain ⟨pp, cp6, rfl, -⟩ := RowG.form hi6
        have hX := HX.o.mod hm6 (by have := Hl3.o.mod.size; omega)
        have hx0 := hX.cell 0 rfl
        have hx2 := hX.cell 1 rfl
        have hx3 := hX.cell 2 rfl
        have hg2 := hX.frozen 2
        have hl6 := Hl4.o.step hm6 hr6
        have hv0 := hl6.loc.cell 0 rfl
        have hL2 : L < w2.heap.size := Blk.lt Hl3.o.loc
        have hN2 : w.heap.size < w2.heap.size := Blk.lt Hl3.o.res
        have hX6 : w2.heap.size < w6.heap.size := Blk.lt hX
        have hne1 : L ≠ w2.heap.size := by omega
        have hne2 : w2.heap.size ≠ L := by omega
        have hwL : w.heap.size ≤ L := hl6.hL
        have hown8 : ((w6.setCell ⟨w2.heap.size, 2, none⟩ (.slice pp ps.length cp6)).alloc (.cells #[iV op, .slice pi is.length ci, .slice pp ps.length cp6] 58)).ownsRow w.heap.size 58 3 (.slice p0 j c0) j cs := by
         have hlt := fun k hk => Hc.o.own.lt k hk
         refine uac Hc.o.own (S := fun k => k = R ∨ k = w2.heap.size) ?_ fun k hk e => by have h1 := hlt k hk; have h2 := Hm2.o.size; omega
         exact ((((((Hm2.o.imp fun _ _ h => .inl h).trans' (Mod.alloc _ _ _)).trans' (Hm4.o.imp fun _ _ h => .inl h)).trans' ((Mod.setCell w4 _ _).imp fun _ _ h => .inr h)).trans' (hm6.imp fun _ _ h => .inl h)).trans' ((Mod.setCell w6 _ _).imp fun _ _ h => .inr h)).trans' (Mod.alloc _ _ _)
        have Hown8 := hd' hown8
        have Hn6 := hd' hn6
        have Hm6 := hd' hm6
        have Hr6 := hd' hr6
        have Hi6 := hd' hi6
        have HlX := hd' (((hl6.own ⟨w2.heap.size, 2, none⟩ (.slice pp ps.length cp6) (by simp; omega) (by simp; omega) (by simp; omega)).alloc (.cells #[iV op, .slice pi is.length ci, .slice pp ps.length cp6] 58)))
        clear hn6 hm6 hr6 hi6 hX hl6 hown8
        go_wp2_with (at_builtin; go_loud (refine wpList_append_lies _ rfl _ _ 31 rfl w.heap.size 58 iN _ 3 56 Tryz.underlying31 hiN hz0 hz1 hz2 hz3 (by omega) (.slice p0 j c0) j cs rfl Hown8.o ⟨w6.heap.size, 0, none⟩ 1 1 [iV op, .slice pi is.length ci, .slice pp ps.length cp6] rfl rfl (un2 (uoq (by simp)) rfl) (by simp [Value.oneCell']) (by omega) (by unfold maxLen; omega) (by omega) (by simp; omega) (w6.heap.size + 1) (by simp) ?_))
        intro gg cp w9 hown9 hgrow9 hat9 hlt9
        have hG : GrIn w R vb bs 33 58 w.heap.size L #[.slice none 0 0, iV 0] out m0 (j + 1) (ns ++ [⟨op, is, ps⟩]) q3 (.slice (some ⟨gg, 0, none⟩) (j + 1) cp) (cs ++ [iV op, .slice pi is.length ci, .slice pp ps.length cp6]) (w9.setCell ⟨L, 0, none⟩ (.slice (some ⟨gg, 0, none⟩) (j + 1) cp)) :=
         Hc.o.step Hm2.o Hr2.o Hm4.o Hr4.o Hi4.o Hm6.o Hr6.o Hi6.o rfl hown9 hgrow9 (by simpa using hat9) (utb Hc.o.at_ Hn3.o Hn4.o Hn6.o)
        have hl9 := HlX.o.grown Hown8.o hgrow9 (Nat.le_refl _) Hc.o.neN Hc.o.neL
        have hc9 := hl9.loc.cell 0 rfl
        have hf9 := hl9.loc.frozen 0
        have HG := hd' hG
        clear hG hl9 hown9 hgrow9 hat9 hlt9 hx0 hx2 hx3 hg2 hv0 Hown8 HlX
        go_wp2_with fail
        go_roundw
        case rel => exact ⟨j + 1, _, _, _, _, by go_num, by omega, HG.o⟩
        case measure => simp [intOf]; omega
    ·obtain rfl : j = k := by omega
     have e1 : decide ((0 : Int) < (j : Int) - (j : Int)) = false := by simp
     have hv0 := hlc.cell 0 rfl
     have hv1 := hlc.cell 1 rfl
     have hlr := Hc.o.loc.res
     have hz0 := hlr.cell 0 rfl
     have hz1 := hlr.cell 1 rfl
     have hf0 := hlr.frozen 0
     have hf1 := hlr.frozen 1
     clear hlr hlc
     go_wp2_with fail
     obtain ⟨d1, d2, d3, d4⟩ := Hc.o.loc.done rfl
     have hres : ulq bs n = some (⟨ns, out⟩, q) := by
      have g1 := Hn.o
      have g2 := Hn2.o
      have g3 := Hc.o.at_
      simp [ulq, g1, g2, g3]
     refine RdP.ends rfl rfl rfl d3 Tryz.underlying33 rfl ua6 hres d2 ?_ d1
     have hlen := Hc.o.len
     subst hlen
     refine ⟨p0, c0, rfl, ?_⟩
     refine NodesR.mod (G := fun b => w.heap.size ≤ b ∧ b ≠ w.heap.size) ?_ d4 (fun k _ hG => hG.2) |>.imp fun k _ hG => hG.1
     exact ⟨cs, RowG.own_of Hc.o.own (fun b hb hB => ⟨hB, fun e => Hc.o.neN (e ▸ hb)⟩), Hc.o.nodes.imp fun k _ hG => ⟨hG.1, hG.2.1⟩⟩
end Go.Proofs.YtgolafbneiffpaaGreatDoor
namespace Go.Gou
open Go.RowKit
def ukz (x y : Int) : Nat := if x < 1 ∨ y < 1 ∨ 4096 < x ∨ 4096 < y ∨ 65536 < x * y then 0 else (x * y).toNat
theorem unk (x y : Int) : ukz x y ≤ 65536 := by
 unfold ukz
 split
 ·omega
 ·rename_i h
  simp only [not_or] at h
  generalize x * y = z at *
  omega
def ukg (bs : List Nat) (n : Nat) : Option (Ct × Nat) := (ukw bs n).bind fun k =>
 if k.1 = 1 then (ur9 bs k.2).bind fun b => (ul7 bs b.2).bind fun p => some (⟨1, Rc.of b.1, Pxl.of p.1, 0, 0, 0, []⟩, p.2)
 else if k.1 = 2 then (ukw bs k.2).bind fun x => (ukw bs x.2).bind fun y => (ukw bs y.2).bind fun w => (ukw bs w.2).bind fun h => (ukw bs h.2).bind fun t =>
  if 4 * ukz w.1 h.1 ≤ bs.length - t.2 then (ukh (ul7 bs) t.2 (ukz w.1 h.1)).bind fun ps => some (⟨2, ⟨x.1, y.1, 0, 0⟩, Pxl.zero, w.1, h.1, t.1, ps.1.map Pxl.of⟩, ps.2) else none
 else some (⟨k.1, Rc.zero, Pxl.zero, 0, 0, 0, []⟩, k.2)
theorem uod {bs : List Nat} {n : Nat} (h : n < bs.length) : ∃ x, umr bs n = some (x, n + 1) := ⟨bs[n], by unfold umr; rw [dif_pos h]⟩
theorem usu {bs : List Nat} {n : Nat} (h : n + 4 ≤ bs.length) : ∃ a b c d, ul7 bs n = some ([a, b, c, d], n + 4) := by
 obtain ⟨a, ha⟩ := uod (bs := bs) (n := n) (by omega)
 obtain ⟨b, hb⟩ := uod (bs := bs) (n := n + 1) (by omega)
 obtain ⟨c, hc⟩ := uod (bs := bs) (n := n + 2) (by omega)
 obtain ⟨d, hd⟩ := uod (bs := bs) (n := n + 3) (by omega)
 exact ⟨a, b, c, d, by simp [ul7, ukh, ha, hb, hc, hd]⟩
structure CtIn (w : World) (R : Nat) (vb : Value) (bs : List Nat) (T TP : TypeId) (N L : Nat) (z : Array Value) (c : Ct) (m0 j : Nat) (ps : List (List Nat)) (q : Nat) (vs : Value) (wr : World) : Prop where
 loc : Loc w R vb bs T N L z (uak c vs) q wr
 own : wr.ownsRow w.heap.size TP 4 vs j (pxs (ps.map Pxl.of))
 at_ : ukh (ul7 bs) m0 j = some (ps, q)
 len : ps.length = j
 place : q = m0 + 4 * j
 neN : vs.ownBlock ≠ some N
 neL : vs.ownBlock ≠ some L
theorem CtIn.step {w : World} {R : Nat} {vb : Value} {bs : List Nat} {T TP : TypeId} {N L : Nat} {z : Array Value} {c : Ct} {m0 j : Nat} {ps : List (List Nat)} {q : Nat} {vs : Value} {wr w2 w4 : World} (h : CtIn w R vb bs T TP N L z c m0 j ps q vs wr)
  (hm2 : Mod (fun k => k = R) wr.drew w2) {x : List Nat} (hx : ul7 bs q = some (x, q + 4)) (hr2 : RdAt w2 R vb bs (q + 4)) {o : Obj} {gg cp : Nat} {t : Nat} (ht : t = j + 1)
  (hown : w4.ownsRow w.heap.size TP 4 (.slice (some ⟨gg, 0, none⟩) t cp) t (pxs (ps.map Pxl.of) ++ (Pxl.of x).cells)) (hgrow : (w2.alloc o).grownBy w4 vs.ownBlock) (hat : vs.ownBlock = some gg ∨ gg = w2.heap.size + 1) :
  CtIn w R vb bs T TP N L z c m0 (j + 1) (ps ++ [x]) (q + 4) (.slice (some ⟨gg, 0, none⟩) t cp) (w4.setCell ⟨L, 12, none⟩ (.slice (some ⟨gg, 0, none⟩) t cp)) := by
 subst ht
 obtain ⟨n, hn⟩ := h.loc.old
 have hR := hn.lt
 have hvlt : ∀ k, vs.ownBlock = some k → w.heap.size ≤ k ∧ k < wr.heap.size := fun k hk => h.own.lt k hk
 have hNlt := Blk.lt h.loc.res
 have hLlt := Blk.lt h.loc.loc
 have hm := h.loc.mod
 have hs0 := hm.size
 have hs2 := hm2.size
 simp only [World.size_drew] at hs2
 have hl2 := ((h.loc.step (Mod.drew (fun k => k = R) wr) (h.loc.rd.mod (Mod.drew (fun _ => False) wr) (fun h => h) (fun _ _ _ h => h))).step hm2 hr2).alloc o
 have hm02 : Mod (fun k => k = R) wr (w2.alloc o) := ((Mod.drew (fun k => k = R) wr).trans' hm2).trans' (Mod.alloc _ _ _)
 have hown2 : (w2.alloc o).ownsRow w.heap.size TP 4 vs j (pxs (ps.map Pxl.of)) := uac h.own hm02 fun k hk e => by have := hvlt k hk; omega
 have hl4 := (hl2.grown hown2 hgrow (Nat.le_refl _) h.neN h.neL).put 12 (.slice (some ⟨gg, 0, none⟩) (j + 1) cp)
 have hggN : gg ≠ N := by
  rcases hat with hat | hat
  ·exact fun e => h.neN (e ▸ hat)
  ·omega
 have hggL : gg ≠ L := by
  rcases hat with hat | hat
  ·exact fun e => h.neL (e ▸ hat)
  ·omega
 refine ⟨hl4, ?_, by rw [ukh, h.at_]; simp only [hx], by simp [h.len], by have := h.place; omega, by simpa [Value.ownBlock] using hggN, by simpa [Value.ownBlock] using hggL⟩
 have e : pxs ((ps ++ [x]).map Pxl.of) = pxs (ps.map Pxl.of) ++ (Pxl.of x).cells := by simp [pxs]
 rw [e]
 exact uac hown (S := fun k => k = L) (Mod.setCell w4 ⟨L, 12, none⟩ _) fun k hk => by simp only [Value.ownBlock, Option.some.injEq] at hk; subst hk; exact hggL
def SoftB (B : Nat) (w : World) (v : Value) : Prop := ∀ b, v.ownBlock = some b → B ≤ b ∧ ∃ cur T, w.heap[b]? = some (.cells cur T (0, 0))
theorem SoftB.nil (B : Nat) (w : World) : SoftB B w nlS := fun b hb => by cases hb
theorem SoftB.of_own {w : World} {base : Nat} {e : TypeId} {k : Nat} {v : Value} {n : Nat} {cs : List Value} (h : w.ownsRow base e k v n cs) : SoftB base w v := fun b hb => ⟨(h.lt b hb).1, Soft.of_own h b hb⟩
theorem SoftB.mod {B : Nat} {S : Nat → Prop} {w w' : World} {v : Value} (h : SoftB B w v) (hm : Mod S w w') (hS : ∀ b, B ≤ b → b < w.heap.size → ¬ S b) : SoftB B w' v := fun b hb => by
 obtain ⟨h1, cur, T, h2⟩ := h b hb
 have hlt : b < w.heap.size := (Array.getElem?_eq_some_iff.1 h2).1
 refine ⟨h1, cur, T, ?_⟩
 have := hm.block b hlt (hS b h1 hlt)
 rw [this, h2]
theorem SoftB.low {B B' : Nat} {w : World} {v : Value} (h : SoftB B w v) (hB : B' ≤ B) : SoftB B' w v := fun b hb => ⟨Nat.le_trans hB (h b hb).1, (h b hb).2⟩
theorem umy (c : Ct) (p : Option Addr) (n k : Nat) : (uak c (.slice p n k)).all (·.oneCell') = true := by simp [uak, Value.oneCell']
theorem RdAt.drewN {w : World} {R : Nat} {vb : Value} {bs : List Nat} {n : Nat} (h : RdAt w R vb bs n) (k : Nat) : RdAt (w.drewN k) R vb bs n :=
 h.mod (Mod.drewN (fun _ => False) w k) (fun h => h) (fun _ _ _ h => h)
theorem RdAt.drew {w : World} {R : Nat} {vb : Value} {bs : List Nat} {n : Nat} (h : RdAt w R vb bs n) : RdAt w.drew R vb bs n :=
 h.mod (Mod.drew (fun _ => False) w) (fun h => h) (fun _ _ _ h => h)
theorem Loc.drewN {w : World} {R : Nat} {vb : Value} {bs : List Nat} {T : TypeId} {N L : Nat} {z cs : Array Value} {m : Nat} {wr : World} (h : Loc w R vb bs T N L z cs m wr) (k : Nat) : Loc w R vb bs T N L z cs m (wr.drewN k) :=
 h.step (Mod.drewN _ _ _) (h.rd.drewN k)
theorem CtIn.own2 {w : World} {R : Nat} {vb : Value} {bs : List Nat} {T TP : TypeId} {N L : Nat} {z : Array Value} {c : Ct} {m0 j : Nat} {ps : List (List Nat)} {q : Nat} {vs : Value} {wr w2 : World} (h : CtIn w R vb bs T TP N L z c m0 j ps q vs wr)
  (hm2 : Mod (fun k => k = R) wr.drew w2) (o : Obj) : (w2.alloc o).ownsRow w.heap.size TP 4 vs j (pxs (ps.map Pxl.of)) := by
 obtain ⟨n, hn⟩ := h.loc.old
 have hR := hn.lt
 exact uac h.own (((Mod.drew (fun k => k = R) wr).trans' hm2).trans' (Mod.alloc _ _ _)) fun k hk e => by have := h.own.lt k hk; omega
theorem CtIn.cell2 {w : World} {R : Nat} {vb : Value} {bs : List Nat} {T TP : TypeId} {N L : Nat} {z : Array Value} {c : Ct} {m0 j : Nat} {ps : List (List Nat)} {q : Nat} {vs : Value} {wr w2 : World} (h : CtIn w R vb bs T TP N L z c m0 j ps q vs wr)
  (hm2 : Mod (fun k => k = R) wr.drew w2) : w2.cell? ⟨L, 12, none⟩ = some vs ∧ w2.frozen? ⟨L, 12, none⟩ = false := by
 obtain ⟨n, hn⟩ := h.loc.old
 have hR := hn.lt
 have hL := h.loc.hL
 have h2 := h.loc.loc.mod ((Mod.drew (fun k => k = R) wr).trans' hm2) (by omega)
 exact ⟨h2.cell 12 rfl, h2.frozen 12⟩
theorem CtIn.cell4 {w : World} {R : Nat} {vb : Value} {bs : List Nat} {T TP : TypeId} {N L : Nat} {z : Array Value} {c : Ct} {m0 j : Nat} {ps : List (List Nat)} {q : Nat} {vs : Value} {wr w2 w4 : World} (h : CtIn w R vb bs T TP N L z c m0 j ps q vs wr)
  (hm2 : Mod (fun k => k = R) wr.drew w2) {o : Obj} (hgrow : (w2.alloc o).grownBy w4 vs.ownBlock) : w4.cell? ⟨L, 12, none⟩ = some vs ∧ w4.frozen? ⟨L, 12, none⟩ = false := by
 obtain ⟨n, hn⟩ := h.loc.old
 have hR := hn.lt
 have hL := h.loc.hL
 have h2 : Blk (w2.alloc o) L T (uak c vs) := h.loc.loc.mod (((Mod.drew (fun k => k = R) wr).trans' hm2).trans' (Mod.alloc _ _ _)) (by omega)
 have h4 := h2.mod (Mod.of_grown hgrow) h.neL
 exact ⟨h4.cell 12 rfl, h4.frozen 12⟩
end Go.Gou
namespace Go.Proofs.YtgolafbneiffpaaGreatDoor
open Go.RowKit Go.Gou
theorem utj (w : World) (x y : Int) : Calls Tryz.prog 124 #[iV x, iV y] w fun e w' => e = .returned (iV (ukz x y)) ∧ w' = w := by
 go_enter Tryz.func124, Tryz.ntmps124
 by_cases h1 : x < 1
 ·have e1 : decide (x < 1) = true := by simp; omega
  have hr : (ukz x y : Int) = 0 := by unfold ukz; rw [if_pos (.inl h1)]; rfl
  rw [hr]
  clear h1 hr
  go_wp2
  go_ret
  exact ⟨rfl, rfl⟩
 have e1 : decide (x < 1) = false := by simp; omega
 by_cases h2 : y < 1
 ·have e2 : decide (y < 1) = true := by simp; omega
  have hr : (ukz x y : Int) = 0 := by unfold ukz; rw [if_pos (.inr (.inl h2))]; rfl
  rw [hr]
  clear h1 h2 hr
  go_wp2
  go_ret
  exact ⟨rfl, rfl⟩
 have e2 : decide (y < 1) = false := by simp; omega
 by_cases h3 : 4096 < x
 ·have e3 : decide (4096 < x) = true := by simp; omega
  have hr : (ukz x y : Int) = 0 := by unfold ukz; rw [if_pos (.inr (.inr (.inl h3)))]; rfl
  rw [hr]
  clear h1 h2 h3 hr
  go_wp2
  go_ret
  exact ⟨rfl, rfl⟩
 have e3 : decide (4096 < x) = false := by simp; omega
 by_cases h4 : 4096 < y
 ·have e4 : decide (4096 < y) = true := by simp; omega
  have hr : (ukz x y : Int) = 0 := by unfold ukz; rw [if_pos (.inr (.inr (.inr (.inl h4))))]; rfl
  rw [hr]
  clear h1 h2 h3 h4 hr
  go_wp2
  go_ret
  exact ⟨rfl, rfl⟩
 have e4 : decide (4096 < y) = false := by simp; omega
 have hb : 1 ≤ x * y ∧ x * y ≤ 16777216 := by
  constructor
  ·have h : (1 : Int) * 1 ≤ x * y := Int.mul_le_mul (by omega) (by omega) (by omega) (by omega)
   omega
  ·have h : x * y ≤ (4096 : Int) * 4096 := Int.mul_le_mul (by omega) (by omega) (by omega) (by omega)
   omega
 have hw : wrap64 (x * y) = x * y := IntWalk.wrap64_in _ (by omega)
 have hr : Hid ((ukz x y : Int) = if 65536 < x * y then 0 else x * y) := hd' (by
  unfold ukz
  by_cases h5 : 65536 < x * y
  ·rw [if_pos h5, if_pos (.inr (.inr (.inr (.inr h5))))]; rfl
  ·rw [if_neg h5, if_neg (by simp only [not_or]; exact ⟨h1, h2, h3, h4, h5⟩)]
   omega)
 generalize (ukz x y : Int) = r at *
 by_cases h5 : 65536 < x * y
 ·have e5 : decide (65536 < x * y) = true := by simp; omega
  have hr2 := hr.out
  rw [if_pos h5] at hr2
  clear h1 h2 h3 h4 h5 hb hr
  subst hr2
  go_wp2
  go_ret
  exact ⟨rfl, rfl⟩
 ·have e5 : decide (65536 < x * y) = false := by simp; omega
  have hr2 := hr.out
  rw [if_neg h5] at hr2
  clear h1 h2 h3 h4 h5 hb hr
  subst hr2
  go_wp2
  go_ret
  exact ⟨congrArg (fun z => Ending.returned (iV z)) hw, rfl⟩
def umb (B : Nat) (w : World) (v : Value) (c : Ct) : Prop := ∃ p cap, v = .agg (uak c (.slice p c.pix.length cap)) ∧ PixR (fun b => B ≤ b) w (.slice p c.pix.length cap) c.pix ∧ SoftB B w (.slice p c.pix.length cap)
theorem info_px : (Tryz.prog.info? 27).map (fun i => (i.zero, i.size, i.bytes)) = some (some (.agg #[.int .u8 0, .int .u8 0, .int .u8 0, .int .u8 0]), 4, 4) := by kernel_rfl
set_option maxRecDepth 100000 in
theorem uig (w : World) (R : Nat) (vb : Value) (bs : List Nat) (n : Nat) (h : RdAt w R vb bs n) :
  Calls Tryz.prog 130 #[.pointer (some ⟨R, 0, none⟩)] w (RdP w R vb bs (umb w.heap.size) (ukg bs n)) := by
 have H := hd' h
 have hR := h.lt
 obtain ⟨pb, cb, rfl⟩ := h.bytes.len
 clear h
 obtain ⟨iP, hiP, hz0, hz1, hz2⟩ := info_parts info_px
 have hz3 : (Value.agg #[.int .u8 0, .int .u8 0, .int .u8 0, .int .u8 0]).cells.size = 4 := rfl
 go_enter Tryz.func130, Tryz.ntmps130
 go_wp2_with fail
 refine (ukk _ R _ bs n (H.o.alloc _)).mono ?_
 intro e w1 h1
 cases hn1 : ukw bs n with
 | none =>
  rw [hn1] at h1
  obtain ⟨rfl, hq⟩ := h1.fault (J := umb w.heap.size) (res := ukg bs n) (Mod.alloc _ _ _) (by simp [ukg, hn1])
  exact ⟨rfl, hq⟩
 | some p1 =>
  obtain ⟨x1, m1⟩ := p1
  rw [hn1] at h1
  obtain ⟨hm1, _, rfl, rfl, hr1⟩ := h1
  have Hl1 := hd' (Loc.start H.o hm1 hr1 #[iV x1, iV 0, iV 0, iV 0, iV 0, .int .u8 0, .int .u8 0, .int .u8 0, .int .u8 0, iV 0, iV 0, iV 0, .slice none 0 0])
  have Hn1 := hd' hn1
  clear hm1 hr1 hn1
  by_cases hx1 : x1 = 1
  ·have Hx1 := hd' hx1
   clear hx1
   have h1 := Hx1.o
   subst h1
   go_wp2_with fail
   generalize hL : w1.heap.size = L at *
   refine (box_any _ R _ bs m1 Hl1.o.rd).mono ?_
   intro e w2 h2
   cases hn2 : ur9 bs m1 with
   | none =>
    rw [hn2] at h2
    obtain ⟨rfl, hq⟩ := h2.fault (J := umb w.heap.size) (res := ukg bs n) Hl1.o.mod (by have g1 := Hn1.o; simp [ukg, g1, hn2])
    exact ⟨rfl, hq⟩
   | some p2 =>
    obtain ⟨x2, m2⟩ := p2
    rw [hn2] at h2
    obtain ⟨hm2, _, rfl, ⟨hlen2, rfl⟩, hr2⟩ := h2
    have Hn2 := hd' hn2
    have hl2 := Hl1.o.step hm2 hr2
    clear hn2 hm2 hr2
    obtain ⟨a, b, c, d, rfl⟩ := list4 hlen2
    simp only [List.getD_cons_zero, List.getD_cons_succ]
    have c1 := hl2.loc.cell 1 rfl
    have fc1 := hl2.loc.frozen 1
    have c2 := hl2.loc.cell 2 rfl
    have fc2 := hl2.loc.frozen 2
    have c3 := hl2.loc.cell 3 rfl
    have fc3 := hl2.loc.frozen 3
    have c4 := hl2.loc.cell 4 rfl
    have fc4 := hl2.loc.frozen 4
    have hs2 := hl2.puts 1 [iV a, iV b, iV c, iV d]
    simp only [World.setCells, Nat.reduceAdd] at hs2
    have Hl2 : Hid (Gou.Loc w R _ bs 30 w.heap.size L #[iV 0, iV 0, iV 0, iV 0, iV 0, .int .u8 0, .int .u8 0, .int .u8 0, .int .u8 0, iV 0, iV 0, iV 0, .slice none 0 0] #[iV 1, iV a, iV b, iV c, iV d, .int .u8 0, .int .u8 0, .int .u8 0, .int .u8 0, iV 0, iV 0, iV 0, .slice none 0 0] m2 _) := hd' (hs2)
    clear hl2 hs2
    go_wp2_with fail
    refine (uel _ R _ bs m2 Hl2.o.rd).mono ?_
    intro e w3 h3
    cases hn3 : ul7 bs m2 with
    | none =>
     rw [hn3] at h3
     obtain ⟨rfl, hq⟩ := h3.fault (J := umb w.heap.size) (res := ukg bs n) Hl2.o.mod (by have g1 := Hn1.o; have g2 := Hn2.o; simp [ukg, g1, g2, hn3])
     exact ⟨rfl, hq⟩
    | some p3 =>
     obtain ⟨x3, m3⟩ := p3
     rw [hn3] at h3
     obtain ⟨hm3, _, rfl, ⟨hlen3, rfl⟩, hr3⟩ := h3
     have Hn3 := hd' hn3
     have hl3 := Hl2.o.step hm3 hr3
     clear hn3 hm3 hr3
     obtain ⟨p0, p1, p2, p3, rfl⟩ := list4 hlen3
     simp only [List.getD_cons_zero, List.getD_cons_succ]
     have c5 := hl3.loc.cell 5 rfl
     have fc5 := hl3.loc.frozen 5
     have c6 := hl3.loc.cell 6 rfl
     have fc6 := hl3.loc.frozen 6
     have c7 := hl3.loc.cell 7 rfl
     have fc7 := hl3.loc.frozen 7
     have c8 := hl3.loc.cell 8 rfl
     have fc8 := hl3.loc.frozen 8
     have hs3 := hl3.puts 5 [.int .u8 p0, .int .u8 p1, .int .u8 p2, .int .u8 p3]
     simp only [World.setCells, Nat.reduceAdd] at hs3
     have Hl3 := hd' hs3
     clear hl3 hs3
     have Hres : Hid (ukg bs n = some (⟨1, ⟨a, b, c, d⟩, ⟨p0, p1, p2, p3⟩, 0, 0, 0, []⟩, m3)) := hd' (by have g1 := Hn1.o; have g2 := Hn2.o; have g3 := Hn3.o; simp [ukg, g1, g2, g3]; exact ⟨rfl, rfl⟩)
     have HB : Hid (Blk _ (L) 30 (uak ⟨1, ⟨a, b, c, d⟩, ⟨p0, p1, p2, p3⟩, 0, 0, 0, []⟩ nlS)) := hd' Hl3.o.loc
     have Hth := hd' (Hl3.o.res.there 0 13 (by decide))
     have Hd := hd' (Loc.done (cs := uak ⟨1, ⟨a, b, c, d⟩, ⟨p0, p1, p2, p3⟩, 0, 0, 0, []⟩ nlS) Hl3.o rfl)
     go_wp2_with (first | ((with_reducible refine wpList_load_row ?g1_1 30 ?x1_1 ?o1_1 (L) ?h1_1 ?t1_1 ?c1_1 ?f1_1 ?d1_1 ?b1_1 ?u1_1 ?s1_1 ?i1_1 ?r1_1); (case g1_1 => exact rfl); (case o1_1 => exact rfl); (case h1_1 => exact rfl); (case b1_1 => exact HB.o); (case u1_1 => exact Tryz.underlying30); (case s1_1 => exact rfl); (case i1_1 => exact size_content)) | ((with_reducible refine wpList_store_mid ?g2_1 30 ?x2_1 ?y2_1 ?o2_1 w.heap.size 0 (uak ⟨1, ⟨a, b, c, d⟩, ⟨p0, p1, p2, p3⟩, 0, 0, 0, []⟩ nlS) ?h2_1 ?j2_1 ?t2_1 ?i2_1 ?s2_1 ?r2_1); (case g2_1 => exact rfl); (case o2_1 => exact rfl); (case h2_1 => exact rfl); (case j2_1 => exact rfl); (case t2_1 => exact Hth.o); (case i2_1 => exact size_content); (case s2_1 => exact umy _ _ _ _)) | fail)
     obtain ⟨d1, d2, d3, d4⟩ := Hd.o
     refine RdP.ends rfl rfl rfl d3 Tryz.underlying30 rfl size_content (res := ukg bs n) Hres.o d2 ⟨none, 0, rfl, PixR.nil _ _, SoftB.nil _ _⟩ d1
  by_cases hx2 : x1 = 2
  ·have Hx1 := hd' hx2
   clear hx1 hx2
   have h1 := Hx1.o
   subst h1
   go_wp2_with fail
   generalize hL : w1.heap.size = L at *
   refine (ukk _ R _ bs m1 Hl1.o.rd).mono ?_
   intro e w2 h2
   cases hn2 : ukw bs m1 with
   | none =>
    rw [hn2] at h2
    obtain ⟨rfl, hq⟩ := h2.fault (J := umb w.heap.size) (res := ukg bs n) Hl1.o.mod (by have g1 := Hn1.o; simp [ukg, g1, hn2])
    exact ⟨rfl, hq⟩
   | some p2 =>
    obtain ⟨x2, m2⟩ := p2
    rw [hn2] at h2
    obtain ⟨hm2, _, rfl, rfl, hr2⟩ := h2
    have Hn2 := hd' hn2
    have hl2 := Hl1.o.step hm2 hr2
    clear hn2 hm2 hr2
    have c1 := hl2.loc.cell 1 rfl
    have fc1 := hl2.loc.frozen 1
    have Hl2 : Hid (Gou.Loc w R _ bs 30 w.heap.size L #[iV 0, iV 0, iV 0, iV 0, iV 0, .int .u8 0, .int .u8 0, .int .u8 0, .int .u8 0, iV 0, iV 0, iV 0, .slice none 0 0] #[iV 2, iV x2, iV 0, iV 0, iV 0, .int .u8 0, .int .u8 0, .int .u8 0, .int .u8 0, iV 0, iV 0, iV 0, .slice none 0 0] m2 _) := hd' (hl2.put 1 (iV x2))
    clear hl2
    go_wp2_with fail
    refine (ukk _ R _ bs m2 Hl2.o.rd).mono ?_
    intro e w3 h3
    cases hn3 : ukw bs m2 with
    | none =>
     rw [hn3] at h3
     obtain ⟨rfl, hq⟩ := h3.fault (J := umb w.heap.size) (res := ukg bs n) Hl2.o.mod (by have g1 := Hn1.o; have g2 := Hn2.o; simp [ukg, g1, g2, hn3])
     exact ⟨rfl, hq⟩
    | some p3 =>
     obtain ⟨x3, m3⟩ := p3
     rw [hn3] at h3
     obtain ⟨hm3, _, rfl, rfl, hr3⟩ := h3
     have Hn3 := hd' hn3
     have hl3 := Hl2.o.step hm3 hr3
     clear hn3 hm3 hr3
     have c2 := hl3.loc.cell 2 rfl
     have fc2 := hl3.loc.frozen 2
     have Hl3 : Hid (Gou.Loc w R _ bs 30 w.heap.size L #[iV 0, iV 0, iV 0, iV 0, iV 0, .int .u8 0, .int .u8 0, .int .u8 0, .int .u8 0, iV 0, iV 0, iV 0, .slice none 0 0] #[iV 2, iV x2, iV x3, iV 0, iV 0, .int .u8 0, .int .u8 0, .int .u8 0, .int .u8 0, iV 0, iV 0, iV 0, .slice none 0 0] m3 _) := hd' (hl3.put 2 (iV x3))
     clear hl3
     go_wp2_with fail
     refine (ukk _ R _ bs m3 Hl3.o.rd).mono ?_
     intro e w4 h4
     cases hn4 : ukw bs m3 with
     | none =>
      rw [hn4] at h4
      obtain ⟨rfl, hq⟩ := h4.fault (J := umb w.heap.size) (res := ukg bs n) Hl3.o.mod (by have g1 := Hn1.o; have g2 := Hn2.o; have g3 := Hn3.o; simp [ukg, g1, g2, g3, hn4])
      exact ⟨rfl, hq⟩
     | some p4 =>
      obtain ⟨x4, m4⟩ := p4
      rw [hn4] at h4
      obtain ⟨hm4, _, rfl, rfl, hr4⟩ := h4
      have Hn4 := hd' hn4
      have hl4 := Hl3.o.step hm4 hr4
      clear hn4 hm4 hr4
      have c9 := hl4.loc.cell 9 rfl
      have fc9 := hl4.loc.frozen 9
      have Hl4 : Hid (Gou.Loc w R _ bs 30 w.heap.size L #[iV 0, iV 0, iV 0, iV 0, iV 0, .int .u8 0, .int .u8 0, .int .u8 0, .int .u8 0, iV 0, iV 0, iV 0, .slice none 0 0] #[iV 2, iV x2, iV x3, iV 0, iV 0, .int .u8 0, .int .u8 0, .int .u8 0, .int .u8 0, iV x4, iV 0, iV 0, .slice none 0 0] m4 _) := hd' (hl4.put 9 (iV x4))
      clear hl4
      go_wp2_with fail
      refine (ukk _ R _ bs m4 Hl4.o.rd).mono ?_
      intro e w5 h5
      cases hn5 : ukw bs m4 with
      | none =>
       rw [hn5] at h5
       obtain ⟨rfl, hq⟩ := h5.fault (J := umb w.heap.size) (res := ukg bs n) Hl4.o.mod (by have g1 := Hn1.o; have g2 := Hn2.o; have g3 := Hn3.o; have g4 := Hn4.o; simp [ukg, g1, g2, g3, g4, hn5])
       exact ⟨rfl, hq⟩
      | some p5 =>
       obtain ⟨x5, m5⟩ := p5
       rw [hn5] at h5
       obtain ⟨hm5, _, rfl, rfl, hr5⟩ := h5
       have Hn5 := hd' hn5
       have hl5 := Hl4.o.step hm5 hr5
       clear hn5 hm5 hr5
       have c10 := hl5.loc.cell 10 rfl
       have fc10 := hl5.loc.frozen 10
       have Hl5 : Hid (Gou.Loc w R _ bs 30 w.heap.size L #[iV 0, iV 0, iV 0, iV 0, iV 0, .int .u8 0, .int .u8 0, .int .u8 0, .int .u8 0, iV 0, iV 0, iV 0, .slice none 0 0] #[iV 2, iV x2, iV x3, iV 0, iV 0, .int .u8 0, .int .u8 0, .int .u8 0, .int .u8 0, iV x4, iV x5, iV 0, .slice none 0 0] m5 _) := hd' (hl5.put 10 (iV x5))
       clear hl5
       go_wp2_with fail
       refine (ukk _ R _ bs m5 Hl5.o.rd).mono ?_
       intro e w6 h6
       cases hn6 : ukw bs m5 with
       | none =>
        rw [hn6] at h6
        obtain ⟨rfl, hq⟩ := h6.fault (J := umb w.heap.size) (res := ukg bs n) Hl5.o.mod (by have g1 := Hn1.o; have g2 := Hn2.o; have g3 := Hn3.o; have g4 := Hn4.o; have g5 := Hn5.o; simp [ukg, g1, g2, g3, g4, g5, hn6])
        exact ⟨rfl, hq⟩
       | some p6 =>
        obtain ⟨x6, m6⟩ := p6
        rw [hn6] at h6
        obtain ⟨hm6, _, rfl, rfl, hr6⟩ := h6
        have Hn6 := hd' hn6
        have hl6 := Hl5.o.step hm6 hr6
        clear hn6 hm6 hr6
        have c11 := hl6.loc.cell 11 rfl
        have fc11 := hl6.loc.frozen 11
        have Hl6 : Hid (Gou.Loc w R _ bs 30 w.heap.size L #[iV 0, iV 0, iV 0, iV 0, iV 0, .int .u8 0, .int .u8 0, .int .u8 0, .int .u8 0, iV 0, iV 0, iV 0, .slice none 0 0] #[iV 2, iV x2, iV x3, iV 0, iV 0, .int .u8 0, .int .u8 0, .int .u8 0, .int .u8 0, iV x4, iV x5, iV x6, .slice none 0 0] m6 _) := hd' (hl6.put 11 (iV x6))
        have hv9 := hl6.loc.cell 9 rfl
        have hv10 := hl6.loc.cell 10 rfl
        clear hl6
        go_wp2_with fail
        refine (utj _ x4 x5).mono ?_
        rintro e w7 ⟨rfl, rfl⟩
        have hk := unk x4 x5
        obtain ⟨k, hkj⟩ : ∃ k, k = ukz x4 x5 := ⟨_, rfl⟩
        rw [← hkj] at hk ⊢
        have Hj : Hid (ukz x4 x5 = k) := hd' hkj.symm
        clear hkj hv9 hv10
        have r0 := Hl6.o.rd.c0
        have r1 := Hl6.o.rd.c1
        have hle := Hl6.o.rd.le
        have hml := Hl6.o.rd.len
        unfold maxLen at hml
        have s1 : IntKind.i64.wrap (4 * (k : Int)) = 4 * k := IntWalk.i64_in _ (by omega)
        have s2 : IntKind.i64.wrap ((bs.length : Int) - (m6 : Int)) = bs.length - m6 := IntWalk.i64_in _ (by omega)
        by_cases hroom : 4 * k ≤ bs.length - m6
        ·have e8 : decide (4 * (k : Int) ≤ (bs.length : Int) - (m6 : Int)) = true := by simp; omega
         have Hroom := hd' hroom
         clear hroom hle hml
         generalize hW : (w6.setCell ⟨L, 11, none⟩ (iV x6)) = W at *
         go_wp2_with fail
         go_quiet (first | (go_at_call 31; exact Calls.quiet_of_same (uku _)))
         obtain ⟨nq1, rfl⟩ : ∃ q : Nat, q = nq := ⟨_, rfl⟩
         have Hl7 := hd' (Hl6.o.drewN nq1)
         clear r0 r1 s1 s2 e8
         go_wp2_with fail
         go_loopw [4] (fun c wr => ∃ (j : Nat) (ps : List (List Nat)) (q : Nat) (vs : Value), c = iV ((k : Int) - (j : Int)) ∧ j ≤ k ∧ CtIn w R (.slice pb bs.length cb) bs 30 27 w.heap.size L #[iV 0, iV 0, iV 0, iV 0, iV 0, .int .u8 0, .int .u8 0, .int .u8 0, .int .u8 0, iV 0, iV 0, iV 0, .slice none 0 0] ⟨2, ⟨x2, x3, 0, 0⟩, Pxl.zero, x4, x5, x6, []⟩ m6 j ps q vs wr) (fun c _ => (intOf c).toNat)
         case atStart => exact ⟨0, [], m6, _, by simp, by omega, Hl7.o, World.ownsRow_nil _ _ _ _, rfl, rfl, by omega, by simp [Value.ownBlock], by simp [Value.ownBlock]⟩
         case round =>
          obtain ⟨j, ps, q, vs, rfl, hj, hc⟩ := hrel
          obtain ⟨v0, c0, rfl⟩ := ownsRow_form hc.own
          have Hc := hd' hc
          have hlc := hc.loc.loc
          clear hc
          by_cases hjk : j < k
          ·have e1 : decide ((0 : Int) < (k : Int) - (j : Int)) = true := by simp; omega
           have hz12 : wr.cell? ⟨L, 12, none⟩ = some (.slice v0 j c0) := hlc.cell 12 rfl
           have hf12 := hlc.frozen 12
           have hpl := Hc.o.place
           have hLw := Hc.o.loc.hL
           have hr4 := Hroom.o
           obtain ⟨p0, p1, p2, p3, hx⟩ := usu (bs := bs) (n := q) (by omega)
           have Hx := hd' hx
           have hpx := uel wr.drew R _ bs q Hc.o.loc.rd.drew
           rw [hx] at hpx
           have Hpx : Hid (Calls Tryz.prog 147 #[.pointer (some ⟨R, 0, none⟩)] wr.drew fun e w2 => e = .returned (.agg #[.int .u8 p0, .int .u8 p1, .int .u8 p2, .int .u8 p3]) ∧ Mod (fun k => k = R) wr.drew w2 ∧ RdAt w2 R (.slice pb bs.length cb) bs (q + 4) ∧ w2.cell? ⟨L, 12, none⟩ = some (.slice v0 j c0) ∧ w2.frozen? ⟨L, 12, none⟩ = false ∧ L < w2.heap.size) := by
            refine hpx.mono ?_
            rintro e w2 ⟨hm, _, rfl, ⟨_, rfl⟩, hr⟩
            obtain ⟨q1, q2⟩ := Hc.o.cell2 hm
            exact ⟨rfl, hm, hr, q1, q2, Nat.lt_of_lt_of_le (Blk.lt Hc.o.loc.loc) hm.size⟩
           clear hpx hx hlc hpl hr4
           have Hk := hd' hk
           go_wp2_with fail
           go_region_law (first | (refine step_append_lies _ (by rfl) _ _ _ (by rfl) w.heap.size 27 iP _ 4 4 Tryz.underlying28 hiP hz0 hz1 hz2 hz3 (by omega) (.slice v0 j c0) j (pxs (ps.map Pxl.of)) (by rfl) (Hc.o.own2 hm2 _) ⟨_, 0, none⟩ 1 1 [.int .u8 p0, .int .u8 p1, .int .u8 p2, .int .u8 p3] (by rfl) (by rfl) (un2 (uoq (by simp)) rfl) (by simp [Value.oneCell']) (by omega) (by unfold maxLen; omega) (by omega) (by simp; omega) _ rfl ?_; intro gg cp w4 hown4 hgrow4 hat4 hlt4; have hcf4 := Hc.o.cell4 hm2 hgrow4; obtain ⟨hc4, hf4⟩ := hcf4) | (go_simp; go_at_call 147; refine Hpx.o.mono ?_; rintro e w2 ⟨rfl, hm2, hr2, hc2, hf2, hs2⟩; dsimp only) | fail)
           all_goals
               have HC := hd' (Hc.o.step hm2 Hx.o hr2 rfl hown4 hgrow4 (by simpa using hat4))
               clear hc2 hf2 hown4 hgrow4 hat4 hlt4 hc4 hf4 hm2 hr2
               go_wp2_with fail
               go_roundw
               case rel => exact ⟨j + 1, _, _, _, by go_num, by omega, HC.o⟩
               case measure => simp [intOf]; omega
          ·obtain rfl : j = k := by omega
           have e1 : decide ((0 : Int) < (j : Int) - (j : Int)) = false := by simp
           clear hlc
           have hlen := Hc.o.len
           have Hres : Hid (ukg bs n = some (⟨2, ⟨x2, x3, 0, 0⟩, Pxl.zero, x4, x5, x6, ps.map Pxl.of⟩, q)) := hd' (by
            have g8 := Hc.o.at_
            have g9 := Hj.o
            have ga := Hroom.o
            have g1 := Hn1.o
            have g2 := Hn2.o
            have g3 := Hn3.o
            have g4 := Hn4.o
            have g5 := Hn5.o
            have g6 := Hn6.o
            simp [ukg, g1, g2, g3, g4, g5, g6, g9, g8, ga])
           have HB : Hid (Blk _ (L) 30 (uak ⟨2, ⟨x2, x3, 0, 0⟩, Pxl.zero, x4, x5, x6, []⟩ (.slice v0 j c0))) := hd' Hc.o.loc.loc
           have Hth := hd' (Hc.o.loc.res.there 0 13 (by decide))
           have Hd := hd' (Loc.done (cs := uak ⟨2, ⟨x2, x3, 0, 0⟩, Pxl.zero, x4, x5, x6, []⟩ (.slice v0 j c0)) Hc.o.loc rfl)
           go_wp2_with (first | ((with_reducible refine wpList_load_row ?g1_2 30 ?x1_2 ?o1_2 (L) ?h1_2 ?t1_2 ?c1_2 ?f1_2 ?d1_2 ?b1_2 ?u1_2 ?s1_2 ?i1_2 ?r1_2); (case g1_2 => exact rfl); (case o1_2 => exact rfl); (case h1_2 => exact rfl); (case b1_2 => exact HB.o); (case u1_2 => exact Tryz.underlying30); (case s1_2 => exact rfl); (case i1_2 => exact size_content)) | ((with_reducible refine wpList_store_mid ?g2_2 30 ?x2_2 ?y2_2 ?o2_2 w.heap.size 0 (uak ⟨2, ⟨x2, x3, 0, 0⟩, Pxl.zero, x4, x5, x6, []⟩ (.slice v0 j c0)) ?h2_2 ?j2_2 ?t2_2 ?i2_2 ?s2_2 ?r2_2); (case g2_2 => exact rfl); (case o2_2 => exact rfl); (case h2_2 => exact rfl); (case j2_2 => exact rfl); (case t2_2 => exact Hth.o); (case i2_2 => exact size_content); (case s2_2 => exact umy _ _ _ _)) | fail)
           obtain ⟨d1, d2, d3, d4⟩ := Hd.o
           refine RdP.ends rfl rfl rfl d3 Tryz.underlying30 rfl size_content (res := ukg bs n) Hres.o d2 ?_ d1
           have hl2 : (ps.map Pxl.of).length = j := by simp [hlen]
           refine ⟨v0, c0, by rw [hl2]; rfl, ?_, ?_⟩
           ·rw [hl2]
            show RowG _ _ 4 _ _ _
            have r1 : RowG (fun b => w.heap.size ≤ b ∧ b ≠ w.heap.size) wr 4 (.slice v0 j c0) j (pxs (ps.map Pxl.of)) := RowG.own_of Hc.o.own (fun b hb hB => ⟨hB, fun e => Hc.o.neN (e ▸ hb)⟩)
            rw [hl2]
            exact (RowG.mod r1 d4 (fun k _ hG => hG.2)).imp fun k _ hG => hG.1
           ·rw [hl2]
            exact SoftB.of_own (uac Hc.o.own d4 (fun b hb e => Hc.o.neN (e ▸ hb)))
        ·have e8 : decide (4 * (k : Int) ≤ (bs.length : Int) - (m6 : Int)) = false := by simp; omega
         have hno : ¬ 4 * k ≤ bs.length - m6 := hroom
         have Hno : Hid (ukg bs n = none) := hd' (by have g1 := Hn1.o; have g2 := Hn2.o; have g3 := Hn3.o; have g4 := Hn4.o; have g5 := Hn5.o; have g6 := Hn6.o; have g9 := Hj.o; simp [ukg, g1, g2, g3, g4, g5, g6, g9, hno])
         clear hroom hle hml hno
         generalize hW : (w6.setCell ⟨L, 11, none⟩ (iV x6)) = W at *
         go_wp2_with fail
         go_still_tail 13, (by kernel_rfl)
         change wpList _ _ _ _ _ W.drew
         have Hd := hd' Hl6.o.rd.drew
         have Hm := hd' (Hl6.o.mod.trans' (Mod.drew (fun k => k = R) W))
         generalize W.drew = w2 at *
         clear r0 r1 s1 s2
         go_wp2_with (first | (go_at_call 31; refine (ukq _).mono ?_; rintro e w' ⟨rfl, rfl⟩))
         exact ⟨rfl, Hm.o, by rw [Hno.o]; exact ⟨rfl, _, Hd.o⟩⟩
  have e1 : (x1 == 1) = false := bqf.2 hx1
  have e2 : (x1 == 2) = false := bqf.2 hx2
  have H1 := hd' hx1
  have H2 := hd' hx2
  clear hx1 hx2
  have Hres : Hid (ukg bs n = some (⟨x1, Rc.zero, Pxl.zero, 0, 0, 0, []⟩, m1)) := hd' (by have g1 := Hn1.o; simp [ukg, g1, H1.o, H2.o])
  have HB : Hid (Blk _ (w1.heap.size) 30 (uak ⟨x1, Rc.zero, Pxl.zero, 0, 0, 0, []⟩ nlS)) := hd' Hl1.o.loc
  have Hth := hd' (Hl1.o.res.there 0 13 (by decide))
  have Hd := hd' (Loc.done (cs := uak ⟨x1, Rc.zero, Pxl.zero, 0, 0, 0, []⟩ nlS) Hl1.o rfl)
  go_wp2_with (first | ((with_reducible refine wpList_load_row ?g1_3 30 ?x1_3 ?o1_3 (w1.heap.size) ?h1_3 ?t1_3 ?c1_3 ?f1_3 ?d1_3 ?b1_3 ?u1_3 ?s1_3 ?i1_3 ?r1_3); (case g1_3 => exact rfl); (case o1_3 => exact rfl); (case h1_3 => exact rfl); (case b1_3 => exact HB.o); (case u1_3 => exact Tryz.underlying30); (case s1_3 => exact rfl); (case i1_3 => exact size_content)) | ((with_reducible refine wpList_store_mid ?g2_3 30 ?x2_3 ?y2_3 ?o2_3 w.heap.size 0 (uak ⟨x1, Rc.zero, Pxl.zero, 0, 0, 0, []⟩ nlS) ?h2_3 ?j2_3 ?t2_3 ?i2_3 ?s2_3 ?r2_3); (case g2_3 => exact rfl); (case o2_3 => exact rfl); (case h2_3 => exact rfl); (case j2_3 => exact rfl); (case t2_3 => exact Hth.o); (case i2_3 => exact size_content); (case s2_3 => exact umy _ _ _ _)) | fail)
  obtain ⟨d1, d2, d3, d4⟩ := Hd.o
  refine RdP.ends rfl rfl rfl d3 Tryz.underlying30 rfl size_content (res := ukg bs n) Hres.o d2 ⟨none, 0, rfl, PixR.nil _ _, SoftB.nil _ _⟩ d1
end Go.Proofs.YtgolafbneiffpaaGreatDoor
