/- Acts as bytes: a filter. -/
import Derived.Test.YtnamnmipgpcjjaaCRdE
import Derived.Test.YtnamnmipgpcjjaaGrow
namespace Go.Gou
open Go.RowKit

/-- A store into a block of the call's own that is neither box. -/
theorem Loc.own {w : World} {R : Nat} {vb : Value} {bs : List Nat} {T : TypeId} {N L : Nat} {z cs : Array Value} {m : Nat} {wr : World} (h : Loc w R vb bs T N L z cs m wr) (p : Addr) (u : Value) (hp : w.heap.size ≤ p.block) (hN : N ≠ p.block) (hL : L ≠ p.block) :
    Loc w R vb bs T N L z cs m (wr.setCell p u) := by
  obtain ⟨n, hn⟩ := h.old
  exact ⟨h.old, hn.own h.rd h.mod _ _ hp, h.mod.own _ _ hp, h.hN, h.hL, h.ne, h.res.mod (Mod.setCell _ _ _) hN, h.loc.mod (Mod.setCell _ _ _) hL⟩

theorem Loc.alloc {w : World} {R : Nat} {vb : Value} {bs : List Nat} {T : TypeId} {N L : Nat} {z cs : Array Value} {m : Nat} {wr : World} (h : Loc w R vb bs T N L z cs m wr) (o : Obj) : Loc w R vb bs T N L z cs m (wr.alloc o) :=
  h.step (Mod.alloc _ _ _) (h.rd.alloc _)

theorem Loc.grown {w : World} {R : Nat} {vb : Value} {bs : List Nat} {T : TypeId} {N L : Nat} {z cs : Array Value} {m : Nat} {wr w2 : World} (h : Loc w R vb bs T N L z cs m wr) {base : Nat} {e : TypeId} {k : Nat} {v : Value} {c : Nat} {xs : List Value}
    (ho : wr.ownsRow base e k v c xs) (hg : wr.grownBy w2 v.ownBlock) (hb : w.heap.size ≤ base) (hN : v.ownBlock ≠ some N) (hL : v.ownBlock ≠ some L) : Loc w R vb bs T N L z cs m w2 := by
  obtain ⟨n, hn⟩ := h.old
  exact ⟨h.old, hn.grown h.rd h.mod ho hg hb, h.mod.grown ho hg hb, h.hN, h.hL, h.ne, h.res.mod (Mod.of_grown hg) hN, h.loc.mod (Mod.of_grown hg) hL⟩

/-- Blocks that a filter's rows may lie in: the call's own, but for its boxes and the row that grows. -/
def Apart (B N L : Nat) (v : Value) (k : Nat) : Prop := B ≤ k ∧ k ≠ N ∧ k ≠ L ∧ v.ownBlock ≠ some k

/-- On the way through a filter's nodes. -/
structure GrIn (w : World) (R : Nat) (vb : Value) (bs : List Nat) (T TN : TypeId) (N L : Nat) (z : Array Value) (out : Int) (m0 j : Nat) (ns : List GNode) (q : Nat) (vs : Value) (cs : List Value) (wr : World) : Prop where
  loc : Loc w R vb bs T N L z #[vs, .int .i64 out] q wr
  own : wr.ownsRow w.heap.size TN 3 vs j cs
  nodes : NodeC (Apart w.heap.size N L vs) wr cs ns
  at_ : timesAt (nodeAt bs) m0 j = some (ns, q)
  len : ns.length = j
  neN : vs.ownBlock ≠ some N
  neL : vs.ownBlock ≠ some L

theorem GrIn.step {w : World} {R : Nat} {vb : Value} {bs : List Nat} {T TN : TypeId} {N L : Nat} {z : Array Value} {out : Int} {m0 j : Nat} {ns : List GNode} {q : Nat} {vs : Value} {cs : List Value} {wr : World} (h : GrIn w R vb bs T TN N L z out m0 j ns q vs cs wr)
    {w2 w4 w6 w9 : World} {op : Int} {is ps : List Int} {q1 q2 q3 gg cp : Nat} {vi vp x0 : Value} {o o2 : Obj} (hm2 : Mod (fun k => k = R) wr w2) (hr2 : RdAt w2 R vb bs q1)
    (hm4 : Mod (fun k => k = R) (w2.alloc o) w4) (hr4 : RdAt w4 R vb bs q2) (hi : IntsR (fun k => (w2.alloc o).heap.size ≤ k) w4 vi is)
    (hm6 : Mod (fun k => k = R) (w4.setCell ⟨w2.heap.size, 1, none⟩ vi) w6) (hr6 : RdAt w6 R vb bs q3) (hp : IntsR (fun k => (w4.setCell ⟨w2.heap.size, 1, none⟩ vi).heap.size ≤ k) w6 vp ps)
    (hx0 : x0 = .int .i64 op)
    (hown : w9.ownsRow w.heap.size TN 3 (.slice (some ⟨gg, 0, none⟩) (j + 1) cp) (j + 1) (cs ++ [x0, vi, vp]))
    (hgrow : ((w6.setCell ⟨w2.heap.size, 2, none⟩ vp).alloc o2).grownBy w9 vs.ownBlock) (hat : vs.ownBlock = some gg ∨ gg = ((w6.setCell ⟨w2.heap.size, 2, none⟩ vp).alloc o2).heap.size)
    (hnext : timesAt (nodeAt bs) m0 (j + 1) = some (ns ++ [⟨op, is, ps⟩], q3)) :
    GrIn w R vb bs T TN N L z out m0 (j + 1) (ns ++ [⟨op, is, ps⟩]) q3 (.slice (some ⟨gg, 0, none⟩) (j + 1) cp) (cs ++ [x0, vi, vp]) (w9.setCell ⟨L, 0, none⟩ (.slice (some ⟨gg, 0, none⟩) (j + 1) cp)) := by
  subst hx0
  obtain ⟨n0, hn0⟩ := h.loc.old
  have hR := hn0.lt
  have hNs := h.loc.hN
  have hLs := h.loc.hL
  have hNl := Blk.lt h.loc.res
  have hLl := Blk.lt h.loc.loc
  have s0 := h.loc.mod.size
  have s2 := hm2.size
  have s4 := hm4.size
  have s6 := hm6.size
  have e2 : (w2.alloc o).heap.size = w2.heap.size + 1 := by simp
  have e4 : (w4.setCell ⟨w2.heap.size, 1, none⟩ vi).heap.size = w4.heap.size := by simp
  have e8 : ((w6.setCell ⟨w2.heap.size, 2, none⟩ vp).alloc o2).heap.size = w6.heap.size + 1 := by simp
  have hvlt : ∀ k, vs.ownBlock = some k → w.heap.size ≤ k ∧ k < wr.heap.size := fun k hk => h.own.lt k hk
  have s9 := hgrow.size
  have hS : ∀ k, k = R ∨ k = w2.heap.size ∨ vs.ownBlock = some k → ¬ (k = N) ∧ ¬ (k = L) := fun k hk => by
    rcases hk with rfl | rfl | hk
    · omega
    · omega
    · exact ⟨fun e => h.neN (e ▸ hk), fun e => h.neL (e ▸ hk)⟩
  let S : Nat → Prop := fun k => k = R ∨ k = w2.heap.size ∨ vs.ownBlock = some k
  have p1 : Mod S wr w2 := hm2.imp fun _ _ h => .inl h
  have p2 : Mod S w2 (w2.alloc o) := Mod.alloc _ _ _
  have p3 : Mod S (w2.alloc o) w4 := hm4.imp fun _ _ h => .inl h
  have p4 : Mod S w4 (w4.setCell ⟨w2.heap.size, 1, none⟩ vi) := (Mod.setCell _ _ _).imp fun _ _ h => .inr (.inl h)
  have p5 : Mod S (w4.setCell ⟨w2.heap.size, 1, none⟩ vi) w6 := hm6.imp fun _ _ h => .inl h
  have p6 : Mod S w6 (w6.setCell ⟨w2.heap.size, 2, none⟩ vp) := (Mod.setCell _ _ _).imp fun _ _ h => .inr (.inl h)
  have p7 : Mod S (w6.setCell ⟨w2.heap.size, 2, none⟩ vp) ((w6.setCell ⟨w2.heap.size, 2, none⟩ vp).alloc o2) := Mod.alloc _ _ _
  have p8 : Mod S ((w6.setCell ⟨w2.heap.size, 2, none⟩ vp).alloc o2) w9 := (Mod.of_grown hgrow).imp fun _ _ h => .inr (.inr h)
  have p48 : Mod S w4 w9 := (((p4.trans' p5).trans' p6).trans' p7).trans' p8
  have p68 : Mod S w6 w9 := (p6.trans' p7).trans' p8
  have hM : Mod S wr w9 := ((p1.trans' p2).trans' p3).trans' p48
  have pL : Mod (fun k => k = L) w9 (w9.setCell ⟨L, 0, none⟩ (.slice (some ⟨gg, 0, none⟩) (j + 1) cp)) := Mod.setCell w9 ⟨L, 0, none⟩ _
  -- the boxes
  have hl2 := (h.loc.step hm2 hr2).alloc o
  have hl5 := (hl2.step hm4 hr4).own ⟨w2.heap.size, 1, none⟩ vi (by simp; omega) (by simp; omega) (by simp; omega)
  have hl8 := (((hl5.step hm6 hr6).own ⟨w2.heap.size, 2, none⟩ vp (by simp; omega) (by simp; omega) (by simp; omega)).alloc o2)
  have hown8 : ((w6.setCell ⟨w2.heap.size, 2, none⟩ vp).alloc o2).ownsRow w.heap.size TN 3 vs j cs := by
    refine ownsRow_mod h.own (S := fun k => k = R ∨ k = w2.heap.size) ?_ fun k hk e => by have := hvlt k hk; omega
    refine ((((((hm2.imp fun _ _ h => .inl h).trans' (Mod.alloc _ _ _)).trans' (hm4.imp fun _ _ h => .inl h)).trans' ((Mod.setCell w4 _ vi).imp fun _ _ h => .inr h)).trans' (hm6.imp fun _ _ h => .inl h)).trans' ((Mod.setCell w6 _ vp).imp fun _ _ h => .inr h)).trans' (Mod.alloc _ _ _)
  have hl9 := (hl8.grown hown8 hgrow (Nat.le_refl _) h.neN h.neL).put 0 (.slice (some ⟨gg, 0, none⟩) (j + 1) cp)
  have hggN : gg ≠ N := by
    rcases hat with hat | hat
    · exact fun e => h.neN (e ▸ hat)
    · omega
  have hggL : gg ≠ L := by
    rcases hat with hat | hat
    · exact fun e => h.neL (e ▸ hat)
    · omega
  have hgv : ∀ k, k < wr.heap.size → vs.ownBlock ≠ some k → gg ≠ k := fun k hk hv => by
    rcases hat with hat | hat
    · exact fun e => hv (e ▸ hat)
    · omega
  have hgn : ∀ k, wr.heap.size ≤ k → k < w6.heap.size → gg ≠ k := fun k hk hk6 => by
    rcases hat with hat | hat
    · have := hvlt gg hat; omega
    · omega
  refine ⟨hl9, ownsRow_mod hown pL (fun k hk => by simp only [Value.ownBlock, Option.some.injEq] at hk; subst hk; exact hggL), ?_, hnext, by simp [h.len], by simpa [Value.ownBlock] using hggN, by simpa [Value.ownBlock] using hggL⟩
  refine NodeC.snoc ?_ ⟨op, is, ps⟩ vi vp ?_ ?_
  · have n1 := h.nodes.imp (G' := fun k => k < wr.heap.size ∧ Apart w.heap.size N L vs k) (fun k hk hG => ⟨hk, hG⟩)
    have n2 := n1.mod hM (fun k hk hG hS => by
      rcases hS with rfl | rfl | hS
      · have := hG.2.1; omega
      · omega
      · exact hG.2.2.2.2 hS)
    have n3 := n2.mod pL (fun k hk hG => hG.2.2.2.1)
    refine n3.imp fun k hk hG => ⟨hG.2.1, hG.2.2.1, hG.2.2.2.1, ?_⟩
    simp only [Value.ownBlock, ne_eq, Option.some.injEq]
    exact hgv k hG.1 hG.2.2.2.2
  · have n1 := RowG.imp hi (G' := fun k => w2.heap.size < k ∧ k < w4.heap.size) (fun k hk hG => ⟨by omega, hk⟩)
    have n2 := RowG.mod n1 p48 (fun k hk hG hS => by
      rcases hS with rfl | rfl | hS
      · omega
      · omega
      · have := hvlt k hS; omega)
    have n3 := RowG.mod n2 pL (fun k hk hG => by omega)
    refine RowG.imp n3 fun k hk hG => ⟨by omega, by omega, by omega, ?_⟩
    simp only [Value.ownBlock, ne_eq, Option.some.injEq]
    exact hgn k (by omega) (by omega)
  · have n1 := RowG.imp hp (G' := fun k => w4.heap.size ≤ k ∧ k < w6.heap.size) (fun k hk hG => ⟨by omega, hk⟩)
    have n2 := RowG.mod n1 p68 (fun k hk hG hS => by
      rcases hS with rfl | rfl | hS
      · omega
      · omega
      · have := hvlt k hS; omega)
    have n3 := RowG.mod n2 pL (fun k hk hG => by omega)
    refine RowG.imp n3 fun k hk hG => ⟨by omega, by omega, by omega, ?_⟩
    simp only [Value.ownBlock, ne_eq, Option.some.injEq]
    exact hgn k (by omega) (by omega)

theorem graphAt_node {bs : List Nat} {m : Nat} {op : Int} {q1 q2 q3 : Nat} {is ps : List Int} {m0 j : Nat} {ns : List GNode} (h : timesAt (nodeAt bs) m0 j = some (ns, m)) (h1 : numAt bs m = some (op, q1)) (h2 : listAt bs q1 = some (is, q2)) (h3 : listAt bs q2 = some (ps, q3)) :
    timesAt (nodeAt bs) m0 (j + 1) = some (ns ++ [⟨op, is, ps⟩], q3) := by
  have : nodeAt bs m = some (⟨op, is, ps⟩, q3) := by simp [nodeAt, h1, h2, h3]
  rw [timesAt, h]
  simp only [this]

theorem graphAt_none {bs : List Nat} {n m : Nat} {out : Int} {k m0 : Nat} (h : numAt bs n = some (out, m)) (h0 : withinAt bs m 0 1000 = some ((k : Int), m0)) {j q : Nat} {ns : List GNode} (hj : timesAt (nodeAt bs) m0 j = some (ns, q)) (hq : nodeAt bs q = none) (hk : j < k) : graphAt bs n = none := by
  have h1 : timesAt (nodeAt bs) m0 k = none := timesAt_none (k := j) (by rw [timesAt, hj]; simp only [hq]) hk
  simp [graphAt, h, h0, h1]

end Go.Gou
namespace Go.Proofs.Ytnamnmipgpcjjaa
open Go.RowKit Go.Gou

def IsGraph (B : Nat) (w : World) (v : Value) (g : Gr) : Prop := ∃ p c, v = .agg #[.slice p g.nodes.length c, .int .i64 g.out] ∧ NodesR (fun b => B ≤ b) w (.slice p g.nodes.length c) g.nodes

theorem info_node : (Try.prog.info? 82).map (fun i => (i.zero, i.size, i.bytes)) = some (some (.agg #[.int .i64 0, .slice none 0 0, .slice none 0 0]), 3, 56) := by kernel_rfl

set_option maxRecDepth 100000 in
set_option maxHeartbeats 4000000 in
theorem graph_any (w : World) (R : Nat) (vb : Value) (bs : List Nat) (n : Nat) (h : RdAt w R vb bs n) :
    Calls Try.prog 66 #[.pointer (some ⟨R, 0, none⟩)] w (RdP w R vb bs (IsGraph w.heap.size) (graphAt bs n)) := by
  have H := Lib.hid h
  have hR := h.lt
  clear h
  obtain ⟨iN, hiN, hz0, hz1, hz2⟩ := info_parts info_node
  have hz3 : (Value.agg #[.int .i64 0, .slice none 0 0, .slice none 0 0]).cells.size = 3 := rfl
  go_enter Try.func66, Try.ntmps66
  go_wp2_with fail
  refine (number_any _ R vb bs n (H.out.alloc _)).mono ?_
  intro e w1 h1
  cases hn : numAt bs n with
  | none =>
    rw [hn] at h1
    obtain ⟨rfl, h2⟩ := h1.fault (J := IsGraph w.heap.size) (res := graphAt bs n) (Mod.alloc _ _ _) (by unfold graphAt; rw [hn]; rfl)
    exact ⟨rfl, h2⟩
  | some p =>
    obtain ⟨out, m⟩ := p
    rw [hn] at h1
    obtain ⟨hm1, _, rfl, rfl, hr1⟩ := h1
    have Hl0 := Lib.hid (Loc.start H.out hm1 hr1 #[.slice none 0 0, .int .i64 out])
    have Hn := Lib.hid hn
    clear hm1 hr1 hn
    go_wp2_with fail
    refine (within_any _ R vb bs m 0 1000 Hl0.out.rd).mono ?_
    intro e w2 h2
    cases hn2 : withinAt bs m 0 1000 with
    | none =>
      rw [hn2] at h2
      obtain ⟨rfl, h3⟩ := h2.fault (J := IsGraph w.heap.size) (res := graphAt bs n) Hl0.out.mod (by have := Hn.out; simp [graphAt, this, hn2])
      exact ⟨rfl, h3⟩
    | some p =>
      obtain ⟨x, m0⟩ := p
      have hb := withinAt_bounds hn2
      obtain ⟨k, rfl⟩ : ∃ k : Nat, x = (k : Int) := ⟨x.toNat, by omega⟩
      have hk : k ≤ 1000 := by omega
      rw [hn2] at h2
      obtain ⟨hm2, _, rfl, rfl, hr2⟩ := h2
      have hl2 := Hl0.out.step hm2 hr2
      have Hl2 := Lib.hid hl2
      have Hn2 := Lib.hid hn2
      generalize hL : w1.heap.size = L at *
      clear Hl0 hn2 hb hm2 hr2 hl2 hL
      clear w1
      go_wp2_with fail
      go_loopw [4, 5] (fun c _ wr => ∃ (j : Nat) (ns : List GNode) (q : Nat) (vs : Value) (cs : List Value), c = .int .i64 ((k : Int) - (j : Int)) ∧ j ≤ k ∧ GrIn w R vb bs 33 82 w.heap.size L #[.slice none 0 0, .int .i64 0] out m0 j ns q vs cs wr) (fun c _ _ => (intOf c).toNat)
      case atStart => exact ⟨0, [], m0, _, [], by simp, by omega, Hl2.out, World.ownsRow_nil _ _ _ _, NodeC.nil _ _, rfl, rfl, by simp [Value.ownBlock], by simp [Value.ownBlock]⟩
      case round =>
        obtain ⟨j, ns, q, vs, cs, rfl, hj, hc⟩ := hrel
        obtain ⟨p0, c0, rfl⟩ := ownsRow_form hc.own
        have Hc := Lib.hid hc
        have hlc := hc.loc.loc
        have hLw := Blk.lt hlc
        clear hc
        by_cases hjk : j < k
        · have e1 : decide ((0 : Int) < (k : Int) - (j : Int)) = true := by simp; omega
          clear hlc
          go_wp2_with fail
          refine (number_any _ R vb bs q Hc.out.loc.rd).mono ?_
          intro e w2 h2
          cases hn1 : numAt bs q with
          | none =>
            rw [hn1] at h2
            obtain ⟨rfl, h3⟩ := h2.fault (J := IsGraph w.heap.size) (res := graphAt bs n) Hc.out.loc.mod (graphAt_none Hn.out Hn2.out Hc.out.at_ (by simp [nodeAt, hn1]) hjk)
            exact ⟨rfl, h3⟩
          | some p =>
            obtain ⟨op, q1⟩ := p
            rw [hn1] at h2
            obtain ⟨hm2, _, rfl, rfl, hr2⟩ := h2
            have Hm2 := Lib.hid hm2
            have Hr2 := Lib.hid hr2
            have Hn3 := Lib.hid hn1
            have Hl3 := Lib.hid (Hc.out.loc.step hm2 hr2)
            clear hn1 hm2 hr2
            go_wp2_with fail
            refine (list_any _ R vb bs q1 (Hr2.out.alloc _)).mono ?_
            intro e w4 h4
            cases hn4 : listAt bs q1 with
            | none =>
              rw [hn4] at h4
              obtain ⟨rfl, h3⟩ := h4.fault (J := IsGraph w.heap.size) (res := graphAt bs n) (Hl3.out.alloc _).mod (graphAt_none Hn.out Hn2.out Hc.out.at_ (by have := Hn3.out; simp [nodeAt, this, hn4]) hjk)
              exact ⟨rfl, h3⟩
            | some p =>
              obtain ⟨is, q2⟩ := p
              rw [hn4] at h4
              obtain ⟨hm4, vi, rfl, hi4, hr4⟩ := h4
              obtain ⟨pi, ci, rfl, -⟩ := RowG.form hi4
              have Hm4 := Lib.hid hm4
              have Hr4 := Lib.hid hr4
              have Hi4 := Lib.hid hi4
              have Hn4 := Lib.hid hn4
              have hX : Blk w4 w2.heap.size 82 #[.int .i64 op, .slice none 0 0, .slice none 0 0] := Blk.mod (heap_alloc_new w2 _) hm4 (by have := Hl3.out.mod.size; omega)
              have hx1 := hX.cell 1 rfl
              have hg1 := hX.frozen 1
              have HX := Lib.hid (hX.set 1 (.slice pi is.length ci))
              have Hl4 := Lib.hid (((Hl3.out.alloc _).step hm4 hr4).own ⟨w2.heap.size, 1, none⟩ (.slice pi is.length ci) (by have := Hl3.out.mod.size; simp; omega) (by have := Blk.lt Hl3.out.res; simp; omega) (by have := Blk.lt Hl3.out.loc; simp; omega))
              clear hn4 hm4 hr4 hi4 hX
              go_wp2_with fail
              refine (list_any _ R vb bs q2 Hl4.out.rd).mono ?_
              intro e w6 h6
              cases hn6 : listAt bs q2 with
              | none =>
                rw [hn6] at h6
                obtain ⟨rfl, h3⟩ := h6.fault (J := IsGraph w.heap.size) (res := graphAt bs n) Hl4.out.mod (graphAt_none Hn.out Hn2.out Hc.out.at_ (by have g1 := Hn3.out; have g2 := Hn4.out; simp [nodeAt, g1, g2, hn6]) hjk)
                exact ⟨rfl, h3⟩
              | some p =>
                obtain ⟨ps, q3⟩ := p
                rw [hn6] at h6
                obtain ⟨hm6, vp, rfl, hi6, hr6⟩ := h6
                obtain ⟨pp, cp6, rfl, -⟩ := RowG.form hi6
                have hX := HX.out.mod hm6 (by have := Hl3.out.mod.size; omega)
                have hx0 := hX.cell 0 rfl
                have hx2 := hX.cell 1 rfl
                have hx3 := hX.cell 2 rfl
                have hg2 := hX.frozen 2
                have hl6 := Hl4.out.step hm6 hr6
                have hv0 := hl6.loc.cell 0 rfl
                have hL2 : L < w2.heap.size := Blk.lt Hl3.out.loc
                have hN2 : w.heap.size < w2.heap.size := Blk.lt Hl3.out.res
                have hX6 : w2.heap.size < w6.heap.size := Blk.lt hX
                have hne1 : L ≠ w2.heap.size := by omega
                have hne2 : w2.heap.size ≠ L := by omega
                have hwL : w.heap.size ≤ L := hl6.hL
                have hown8 : ((w6.setCell ⟨w2.heap.size, 2, none⟩ (.slice pp ps.length cp6)).alloc (.cells #[.int .i64 op, .slice pi is.length ci, .slice pp ps.length cp6] 82)).ownsRow w.heap.size 82 3 (.slice p0 j c0) j cs := by
                  have hlt := fun k hk => Hc.out.own.lt k hk
                  refine ownsRow_mod Hc.out.own (S := fun k => k = R ∨ k = w2.heap.size) ?_ fun k hk e => by have h1 := hlt k hk; have h2 := Hm2.out.size; omega
                  exact ((((((Hm2.out.imp fun _ _ h => .inl h).trans' (Mod.alloc _ _ _)).trans' (Hm4.out.imp fun _ _ h => .inl h)).trans' ((Mod.setCell w4 _ _).imp fun _ _ h => .inr h)).trans' (hm6.imp fun _ _ h => .inl h)).trans' ((Mod.setCell w6 _ _).imp fun _ _ h => .inr h)).trans' (Mod.alloc _ _ _)
                have Hown8 := Lib.hid hown8
                have Hn6 := Lib.hid hn6
                have Hm6 := Lib.hid hm6
                have Hr6 := Lib.hid hr6
                have Hi6 := Lib.hid hi6
                have HlX := Lib.hid (((hl6.own ⟨w2.heap.size, 2, none⟩ (.slice pp ps.length cp6) (by simp; omega) (by simp; omega) (by simp; omega)).alloc (.cells #[.int .i64 op, .slice pi is.length ci, .slice pp ps.length cp6] 82)))
                clear hn6 hm6 hr6 hi6 hX hl6 hown8
                go_wp2_with (at_builtin; go_loud (refine wpList_append_lies _ rfl _ _ 31 rfl w.heap.size 82 iN _ 3 56 Try.underlying31 hiN hz0 hz1 hz2 hz3 (by omega) (.slice p0 j c0) j cs rfl Hown8.out ⟨w6.heap.size, 0, none⟩ 1 1 [.int .i64 op, .slice pi is.length ci, .slice pp ps.length cp6] rfl rfl (news_at (heap_at (by simp)) rfl) (by simp [Value.oneCell']) (by omega) (by unfold maxLen; omega) (by omega) (by simp; omega) (w6.heap.size + 1) (by simp) ?_))
                intro gg cp w9 hown9 hgrow9 hat9 hlt9
                have hG : GrIn w R vb bs 33 82 w.heap.size L #[.slice none 0 0, .int .i64 0] out m0 (j + 1) (ns ++ [⟨op, is, ps⟩]) q3 (.slice (some ⟨gg, 0, none⟩) (j + 1) cp) (cs ++ [.int .i64 op, .slice pi is.length ci, .slice pp ps.length cp6]) (w9.setCell ⟨L, 0, none⟩ (.slice (some ⟨gg, 0, none⟩) (j + 1) cp)) :=
                  Hc.out.step Hm2.out Hr2.out Hm4.out Hr4.out Hi4.out Hm6.out Hr6.out Hi6.out rfl hown9 hgrow9 (by simpa using hat9) (graphAt_node Hc.out.at_ Hn3.out Hn4.out Hn6.out)
                have hl9 := HlX.out.grown Hown8.out hgrow9 (Nat.le_refl _) Hc.out.neN Hc.out.neL
                have hc9 := hl9.loc.cell 0 rfl
                have hf9 := hl9.loc.frozen 0
                have HG := Lib.hid hG
                clear hG hl9 hown9 hgrow9 hat9 hlt9 hx0 hx2 hx3 hg2 hv0 Hown8 HlX
                go_wp2_with fail
                go_roundw
                case rel => exact ⟨j + 1, _, _, _, _, by go_num, by omega, HG.out⟩
                case measure => simp [intOf]; omega
        · obtain rfl : j = k := by omega
          have e1 : decide ((0 : Int) < (j : Int) - (j : Int)) = false := by simp
          have hv0 := hlc.cell 0 rfl
          have hv1 := hlc.cell 1 rfl
          have hlr := Hc.out.loc.res
          have hz0 := hlr.cell 0 rfl
          have hz1 := hlr.cell 1 rfl
          have hf0 := hlr.frozen 0
          have hf1 := hlr.frozen 1
          clear hlr hlc
          go_wp2_with fail
          obtain ⟨d1, d2, d3, d4⟩ := Hc.out.loc.done rfl
          have hres : graphAt bs n = some (⟨ns, out⟩, q) := by
            have g1 := Hn.out
            have g2 := Hn2.out
            have g3 := Hc.out.at_
            simp [graphAt, g1, g2, g3]
          refine RdP.ends rfl rfl rfl d3 Try.underlying33 rfl size_graph hres d2 ?_ d1
          have hlen := Hc.out.len
          subst hlen
          refine ⟨p0, c0, rfl, ?_⟩
          refine NodesR.mod (G := fun b => w.heap.size ≤ b ∧ b ≠ w.heap.size) ?_ d4 (fun k _ hG => hG.2) |>.imp fun k _ hG => hG.1
          exact ⟨cs, RowG.own_of Hc.out.own (fun b hb hB => ⟨hB, fun e => Hc.out.neN (e ▸ hb)⟩), Hc.out.nodes.imp fun k _ hG => ⟨hG.1, hG.2.1⟩⟩

end Go.Proofs.Ytnamnmipgpcjjaa
