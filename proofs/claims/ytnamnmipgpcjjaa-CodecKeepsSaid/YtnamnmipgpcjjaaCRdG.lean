/- Acts as bytes: how many pixels. -/
import Derived.Test.YtnamnmipgpcjjaaCRdF
import Derived.Deep.RegionLawGrows
namespace Go.Gou
open Go.RowKit

def countOf (x y : Int) : Nat := if x < 1 ∨ y < 1 ∨ 4096 < x ∨ 4096 < y ∨ 65536 < x * y then 0 else (x * y).toNat

theorem countOf_le (x y : Int) : countOf x y ≤ 65536 := by
  unfold countOf
  split
  · omega
  · rename_i h
    simp only [not_or] at h
    generalize x * y = z at *
    omega

def contentAt (bs : List Nat) (n : Nat) : Option (Ct × Nat) := (numAt bs n).bind fun k =>
  if k.1 = 1 then (boxAt bs k.2).bind fun b => (pixelAt bs b.2).bind fun p => some (⟨1, Rc.of b.1, Pxl.of p.1, 0, 0, 0, []⟩, p.2)
  else if k.1 = 2 then (numAt bs k.2).bind fun x => (numAt bs x.2).bind fun y => (numAt bs y.2).bind fun w => (numAt bs w.2).bind fun h => (numAt bs h.2).bind fun t =>
    if 4 * countOf w.1 h.1 ≤ bs.length - t.2 then (timesAt (pixelAt bs) t.2 (countOf w.1 h.1)).bind fun ps => some (⟨2, ⟨x.1, y.1, 0, 0⟩, Pxl.zero, w.1, h.1, t.1, ps.1.map Pxl.of⟩, ps.2) else none
  else some (⟨k.1, Rc.zero, Pxl.zero, 0, 0, 0, []⟩, k.2)

theorem rawAt_some {bs : List Nat} {n : Nat} (h : n < bs.length) : ∃ x, rawAt bs n = some (x, n + 1) := ⟨bs[n], by unfold rawAt; rw [dif_pos h]⟩

theorem pixelAt_some {bs : List Nat} {n : Nat} (h : n + 4 ≤ bs.length) : ∃ a b c d, pixelAt bs n = some ([a, b, c, d], n + 4) := by
  obtain ⟨a, ha⟩ := rawAt_some (bs := bs) (n := n) (by omega)
  obtain ⟨b, hb⟩ := rawAt_some (bs := bs) (n := n + 1) (by omega)
  obtain ⟨c, hc⟩ := rawAt_some (bs := bs) (n := n + 2) (by omega)
  obtain ⟨d, hd⟩ := rawAt_some (bs := bs) (n := n + 3) (by omega)
  exact ⟨a, b, c, d, by simp [pixelAt, timesAt, ha, hb, hc, hd]⟩

theorem pxs_of {l : List Nat} (v : Value) (h : v = .agg #[.int .u8 (l.getD 0 0 : Nat), .int .u8 (l.getD 1 0 : Nat), .int .u8 (l.getD 2 0 : Nat), .int .u8 (l.getD 3 0 : Nat)]) : v = .agg (Pxl.of l).cells.toArray := h

/-- On the way through a content's pixels. -/
structure CtIn (w : World) (R : Nat) (vb : Value) (bs : List Nat) (T TP : TypeId) (N L : Nat) (z : Array Value) (c : Ct) (m0 j : Nat) (ps : List (List Nat)) (q : Nat) (vs : Value) (wr : World) : Prop where
  loc : Loc w R vb bs T N L z (contC c vs) q wr
  own : wr.ownsRow w.heap.size TP 4 vs j (pxs (ps.map Pxl.of))
  at_ : timesAt (pixelAt bs) m0 j = some (ps, q)
  len : ps.length = j
  place : q = m0 + 4 * j
  neN : vs.ownBlock ≠ some N
  neL : vs.ownBlock ≠ some L

theorem CtIn.step {w : World} {R : Nat} {vb : Value} {bs : List Nat} {T TP : TypeId} {N L : Nat} {z : Array Value} {c : Ct} {m0 j : Nat} {ps : List (List Nat)} {q : Nat} {vs : Value} {wr w2 w4 : World} (h : CtIn w R vb bs T TP N L z c m0 j ps q vs wr)
    (hm2 : Mod (fun k => k = R) wr.drew w2) {x : List Nat} (hx : pixelAt bs q = some (x, q + 4)) (hr2 : RdAt w2 R vb bs (q + 4)) {o : Obj} {gg cp : Nat} {t : Nat} (ht : t = j + 1)
    (hown : w4.ownsRow w.heap.size TP 4 (.slice (some ⟨gg, 0, none⟩) t cp) t (pxs (ps.map Pxl.of) ++ (Pxl.of x).cells)) (hgrow : (w2.alloc o).grownBy w4 vs.ownBlock) (hat : vs.ownBlock = some gg ∨ gg = w2.heap.size + 1) :
    CtIn w R vb bs T TP N L z c m0 (j + 1) (ps ++ [x]) (q + 4) (.slice (some ⟨gg, 0, none⟩) t cp) (w4.setCell ⟨L, 12, none⟩ (.slice (some ⟨gg, 0, none⟩) t cp)) := by
  subst ht
  obtain ⟨n, hn⟩ := h.loc.old
  have hR := hn.lt
  have hvlt : ∀ k, vs.ownBlock = some k → w.heap.size ≤ k ∧ k < wr.heap.size := fun k hk => h.own.lt k hk
  have hNlt := Blk.lt h.loc.res
  have hLlt := Blk.lt h.loc.loc
  have hm := h.loc.mod
  have hs0 := hm.size
  have hs2 := hm2.size
  simp only [World.size_drew] at hs2
  have hl2 := ((h.loc.step (Mod.drew (fun k => k = R) wr) (h.loc.rd.mod (Mod.drew (fun _ => False) wr) (fun h => h) (fun _ _ _ h => h))).step hm2 hr2).alloc o
  have hm02 : Mod (fun k => k = R) wr (w2.alloc o) := ((Mod.drew (fun k => k = R) wr).trans' hm2).trans' (Mod.alloc _ _ _)
  have hown2 : (w2.alloc o).ownsRow w.heap.size TP 4 vs j (pxs (ps.map Pxl.of)) := ownsRow_mod h.own hm02 fun k hk e => by have := hvlt k hk; omega
  have hl4 := (hl2.grown hown2 hgrow (Nat.le_refl _) h.neN h.neL).put 12 (.slice (some ⟨gg, 0, none⟩) (j + 1) cp)
  have hggN : gg ≠ N := by
    rcases hat with hat | hat
    · exact fun e => h.neN (e ▸ hat)
    · omega
  have hggL : gg ≠ L := by
    rcases hat with hat | hat
    · exact fun e => h.neL (e ▸ hat)
    · omega
  refine ⟨hl4, ?_, by rw [timesAt, h.at_]; simp only [hx], by simp [h.len], by have := h.place; omega, by simpa [Value.ownBlock] using hggN, by simpa [Value.ownBlock] using hggL⟩
  have e : pxs ((ps ++ [x]).map Pxl.of) = pxs (ps.map Pxl.of) ++ (Pxl.of x).cells := by simp [pxs]
  rw [e]
  exact ownsRow_mod hown (S := fun k => k = L) (Mod.setCell w4 ⟨L, 12, none⟩ _) fun k hk => by simp only [Value.ownBlock, Option.some.injEq] at hk; subst hk; exact hggL

/-- A slice whose block is new, and may be written. -/
def SoftB (B : Nat) (w : World) (v : Value) : Prop := ∀ b, v.ownBlock = some b → B ≤ b ∧ ∃ cur T, w.heap[b]? = some (.cells cur T (0, 0))

theorem SoftB.nil (B : Nat) (w : World) : SoftB B w (.slice none 0 0) := fun b hb => by cases hb

theorem SoftB.of_own {w : World} {base : Nat} {e : TypeId} {k : Nat} {v : Value} {n : Nat} {cs : List Value} (h : w.ownsRow base e k v n cs) : SoftB base w v := fun b hb => ⟨(h.lt b hb).1, Soft.of_own h b hb⟩

theorem SoftB.mod {B : Nat} {S : Nat → Prop} {w w' : World} {v : Value} (h : SoftB B w v) (hm : Mod S w w') (hS : ∀ b, B ≤ b → b < w.heap.size → ¬ S b) : SoftB B w' v := fun b hb => by
  obtain ⟨h1, cur, T, h2⟩ := h b hb
  have hlt : b < w.heap.size := (Array.getElem?_eq_some_iff.1 h2).1
  refine ⟨h1, cur, T, ?_⟩
  have := hm.block b hlt (hS b h1 hlt)
  rw [this, h2]

theorem SoftB.low {B B' : Nat} {w : World} {v : Value} (h : SoftB B w v) (hB : B' ≤ B) : SoftB B' w v := fun b hb => ⟨Nat.le_trans hB (h b hb).1, (h b hb).2⟩

theorem contC_one (c : Ct) (p : Option Addr) (n k : Nat) : (contC c (.slice p n k)).all (·.oneCell') = true := by simp [contC, Value.oneCell']

theorem RdAt.drewN {w : World} {R : Nat} {vb : Value} {bs : List Nat} {n : Nat} (h : RdAt w R vb bs n) (k : Nat) : RdAt (w.drewN k) R vb bs n :=
  h.mod (Mod.drewN (fun _ => False) w k) (fun h => h) (fun _ _ _ h => h)

theorem RdAt.drew {w : World} {R : Nat} {vb : Value} {bs : List Nat} {n : Nat} (h : RdAt w R vb bs n) : RdAt w.drew R vb bs n :=
  h.mod (Mod.drew (fun _ => False) w) (fun h => h) (fun _ _ _ h => h)

theorem Loc.drewN {w : World} {R : Nat} {vb : Value} {bs : List Nat} {T : TypeId} {N L : Nat} {z cs : Array Value} {m : Nat} {wr : World} (h : Loc w R vb bs T N L z cs m wr) (k : Nat) : Loc w R vb bs T N L z cs m (wr.drewN k) :=
  h.step (Mod.drewN _ _ _) (h.rd.drewN k)

theorem CtIn.own2 {w : World} {R : Nat} {vb : Value} {bs : List Nat} {T TP : TypeId} {N L : Nat} {z : Array Value} {c : Ct} {m0 j : Nat} {ps : List (List Nat)} {q : Nat} {vs : Value} {wr w2 : World} (h : CtIn w R vb bs T TP N L z c m0 j ps q vs wr)
    (hm2 : Mod (fun k => k = R) wr.drew w2) (o : Obj) : (w2.alloc o).ownsRow w.heap.size TP 4 vs j (pxs (ps.map Pxl.of)) := by
  obtain ⟨n, hn⟩ := h.loc.old
  have hR := hn.lt
  exact ownsRow_mod h.own (((Mod.drew (fun k => k = R) wr).trans' hm2).trans' (Mod.alloc _ _ _)) fun k hk e => by have := h.own.lt k hk; omega

theorem CtIn.cell2 {w : World} {R : Nat} {vb : Value} {bs : List Nat} {T TP : TypeId} {N L : Nat} {z : Array Value} {c : Ct} {m0 j : Nat} {ps : List (List Nat)} {q : Nat} {vs : Value} {wr w2 : World} (h : CtIn w R vb bs T TP N L z c m0 j ps q vs wr)
    (hm2 : Mod (fun k => k = R) wr.drew w2) : w2.cell? ⟨L, 12, none⟩ = some vs ∧ w2.frozen? ⟨L, 12, none⟩ = false := by
  obtain ⟨n, hn⟩ := h.loc.old
  have hR := hn.lt
  have hL := h.loc.hL
  have h2 := h.loc.loc.mod ((Mod.drew (fun k => k = R) wr).trans' hm2) (by omega)
  exact ⟨h2.cell 12 rfl, h2.frozen 12⟩

theorem CtIn.cell4 {w : World} {R : Nat} {vb : Value} {bs : List Nat} {T TP : TypeId} {N L : Nat} {z : Array Value} {c : Ct} {m0 j : Nat} {ps : List (List Nat)} {q : Nat} {vs : Value} {wr w2 w4 : World} (h : CtIn w R vb bs T TP N L z c m0 j ps q vs wr)
    (hm2 : Mod (fun k => k = R) wr.drew w2) {o : Obj} (hgrow : (w2.alloc o).grownBy w4 vs.ownBlock) : w4.cell? ⟨L, 12, none⟩ = some vs ∧ w4.frozen? ⟨L, 12, none⟩ = false := by
  obtain ⟨n, hn⟩ := h.loc.old
  have hR := hn.lt
  have hL := h.loc.hL
  have h2 : Blk (w2.alloc o) L T (contC c vs) := h.loc.loc.mod (((Mod.drew (fun k => k = R) wr).trans' hm2).trans' (Mod.alloc _ _ _)) (by omega)
  have h4 := h2.mod (Mod.of_grown hgrow) h.neL
  exact ⟨h4.cell 12 rfl, h4.frozen 12⟩

end Go.Gou
namespace Go.Proofs.Ytnamnmipgpcjjaa
open Go.RowKit Go.Gou

set_option maxHeartbeats 1000000 in
theorem count_any (w : World) (x y : Int) : Calls Try.prog 59 #[.int .i64 x, .int .i64 y] w fun e w' => e = .returned (.int .i64 (countOf x y)) ∧ w' = w := by
  go_enter Try.func59, Try.ntmps59
  by_cases h1 : x < 1
  · have e1 : decide (x < 1) = true := by simp; omega
    have hr : (countOf x y : Int) = 0 := by unfold countOf; rw [if_pos (.inl h1)]; rfl
    rw [hr]
    clear h1 hr
    go_wp2
    go_ret
    exact ⟨rfl, rfl⟩
  have e1 : decide (x < 1) = false := by simp; omega
  by_cases h2 : y < 1
  · have e2 : decide (y < 1) = true := by simp; omega
    have hr : (countOf x y : Int) = 0 := by unfold countOf; rw [if_pos (.inr (.inl h2))]; rfl
    rw [hr]
    clear h1 h2 hr
    go_wp2
    go_ret
    exact ⟨rfl, rfl⟩
  have e2 : decide (y < 1) = false := by simp; omega
  by_cases h3 : 4096 < x
  · have e3 : decide (4096 < x) = true := by simp; omega
    have hr : (countOf x y : Int) = 0 := by unfold countOf; rw [if_pos (.inr (.inr (.inl h3)))]; rfl
    rw [hr]
    clear h1 h2 h3 hr
    go_wp2
    go_ret
    exact ⟨rfl, rfl⟩
  have e3 : decide (4096 < x) = false := by simp; omega
  by_cases h4 : 4096 < y
  · have e4 : decide (4096 < y) = true := by simp; omega
    have hr : (countOf x y : Int) = 0 := by unfold countOf; rw [if_pos (.inr (.inr (.inr (.inl h4))))]; rfl
    rw [hr]
    clear h1 h2 h3 h4 hr
    go_wp2
    go_ret
    exact ⟨rfl, rfl⟩
  have e4 : decide (4096 < y) = false := by simp; omega
  have hb : 1 ≤ x * y ∧ x * y ≤ 16777216 := by
    constructor
    · have h : (1 : Int) * 1 ≤ x * y := Int.mul_le_mul (by omega) (by omega) (by omega) (by omega)
      omega
    · have h : x * y ≤ (4096 : Int) * 4096 := Int.mul_le_mul (by omega) (by omega) (by omega) (by omega)
      omega
  have hw : wrap64 (x * y) = x * y := IntWalk.wrap64_in _ (by omega)
  have hr : Hid ((countOf x y : Int) = if 65536 < x * y then 0 else x * y) := Lib.hid (by
    unfold countOf
    by_cases h5 : 65536 < x * y
    · rw [if_pos h5, if_pos (.inr (.inr (.inr (.inr h5))))]; rfl
    · rw [if_neg h5, if_neg (by simp only [not_or]; exact ⟨h1, h2, h3, h4, h5⟩)]
      omega)
  generalize (countOf x y : Int) = r at *
  by_cases h5 : 65536 < x * y
  · have e5 : decide (65536 < x * y) = true := by simp; omega
    have hr2 := hr.out
    rw [if_pos h5] at hr2
    clear h1 h2 h3 h4 h5 hb hr
    subst hr2
    go_wp2
    go_ret
    exact ⟨rfl, rfl⟩
  · have e5 : decide (65536 < x * y) = false := by simp; omega
    have hr2 := hr.out
    rw [if_neg h5] at hr2
    clear h1 h2 h3 h4 h5 hb hr
    subst hr2
    go_wp2
    go_ret
    exact ⟨congrArg (fun z => Ending.returned (Value.int .i64 z)) hw, rfl⟩

def IsContent (B : Nat) (w : World) (v : Value) (c : Ct) : Prop := ∃ p cap, v = .agg (contC c (.slice p c.pix.length cap)) ∧ PixR (fun b => B ≤ b) w (.slice p c.pix.length cap) c.pix ∧ SoftB B w (.slice p c.pix.length cap)

theorem info_px : (Try.prog.info? 27).map (fun i => (i.zero, i.size, i.bytes)) = some (some (.agg #[.int .u8 0, .int .u8 0, .int .u8 0, .int .u8 0]), 4, 4) := by kernel_rfl


end Go.Proofs.Ytnamnmipgpcjjaa
