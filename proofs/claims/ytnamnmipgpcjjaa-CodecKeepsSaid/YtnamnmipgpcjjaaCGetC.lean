/- Acts as bytes: acts are read, the walk. -/
import Derived.Test.YtnamnmipgpcjjaaCGetB
import Derived.Great.BuildSlice
namespace Go.Gou
open Go.RowKit

theorem listAt_le {bs : List Nat} (n : Nat) (x : List Int) (m : Nat) (h : listAt bs n = some (x, m)) : n ≤ m := by
  obtain ⟨⟨k, q⟩, h1, h2⟩ := Option.bind_eq_some_iff.1 h
  have := withinAt_le h1
  have := timesAt_le numAt_le h2
  omega
theorem confAt_le {bs : List Nat} {n : Nat} {x : Cf} {m : Nat} (h : confAt bs n = some (x, m)) : n ≤ m := by
  obtain ⟨⟨k, q⟩, h1, h⟩ := Option.bind_eq_some_iff.1 h
  obtain ⟨⟨y, r⟩, h2, h⟩ := Option.bind_eq_some_iff.1 h
  have := withinAt_le h1
  have := numAt_le _ _ _ h2
  simp only [Option.some.injEq, Prod.mk.injEq] at h
  omega
theorem nodeAt_le {bs : List Nat} (n : Nat) (x : GNode) (m : Nat) (h : nodeAt bs n = some (x, m)) : n ≤ m := by
  obtain ⟨⟨k, q⟩, h1, h⟩ := Option.bind_eq_some_iff.1 h
  obtain ⟨⟨y, r⟩, h2, h⟩ := Option.bind_eq_some_iff.1 h
  obtain ⟨⟨u, t⟩, h3, h⟩ := Option.bind_eq_some_iff.1 h
  have := numAt_le _ _ _ h1
  have := listAt_le _ _ _ h2
  have := listAt_le _ _ _ h3
  simp only [Option.some.injEq, Prod.mk.injEq] at h
  omega
theorem graphAt_le {bs : List Nat} {n : Nat} {x : Gr} {m : Nat} (h : graphAt bs n = some (x, m)) : n ≤ m := by
  obtain ⟨⟨k, q⟩, h1, h⟩ := Option.bind_eq_some_iff.1 h
  obtain ⟨⟨y, r⟩, h2, h⟩ := Option.bind_eq_some_iff.1 h
  obtain ⟨⟨u, t⟩, h3, h⟩ := Option.bind_eq_some_iff.1 h
  have := numAt_le _ _ _ h1
  have := withinAt_le h2
  have := timesAt_le nodeAt_le h3
  simp only [Option.some.injEq, Prod.mk.injEq] at h
  omega
theorem contentAt_le {bs : List Nat} {n : Nat} {x : Ct} {m : Nat} (h : contentAt bs n = some (x, m)) : n ≤ m := by
  obtain ⟨⟨k, q⟩, h1, h⟩ := Option.bind_eq_some_iff.1 h
  have := numAt_le _ _ _ h1
  split at h
  · obtain ⟨⟨y, r⟩, h2, h⟩ := Option.bind_eq_some_iff.1 h
    obtain ⟨⟨u, t⟩, h3, h⟩ := Option.bind_eq_some_iff.1 h
    have := boxAt_le h2
    have := pixelAt_le _ _ _ h3
    simp only [Option.some.injEq, Prod.mk.injEq] at h
    omega
  · split at h
    · obtain ⟨⟨a1, b1⟩, g1, h⟩ := Option.bind_eq_some_iff.1 h
      obtain ⟨⟨a2, b2⟩, g2, h⟩ := Option.bind_eq_some_iff.1 h
      obtain ⟨⟨a3, b3⟩, g3, h⟩ := Option.bind_eq_some_iff.1 h
      obtain ⟨⟨a4, b4⟩, g4, h⟩ := Option.bind_eq_some_iff.1 h
      obtain ⟨⟨a5, b5⟩, g5, h⟩ := Option.bind_eq_some_iff.1 h
      have := numAt_le _ _ _ g1
      have := numAt_le _ _ _ g2
      have := numAt_le _ _ _ g3
      have := numAt_le _ _ _ g4
      have := numAt_le _ _ _ g5
      split at h
      · obtain ⟨⟨a6, b6⟩, g6, h⟩ := Option.bind_eq_some_iff.1 h
        have := timesAt_le pixelAt_le g6
        simp only [Option.some.injEq, Prod.mk.injEq] at h
        omega
      · cases h
    · simp only [Option.some.injEq, Prod.mk.injEq] at h
      omega
theorem lookAt_le {bs : List Nat} {n : Nat} {k : Int} {x : Lk} {m : Nat} (h : lookAt bs n k = some (x, m)) : n ≤ m := by
  unfold lookAt at h
  split at h
  · obtain ⟨⟨a1, b1⟩, g1, h⟩ := Option.bind_eq_some_iff.1 h
    obtain ⟨⟨a2, b2⟩, g2, h⟩ := Option.bind_eq_some_iff.1 h
    have := numAt_le _ _ _ g1
    have := numAt_le _ _ _ g2
    simp only [Option.some.injEq, Prod.mk.injEq] at h
    omega
  split at h
  · obtain ⟨⟨a1, b1⟩, g1, h⟩ := Option.bind_eq_some_iff.1 h
    have := flagAt_le g1
    split at h
    · obtain ⟨⟨a2, b2⟩, g2, h⟩ := Option.bind_eq_some_iff.1 h
      have := boxAt_le g2
      simp only [Option.some.injEq, Prod.mk.injEq] at h
      omega
    · simp only [Option.some.injEq, Prod.mk.injEq] at h
      omega
  split at h
  · obtain ⟨⟨a1, b1⟩, g1, h⟩ := Option.bind_eq_some_iff.1 h
    have := numAt_le _ _ _ g1
    simp only [Option.some.injEq, Prod.mk.injEq] at h
    omega
  split at h
  · obtain ⟨⟨a1, b1⟩, g1, h⟩ := Option.bind_eq_some_iff.1 h
    have := numAt_le _ _ _ g1
    simp only [Option.some.injEq, Prod.mk.injEq] at h
    omega
  split at h
  · obtain ⟨⟨a1, b1⟩, g1, h⟩ := Option.bind_eq_some_iff.1 h
    have := contentAt_le g1
    simp only [Option.some.injEq, Prod.mk.injEq] at h
    omega
  split at h
  · obtain ⟨⟨a1, b1⟩, g1, h⟩ := Option.bind_eq_some_iff.1 h
    have := flagAt_le g1
    split at h
    · obtain ⟨⟨a2, b2⟩, g2, h⟩ := Option.bind_eq_some_iff.1 h
      have := graphAt_le g2
      simp only [Option.some.injEq, Prod.mk.injEq] at h
      omega
    · simp only [Option.some.injEq, Prod.mk.injEq] at h
      omega
  split at h
  · obtain ⟨⟨a1, b1⟩, g1, h⟩ := Option.bind_eq_some_iff.1 h
    have := flagAt_le g1
    split at h
    · obtain ⟨⟨a2, b2⟩, g2, h⟩ := Option.bind_eq_some_iff.1 h
      have := graphAt_le g2
      simp only [Option.some.injEq, Prod.mk.injEq] at h
      omega
    · simp only [Option.some.injEq, Prod.mk.injEq] at h
      omega
  · simp only [Option.some.injEq, Prod.mk.injEq] at h
    omega
theorem oprAt_le {bs : List Nat} {n : Nat} {k : Int} {x : Opr} {m : Nat} (h : oprAt bs n k = some (x, m)) : n ≤ m := by
  obtain ⟨⟨a1, b1⟩, g1, h⟩ := Option.bind_eq_some_iff.1 h
  obtain ⟨⟨a2, b2⟩, g2, h⟩ := Option.bind_eq_some_iff.1 h
  obtain ⟨⟨a3, b3⟩, g3, h⟩ := Option.bind_eq_some_iff.1 h
  obtain ⟨⟨a4, b4⟩, g4, h⟩ := Option.bind_eq_some_iff.1 h
  have h4 := lookAt_le g4
  have h1 : n ≤ b1 := by
    split at g1
    · simp only [Option.some.injEq, Prod.mk.injEq] at g1; omega
    · exact idAt_le g1
  have h2 : b1 ≤ b2 := by
    split at g2
    · exact idAt_le g2
    · simp only [Option.some.injEq, Prod.mk.injEq] at g2; omega
  have h3 : b2 ≤ b3 := by
    split at g3
    · exact numAt_le _ _ _ g3
    · simp only [Option.some.injEq, Prod.mk.injEq] at g3; omega
  simp only [Option.some.injEq, Prod.mk.injEq] at h
  simp only at h4
  omega
theorem actAt_go {bs : List Nat} {n : Nat} {x : Ac} {m : Nat} (h : actAt bs n = some (x, m)) : n < m := by
  obtain ⟨⟨k, q⟩, h1, h⟩ := Option.bind_eq_some_iff.1 h
  have := (rawAt_place h1).1
  split at h
  · split at h
    · obtain ⟨⟨a1, b1⟩, g1, h⟩ := Option.bind_eq_some_iff.1 h
      obtain ⟨⟨a2, b2⟩, g2, h⟩ := Option.bind_eq_some_iff.1 h
      have := numAt_le _ _ _ g1
      have := numAt_le _ _ _ g2
      simp only [Option.some.injEq, Prod.mk.injEq] at h
      omega
    split at h
    · obtain ⟨⟨a1, b1⟩, g1, h⟩ := Option.bind_eq_some_iff.1 h
      have := confAt_le g1
      simp only [Option.some.injEq, Prod.mk.injEq] at h
      omega
    split at h
    · simp only [Option.some.injEq, Prod.mk.injEq] at h
      omega
    · obtain ⟨⟨a1, b1⟩, g1, h⟩ := Option.bind_eq_some_iff.1 h
      have := oprAt_le g1
      simp only [Option.some.injEq, Prod.mk.injEq] at h
      omega
  · cases h

theorem ownsRow_low {w : World} {base base' : Nat} {e : TypeId} {k : Nat} {v : Value} {n : Nat} {xs : List Value} (h : w.ownsRow base e k v n xs) (hb : base' ≤ base) : w.ownsRow base' e k v n xs := by
  obtain ⟨h1, h2⟩ := h
  refine ⟨h1, h2.imp id ?_⟩
  rintro ⟨g, cap, cur, rfl, hg, r⟩
  exact ⟨g, cap, cur, rfl, Nat.le_trans hb hg, r⟩

theorem ActsIn.low {w : World} {base base' : Nat} {cs : List Value} {xs : List Ac} {lo hi : Nat → Nat} (h : ActsIn w base cs xs lo hi) (hb : base' ≤ base) : ActsIn w base' cs xs lo hi :=
  ⟨h.len, h.ord, fun i hi' => ⟨Nat.le_trans hb (h.top i hi').1, (h.top i hi').2⟩, h.at_⟩

theorem GetIn.done {w : World} {R : Nat} {vb : Value} {bs : List Nat} {TA : TypeId} {xs : List Ac} {q : Nat} {vs : Value} {cs : List Value} {lo hi : Nat → Nat} {wr w' : World} (h : GetIn w R vb bs TA xs q vs cs lo hi wr) (hm : Mod (fun k => k = R ∨ wr.heap.size ≤ k) wr w')
    {base : Nat} (hb : base ≤ w.heap.size) : ActsV TA base w' vs xs := by
  have hR := h.old.lt
  refine ⟨cs, lo, hi, ownsRow_low (ownsRow_mod h.own hm fun k hk e => by have := h.own.lt k hk; omega) hb, (h.acts.mod hm fun i b hi' hlo hhi e => ?_).low hb, h.apart⟩
  have := h.acts.top i hi'
  omega

theorem size_setCells (w : World) (b o : Nat) (vs : List Value) : (w.setCells b o vs).heap.size = w.heap.size := by
  induction vs generalizing w o with
  | nil => rfl
  | cons v r ih => rw [World.setCells, ih, World.size_setCell]

/-- A slice literal of one element. -/
theorem wpList_buildOne {P : Program} {ops : Array Oper} {rest : List Oper} {o : Oper} {a : Act} {w : World} {Q : Exit → Act → World → Prop} (hg : o.guard = none) (t e : TypeId) (x : Operand) (ho : o.op = .buildSlice t 1 #[(0, x)])
    (cs : Array Value) (hx : a.eval x = .agg cs) (ie : TypeInfo) (z : Value) (hu : P.underlying t = some (.slice e)) (hie : P.info? e = some ie) (hz : ie.zero = some z) (hs : ie.size = cs.size) (hzs : z.cells.size = cs.size) (h0 : 0 < cs.size) (hsm : cs.size ≤ 2 ^ 24)
    (h : wpList P ops Q rest (a.put o.dst (.slice (some ⟨w.heap.size, 0, none⟩) 1 1)) (w.alloc (.cells cs e))) : wpList P ops Q (o :: rest) a w := by
  refine wpList_buildSlice hg t e 1 _ ho cs ie z hu hie hz (by omega) (by omega) ?_ h
  have := Great.fill_whole (s := cs.size) h0 [.agg cs] ((Array.range (1 * cs.size)).map (z.cells[· % z.cells.size]!)) (fun v hv => by
    simp only [List.mem_cons, List.not_mem_nil, or_false] at hv
    subst hv
    rfl) (by simp)
  rw [hs]
  simpa [hx, Value.cells] using this

end Go.Gou
namespace Go.Proofs.Ytnamnmipgpcjjaa
open Go.RowKit Go.Gou

theorem info_act : (Try.prog.info? 41).map (fun i => (i.zero, i.size, i.bytes)) = some (some (.agg (List.toArray (Value.int .i64 0 :: Value.int .i64 0 :: Value.int .i64 0 :: Value.int .i64 0 :: Value.int .i64 0 :: Value.int .i64 0 :: Value.int .i64 0 :: Value.int .i64 0 :: Value.int .i64 0 :: Value.bool false :: Value.int .i64 0 :: Value.int .i64 0 :: Value.int .i64 0 :: Value.int .i64 0 :: Value.int .i64 0 :: Value.int .i64 0 :: Value.int .i64 0 :: Value.int .i64 0 :: Value.int .i64 0 :: Value.int .i64 0 :: Value.int .i64 0 :: Value.int .u8 0 :: Value.int .u8 0 :: Value.int .u8 0 :: Value.int .u8 0 :: Value.int .i64 0 :: Value.int .i64 0 :: Value.int .i64 0 :: Value.slice none 0 0 :: Value.bool false :: Value.slice none 0 0 :: Value.int .i64 0 :: Value.bool false :: Value.slice none 0 0 :: Value.int .i64 0 :: Value.int .i64 0 :: Value.int .i64 0 :: Value.bool false :: Value.bool false :: Value.bool false :: Value.bool false :: Value.int .i64 0 :: []))), 42, 336) := by kernel_rfl

/-- What the reading of all comes to. -/
def GetP (w : World) (bs : List Nat) (e : Ending) (w' : World) : Prop :=
  ∃ xs m v, Reads bs xs 0 m ∧ m ≤ bs.length ∧ (m < bs.length → actAt bs m = none) ∧ e = .returned (.tuple #[v, .int .i64 m, .int .i64 (if m < bs.length then 2 else 0)]) ∧ ActsV 41 w.heap.size w' v xs ∧ Gou.Mod (fun _ => False) w w'

set_option maxRecDepth 100000 in
set_option maxHeartbeats 2000000 in
theorem get_any (w : World) (vb : Value) (bs : List Nat) (h : BytesAt (fun _ => True) w vb bs) (hby : ∀ x ∈ bs, x < 256) (hl : bs.length ≤ 100000) :
    Calls Try.prog 14 #[vb] w (GetP w bs) := by
  obtain ⟨iA, hiA, hz0, hz1, hz2⟩ := info_parts info_act
  have hz3 : (Value.agg (List.toArray (Value.int .i64 0 :: Value.int .i64 0 :: Value.int .i64 0 :: Value.int .i64 0 :: Value.int .i64 0 :: Value.int .i64 0 :: Value.int .i64 0 :: Value.int .i64 0 :: Value.int .i64 0 :: Value.bool false :: Value.int .i64 0 :: Value.int .i64 0 :: Value.int .i64 0 :: Value.int .i64 0 :: Value.int .i64 0 :: Value.int .i64 0 :: Value.int .i64 0 :: Value.int .i64 0 :: Value.int .i64 0 :: Value.int .i64 0 :: Value.int .i64 0 :: Value.int .u8 0 :: Value.int .u8 0 :: Value.int .u8 0 :: Value.int .u8 0 :: Value.int .i64 0 :: Value.int .i64 0 :: Value.int .i64 0 :: Value.slice none 0 0 :: Value.bool false :: Value.slice none 0 0 :: Value.int .i64 0 :: Value.bool false :: Value.slice none 0 0 :: Value.int .i64 0 :: Value.int .i64 0 :: Value.int .i64 0 :: Value.bool false :: Value.bool false :: Value.bool false :: Value.bool false :: Value.int .i64 0 :: []))).cells.size = 42 := by simp [Value.cells]
  have Hbytes := Lib.hid h
  have Hst : Hid (RdAt (w.alloc (.cells #[vb, .int .i64 0] 69)) w.heap.size vb bs 0) := Lib.hid (RdAt.make h hby (by unfold maxLen; omega))
  obtain ⟨pb, cb, rfl⟩ := h.len
  clear h hby
  go_enter Try.func14, Try.ntmps14
  go_wp2_with fail
  have HW : Hid (Gou.Mod (fun _ => False) w (w.alloc (.cells #[.slice pb bs.length cb, .int .i64 0] 69))) := Lib.hid (Gou.Mod.alloc _ _ _)
  have HS : Hid ((w.alloc (.cells #[.slice pb bs.length cb, .int .i64 0] 69)).heap.size = w.heap.size + 1) := Lib.hid (by simp)
  generalize hW0 : w.alloc (.cells #[.slice pb bs.length cb, .int .i64 0] 69) = W0 at *
  generalize hR : w.heap.size = R at *
  clear hW0
  go_loopw [6] (fun vs wr => ∃ (xs : List Ac) (q : Nat) (cs : List Value) (lo hi : Nat → Nat), GetIn W0 R (.slice pb bs.length cb) bs 41 xs q vs cs lo hi wr) (fun _ wr => match wr.cell? ⟨R, 1, none⟩ with | some v => bs.length - (intOf v).toNat | none => 0)
  case atStart => exact ⟨[], 0, [], _, _, Hst.out, Hst.out, Gou.Mod.refl _ _, rfl, World.ownsRow_nil _ _ _ _, ActsIn.nil _ _, by simp [Value.ownBlock], Nat.le_refl _⟩
  case round =>
    obtain ⟨xs, q, cs, lo, hi, hg⟩ := hrel
    have Hg := Lib.hid hg
    obtain ⟨p0, c0, rfl⟩ := ownsRow_form hg.own
    have hc1 := hg.rd.c1
    have hle := hg.rd.le
    by_cases hq : q < bs.length
    · have e1 : decide ((q : Int) < (bs.length : Int)) = true := by simp; omega
      clear hg
      go_wp2_with fail
      refine (one_any _ R _ bs q Hg.out.rd).mono ?_
      rintro e w1 ⟨hm1, h1⟩
      cases hn : actAt bs q with
      | none =>
        rw [hn] at h1
        obtain ⟨rfl, hr1⟩ := h1
        have hLs := hm1.size
        have hgm := Hg.out.mod.size
        have hr1a := hr1.alloc (.cells (List.toArray (Value.int .i64 0 :: Value.int .i64 0 :: Value.int .i64 0 :: Value.int .i64 0 :: Value.int .i64 0 :: Value.int .i64 0 :: Value.int .i64 0 :: Value.int .i64 0 :: Value.int .i64 0 :: Value.bool false :: Value.int .i64 0 :: Value.int .i64 0 :: Value.int .i64 0 :: Value.int .i64 0 :: Value.int .i64 0 :: Value.int .i64 0 :: Value.int .i64 0 :: Value.int .i64 0 :: Value.int .i64 0 :: Value.int .i64 0 :: Value.int .i64 0 :: Value.int .u8 0 :: Value.int .u8 0 :: Value.int .u8 0 :: Value.int .u8 0 :: Value.int .i64 0 :: Value.int .i64 0 :: Value.int .i64 0 :: Value.slice none 0 0 :: Value.bool false :: Value.slice none 0 0 :: Value.int .i64 0 :: Value.bool false :: Value.slice none 0 0 :: Value.int .i64 0 :: Value.int .i64 0 :: Value.int .i64 0 :: Value.bool false :: Value.bool false :: Value.bool false :: Value.bool false :: Value.int .i64 0 :: [])) 41)
        have hma : Gou.Mod (fun k => k = R) W0 (w1.alloc (.cells (List.toArray (Value.int .i64 0 :: Value.int .i64 0 :: Value.int .i64 0 :: Value.int .i64 0 :: Value.int .i64 0 :: Value.int .i64 0 :: Value.int .i64 0 :: Value.int .i64 0 :: Value.int .i64 0 :: Value.bool false :: Value.int .i64 0 :: Value.int .i64 0 :: Value.int .i64 0 :: Value.int .i64 0 :: Value.int .i64 0 :: Value.int .i64 0 :: Value.int .i64 0 :: Value.int .i64 0 :: Value.int .i64 0 :: Value.int .i64 0 :: Value.int .i64 0 :: Value.int .u8 0 :: Value.int .u8 0 :: Value.int .u8 0 :: Value.int .u8 0 :: Value.int .i64 0 :: Value.int .i64 0 :: Value.int .i64 0 :: Value.slice none 0 0 :: Value.bool false :: Value.slice none 0 0 :: Value.int .i64 0 :: Value.bool false :: Value.slice none 0 0 :: Value.int .i64 0 :: Value.int .i64 0 :: Value.int .i64 0 :: Value.bool false :: Value.bool false :: Value.bool false :: Value.bool false :: Value.int .i64 0 :: [])) 41)) := (Hg.out.mod.trans' hm1).trans' (Gou.Mod.alloc _ _ _)
        have hA : Blk (w1.alloc (.cells (List.toArray (Value.int .i64 0 :: Value.int .i64 0 :: Value.int .i64 0 :: Value.int .i64 0 :: Value.int .i64 0 :: Value.int .i64 0 :: Value.int .i64 0 :: Value.int .i64 0 :: Value.int .i64 0 :: Value.bool false :: Value.int .i64 0 :: Value.int .i64 0 :: Value.int .i64 0 :: Value.int .i64 0 :: Value.int .i64 0 :: Value.int .i64 0 :: Value.int .i64 0 :: Value.int .i64 0 :: Value.int .i64 0 :: Value.int .i64 0 :: Value.int .i64 0 :: Value.int .u8 0 :: Value.int .u8 0 :: Value.int .u8 0 :: Value.int .u8 0 :: Value.int .i64 0 :: Value.int .i64 0 :: Value.int .i64 0 :: Value.slice none 0 0 :: Value.bool false :: Value.slice none 0 0 :: Value.int .i64 0 :: Value.bool false :: Value.slice none 0 0 :: Value.int .i64 0 :: Value.int .i64 0 :: Value.int .i64 0 :: Value.bool false :: Value.bool false :: Value.bool false :: Value.bool false :: Value.int .i64 0 :: [])) 41)) w1.heap.size 41 (List.toArray (Value.int .i64 0 :: Value.int .i64 0 :: Value.int .i64 0 :: Value.int .i64 0 :: Value.int .i64 0 :: Value.int .i64 0 :: Value.int .i64 0 :: Value.int .i64 0 :: Value.int .i64 0 :: Value.bool false :: Value.int .i64 0 :: Value.int .i64 0 :: Value.int .i64 0 :: Value.int .i64 0 :: Value.int .i64 0 :: Value.int .i64 0 :: Value.int .i64 0 :: Value.int .i64 0 :: Value.int .i64 0 :: Value.int .i64 0 :: Value.int .i64 0 :: Value.int .u8 0 :: Value.int .u8 0 :: Value.int .u8 0 :: Value.int .u8 0 :: Value.int .i64 0 :: Value.int .i64 0 :: Value.int .i64 0 :: Value.slice none 0 0 :: Value.bool false :: Value.slice none 0 0 :: Value.int .i64 0 :: Value.bool false :: Value.slice none 0 0 :: Value.int .i64 0 :: Value.int .i64 0 :: Value.int .i64 0 :: Value.bool false :: Value.bool false :: Value.bool false :: Value.bool false :: Value.int .i64 0 :: [])) := heap_alloc_new w1 _
        have Ht := Lib.hid (hA.there 0 42 (by simp))
        have hr2 := Hg.out.old.owns hr1a hma w1.heap.size 0 (Value.int .i64 0 :: Value.int .i64 0 :: Value.int .i64 0 :: Value.int .i64 0 :: Value.int .i64 0 :: Value.int .i64 0 :: Value.int .i64 0 :: Value.int .i64 0 :: Value.int .i64 0 :: Value.bool false :: Value.int .i64 0 :: Value.int .i64 0 :: Value.int .i64 0 :: Value.int .i64 0 :: Value.int .i64 0 :: Value.int .i64 0 :: Value.int .i64 0 :: Value.int .i64 0 :: Value.int .i64 0 :: Value.int .i64 0 :: Value.int .i64 0 :: Value.int .u8 0 :: Value.int .u8 0 :: Value.int .u8 0 :: Value.int .u8 0 :: Value.int .i64 0 :: Value.int .i64 0 :: Value.int .i64 0 :: Value.slice none 0 0 :: Value.bool false :: Value.slice none 0 0 :: Value.int .i64 0 :: Value.bool false :: Value.slice none 0 0 :: Value.int .i64 0 :: Value.int .i64 0 :: Value.int .i64 0 :: Value.bool false :: Value.bool false :: Value.bool false :: Value.bool false :: Value.int .i64 0 :: []) (by omega)
        have c1 := hr2.1.c1
        have hmw : Gou.Mod (fun k => k = R ∨ wr.heap.size ≤ k) wr ((w1.alloc (.cells (List.toArray (Value.int .i64 0 :: Value.int .i64 0 :: Value.int .i64 0 :: Value.int .i64 0 :: Value.int .i64 0 :: Value.int .i64 0 :: Value.int .i64 0 :: Value.int .i64 0 :: Value.int .i64 0 :: Value.bool false :: Value.int .i64 0 :: Value.int .i64 0 :: Value.int .i64 0 :: Value.int .i64 0 :: Value.int .i64 0 :: Value.int .i64 0 :: Value.int .i64 0 :: Value.int .i64 0 :: Value.int .i64 0 :: Value.int .i64 0 :: Value.int .i64 0 :: Value.int .u8 0 :: Value.int .u8 0 :: Value.int .u8 0 :: Value.int .u8 0 :: Value.int .i64 0 :: Value.int .i64 0 :: Value.int .i64 0 :: Value.slice none 0 0 :: Value.bool false :: Value.slice none 0 0 :: Value.int .i64 0 :: Value.bool false :: Value.slice none 0 0 :: Value.int .i64 0 :: Value.int .i64 0 :: Value.int .i64 0 :: Value.bool false :: Value.bool false :: Value.bool false :: Value.bool false :: Value.int .i64 0 :: [])) 41)).setCells w1.heap.size 0 (Value.int .i64 0 :: Value.int .i64 0 :: Value.int .i64 0 :: Value.int .i64 0 :: Value.int .i64 0 :: Value.int .i64 0 :: Value.int .i64 0 :: Value.int .i64 0 :: Value.int .i64 0 :: Value.bool false :: Value.int .i64 0 :: Value.int .i64 0 :: Value.int .i64 0 :: Value.int .i64 0 :: Value.int .i64 0 :: Value.int .i64 0 :: Value.int .i64 0 :: Value.int .i64 0 :: Value.int .i64 0 :: Value.int .i64 0 :: Value.int .i64 0 :: Value.int .u8 0 :: Value.int .u8 0 :: Value.int .u8 0 :: Value.int .u8 0 :: Value.int .i64 0 :: Value.int .i64 0 :: Value.int .i64 0 :: Value.slice none 0 0 :: Value.bool false :: Value.slice none 0 0 :: Value.int .i64 0 :: Value.bool false :: Value.slice none 0 0 :: Value.int .i64 0 :: Value.int .i64 0 :: Value.int .i64 0 :: Value.bool false :: Value.bool false :: Value.bool false :: Value.bool false :: Value.int .i64 0 :: [])) :=
          ((hm1.imp fun _ _ h => .inl h).trans' (Gou.Mod.alloc _ _ _)).trans' ((Blk.setMod _ w1.heap.size 0 _).imp fun k _ h => .inr (by omega))
        have HE := Lib.hid (And.intro hr2.2 hmw)
        have Hn := Lib.hid hn
        have Hq := Lib.hid hq
        clear hr1a hma hA hr2 hmw hm1 hr1 hn hc1 hle hgm
        go_wp2_with (first | ((with_reducible refine wpList_store_mid ?g1_2 41 ?x1_2 ?y1_2 ?o1_2 w1.heap.size 0 ((List.toArray (Value.int .i64 0 :: Value.int .i64 0 :: Value.int .i64 0 :: Value.int .i64 0 :: Value.int .i64 0 :: Value.int .i64 0 :: Value.int .i64 0 :: Value.int .i64 0 :: Value.int .i64 0 :: Value.bool false :: Value.int .i64 0 :: Value.int .i64 0 :: Value.int .i64 0 :: Value.int .i64 0 :: Value.int .i64 0 :: Value.int .i64 0 :: Value.int .i64 0 :: Value.int .i64 0 :: Value.int .i64 0 :: Value.int .i64 0 :: Value.int .i64 0 :: Value.int .u8 0 :: Value.int .u8 0 :: Value.int .u8 0 :: Value.int .u8 0 :: Value.int .i64 0 :: Value.int .i64 0 :: Value.int .i64 0 :: Value.slice none 0 0 :: Value.bool false :: Value.slice none 0 0 :: Value.int .i64 0 :: Value.bool false :: Value.slice none 0 0 :: Value.int .i64 0 :: Value.int .i64 0 :: Value.int .i64 0 :: Value.bool false :: Value.bool false :: Value.bool false :: Value.bool false :: Value.int .i64 0 :: []))) ?h1_2 ?j1_2 ?t1_2 ?i1_2 ?s1_2 ?r1_2); (case g1_2 => exact rfl); (case o1_2 => exact rfl); (case h1_2 => exact rfl); (case j1_2 => exact rfl); (case t1_2 => exact Ht.out); (case i1_2 => exact size_act); (case s1_2 => exact actC_one Ac.zero none 0 0 none 0 0 none 0 0)) | fail)
        go_quiet (fail)
        go_wp2_with fail
        have hHE := HE.out
        refine bodyPost_ret (v := .tuple #[.slice p0 xs.length c0, .int .i64 q, .int .i64 2]) (by simp [results, Try.results14, go_sem]) rfl ?_
        refine ⟨xs, q, _, Hg.out.reads, Nat.le_of_lt Hq.out, fun _ => Hn.out, by rw [if_pos Hq.out], Hg.out.done (hHE.2.trans' (Gou.Mod.drewN _ _ _)) (by have := HS.out; omega), ?_⟩
        exact (HW.out.trans (hHE.1.trans' (Gou.Mod.drewN _ _ _)) fun k hk e => by omega)
      | some p =>
        obtain ⟨a, m⟩ := p
        rw [hn] at h1
        obtain ⟨_, rfl, ⟨vp, vf, vb2, rfl, hlr, hsoft⟩, hr1⟩ := h1
        obtain ⟨p1, n1, k1, p2, n2, k2, p3, n3, k3, rfl, rfl, rfl⟩ := hlr.forms
        have hLs := hm1.size
        have hgm := Hg.out.mod.size
        have hA : Blk (w1.alloc (.cells (List.toArray (Value.int .i64 0 :: Value.int .i64 0 :: Value.int .i64 0 :: Value.int .i64 0 :: Value.int .i64 0 :: Value.int .i64 0 :: Value.int .i64 0 :: Value.int .i64 0 :: Value.int .i64 0 :: Value.bool false :: Value.int .i64 0 :: Value.int .i64 0 :: Value.int .i64 0 :: Value.int .i64 0 :: Value.int .i64 0 :: Value.int .i64 0 :: Value.int .i64 0 :: Value.int .i64 0 :: Value.int .i64 0 :: Value.int .i64 0 :: Value.int .i64 0 :: Value.int .u8 0 :: Value.int .u8 0 :: Value.int .u8 0 :: Value.int .u8 0 :: Value.int .i64 0 :: Value.int .i64 0 :: Value.int .i64 0 :: Value.slice none 0 0 :: Value.bool false :: Value.slice none 0 0 :: Value.int .i64 0 :: Value.bool false :: Value.slice none 0 0 :: Value.int .i64 0 :: Value.int .i64 0 :: Value.int .i64 0 :: Value.bool false :: Value.bool false :: Value.bool false :: Value.bool false :: Value.int .i64 0 :: [])) 41)) w1.heap.size 41 (List.toArray (Value.int .i64 0 :: Value.int .i64 0 :: Value.int .i64 0 :: Value.int .i64 0 :: Value.int .i64 0 :: Value.int .i64 0 :: Value.int .i64 0 :: Value.int .i64 0 :: Value.int .i64 0 :: Value.bool false :: Value.int .i64 0 :: Value.int .i64 0 :: Value.int .i64 0 :: Value.int .i64 0 :: Value.int .i64 0 :: Value.int .i64 0 :: Value.int .i64 0 :: Value.int .i64 0 :: Value.int .i64 0 :: Value.int .i64 0 :: Value.int .i64 0 :: Value.int .u8 0 :: Value.int .u8 0 :: Value.int .u8 0 :: Value.int .u8 0 :: Value.int .i64 0 :: Value.int .i64 0 :: Value.int .i64 0 :: Value.slice none 0 0 :: Value.bool false :: Value.slice none 0 0 :: Value.int .i64 0 :: Value.bool false :: Value.slice none 0 0 :: Value.int .i64 0 :: Value.int .i64 0 :: Value.int .i64 0 :: Value.bool false :: Value.bool false :: Value.bool false :: Value.bool false :: Value.int .i64 0 :: [])) := heap_alloc_new w1 _
        have Ht := Lib.hid (hA.there 0 42 (by simp))
        have hB := hA.sets 0 (actC a (.slice p1 n1 k1) (.slice p2 n2 k2) (.slice p3 n3 k3)).toList
        rw [setMany_all _ _ (by simp [actC])] at hB
        have HB := Lib.hid hB
        have HsA : Hid (iA.size = (actC a (.slice p1 n1 k1) (.slice p2 n2 k2) (.slice p3 n3 k3)).size) := Lib.hid (by rw [hz1]; simp [actC])
        have HtA : Hid ((Value.agg (List.toArray (Value.int .i64 0 :: Value.int .i64 0 :: Value.int .i64 0 :: Value.int .i64 0 :: Value.int .i64 0 :: Value.int .i64 0 :: Value.int .i64 0 :: Value.int .i64 0 :: Value.int .i64 0 :: Value.bool false :: Value.int .i64 0 :: Value.int .i64 0 :: Value.int .i64 0 :: Value.int .i64 0 :: Value.int .i64 0 :: Value.int .i64 0 :: Value.int .i64 0 :: Value.int .i64 0 :: Value.int .i64 0 :: Value.int .i64 0 :: Value.int .i64 0 :: Value.int .u8 0 :: Value.int .u8 0 :: Value.int .u8 0 :: Value.int .u8 0 :: Value.int .i64 0 :: Value.int .i64 0 :: Value.int .i64 0 :: Value.slice none 0 0 :: Value.bool false :: Value.slice none 0 0 :: Value.int .i64 0 :: Value.bool false :: Value.slice none 0 0 :: Value.int .i64 0 :: Value.int .i64 0 :: Value.int .i64 0 :: Value.bool false :: Value.bool false :: Value.bool false :: Value.bool false :: Value.int .i64 0 :: []))).cells.size = (actC a (.slice p1 n1 k1) (.slice p2 n2 k2) (.slice p3 n3 k3)).size) := Lib.hid (by simp [actC, Value.cells])
        have HqA : Hid (0 < (actC a (.slice p1 n1 k1) (.slice p2 n2 k2) (.slice p3 n3 k3)).size) := Lib.hid (by simp [actC])
        have HfA : Hid ((actC a (.slice p1 n1 k1) (.slice p2 n2 k2) (.slice p3 n3 k3)).size ≤ 2 ^ 24) := Lib.hid (by simp [actC])
        have hW3 : (w1.alloc (.cells (List.toArray (Value.int .i64 0 :: Value.int .i64 0 :: Value.int .i64 0 :: Value.int .i64 0 :: Value.int .i64 0 :: Value.int .i64 0 :: Value.int .i64 0 :: Value.int .i64 0 :: Value.int .i64 0 :: Value.bool false :: Value.int .i64 0 :: Value.int .i64 0 :: Value.int .i64 0 :: Value.int .i64 0 :: Value.int .i64 0 :: Value.int .i64 0 :: Value.int .i64 0 :: Value.int .i64 0 :: Value.int .i64 0 :: Value.int .i64 0 :: Value.int .i64 0 :: Value.int .u8 0 :: Value.int .u8 0 :: Value.int .u8 0 :: Value.int .u8 0 :: Value.int .i64 0 :: Value.int .i64 0 :: Value.int .i64 0 :: Value.slice none 0 0 :: Value.bool false :: Value.slice none 0 0 :: Value.int .i64 0 :: Value.bool false :: Value.slice none 0 0 :: Value.int .i64 0 :: Value.int .i64 0 :: Value.int .i64 0 :: Value.bool false :: Value.bool false :: Value.bool false :: Value.bool false :: Value.int .i64 0 :: [])) 41)).heap.size = w1.heap.size + 1 := by simp
        have hW4 : ((w1.alloc (.cells (List.toArray (Value.int .i64 0 :: Value.int .i64 0 :: Value.int .i64 0 :: Value.int .i64 0 :: Value.int .i64 0 :: Value.int .i64 0 :: Value.int .i64 0 :: Value.int .i64 0 :: Value.int .i64 0 :: Value.bool false :: Value.int .i64 0 :: Value.int .i64 0 :: Value.int .i64 0 :: Value.int .i64 0 :: Value.int .i64 0 :: Value.int .i64 0 :: Value.int .i64 0 :: Value.int .i64 0 :: Value.int .i64 0 :: Value.int .i64 0 :: Value.int .i64 0 :: Value.int .u8 0 :: Value.int .u8 0 :: Value.int .u8 0 :: Value.int .u8 0 :: Value.int .i64 0 :: Value.int .i64 0 :: Value.int .i64 0 :: Value.slice none 0 0 :: Value.bool false :: Value.slice none 0 0 :: Value.int .i64 0 :: Value.bool false :: Value.slice none 0 0 :: Value.int .i64 0 :: Value.int .i64 0 :: Value.int .i64 0 :: Value.bool false :: Value.bool false :: Value.bool false :: Value.bool false :: Value.int .i64 0 :: [])) 41)).setCells w1.heap.size 0 (actC a (.slice p1 n1 k1) (.slice p2 n2 k2) (.slice p3 n3 k3)).toList).heap.size = w1.heap.size + 1 := by
          have := (Blk.setMod (w1.alloc (.cells (List.toArray (Value.int .i64 0 :: Value.int .i64 0 :: Value.int .i64 0 :: Value.int .i64 0 :: Value.int .i64 0 :: Value.int .i64 0 :: Value.int .i64 0 :: Value.int .i64 0 :: Value.int .i64 0 :: Value.bool false :: Value.int .i64 0 :: Value.int .i64 0 :: Value.int .i64 0 :: Value.int .i64 0 :: Value.int .i64 0 :: Value.int .i64 0 :: Value.int .i64 0 :: Value.int .i64 0 :: Value.int .i64 0 :: Value.int .i64 0 :: Value.int .i64 0 :: Value.int .u8 0 :: Value.int .u8 0 :: Value.int .u8 0 :: Value.int .u8 0 :: Value.int .i64 0 :: Value.int .i64 0 :: Value.int .i64 0 :: Value.slice none 0 0 :: Value.bool false :: Value.slice none 0 0 :: Value.int .i64 0 :: Value.bool false :: Value.slice none 0 0 :: Value.int .i64 0 :: Value.int .i64 0 :: Value.int .i64 0 :: Value.bool false :: Value.bool false :: Value.bool false :: Value.bool false :: Value.int .i64 0 :: [])) 41)) w1.heap.size 0 (actC a (.slice p1 n1 k1) (.slice p2 n2 k2) (.slice p3 n3 k3)).toList)
          rw [← hW3]
          exact size_setCells _ _ _ _
        have hM3 : Gou.Mod (fun k => w1.heap.size ≤ k) w1 (((w1.alloc (.cells (List.toArray (Value.int .i64 0 :: Value.int .i64 0 :: Value.int .i64 0 :: Value.int .i64 0 :: Value.int .i64 0 :: Value.int .i64 0 :: Value.int .i64 0 :: Value.int .i64 0 :: Value.int .i64 0 :: Value.bool false :: Value.int .i64 0 :: Value.int .i64 0 :: Value.int .i64 0 :: Value.int .i64 0 :: Value.int .i64 0 :: Value.int .i64 0 :: Value.int .i64 0 :: Value.int .i64 0 :: Value.int .i64 0 :: Value.int .i64 0 :: Value.int .i64 0 :: Value.int .u8 0 :: Value.int .u8 0 :: Value.int .u8 0 :: Value.int .u8 0 :: Value.int .i64 0 :: Value.int .i64 0 :: Value.int .i64 0 :: Value.slice none 0 0 :: Value.bool false :: Value.slice none 0 0 :: Value.int .i64 0 :: Value.bool false :: Value.slice none 0 0 :: Value.int .i64 0 :: Value.int .i64 0 :: Value.int .i64 0 :: Value.bool false :: Value.bool false :: Value.bool false :: Value.bool false :: Value.int .i64 0 :: [])) 41)).setCells w1.heap.size 0 (actC a (.slice p1 n1 k1) (.slice p2 n2 k2) (.slice p3 n3 k3)).toList).alloc (.cells (actC a (.slice p1 n1 k1) (.slice p2 n2 k2) (.slice p3 n3 k3)) 41)) :=
          ((Gou.Mod.alloc _ _ _).trans' ((Blk.setMod _ w1.heap.size 0 _).imp fun k _ h => by omega)).trans' (Gou.Mod.alloc _ _ _)
        have HM3 := Lib.hid hM3
        have Hnews : Hid (∀ j u, (actC a (.slice p1 n1 k1) (.slice p2 n2 k2) (.slice p3 n3 k3)).toList[j]? = some u → (((w1.alloc (.cells (List.toArray (Value.int .i64 0 :: Value.int .i64 0 :: Value.int .i64 0 :: Value.int .i64 0 :: Value.int .i64 0 :: Value.int .i64 0 :: Value.int .i64 0 :: Value.int .i64 0 :: Value.int .i64 0 :: Value.bool false :: Value.int .i64 0 :: Value.int .i64 0 :: Value.int .i64 0 :: Value.int .i64 0 :: Value.int .i64 0 :: Value.int .i64 0 :: Value.int .i64 0 :: Value.int .i64 0 :: Value.int .i64 0 :: Value.int .i64 0 :: Value.int .i64 0 :: Value.int .u8 0 :: Value.int .u8 0 :: Value.int .u8 0 :: Value.int .u8 0 :: Value.int .i64 0 :: Value.int .i64 0 :: Value.int .i64 0 :: Value.slice none 0 0 :: Value.bool false :: Value.slice none 0 0 :: Value.int .i64 0 :: Value.bool false :: Value.slice none 0 0 :: Value.int .i64 0 :: Value.int .i64 0 :: Value.int .i64 0 :: Value.bool false :: Value.bool false :: Value.bool false :: Value.bool false :: Value.int .i64 0 :: [])) 41)).setCells w1.heap.size 0 (actC a (.slice p1 n1 k1) (.slice p2 n2 k2) (.slice p3 n3 k3)).toList).alloc (.cells (actC a (.slice p1 n1 k1) (.slice p2 n2 k2) (.slice p3 n3 k3)) 41)).cell? ((⟨((w1.alloc (.cells (List.toArray (Value.int .i64 0 :: Value.int .i64 0 :: Value.int .i64 0 :: Value.int .i64 0 :: Value.int .i64 0 :: Value.int .i64 0 :: Value.int .i64 0 :: Value.int .i64 0 :: Value.int .i64 0 :: Value.bool false :: Value.int .i64 0 :: Value.int .i64 0 :: Value.int .i64 0 :: Value.int .i64 0 :: Value.int .i64 0 :: Value.int .i64 0 :: Value.int .i64 0 :: Value.int .i64 0 :: Value.int .i64 0 :: Value.int .i64 0 :: Value.int .i64 0 :: Value.int .u8 0 :: Value.int .u8 0 :: Value.int .u8 0 :: Value.int .u8 0 :: Value.int .i64 0 :: Value.int .i64 0 :: Value.int .i64 0 :: Value.slice none 0 0 :: Value.bool false :: Value.slice none 0 0 :: Value.int .i64 0 :: Value.bool false :: Value.slice none 0 0 :: Value.int .i64 0 :: Value.int .i64 0 :: Value.int .i64 0 :: Value.bool false :: Value.bool false :: Value.bool false :: Value.bool false :: Value.int .i64 0 :: [])) 41)).setCells w1.heap.size 0 (actC a (.slice p1 n1 k1) (.slice p2 n2 k2) (.slice p3 n3 k3)).toList).heap.size, 0, none⟩ : Addr).add j) = some u) := Lib.hid (news_at (heap_at rfl) rfl)
        have Hown : Hid ((((w1.alloc (.cells (List.toArray (Value.int .i64 0 :: Value.int .i64 0 :: Value.int .i64 0 :: Value.int .i64 0 :: Value.int .i64 0 :: Value.int .i64 0 :: Value.int .i64 0 :: Value.int .i64 0 :: Value.int .i64 0 :: Value.bool false :: Value.int .i64 0 :: Value.int .i64 0 :: Value.int .i64 0 :: Value.int .i64 0 :: Value.int .i64 0 :: Value.int .i64 0 :: Value.int .i64 0 :: Value.int .i64 0 :: Value.int .i64 0 :: Value.int .i64 0 :: Value.int .i64 0 :: Value.int .u8 0 :: Value.int .u8 0 :: Value.int .u8 0 :: Value.int .u8 0 :: Value.int .i64 0 :: Value.int .i64 0 :: Value.int .i64 0 :: Value.slice none 0 0 :: Value.bool false :: Value.slice none 0 0 :: Value.int .i64 0 :: Value.bool false :: Value.slice none 0 0 :: Value.int .i64 0 :: Value.int .i64 0 :: Value.int .i64 0 :: Value.bool false :: Value.bool false :: Value.bool false :: Value.bool false :: Value.int .i64 0 :: [])) 41)).setCells w1.heap.size 0 (actC a (.slice p1 n1 k1) (.slice p2 n2 k2) (.slice p3 n3 k3)).toList).alloc (.cells (actC a (.slice p1 n1 k1) (.slice p2 n2 k2) (.slice p3 n3 k3)) 41)).ownsRow W0.heap.size 41 42 (.slice p0 xs.length c0) xs.length cs) :=
          Lib.hid (ownsRow_mod (ownsRow_mod Hg.out.own hm1 fun k hk e => by have := Hg.out.own.lt k hk; have := Hg.out.old.lt; omega) hM3 fun k hk e => by have := Hg.out.own.lt k hk; omega)
        have Hone : Hid (∀ u ∈ (actC a (.slice p1 n1 k1) (.slice p2 n2 k2) (.slice p3 n3 k3)).toList, u.oneCell' = true) := Lib.hid (fun u hu => by
          have h1 := actC_one a p1 n1 k1 p2 n2 k2 p3 n3 k3
          rw [Array.all_eq_true_iff_forall_mem] at h1
          exact h1 u (by simpa using hu))
        have Hlen : Hid ((actC a (.slice p1 n1 k1) (.slice p2 n2 k2) (.slice p3 n3 k3)).toList.length = 1 * 42) := Lib.hid (by simp [actC])
        have Hxl : Hid (xs.length + 1 ≤ 100000) := Lib.hid (by have := Hg.out.cnt; omega)
        have Hbase : Hid (W0.heap.size ≤ (((w1.alloc (.cells (List.toArray (Value.int .i64 0 :: Value.int .i64 0 :: Value.int .i64 0 :: Value.int .i64 0 :: Value.int .i64 0 :: Value.int .i64 0 :: Value.int .i64 0 :: Value.int .i64 0 :: Value.int .i64 0 :: Value.bool false :: Value.int .i64 0 :: Value.int .i64 0 :: Value.int .i64 0 :: Value.int .i64 0 :: Value.int .i64 0 :: Value.int .i64 0 :: Value.int .i64 0 :: Value.int .i64 0 :: Value.int .i64 0 :: Value.int .i64 0 :: Value.int .i64 0 :: Value.int .u8 0 :: Value.int .u8 0 :: Value.int .u8 0 :: Value.int .u8 0 :: Value.int .i64 0 :: Value.int .i64 0 :: Value.int .i64 0 :: Value.slice none 0 0 :: Value.bool false :: Value.slice none 0 0 :: Value.int .i64 0 :: Value.bool false :: Value.slice none 0 0 :: Value.int .i64 0 :: Value.int .i64 0 :: Value.int .i64 0 :: Value.bool false :: Value.bool false :: Value.bool false :: Value.bool false :: Value.int .i64 0 :: [])) 41)).setCells w1.heap.size 0 (actC a (.slice p1 n1 k1) (.slice p2 n2 k2) (.slice p3 n3 k3)).toList).alloc (.cells (actC a (.slice p1 n1 k1) (.slice p2 n2 k2) (.slice p3 n3 k3)) 41)).heap.size) := Lib.hid (by rw [World.size_alloc, hW4]; omega)
        have Hmeas : Hid (q < m ∧ m ≤ bs.length) := Lib.hid ⟨actAt_go hn, hr1.le⟩
        have Hn := Lib.hid hn
        have Hm1 := Lib.hid hm1
        have Hr1 := Lib.hid hr1
        have Hlr := Lib.hid hlr
        have Hsoft := Lib.hid hsoft
        have HW4 := Lib.hid hW4
        clear hB hA hW3 hW4 hM3 hn hm1 hr1 hlr hsoft hle hgm hLs
        go_wp2_with (first | ((with_reducible refine wpList_store_mid ?g1_3 41 ?x1_3 ?y1_3 ?o1_3 w1.heap.size 0 (actC a (.slice p1 n1 k1) (.slice p2 n2 k2) (.slice p3 n3 k3)) ?h1_3 ?j1_3 ?t1_3 ?i1_3 ?s1_3 ?r1_3); (case g1_3 => exact rfl); (case o1_3 => exact rfl); (case h1_3 => exact rfl); (case j1_3 => exact rfl); (case t1_3 => exact Ht.out); (case i1_3 => exact size_act); (case s1_3 => exact actC_one _ _ _ _ _ _ _ _ _ _)) | ((with_reducible refine wpList_load_row ?g1_1 41 ?x1_1 ?o1_1 w1.heap.size ?h1_1 ?t1_1 ?c1_1 ?f1_1 ?d1_1 ?b1_1 ?u1_1 ?s1_1 ?i1_1 ?r1_1); (case g1_1 => exact rfl); (case o1_1 => exact rfl); (case h1_1 => exact rfl); (case b1_1 => exact HB.out); (case u1_1 => exact Try.underlying41); (case s1_1 => exact rfl); (case i1_1 => exact size_act)) | ((with_reducible refine wpList_buildOne ?gB 51 41 ?pB ?oB (actC a (.slice p1 n1 k1) (.slice p2 n2 k2) (.slice p3 n3 k3)) ?xB iA (.agg (List.toArray (Value.int .i64 0 :: Value.int .i64 0 :: Value.int .i64 0 :: Value.int .i64 0 :: Value.int .i64 0 :: Value.int .i64 0 :: Value.int .i64 0 :: Value.int .i64 0 :: Value.int .i64 0 :: Value.bool false :: Value.int .i64 0 :: Value.int .i64 0 :: Value.int .i64 0 :: Value.int .i64 0 :: Value.int .i64 0 :: Value.int .i64 0 :: Value.int .i64 0 :: Value.int .i64 0 :: Value.int .i64 0 :: Value.int .i64 0 :: Value.int .i64 0 :: Value.int .u8 0 :: Value.int .u8 0 :: Value.int .u8 0 :: Value.int .u8 0 :: Value.int .i64 0 :: Value.int .i64 0 :: Value.int .i64 0 :: Value.slice none 0 0 :: Value.bool false :: Value.slice none 0 0 :: Value.int .i64 0 :: Value.bool false :: Value.slice none 0 0 :: Value.int .i64 0 :: Value.int .i64 0 :: Value.int .i64 0 :: Value.bool false :: Value.bool false :: Value.bool false :: Value.bool false :: Value.int .i64 0 :: []))) ?uB ?iB ?zB ?sB ?tB ?qB ?fB ?rB); (case gB => exact rfl); (case oB => exact rfl); (case xB => exact rfl); (case uB => exact Try.underlying51); (case iB => exact hiA); (case zB => exact hz0); (case sB => exact HsA.out); (case tB => exact HtA.out); (case qB => exact HqA.out); (case fB => exact HfA.out)) | (at_builtin; go_loud (refine wpList_append_lies _ rfl _ _ 51 rfl W0.heap.size 41 iA (.agg (List.toArray (Value.int .i64 0 :: Value.int .i64 0 :: Value.int .i64 0 :: Value.int .i64 0 :: Value.int .i64 0 :: Value.int .i64 0 :: Value.int .i64 0 :: Value.int .i64 0 :: Value.int .i64 0 :: Value.bool false :: Value.int .i64 0 :: Value.int .i64 0 :: Value.int .i64 0 :: Value.int .i64 0 :: Value.int .i64 0 :: Value.int .i64 0 :: Value.int .i64 0 :: Value.int .i64 0 :: Value.int .i64 0 :: Value.int .i64 0 :: Value.int .i64 0 :: Value.int .u8 0 :: Value.int .u8 0 :: Value.int .u8 0 :: Value.int .u8 0 :: Value.int .i64 0 :: Value.int .i64 0 :: Value.int .i64 0 :: Value.slice none 0 0 :: Value.bool false :: Value.slice none 0 0 :: Value.int .i64 0 :: Value.bool false :: Value.slice none 0 0 :: Value.int .i64 0 :: Value.int .i64 0 :: Value.int .i64 0 :: Value.bool false :: Value.bool false :: Value.bool false :: Value.bool false :: Value.int .i64 0 :: []))) 42 336 Try.underlying51 hiA hz0 hz1 hz2 hz3 (by omega) (.slice p0 xs.length c0) xs.length cs rfl Hown.out ⟨((w1.alloc (.cells (List.toArray (Value.int .i64 0 :: Value.int .i64 0 :: Value.int .i64 0 :: Value.int .i64 0 :: Value.int .i64 0 :: Value.int .i64 0 :: Value.int .i64 0 :: Value.int .i64 0 :: Value.int .i64 0 :: Value.bool false :: Value.int .i64 0 :: Value.int .i64 0 :: Value.int .i64 0 :: Value.int .i64 0 :: Value.int .i64 0 :: Value.int .i64 0 :: Value.int .i64 0 :: Value.int .i64 0 :: Value.int .i64 0 :: Value.int .i64 0 :: Value.int .i64 0 :: Value.int .u8 0 :: Value.int .u8 0 :: Value.int .u8 0 :: Value.int .u8 0 :: Value.int .i64 0 :: Value.int .i64 0 :: Value.int .i64 0 :: Value.slice none 0 0 :: Value.bool false :: Value.slice none 0 0 :: Value.int .i64 0 :: Value.bool false :: Value.slice none 0 0 :: Value.int .i64 0 :: Value.int .i64 0 :: Value.int .i64 0 :: Value.bool false :: Value.bool false :: Value.bool false :: Value.bool false :: Value.int .i64 0 :: [])) 41)).setCells w1.heap.size 0 (actC a (.slice p1 n1 k1) (.slice p2 n2 k2) (.slice p3 n3 k3)).toList).heap.size, 0, none⟩ 1 1 (actC a (.slice p1 n1 k1) (.slice p2 n2 k2) (.slice p3 n3 k3)).toList rfl Hlen.out Hnews.out Hone.out (by omega) (by have := Hxl.out; unfold maxLen; omega) (by have := Hxl.out; omega) Hbase.out _ rfl ?_)) | fail)
        intro gg cp w4 hown4 hgrow4 hat4 hlt4
        obtain ⟨lo', hi', hG⟩ := Hg.out.step Hm1.out Hn.out Hr1.out Hlr.out Hsoft.out HM3.out rfl hown4 hgrow4 (by rw [World.size_alloc]; exact hat4) Hmeas.out.1
        have HG := Lib.hid hG
        have hcm := hG.rd.c1
        have hm0 := Hmeas.out
        clear hown4 hgrow4 hat4 hlt4 hG
        go_wp2_with fail
        go_roundw
        case rel => exact ⟨_, _, _, _, _, HG.out⟩
        case measure =>
          rw [hcm, hc1]
          simp [intOf]
          omega
    · obtain rfl : q = bs.length := by omega
      have e1 : decide ((bs.length : Int) < (bs.length : Int)) = false := by simp
      clear hg hq hle
      go_wp2_with fail
      go_quiet (fail)
      go_wp2_with fail
      refine bodyPost_ret (v := .tuple #[.slice p0 xs.length c0, .int .i64 bs.length, .int .i64 0]) (by simp [results, Try.results14, go_sem]) rfl ?_
      refine ⟨xs, bs.length, _, Hg.out.reads, Nat.le_refl _, fun h => by omega, by rw [if_neg (by omega)], Hg.out.done (Gou.Mod.drewN _ _ _) (by have := HS.out; omega), ?_⟩
      exact (HW.out.trans (Hg.out.mod.trans' (Gou.Mod.drewN _ _ _)) fun k hk e => by omega)

end Go.Proofs.Ytnamnmipgpcjjaa
