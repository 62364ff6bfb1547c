/- Texts of the scenes' proofs, laid together: RefF, RefG, RndA, RndB, Law12, Chk12, FsA, FsB, FsC, FsD. -/
import Derived.Test.YtlpieeeeolfclaaGreatDoorZao
import Derived.IntWalk
import Derived.Test.YtlpieeeeolfclaaGreatDoorZan
import Derived.Test.YtlpieeeeolfclaaGreatDoorZal
import Derived.Test.YtlpieeeeolfclaaGreatDoorZae
set_option linter.unusedSimpArgs false
set_option linter.unusedVariables false
set_option linter.unusedSectionVars false
set_option linter.constructorNameAsVariable false

/- The document's answer for layer 12: the bounds of a Tile's parameters; the bounds of all kinds. -/
set_option maxRecDepth 100000
namespace Go.Proofs.YtlpieeeeolfclaaGreatDoor
open Go.RowKit Go.Gou

set_option maxHeartbeats 4000000 in
theorem refB_tile (w : World) (vi vp : Value) (ps : List Int) (hx : IntsAt w.heap.size w vp ps) (hl : ps.length = 4) :
    Calls Tryz.prog 45 #[.agg #[.int .i64 10, vi, vp]] w fun e w' => e = .returned (.bool (ps.all (withinB (-1048576) 1048576) && tileB ps)) ∧ Below w.heap.size w w' := by
  have hs : (seg ps 0 4).all (withinB (-1048576) 1048576) = ps.all (withinB (-1048576) 1048576) := by rw [← hl, seg_all]
  have hnear := fun (wx : World) (hbx : Below w.heap.size w wx) => near_at wx _ ps 0 4 (-1048576) 1048576 0 4 _ rfl rfl hs (hx.up hbx) (by omega) (by omega) (by omega)
  obtain ⟨b, o, cap, rfl, hcap, hb, hc⟩ := ints_cells hx (by omega)
  have c0 := hc 0 (by omega)
  have c1 := hc 1 (by omega)
  have c2 := hc 2 (by omega)
  have c3 := hc 3 (by omega)
  have hw1 := box_below w (.cells #[.int .i64 10, vi, .slice (some ⟨b, o, none⟩) ps.length cap] 37)
  rw [← hw1.cell (p := ⟨b, o + 0, none⟩) hb] at c0
  rw [← hw1.cell (p := ⟨b, o + 1, none⟩) hb] at c1
  rw [← hw1.cell (p := ⟨b, o + 2, none⟩) hb] at c2
  rw [← hw1.cell (p := ⟨b, o + 3, none⟩) hb] at c3
  rw [Nat.add_zero] at c0
  have hgd : ∀ h : ps.all (withinB (-1048576) 1048576) = true, ∀ i, i < 4 → -1048576 ≤ ps.getD i 0 ∧ ps.getD i 0 ≤ 1048576 := fun h i hi => within_getD h (by omega)
  have htile : tileB ps = (decide (0 < ps.getD 2 0 - ps.getD 0 0) && decide (0 < ps.getD 3 0 - ps.getD 1 0) && decide (ps.getD 2 0 - ps.getD 0 0 ≤ 4096) && decide (ps.getD 3 0 - ps.getD 1 0 ≤ 4096)) := rfl
  rw [htile]
  rw [hl] at hnear hw1 c0 c1 c2 c3 ⊢
  have Hnear := Lib.hid hnear
  have Hw1 := Lib.hid hw1
  have h0 : _ := fun h => hgd h 0 (by omega)
  have h1 : _ := fun h => hgd h 1 (by omega)
  have h2 : _ := fun h => hgd h 2 (by omega)
  have h3 : _ := fun h => hgd h 3 (by omega)
  clear hnear hs hx hgd hc hw1 htile
  generalize ps.getD 0 0 = x0 at *
  generalize ps.getD 1 0 = x1 at *
  generalize ps.getD 2 0 = x2 at *
  generalize ps.getD 3 0 = x3 at *
  generalize ps.all (withinB (-1048576) 1048576) = r at *
  clear hl
  cases r with
  | false =>
    have Hn := Lib.hid (fun (m : Nat) => Hnear.out _ (below_drewN Hw1.out m))
    clear h0 h1 h2 h3
    go_enter Tryz.func45, Tryz.ntmps45
    go_wp2_with fail
    go_quiet (first | (go_at_call 44; exact Calls.quiet_of_same (Hn.out _)))
    go_wp2
    go_ret
    exact ⟨rfl, below_drewN Hw1.out _⟩
  | true =>
    have Hn := Lib.hid (fun (m : Nat) => Hnear.out _ (below_drewN Hw1.out m))
    obtain ⟨l0, u0⟩ := h0 rfl
    obtain ⟨l1, u1⟩ := h1 rfl
    obtain ⟨l2, u2⟩ := h2 rfl
    obtain ⟨l3, u3⟩ := h3 rfl
    have s1 : IntKind.i64.wrap (x2 - x0) = x2 - x0 := IntWalk.i64_in _ (by omega)
    have s2 : IntKind.i64.wrap (x3 - x1) = x3 - x1 := IntWalk.i64_in _ (by omega)
    clear h0 h1 h2 h3
    by_cases t0 : x0 < x2
    case neg =>
      have f0 : decide (x0 < x2) = false := decide_eq_false t0
      have Hr : Hid ((decide (0 < x2 - x0) && decide (0 < x3 - x1) && decide (x2 - x0 ≤ 4096) && decide (x3 - x1 ≤ 4096)) = false) := by show _ = _; simp; omega
      clear l0 u0 l1 u1 l2 u2 l3 u3
      go_enter Tryz.func45, Tryz.ntmps45
      go_wp2_with fail
      go_quiet (first | (go_at_call 44; exact Calls.quiet_of_same (Hn.out _)))
      go_wp2
      go_ret
      exact ⟨ret_bool (by rw [Hr.out]; rfl), below_drewN Hw1.out _⟩
    case pos =>
      by_cases t1 : x1 < x3
      case neg =>
        have f1 : decide (x1 < x3) = false := decide_eq_false t1
        have Hr : Hid ((decide (0 < x2 - x0) && decide (0 < x3 - x1) && decide (x2 - x0 ≤ 4096) && decide (x3 - x1 ≤ 4096)) = false) := by show _ = _; simp; omega
        clear l0 u0 l1 u1 l2 u2 l3 u3
        go_enter Tryz.func45, Tryz.ntmps45
        go_wp2_with fail
        go_quiet (first | (go_at_call 44; exact Calls.quiet_of_same (Hn.out _)))
        go_wp2
        go_ret
        exact ⟨ret_bool (by rw [Hr.out]; rfl), below_drewN Hw1.out _⟩
      case pos =>
        by_cases t2 : x2 - x0 ≤ 4096
        case neg =>
          have f2 : decide (x2 - x0 ≤ 4096) = false := decide_eq_false t2
          have Hr : Hid ((decide (0 < x2 - x0) && decide (0 < x3 - x1) && decide (x2 - x0 ≤ 4096) && decide (x3 - x1 ≤ 4096)) = false) := by show _ = _; simp; omega
          clear l0 u0 l1 u1 l2 u2 l3 u3
          go_enter Tryz.func45, Tryz.ntmps45
          go_wp2_with fail
          go_quiet (first | (go_at_call 44; exact Calls.quiet_of_same (Hn.out _)))
          go_wp2
          go_ret
          exact ⟨ret_bool (by rw [Hr.out]; rfl), below_drewN Hw1.out _⟩
        case pos =>
          by_cases t3 : x3 - x1 ≤ 4096
          case neg =>
            have f3 : decide (x3 - x1 ≤ 4096) = false := decide_eq_false t3
            have Hr : Hid ((decide (0 < x2 - x0) && decide (0 < x3 - x1) && decide (x2 - x0 ≤ 4096) && decide (x3 - x1 ≤ 4096)) = false) := by show _ = _; simp; omega
            clear l0 u0 l1 u1 l2 u2 l3 u3
            go_enter Tryz.func45, Tryz.ntmps45
            go_wp2_with fail
            go_quiet (first | (go_at_call 44; exact Calls.quiet_of_same (Hn.out _)))
            go_wp2
            go_ret
            exact ⟨ret_bool (by rw [Hr.out]; rfl), below_drewN Hw1.out _⟩
          case pos =>
            have Hr : Hid ((decide (0 < x2 - x0) && decide (0 < x3 - x1) && decide (x2 - x0 ≤ 4096) && decide (x3 - x1 ≤ 4096)) = true) := by show _ = _; simp; omega
            clear l0 u0 l1 u1 l2 u2 l3 u3
            go_enter Tryz.func45, Tryz.ntmps45
            go_wp2_with fail
            go_quiet (first | (go_at_call 44; exact Calls.quiet_of_same (Hn.out _)))
            go_wp2
            go_ret
            exact ⟨ret_bool (by rw [Hr.out]; rfl), below_drewN Hw1.out _⟩

theorem refB_any (w : World) (vi vp : Value) (n : GNode) (hx : IntsAt w.heap.size w vp n.ps) (hok : (ofS n.op).2 = true) (hl : (n.ps.length : Int) = (ofS n.op).1.2.2) :
    Calls Tryz.prog 45 #[.agg #[.int .i64 n.op, vi, vp]] w fun e w' => e = .returned (.bool (boundsB n)) ∧ Below w.heap.size w w' := by
  obtain ⟨op, ins, ps⟩ := n
  dsimp only at hx hok hl ⊢
  have hcases : op = 1 ∨ op = 2 ∨ op = 3 ∨ op = 4 ∨ op = 5 ∨ op = 6 ∨ op = 7 ∨ op = 8 ∨ op = 9 ∨ op = 10 ∨ op = 11 ∨ op = 12 := by
    apply Classical.byContradiction
    intro hn
    simp only [not_or] at hn
    obtain ⟨h1, h2, h3, h4, h5, h6, h7, h8, h9, h10, h11, h12⟩ := hn
    simp [ofS, h1, h2, h3, h4, h5, h6, h7, h8, h9, h10, h11, h12] at hok
  rcases hcases with rfl | rfl | rfl | rfl | rfl | rfl | rfl | rfl | rfl | rfl | rfl | rfl
  all_goals simp [ofS] at hl
  · have := refB_near 1 (-1048576) 1048576 2 (by simp) w vi vp ps hx (by omega)
    simpa [boundsB] using this
  · have := refB_near 2 0 255 2 (by simp) w vi vp ps hx (by omega)
    simpa [boundsB] using this
  · have := refB_near 3 0 255 2 (by simp) w vi vp ps hx (by omega)
    simpa [boundsB] using this
  · have := refB_near 4 0 255 2 (by simp) w vi vp ps hx (by omega)
    simpa [boundsB] using this
  · have := refB_mat w vi vp ps hx (by omega)
    simpa [boundsB] using this
  · have := refB_flood w vi vp ps hx (by omega)
    simpa [boundsB] using this
  · have := refB_near 7 0 6 1 (by simp) w vi vp ps hx (by omega)
    simpa [boundsB] using this
  · have := refB_near 8 0 5 1 (by simp) w vi vp ps hx (by omega)
    simpa [boundsB] using this
  · have := refB_merge w vi vp
    simpa [boundsB] using this
  · have := refB_tile w vi vp ps hx (by omega)
    simpa [boundsB] using this
  · have := refB_shadow w vi vp ps hx (by omega)
    simpa [boundsB] using this
  · have := refB_near 12 (-1048576) 1048576 4 (by simp) w vi vp ps hx (by omega)
    simpa [boundsB] using this

end Go.Proofs.YtlpieeeeolfclaaGreatDoor

/- The document's answer for layer 12: one node; the law NodeOnes. -/
set_option maxRecDepth 100000
namespace Go.Proofs.YtlpieeeeolfclaaGreatDoor
open Go.RowKit Go.Gou

theorem refAr_eq (op a b c : Int) (ok : Bool) (w : World) (ht : Tabs w) (h : ofS op = ((a, b, c), ok)) :
    Calls Tryz.prog 43 #[.int .i64 op] w fun e w' => e = .returned (.tuple #[.int .i64 a, .int .i64 b, .int .i64 c, .bool ok]) ∧ Below w.heap.size w w' := by
  have := refArity_any op w ht
  simpa [h] using this

theorem Tabs.below {w w1 : World} (h : Tabs w) (hb : Below w.heap.size w w1) : Tabs w1 := h.up hb

set_option maxHeartbeats 2000000 in
theorem refOne_any (w : World) (v : Value) (n : GNode) (count : Int) (hv : NodeV w v n) (ht : Tabs w) (hli : n.ins.length ≤ 1000) (hlp : n.ps.length ≤ 1000) (hn0 : 0 ≤ count) (hn1 : count ≤ 1000000) :
    Calls Tryz.prog 19 #[v, .int .i64 count] w fun e w' => e = .returned (.int .i64 (oneS n count)) ∧ Below w.heap.size w w' := by
  obtain ⟨vi, vp, rfl, hi, hp⟩ := hv
  obtain ⟨pi, ci, rfl⟩ := hi.len
  obtain ⟨pp, cp, rfl⟩ := hp.len
  have Ht := Lib.hid (ht.up (box_below w (.cells #[.int .i64 n.op, .slice pi n.ins.length ci, .slice pp n.ps.length cp] 37)))
  have bst := fun (w1 : World) (o1 : Obj) (hb1 : Below (w.alloc o1).heap.size (w.alloc o1) w1) => later_below ((Below.refl w.heap.size w).alloc (Nat.le_refl _) o1) hb1
  have Bst := Lib.hid bst
  clear bst ht
  cases hof : ofS n.op with
  | mk abc ok =>
  obtain ⟨a, b, c⟩ := abc
  have Hof := Lib.hid hof
  clear hof
  cases ok with
  | false =>
    have Hs : Hid (oneS n count = 1) := by show _ = _; simp [oneS, Hof.out]
    go_enter Tryz.func19, Tryz.ntmps19
    go_wp2_with fail
    refine (refAr_eq _ a b c false _ Ht.out Hof.out).mono ?_
    rintro e w1 ⟨rfl, hb1⟩
    go_wp2
    go_ret
    exact ⟨ret_int Hs.out.symm, Bst.out _ _ hb1⟩
  | true =>
    by_cases har : aritB n = true
    · have Hs : Hid (oneS n count = 7) := by show _ = _; simp [oneS, Hof.out, har]
      have Har := Lib.hid har
      clear har
      have hq : (a ≤ n.ins.length ∧ n.ins.length ≤ b) → ((n.ps.length : Int) != c) = true := by
        have h := Har.out
        simp only [aritB, Hof.out, Bool.or_eq_true, decide_eq_true_eq, Bool.not_eq_true', decide_eq_false_iff_not] at h
        intro ⟨h1, h2⟩
        rw [bne_iff_ne]
        omega
      have Hq := Lib.hid hq
      clear hq
      go_enter Tryz.func19, Tryz.ntmps19
      go_wp2_with fail
      refine (refAr_eq _ a b c true _ Ht.out Hof.out).mono ?_
      rintro e w1 ⟨rfl, hb1⟩
      have hz0 : w.heap.size < w1.heap.size := by have := hb1.size; simp at this; omega
      obtain ⟨hc1, _⟩ := bcell hb1
      by_cases h1 : a ≤ n.ins.length
      · by_cases h2 : n.ins.length ≤ b
        · have h3 := Hq.out ⟨h1, h2⟩
          go_wp2_with fail
          go_ret
          exact ⟨ret_int Hs.out.symm, Bst.out _ _ hb1⟩
        · go_wp2_with fail
          go_ret
          exact ⟨ret_int Hs.out.symm, Bst.out _ _ hb1⟩
      · go_wp2_with fail
        go_ret
        exact ⟨ret_int Hs.out.symm, Bst.out _ _ hb1⟩
    · have Har := Lib.hid har
      clear har
      have h := Har.out
      simp only [aritB, Hof.out, Bool.or_eq_true, decide_eq_true_eq, Bool.not_eq_true', decide_eq_false_iff_not, not_or, Classical.not_not, Int.not_lt] at h
      obtain ⟨⟨h1, h2⟩, h3⟩ := h
      have Hlc : Hid ((n.ps.length : Int) = (ofS n.op).1.2.2) := by show _ = _; rw [Hof.out]; exact h3
      have hlc : ((n.ps.length : Int) != c) = false := by rw [h3]; simp
      clear h3
      have hnear := fun (wx : World) (hbx : Below w.heap.size w wx) (r : Bool) (hr : n.ins.all (withinB (-1) (count - 1)) = r) =>
        near_at wx _ n.ins 0 n.ins.length (-1) (count - 1) 0 n.ins.length r rfl rfl (by rw [seg_all]; exact hr) (hi.up hbx) (Nat.zero_le _) (Nat.le_refl _) hli
      have Hnear := Lib.hid hnear
      clear hnear
      go_enter Tryz.func19, Tryz.ntmps19
      go_wp2_with fail
      refine (refAr_eq _ a b c true _ Ht.out Hof.out).mono ?_
      rintro e w1 ⟨rfl, hb1⟩
      have hz0 : w.heap.size < w1.heap.size := by have := hb1.size; simp at this; omega
      obtain ⟨hc1, _⟩ := bcell hb1
      have hbs := Bst.out _ _ hb1
      have Hbs := Lib.hid hbs
      clear hbs
      go_wp2_with fail
      cases hin : n.ins.all (withinB (-1) (count - 1)) with
      | false =>
        have Hs : Hid (oneS n count = 8) := by show _ = _; simp [oneS, Hof.out, Har.out, hin]
        refine (Hnear.out _ Hbs.out false hin).mono ?_
        rintro e w2 ⟨rfl, rfl⟩
        clear hin
        go_wp2_with fail
        go_ret
        exact ⟨ret_int Hs.out.symm, Hbs.out⟩
      | true =>
        have Hin := Lib.hid hin
        refine (Hnear.out _ Hbs.out true hin).mono ?_
        rintro e w2 ⟨rfl, rfl⟩
        clear hin
        go_wp2_with fail
        cases hbo : boundsB n with
        | false =>
          have Hs : Hid (oneS n count = 3) := by show _ = _; simp [oneS, Hof.out, Har.out, Hin.out, hbo]
          refine (refB_any _ _ _ n (hp.up Hbs.out) (by rw [Hof.out]) Hlc.out).mono ?_
          rintro e w3 ⟨rfl, hb3⟩
          rw [hbo]
          clear hbo
          go_wp2_with fail
          go_ret
          exact ⟨ret_int Hs.out.symm, later_below Hbs.out hb3⟩
        | true =>
          have Hs : Hid (oneS n count = 0) := by show _ = _; simp [oneS, Hof.out, Har.out, Hin.out, hbo]
          refine (refB_any _ _ _ n (hp.up Hbs.out) (by rw [Hof.out]) Hlc.out).mono ?_
          rintro e w3 ⟨rfl, hb3⟩
          rw [hbo]
          clear hbo
          go_wp2_with fail
          go_ret
          exact ⟨ret_int Hs.out.symm, later_below Hbs.out hb3⟩

end Go.Proofs.YtlpieeeeolfclaaGreatDoor

/- Plain: what is sure to lead nowhere round is struck, pass by pass. -/
set_option maxRecDepth 100000
namespace Go.Proofs.YtlpieeeeolfclaaGreatDoor
open Go.RowKit Go.Gou

def okx (n : Nat) (D : List Bool) (x : Int) : Bool := decide (x < 0) || (decide ((n : Int) ≤ x) || D.getD x.toNat false)
def okN (n : Nat) (D : List Bool) (ins : List Int) : Bool := ins.all (okx n D)

structure RI (g : Gr) (D : List Bool) : Prop where
  len : D.length = g.nodes.length
  sound : ∀ i, i < g.nodes.length → D.getD i false = true → Done (insN g) i

def ClosedD (g : Gr) (D : List Bool) : Prop := ∀ i, (h : i < g.nodes.length) → okN g.nodes.length D g.nodes[i].ins = true → D.getD i false = true

structure RP (g : Gr) (D0 : List Bool) (i : Nat) (D : List Bool) : Prop where
  base : RI g D
  more : ∀ j, D0.getD j false = true → D.getD j false = true
  got : ∀ j, (h : j < g.nodes.length) → j < i → okN g.nodes.length D0 g.nodes[j].ins = true → D.getD j false = true
  still : ClosedD g D0 → D = D0

def RQ (g : Gr) (t : Nat) (D : List Bool) : Prop := RI g D ∧ (ClosedD g D ∨ t ≤ D.countP id)

theorem getDB_set (l : List Bool) (u : Nat) (x : Bool) (hu : u < l.length) (i : Nat) : (l.set u x).getD i false = if i = u then x else l.getD i false := by
  by_cases h : i = u
  · subst h
    simp [List.getD, hu]
  · simp [List.getD, List.getElem?_set, h, show ¬ u = i from fun e => h e.symm]

theorem RI.start (g : Gr) : RI g (List.replicate g.nodes.length false) := by
  refine ⟨by simp, fun i hi h => ?_⟩
  simp [List.getD, hi] at h

theorem RQ.start (g : Gr) : RQ g 0 (List.replicate g.nodes.length false) := ⟨RI.start g, .inr (Nat.zero_le _)⟩

theorem RP.start {g : Gr} {D : List Bool} (h : RI g D) : RP g D 0 D := ⟨h, fun _ h => h, fun _ _ h => by omega, fun _ => rfl⟩

theorem okN_mono {n : Nat} {D D' : List Bool} {ins : List Int} (h : ∀ j, D.getD j false = true → D'.getD j false = true) (ho : okN n D ins = true) : okN n D' ins = true := by
  unfold okN at ho ⊢
  rw [List.all_eq_true] at ho ⊢
  intro x hx
  have := ho x hx
  simp only [okx, Bool.or_eq_true, decide_eq_true_eq] at this ⊢
  rcases this with h1 | h1 | h1
  · exact .inl h1
  · exact .inr (.inl h1)
  · exact .inr (.inr (h _ h1))

theorem RP.step {g : Gr} {D0 D : List Bool} {i : Nat} (h : RP g D0 i D) (hi : i < g.nodes.length) (b : Bool) (hb : b = (D.getD i false || okN g.nodes.length D g.nodes[i].ins)) : RP g D0 (i + 1) (D.set i b) := by
  have hlen := h.base.len
  have hset := getDB_set D i b (by omega)
  have hup : ∀ j, D.getD j false = true → (D.set i b).getD j false = true := by
    intro j hj
    rw [hset]
    split
    · rename_i e
      subst e
      rw [hb, hj]
      rfl
    · exact hj
  refine ⟨⟨by simpa using hlen, ?_⟩, fun j hj => hup j (h.more j hj), ?_, ?_⟩
  · intro k hk hkt
    rw [hset] at hkt
    split at hkt
    · rename_i e
      subst e
      rw [hb, Bool.or_eq_true] at hkt
      rcases hkt with hkt | hkt
      · exact h.base.sound k hk hkt
      · refine Done.mk k (by rw [insN_len]; exact hk) fun u hu => ?_
        have hu' : u ∈ (insN g).getD k [] := by simpa [List.getD, hk, insN_len] using hu
        rw [insN_mem g k hk, insG_get g k hk] at hu'
        obtain ⟨h1, h2, h3⟩ := ((insL_nodup _ _).2 _).1 hu'
        unfold okN at hkt
        rw [List.all_eq_true] at hkt
        have := hkt _ h1
        simp only [okx, Bool.or_eq_true, decide_eq_true_eq] at this
        refine h.base.sound u (by omega) ?_
        rcases this with h4 | h4 | h4
        · omega
        · omega
        · simpa using h4
    · exact h.base.sound k hk hkt
  · intro j hj hji ho
    by_cases e : j = i
    · subst e
      rw [hset, if_pos rfl, hb, okN_mono h.more ho, Bool.or_true]
    · exact hup j (h.got j hj (by omega) ho)
  · intro hc
    have e := h.still hc
    subst e
    have hbi : b = D.getD i false := by
      rw [hb]
      cases ho : okN g.nodes.length D g.nodes[i].ins with
      | false => simp
      | true => rw [hc i hi ho]; rfl
    rw [hbi]
    simp [List.getD, show i < D.length by omega]

theorem count_le : ∀ (a b : List Bool), a.length = b.length → (∀ j, a.getD j false = true → b.getD j false = true) → a.countP id ≤ b.countP id ∧ (a ≠ b → a.countP id < b.countP id)
  | [], [], _, _ => ⟨Nat.le_refl _, fun h => absurd rfl h⟩
  | [], _ :: _, h, _ => by simp at h
  | _ :: _, [], h, _ => by simp at h
  | x :: a, y :: b, hl, h => by
    have ih := count_le a b (by simpa using hl) (fun j hj => by simpa using h (j + 1) (by simpa using hj))
    have h0 : x = true → y = true := fun e => by simpa using h 0 (by simpa using e)
    cases x <;> cases y
    · simp only [List.countP_cons, id, Bool.false_eq_true, if_false, Nat.add_zero, ne_eq, List.cons.injEq, true_and]; exact ih
    · simp only [List.countP_cons, id, Bool.false_eq_true, if_false, if_true, Nat.add_zero]; omega
    · exact absurd (h0 rfl) (by simp)
    · simp only [List.countP_cons, id, if_true, ne_eq, List.cons.injEq, true_and]
      exact ⟨by omega, fun hn => by have := ih.2 hn; omega⟩

theorem RQ.pass {g : Gr} {D0 D : List Bool} {t : Nat} (h : RQ g t D0) (hp : RP g D0 g.nodes.length D) : RQ g (t + 1) D := by
  refine ⟨hp.base, ?_⟩
  rcases h.2 with hc | ht
  · rw [hp.still hc]; exact .inl hc
  · by_cases e : D = D0
    · left
      intro i hi ho
      exact hp.got i hi hi (by rw [← e]; exact ho)
    · right
      have := (count_le D0 D (by rw [h.1.len, hp.base.len]) hp.more).2 (fun e' => e e'.symm)
      omega

theorem RQ.full {g : Gr} {D : List Bool} (h : RQ g g.nodes.length D) (i : Nat) (hd : Done (insN g) i) : D.getD i false = true := by
  have hlen := h.1.len
  rcases h.2 with hc | ht
  · induction hd with
    | mk i hi hk ih =>
      have hi' : i < g.nodes.length := by rw [← insN_len]; exact hi
      refine hc i hi' ?_
      unfold okN
      rw [List.all_eq_true]
      intro x hx
      simp only [okx, Bool.or_eq_true, decide_eq_true_eq]
      by_cases h1 : x < 0
      · exact .inl h1
      · by_cases h2 : (g.nodes.length : Int) ≤ x
        · exact .inr (.inl h2)
        · refine .inr (.inr (ih x.toNat ?_))
          have : x.toNat ∈ (insN g).getD i [] := by
            rw [insN_mem g i hi', insG_get g i hi']
            exact ((insL_nodup _ _).2 _).2 ⟨by rw [Int.toNat_of_nonneg (by omega)]; exact hx, by omega, by omega⟩
          simpa [List.getD, hi] using this
  · have hle : D.countP id ≤ D.length := List.countP_le_length
    have hall := List.countP_eq_length.1 (show D.countP id = D.length by omega)
    have hi : i < D.length := by have := hd.lt; rw [insN_len] at this; omega
    have := hall D[i] (List.getElem_mem hi)
    simpa [List.getD, hi] using this

theorem RQ.no {g : Gr} {D : List Bool} (h : RQ g g.nodes.length D) (i : Nat) (hi : i < g.nodes.length) (hf : D.getD i false = false) : roundB g = true := by
  simp only [roundB, decide_eq_true_eq]
  exact ⟨i, hi, fun hd => by rw [h.full i hd] at hf; cases hf⟩

theorem RQ.yes {g : Gr} {D : List Bool} (h : RQ g g.nodes.length D) (hf : ∀ i, i < g.nodes.length → D.getD i false = true) : roundB g = false := by
  simp only [roundB, decide_eq_false_iff_not, not_exists, not_and, Classical.not_not]
  exact fun i hi => h.1.sound i hi (hf i hi)

end Go.Proofs.YtlpieeeeolfclaaGreatDoor

/- The document's answer for layer 11: do nodes lead round: the walk. -/
set_option maxRecDepth 100000
namespace Go.Proofs.YtlpieeeeolfclaaGreatDoor
open Go.RowKit Go.Gou

theorem info_bool : (Tryz.prog.info? 4).map (fun i => (i.zero, i.size, i.bytes)) = some (some (.bool false), 1, 1) := by kernel_rfl

def bv (D : List Bool) : List Value := D.map .bool

structure RS (w : World) (p : Option Addr) (cap : Nat) (g : Gr) (D : List Bool) (wr : World) : Prop where
  box : BoxAt w (.slice p g.nodes.length cap) (.int .i64 g.out) wr
  row : wr.ownsRow (w.heap.size + 1) 4 1 (.slice (some ⟨w.heap.size + 1, 0, none⟩) g.nodes.length g.nodes.length) g.nodes.length (bv D)

theorem RS.cell {w wr : World} {p : Option Addr} {cap : Nat} {g : Gr} {D : List Bool} (h : RS w p cap g D wr) (hl : D.length = g.nodes.length) (i : Nat) (hi : i < g.nodes.length) : wr.cell? ⟨w.heap.size + 1, i, none⟩ = some (.bool (D.getD i false)) := by
  have hc := h.row.cellAt i (by omega)
  rw [show (bv D)[i]? = some (.bool (D.getD i false)) by simp [bv, List.getD, show i < D.length by omega]] at hc
  exact hc

theorem RS.store {w wr : World} {p : Option Addr} {cap : Nat} {g : Gr} {D : List Bool} (h : RS w p cap g D wr) (i : Nat) (b : Bool) : RS w p cap g (D.set i b) (wr.setCell ⟨w.heap.size + 1, i, none⟩ (.bool b)) := by
  have hm := Mod.setCell wr ⟨w.heap.size + 1, i, none⟩ (.bool b)
  obtain ⟨s1, _⟩ := h.row.stored i (.bool b)
  refine ⟨h.box.mod hm (fun k hk e => by simp at e; omega), ?_⟩
  rw [show bv (D.set i b) = (bv D).set i (.bool b) by simp [bv, List.map_set]]
  exact s1

theorem RS.drewN {w wr : World} {p : Option Addr} {cap : Nat} {g : Gr} {D : List Bool} (h : RS w p cap g D wr) : RS w p cap g D wr := h

/-- A node of a filter: where it lies, and its cells. -/
theorem gr_node {w : World} {p : Option Addr} {n cap : Nat} {q : Value} {g : Gr} (hg : GrV w (.agg #[.slice p n cap, q]) g) (i : Nat) (hi : i < g.nodes.length) :
    ∃ b o, p = some ⟨b, o, none⟩ ∧ b < w.heap.size ∧ ∃ vi vp, w.cell? ⟨b, o + i * 3, none⟩ = some (.int .i64 g.nodes[i].op) ∧ w.cell? ⟨b, o + i * 3 + 1, none⟩ = some vi ∧ w.cell? ⟨b, o + i * 3 + 2, none⟩ = some vp ∧
      IntsAt w.heap.size w vi g.nodes[i].ins ∧ IntsAt w.heap.size w vp g.nodes[i].ps := by
  obtain ⟨vn, hvn, p', cap', hp', _, hp⟩ := hg
  simp only [Value.agg.injEq, Array.mk.injEq, List.cons.injEq, and_true] at hvn
  obtain ⟨rfl, _⟩ := hvn
  simp only [Value.slice.injEq] at hp'
  obtain ⟨rfl, _, rfl⟩ := hp'
  rcases hp with hp | ⟨b, o, rfl, hb, hc⟩
  · rw [hp] at hi; simp at hi
  · obtain ⟨vi, vp, h⟩ := hc i hi
    exact ⟨b, o, rfl, hb, vi, vp, h⟩

set_option maxHeartbeats 8000000 in
theorem refRound_any (w : World) (v : Value) (g : Gr) (hg : GrV w v g) (hn : g.nodes.length ≤ 300) (hwf : GrWf g) :
    Calls Tryz.prog 20 #[v] w fun e w' => e = .returned (.bool (roundB g)) ∧ Below w.heap.size w w' := by
  obtain ⟨i0, hi0, hz0, hz1, hz2⟩ := info_parts info_bool
  have Hg := Lib.hid hg
  have Hwf := Lib.hid hwf
  obtain ⟨p, cap, rfl⟩ := hg.form
  clear hg hwf
  go_enter Tryz.func20, Tryz.ntmps20
  go_wp2_with (first
    | (at_make; refine wpList_make_full _ rfl _ _ 71 rfl w.heap.size 4 i0 (.bool false) 1 Tryz.underlying71 hi0 hz0 hz1 _ _ _ _ g.nodes.length rfl rfl rfl rfl ?b1 ?b2 ?b3 ?_))
  case b1 => rw [hz2]; omega
  case b2 => unfold maxLen; omega
  case b3 => simp
  intro w1 hown hgrow
  have hzb1 : w.heap.size + 1 < w1.heap.size := (hown.lt _ rfl).2
  have hb1 : Below (w.heap.size + 1) (w.alloc (.cells #[.slice p g.nodes.length cap, .int .i64 g.out] 24)) w1 := (Below.refl _ _).grown hgrow (by simp) (fun k e => by cases e)
  have hrs : RS w p cap g (List.replicate g.nodes.length false) w1 := by
    refine ⟨(BoxAt.start w _ _ 24).step (by simpa using hb1), ?_⟩
    · rw [toList_madeCells_one] at hown
      refine ⟨by simp [bv], ?_⟩
      rcases hown.2 with ⟨h, _⟩ | ⟨g', cap', cur, hv, hg', r⟩
      · cases h
      · simp only [Value.slice.injEq, Option.some.injEq, Addr.mk.injEq, and_true] at hv
        obtain ⟨rfl, _, rfl⟩ := hv
        exact .inr ⟨_, _, cur, rfl, by omega, by simpa [bv] using r⟩
  have Hrs := Lib.hid hrs
  have Hbx := Lib.hid hrs.box
  obtain ⟨c0, c1, lt, _⟩ := Hbx.out
  clear hown hgrow hb1 hrs
  go_wp2_with fail
  go_loopw [4] (fun c wr => ∃ (t : Nat) (D : List Bool), c = .int .i64 t ∧ t ≤ g.nodes.length ∧ RQ g t D ∧ RS w p cap g D wr) (fun c _ => g.nodes.length - (intOf c).toNat)
  case atStart => exact ⟨0, _, rfl, Nat.zero_le _, RQ.start g, Hrs.out⟩
  case round =>
    obtain ⟨t, D0, rfl, ht, hq0, hrs0⟩ := hrel
    clear Hrs Hbx c0 c1 lt
    have Hq0 := Lib.hid hq0
    have Hrs0 := Lib.hid hrs0
    have Hbx := Lib.hid hrs0.box
    obtain ⟨c0, c1, lt, _⟩ := Hbx.out
    clear hq0 hrs0
    by_cases hlt : t < g.nodes.length
    · go_wp2_with fail
      obtain ⟨wo, rfl⟩ : ∃ wo : World, wo = wr := ⟨_, rfl⟩
      go_loopw [5] (fun c wr => ∃ (i : Nat) (D : List Bool), c = .int .i64 i ∧ i ≤ g.nodes.length ∧ RP g D0 i D ∧ RS w p cap g D wr) (fun c _ => g.nodes.length - (intOf c).toNat)
      case atStart => exact ⟨0, _, rfl, Nat.zero_le _, RP.start Hq0.out.1, Hrs0.out⟩
      case round =>
        obtain ⟨i, D, rfl, hi, hp, hrs⟩ := hrel
        clear Hrs0 Hbx c0 c1 lt
        have Hp := Lib.hid hp
        have Hrs := Lib.hid hrs
        have hbx := hrs.box
        have Hbx := Lib.hid hbx
        obtain ⟨c0, c1, lt, hbel⟩ := hbx
        have hDl := hp.base.len
        have hcl := hrs.cell hDl
        have hfr := hrs.row.frozenAt
        have hLlt := (hrs.row.lt _ rfl).2
        have Hcl := Lib.hid hcl
        have Hfr := Lib.hid hfr
        clear hp hrs hcl hfr
        by_cases hilt : i < g.nodes.length
        · obtain ⟨b, o, rfl, hb, vi, vp, k0, k1, k2, hins, hps⟩ := gr_node Hg.out i hilt
          obtain ⟨pi, ci, rfl⟩ := hins.len
          have hcap : g.nodes.length ≤ cap := by
            obtain ⟨vn, hvn, p', cap', hp', hc', _⟩ := Hg.out
            simp only [Value.agg.injEq, Array.mk.injEq, List.cons.injEq, and_true] at hvn
            obtain rfl := hvn
            simp only [Value.slice.injEq, true_and] at hp'
            obtain ⟨_, rfl⟩ := hp'
            exact hc'
          rw [← hbel.cell (p := ⟨b, _, none⟩) hb] at k1
          have hil := Hwf.out.insl _ (List.getElem_mem hilt)
          unfold maxLen at hil
          have hstep := fun (x : Bool) (hx : x = (D.getD i false || okN g.nodes.length D g.nodes[i].ins)) => Hp.out.step hilt x hx
          have Hstep := Lib.hid hstep
          have Hins := Lib.hid hins
          have Hbel := Lib.hid hbel
          have Hok0 : Hid (okN g.nodes.length D g.nodes[i].ins = (g.nodes[i].ins.take g.nodes[i].ins.length).all (okx g.nodes.length D)) := by show _ = _; rw [List.take_length]; rfl
          clear k0 k2 hps hins hstep hbel
          generalize g.nodes[i] = nk at *
          generalize hnk : nk.ins = ins at *
          go_wp2_with fail
          go_loop [6, 7] (fun ok c => ∃ k : Nat, c = .int .i64 k ∧ k ≤ ins.length ∧ ok = .bool ((ins.take k).all (okx g.nodes.length D))) (fun _ c => ins.length - (intOf c).toNat)
          case atStart => exact ⟨0, rfl, Nat.zero_le _, rfl⟩
          case round =>
            obtain ⟨k, rfl, hk, rfl⟩ := hrel
            by_cases hkl : k < ins.length
            · obtain ⟨bi, oi, ci', hvi, _, hbi, hci⟩ := ints_cells Hins.out (by omega)
              simp only [Value.slice.injEq, true_and] at hvi
              obtain ⟨rfl, rfl⟩ := hvi
              have hx := hci k hkl
              rw [← Hbel.out.cell (p := ⟨bi, oi + k, none⟩) hbi] at hx
              have hsucc : (ins.take (k + 1)).all (okx g.nodes.length D) = ((ins.take k).all (okx g.nodes.length D) && okx g.nodes.length D (ins.getD k 0)) := by
                rw [List.all_take_succ _ _ _ hkl]
                simp [List.getD, hkl]
              have Hsucc := Lib.hid hsucc
              clear hci hsucc
              generalize ins.getD k 0 = x at *
              cases hcur : (ins.take k).all (okx g.nodes.length D) with
              | false =>
                have Hnx : Hid ((ins.take (k + 1)).all (okx g.nodes.length D) = false) := by show _ = _; rw [Hsucc.out, hcur]; rfl
                clear hcur
                go_wp2_with fail
                go_round
                case rel => exact ⟨k + 1, by go_num, by omega, by rw [Hnx.out]⟩
                case measure => simp [intOf]; omega
              | true =>
                by_cases hx0 : x < 0
                · have Hnx : Hid ((ins.take (k + 1)).all (okx g.nodes.length D) = true) := by show _ = _; rw [Hsucc.out, hcur]; simp [okx, hx0]
                  clear hcur
                  go_wp2_with fail
                  go_round
                  case rel => exact ⟨k + 1, by go_num, by omega, by rw [Hnx.out]⟩
                  case measure => simp [intOf]; omega
                · by_cases hxn : (g.nodes.length : Int) ≤ x
                  · have Hnx : Hid ((ins.take (k + 1)).all (okx g.nodes.length D) = true) := by show _ = _; rw [Hsucc.out, hcur]; simp [okx, hxn]
                    clear hcur
                    go_wp2_with fail
                    go_round
                    case rel => exact ⟨k + 1, by go_num, by omega, by rw [Hnx.out]⟩
                    case measure => simp [intOf]; omega
                  · obtain ⟨u, rfl⟩ : ∃ u : Nat, x = u := ⟨x.toNat, by omega⟩
                    have hu : u < g.nodes.length := by omega
                    have hcu := Hcl.out u hu
                    have Hnx : Hid ((ins.take (k + 1)).all (okx g.nodes.length D) = D.getD u false) := by
                      show _ = _
                      have e1 : decide ((u : Int) < 0) = false := decide_eq_false hx0
                      have e2 : decide ((g.nodes.length : Int) ≤ (u : Int)) = false := decide_eq_false hxn
                      rw [Hsucc.out, hcur]
                      simp only [okx, e1, e2, Bool.true_and, Bool.false_or, Int.toNat_natCast]
                    clear hcur
                    generalize D.getD u false = du at *
                    go_wp2_with fail
                    go_round
                    case rel => exact ⟨k + 1, by go_num, by omega, by rw [Hnx.out]⟩
                    case measure => simp [intOf]; omega
            · obtain rfl : k = ins.length := by omega
              rw [← Hok0.out]
              have hci := Hcl.out i hilt
              have hfi := Hfr.out i
              clear Hok0
              generalize okN g.nodes.length D ins = q at *
              cases hdi : D.getD i false with
              | true =>
                have Hn : Hid (RP g D0 (i + 1) (D.set i true)) := Hstep.out true (by rw [hdi]; rfl)
                rw [hdi] at hci
                clear hdi
                go_wp2_with fail
                go_roundw
                case rel => exact ⟨i + 1, _, by go_num, by omega, Hn.out, Hrs.out.store i true⟩
                case measure => simp [intOf]; omega
              | false =>
                have Hn : Hid (RP g D0 (i + 1) (D.set i q)) := Hstep.out q (by rw [hdi]; rfl)
                rw [hdi] at hci
                clear hdi
                go_wp2_with fail
                go_roundw
                case rel => exact ⟨i + 1, _, by go_num, by omega, Hn.out, Hrs.out.store i q⟩
                case measure => simp [intOf]; omega
        · obtain rfl : i = g.nodes.length := by omega
          clear hbel
          go_wp2_with fail
          go_roundw
          case rel => exact ⟨t + 1, D, by go_num, by omega, Hq0.out.pass Hp.out, Hrs.out⟩
          case measure => simp [intOf]; omega
    · obtain rfl : t = g.nodes.length := by omega
      have hDl := Hq0.out.1.len
      have hcl := Hrs0.out.cell hDl
      have Hcl := Lib.hid hcl
      have hLlt := (Hrs0.out.row.lt _ rfl).2
      clear hcl hDl
      go_wp2_with fail
      go_loop [9] (fun c => ∃ i : Nat, c = .int .i64 i ∧ i ≤ g.nodes.length ∧ ∀ j, j < i → D0.getD j false = true) (fun c => g.nodes.length - (intOf c).toNat)
      case atStart => exact ⟨0, rfl, Nat.zero_le _, fun _ h => by omega⟩
      case round =>
        obtain ⟨i, rfl, hi, hall⟩ := hrel
        have Hall := Lib.hid hall
        clear hall
        by_cases hilt : i < g.nodes.length
        · have hci := Hcl.out i hilt
          cases hdi : D0.getD i false with
          | true =>
            rw [hdi] at hci
            have Hn : Hid (∀ j, j < i + 1 → D0.getD j false = true) := fun j hj => by
              by_cases e : j = i
              · rw [e]; exact hdi
              · exact Hall.out j (by omega)
            clear hdi
            go_wp2_with fail
            go_round
            case rel => exact ⟨i + 1, by go_num, by omega, Hn.out⟩
            case measure => simp [intOf]; omega
          | false =>
            rw [hdi] at hci
            have Hr := Lib.hid (Hq0.out.no i hilt hdi)
            clear hdi
            go_wp2_with fail
            go_ret
            exact ⟨ret_bool Hr.out.symm, Hrs0.out.box.bel⟩
        · obtain rfl : i = g.nodes.length := by omega
          have Hr := Lib.hid (Hq0.out.yes Hall.out)
          go_wp2_with fail
          go_ret
          exact ⟨ret_bool Hr.out.symm, Hrs0.out.box.bel⟩

end Go.Proofs.YtlpieeeeolfclaaGreatDoor

/- The laws of layer 12 that speak of the program alone: what each answers. -/
set_option maxRecDepth 100000
namespace Go.Proofs.YtlpieeeeolfclaaGreatDoor
open Go.RowKit Go.Gou

def fewN (n : GNode) : Bool := decide (n.ins.length ≤ 20) && decide (n.ps.length ≤ 40)
def fewB (g : Gr) (most : Int) : Bool := decide ((g.nodes.length : Int) ≤ most) && g.nodes.all fewN

set_option maxHeartbeats 1000000 in
theorem few_any (w : World) (v : Value) (g : Gr) (most : Int) (hg : GrV w v g) (hwf : GrWf g) :
    Calls Tryz.prog 11 #[v, .int .i64 most] w fun e w' => e = .returned (.bool (fewB g most)) ∧ Below w.heap.size w w' := by
  obtain ⟨vn, rfl, p, cap, rfl, _, hp⟩ := hg
  have hl := hwf.len
  have Hwf := Lib.hid hwf
  clear hwf
  unfold maxLen at hl
  by_cases hm : most < g.nodes.length
  · have hs : fewB g most = false := by simp [fewB]; omega
    have Hs := Lib.hid hs
    clear hs
    go_enter Tryz.func11, Tryz.ntmps11
    go_wp2
    go_ret
    exact ⟨ret_bool Hs.out.symm, (Below.refl _ _).alloc (Nat.le_refl _) _⟩
  · have hs : fewB g most = g.nodes.all fewN := by simp [fewB]; omega
    have Hs := Lib.hid hs
    clear hs
    go_enter Tryz.func11, Tryz.ntmps11
    go_wp2
    go_loop [5] (fun i => ∃ k : Nat, k ≤ g.nodes.length ∧ i = .int .i64 k ∧ (g.nodes.take k).all fewN = true) (fun i => g.nodes.length - (intOf i).toNat)
    case atStart => exact ⟨0, Nat.zero_le _, rfl, rfl⟩
    case round =>
      obtain ⟨k, hk, rfl, hall⟩ := hrel
      have Hall := Lib.hid hall
      clear hall
      by_cases hlt : k < g.nodes.length
      · rcases hp with hp | ⟨b, o, rfl, hb, hc⟩
        · rw [hp] at hlt; simp at hlt
        obtain ⟨vi, vp, h0, h1, h2, hi, hpp⟩ := hc k hlt
        obtain ⟨pi, ci, rfl⟩ := hi.len
        obtain ⟨pp, cp, rfl⟩ := hpp.len
        have hli := Hwf.out.insl _ (List.getElem_mem hlt)
        have hlp := Hwf.out.psl _ (List.getElem_mem hlt)
        unfold maxLen at hli hlp
        have hn : fewN g.nodes[k] = false → g.nodes.all fewN = false := by
          intro h
          rw [Bool.eq_false_iff]
          intro hm
          rw [List.all_eq_true] at hm
          have := hm _ (List.getElem_mem hlt)
          rw [h] at this
          cases this
        have hy : fewN g.nodes[k] = true → (g.nodes.take (k + 1)).all fewN = true := fun h => by rw [List.all_take_succ _ _ _ hlt, Hall.out, h]; rfl
        have Hn := Lib.hid hn
        have Hy := Lib.hid hy
        clear hc hi hpp hn hy
        generalize g.nodes[k] = nk at *
        by_cases hf1 : nk.ins.length ≤ 20
        · by_cases hf2 : nk.ps.length ≤ 40
          · have hfn : fewN nk = true := by simp [fewN, hf1, hf2]
            have Hfn := Lib.hid (Hy.out hfn)
            clear hfn
            go_wp2
            go_round
            case rel => exact ⟨k + 1, by omega, by go_num, Hfn.out⟩
            case measure => simp [intOf]; omega
          · have hfn : fewN nk = false := by simp [fewN]; omega
            have Hfn := Lib.hid (Hn.out hfn)
            clear hfn
            go_wp2
            go_ret
            exact ⟨ret_bool (by rw [Hs.out, Hfn.out]), (Below.refl _ _).alloc (Nat.le_refl _) _⟩
        · have hfn : fewN nk = false := by simp [fewN]; omega
          have Hfn := Lib.hid (Hn.out hfn)
          clear hfn
          go_wp2
          go_ret
          exact ⟨ret_bool (by rw [Hs.out, Hfn.out]), (Below.refl _ _).alloc (Nat.le_refl _) _⟩
      · go_wp2
        go_ret
        exact ⟨ret_bool (by rw [Hs.out, ← Hall.out, List.take_of_length_le (by omega)]), (Below.refl _ _).alloc (Nat.le_refl _) _⟩

end Go.Proofs.YtlpieeeeolfclaaGreatDoor

/- The document's answer for layer 12: a filter; the law NodeChecks. -/
set_option maxRecDepth 100000
namespace Go.Proofs.YtlpieeeeolfclaaGreatDoor
open Go.RowKit Go.Gou

theorem few_node {g : Gr} {m : Int} (h : fewB g m = true) (k : Nat) (hk : k < g.nodes.length) : g.nodes[k].ins.length ≤ 20 ∧ g.nodes[k].ps.length ≤ 40 := by
  simp only [fewB, Bool.and_eq_true, List.all_eq_true] at h
  have := h.2 _ (List.getElem_mem hk)
  simpa [fewN] using this

theorem few_len {g : Gr} (h : fewB g 300 = true) : g.nodes.length ≤ 300 := by
  simp only [fewB, Bool.and_eq_true, decide_eq_true_eq] at h
  omega

set_option maxHeartbeats 4000000 in
theorem refCheck_any (w : World) (v : Value) (g : Gr) (hg : GrV w v g) (hwf : GrWf g) (hfew : fewB g 300 = true) (ht : Tabs w) :
    Calls Tryz.prog 12 #[v] w fun e w' => e = .returned (.int .i64 (checkS g)) ∧ Below w.heap.size w w' := by
  have Hg := Lib.hid hg
  have Hwf := Lib.hid hwf
  have Ht := Lib.hid ht
  have hmax := few_len hfew
  have Hfew := Lib.hid hfew
  obtain ⟨p, cap, rfl⟩ := hg.form
  clear hg hwf hfew ht
  have Hbx := Lib.hid (BoxAt.start w (.slice p g.nodes.length cap) (.int .i64 g.out) 24)
  by_cases h0 : g.nodes.length = 0 ∨ 256 < g.nodes.length
  · have Hs : Hid (checkS g = 3) := by show _ = _; unfold checkS; rw [if_pos h0]
    by_cases h1 : g.nodes.length < 1
    · go_enter Tryz.func12, Tryz.ntmps12
      go_wp2_with fail
      go_ret
      exact ⟨ret_int Hs.out.symm, Hbx.out.bel⟩
    · have h2 : 256 < g.nodes.length := by omega
      clear h0
      go_enter Tryz.func12, Tryz.ntmps12
      go_wp2_with fail
      go_ret
      exact ⟨ret_int Hs.out.symm, Hbx.out.bel⟩
  · have hcs : checkS g = if firstBad g.nodes.length g.nodes ≠ 0 then firstBad g.nodes.length g.nodes else if g.out < 0 ∨ (g.nodes.length : Int) ≤ g.out then 8 else if roundB g = true then 6 else 0 := by
      unfold checkS; rw [if_neg h0]
    have Hcs := Lib.hid hcs
    have h1 : 1 ≤ g.nodes.length := by omega
    have h2 : g.nodes.length ≤ 256 := by omega
    clear hcs h0
    go_enter Tryz.func12, Tryz.ntmps12
    go_wp2_with fail
    go_loopw [3] (fun c wr => ∃ k : Nat, c = .int .i64 k ∧ k ≤ g.nodes.length ∧ firstBad g.nodes.length (g.nodes.take k) = 0 ∧ BoxAt w (.slice p g.nodes.length cap) (.int .i64 g.out) wr) (fun c _ => g.nodes.length - (intOf c).toNat)
    case atStart => exact ⟨0, rfl, Nat.zero_le _, rfl, Hbx.out⟩
    case round =>
      obtain ⟨k, rfl, hk, hfb, hbx⟩ := hrel
      clear Hbx
      have Hbx := Lib.hid hbx
      obtain ⟨c0, c1, lt, hbel⟩ := hbx
      by_cases hlt : k < g.nodes.length
      · obtain ⟨b, o, rfl, hb, vi, vp, k0, k1, k2, hins, hps⟩ := gr_node Hg.out k hlt
        obtain ⟨pi, ci, rfl⟩ := hins.len
        obtain ⟨pp, cp, rfl⟩ := hps.len
        have hcap : g.nodes.length ≤ cap := by
          obtain ⟨vn, hvn, p', cap', hp', hc', _⟩ := Hg.out
          simp only [Value.agg.injEq, Array.mk.injEq, List.cons.injEq, and_true] at hvn
          obtain rfl := hvn
          simp only [Value.slice.injEq, true_and] at hp'
          obtain ⟨_, rfl⟩ := hp'
          exact hc'
        rw [← hbel.cell (p := ⟨b, _, none⟩) hb] at k0 k1 k2
        have hfn := few_node Hfew.out k hlt
        have hone := fun (wx : World) (hbx : Below w.heap.size w wx) => refOne_any wx _ g.nodes[k] (g.nodes.length : Int) ⟨_, _, rfl, hins.up hbx, hps.up hbx⟩ (Ht.out.up hbx) (by omega) (by omega) (by omega) (by omega)
        have hft := firstBad_take hlt hfb
        have Hone := Lib.hid hone
        have Hft := Lib.hid hft
        have Hbel := Lib.hid hbel
        have hltI : (k : Int) < (g.nodes.length : Int) := by omega
        have hk0 : (0 : Int) ≤ (k : Int) := by omega
        clear hone hft hfb hins hps hfn hbel
        generalize hnk : g.nodes[k] = nk at *
        have Hnk := Lib.hid hnk
        clear hnk
        generalize nk.ins.length = li at *
        generalize nk.ps.length = lp at *
        go_wp2_with fail
        go_region_held3 (fun w' => Below w.heap.size w w' ∧ w.heap.size < w'.heap.size ∧ w'.cell? ⟨w.heap.size, 0, none⟩ = some (.slice (some ⟨b, o, none⟩) g.nodes.length cap) ∧ w'.cell? ⟨w.heap.size, 1, none⟩ = some (.int .i64 g.out) ∧ w'.cell? ⟨b, o + k * 3, none⟩ = some (.int .i64 nk.op) ∧ w'.cell? ⟨b, o + k * 3 + 1, none⟩ = some (.slice pi li ci) ∧ w'.cell? ⟨b, o + k * 3 + 2, none⟩ = some (.slice pp lp cp))
          (first | exact ⟨Hbel.out.drew, lt, c0, c1, k0, k1, k2⟩ | (obtain ⟨g0, g1, g2, g3, g4, g5, g6⟩ := ‹Below w.heap.size w _ ∧ _›; exact ⟨later_below g0 hb3, Nat.lt_of_lt_of_le g1 hb3.size, (hb3.cell (p := ⟨w.heap.size, 0, none⟩) g1).trans g2, (hb3.cell (p := ⟨w.heap.size, 1, none⟩) g1).trans g3, later_cell g0 hb3 hb g4, later_cell g0 hb3 hb g5, later_cell g0 hb3 hb g6⟩))
          (first | (go_at_call 19; refine (Hone.out _ (by (first | exact (‹Below w.heap.size w _ ∧ _›).1 | exact Hbel.out.drew))).mono ?_; rintro e w3 ⟨rfl, hb3⟩))
        obtain ⟨g0, g1, g2, g3, _⟩ := ‹Below w.heap.size w _ ∧ _›
        have Hbx3 : Hid (BoxAt w (.slice (some ⟨b, o, none⟩) g.nodes.length cap) (.int .i64 g.out) w3) := ⟨g2, g3, g1, g0⟩
        clear g0 g1 g2 g3 c0 c1 lt k0 k1 k2
        by_cases hz : oneS nk g.nodes.length = 0
        · have hf1 : firstBad g.nodes.length (g.nodes.take (k + 1)) = 0 := by rw [Hft.out.1]; exact hz
          have Hf1 := Lib.hid hf1
          rw [hz]
          clear hz hf1
          go_wp2_with fail
          go_roundw
          case rel => exact ⟨k + 1, by go_num, by omega, Hf1.out, Hbx3.out⟩
          case measure => simp [intOf]; omega
        · have hne : (oneS nk g.nodes.length != 0) = true := by rw [bne_iff_ne]; exact hz
          have hs : checkS g = oneS nk g.nodes.length := by
            have h1 := Hft.out.2 hz
            rw [Hcs.out, h1, if_pos hz]
          have Hs := Lib.hid hs
          clear hz hs
          generalize oneS nk g.nodes.length = r at *
          go_wp2_with fail
          go_ret
          exact ⟨ret_int Hs.out.symm, Hbx3.out.bel⟩
      · have hall : firstBad g.nodes.length g.nodes = 0 := by rw [List.take_of_length_le (by omega)] at hfb; exact hfb
        have hcs2 : checkS g = if g.out < 0 ∨ (g.nodes.length : Int) ≤ g.out then 8 else if roundB g = true then 6 else 0 := by
          rw [Hcs.out, if_neg (by rw [hall]; simp)]
        have Hcs2 := Lib.hid hcs2
        have Hbel := Lib.hid hbel
        clear hcs2 hall hfb Hcs hbel
        by_cases ho : g.out < 0
        · have Hs : Hid (checkS g = 8) := by show _ = _; rw [Hcs2.out, if_pos (.inl ho)]
          go_wp2_with fail
          go_ret
          exact ⟨ret_int Hs.out.symm, Hbx.out.bel⟩
        · by_cases ho2 : (g.nodes.length : Int) ≤ g.out
          · have Hs : Hid (checkS g = 8) := by show _ = _; rw [Hcs2.out, if_pos (.inr ho2)]
            go_wp2_with fail
            go_ret
            exact ⟨ret_int Hs.out.symm, Hbx.out.bel⟩
          · cases hr : roundB g with
            | true =>
              have Hs : Hid (checkS g = 6) := by show _ = _; rw [Hcs2.out, if_neg (by omega), if_pos hr]
              have Hr := Lib.hid hr
              clear hr
              go_wp2_with fail
              refine (refRound_any _ _ g (Hg.out.up Hbx.out.bel) (by omega) Hwf.out).mono ?_
              rintro e w3 ⟨rfl, hb3⟩
              rw [Hr.out]
              go_wp2_with fail
              go_ret
              exact ⟨ret_int Hs.out.symm, (Hbx.out.step hb3).bel⟩
            | false =>
              have Hs : Hid (checkS g = 0) := by show _ = _; rw [Hcs2.out, if_neg (by omega), if_neg (by rw [hr]; simp)]
              have Hr := Lib.hid hr
              clear hr
              go_wp2_with fail
              refine (refRound_any _ _ g (Hg.out.up Hbx.out.bel) (by omega) Hwf.out).mono ?_
              rintro e w3 ⟨rfl, hb3⟩
              rw [Hr.out]
              go_wp2_with fail
              go_ret
              exact ⟨ret_int Hs.out.symm, (Hbx.out.step hb3).bel⟩

end Go.Proofs.YtlpieeeeolfclaaGreatDoor

/- ForeKeeps: fore's box, joined, repeated. -/
namespace Go.Proofs.YtlpieeeeolfclaaGreatDoor
open Go.RowKit Go.Gou Go.Reg Go.Shelf
set_option maxRecDepth 100000
set_option linter.constructorNameAsVariable false

def boxR (ps : List Int) : Rt := ⟨ps.getD 0 0, ps.getD 1 0, ps.getD 2 0, ps.getD 3 0⟩

set_option maxHeartbeats 1000000 in
theorem box_any (w : World) (v : Value) (ps : List Int) (hx : IntsAt w.heap.size w v ps) (hl : 4 ≤ ps.length) :
    Calls Tryz.prog 29 #[v] w fun e w' => e = .returned (rtV (boxR ps)) ∧ Gou.Mod (fun _ => False) w w' := by
  obtain ⟨b, o, cap, rfl, hcap, hb, hc⟩ := ints_cells hx (by omega)
  have c0 := hc 0 (by omega)
  have c1 := hc 1 (by omega)
  have c2 := hc 2 (by omega)
  have c3 := hc 3 (by omega)
  rw [Nat.add_zero] at c0
  unfold boxR
  obtain ⟨n, hn⟩ : ∃ n, n = ps.length := ⟨_, rfl⟩
  rw [← hn] at hl ⊢
  clear hc hx hcap hn
  generalize ps.getD 0 0 = x0 at *
  generalize ps.getD 1 0 = x1 at *
  generalize ps.getD 2 0 = x2 at *
  generalize ps.getD 3 0 = x3 at *
  have i0 : (0 : Int) < (n : Int) := by omega
  have n0 : 0 < n := by omega
  have n1 : n ≠ 0 := by omega
  have i1 : (1 : Int) < (n : Int) := by omega
  have i2 : (2 : Int) < (n : Int) := by omega
  have i3 : (3 : Int) < (n : Int) := by omega
  go_enter Tryz.func29, Tryz.ntmps29
  go_upto_region 1 with fail
  have HB := Lib.hid (Blk.new w 32 #[.int .i64 0, .int .i64 0, .int .i64 0, .int .i64 0])
  have HM := Lib.hid (Gou.Mod.alloc0 w (.cells #[.int .i64 0, .int .i64 0, .int .i64 0, .int .i64 0] 32))
  have Nb : Hid (b ≠ w.heap.size) := Lib.hid (by omega)
  rw [← HM.out.cell (p := ⟨b, o, none⟩) hb (fun h => h)] at c0
  rw [← HM.out.cell (p := ⟨b, o + 1, none⟩) hb (fun h => h)] at c1
  rw [← HM.out.cell (p := ⟨b, o + 2, none⟩) hb (fun h => h)] at c2
  rw [← HM.out.cell (p := ⟨b, o + 3, none⟩) hb (fun h => h)] at c3
  generalize w.alloc (.cells #[.int .i64 0, .int .i64 0, .int .i64 0, .int .i64 0] 32) = W1 at *
  obtain ⟨N, hN⟩ : ∃ N, N = w.heap.size := ⟨_, rfl⟩
  rw [← hN] at HB Nb ⊢
  have HN := Lib.hid hN
  clear hN
  refine wp_region_held_drew (S := fun w' => Gou.Mod (fun k => k = N) W1 w') (by kernel_rfl) (Gou.Mod.drew _ _) (fun hHeld => ?_)
  refine tk 0 (.slice (some ⟨b, o, none⟩) n cap) hHeld (h := ?_)
  refine tk 1 (.pointer (some ⟨b, o, none⟩)) hHeld (h := ?_)
  refine tkC 2 c0 Nb.out hHeld (h := ?_)
  refine tk 3 (.slice (some ⟨b, o, none⟩) n cap) hHeld (h := ?_)
  refine tk 4 (.pointer (some ⟨b, o + 1, none⟩)) hHeld (h := ?_)
  refine tkC 5 c1 Nb.out hHeld (h := ?_)
  refine tk 6 (.slice (some ⟨b, o, none⟩) n cap) hHeld (h := ?_)
  refine tk 7 (.pointer (some ⟨b, o + 2, none⟩)) hHeld (h := ?_)
  refine tkC 8 c2 Nb.out hHeld (h := ?_)
  refine tk 9 (.slice (some ⟨b, o, none⟩) n cap) hHeld (h := ?_)
  refine tk 10 (.pointer (some ⟨b, o + 3, none⟩)) hHeld (h := ?_)
  refine tkC 11 c3 Nb.out hHeld (h := ?_)
  refine tk 12 (.agg #[.int .i64 x0, .int .i64 x1, .int .i64 x2, .int .i64 x3]) hHeld (h := ?_)
  refine stR 13 N 0 #[.int .i64 x0, .int .i64 x1, .int .i64 x2, .int .i64 x3] hHeld rfl ((HB.out.mod0 (Gou.Mod.drew _ _)).there 0 4 (by simp)) size_rect (one4 _ _ _ _) (h := fun hHeld => ?_)
  refine dn hHeld (h := ?_)

  have hB := (HB.out.mod0 (Gou.Mod.drew (fun _ => False) W1)).sets 0 [.int .i64 x0, .int .i64 x1, .int .i64 x2, .int .i64 x3]
  have HE := Lib.hid (HM.out.trans hHeld (fun k hk h => by have := HN.out; omega))
  clear hHeld c0 c1 c2 c3
  go_wp2_with fail
  exact ret_rect ⟨x0, x1, x2, x3⟩ rfl rfl rfl hB Tryz.underlying32 rfl size_rect ⟨rfl, HE.out⟩
end Go.Proofs.YtlpieeeeolfclaaGreatDoor

/- ForeKeeps: fore's joined and repeated. -/
namespace Go.Gou
open Go.RowKit Go.Reg
/-- A slice of regions. -/
def RegsR (w : World) (v : Value) (ls : List (List Rt)) : Prop := ∃ vs : List Value, vs.length = ls.length ∧ RowG (fun _ => True) w 1 v ls.length vs ∧ ∀ k, (h : k < ls.length) → RtR (fun _ => True) w (vs.getD k undef) ls[k]
theorem RegsR.under {w w' : World} {v : Value} {ls : List (List Rt)} (h : RegsR w v ls) (hm : Mod (fun _ => False) w w') : RegsR w' v ls := by
  obtain ⟨vs, h1, h2, h3⟩ := h
  exact ⟨vs, h1, RowG.under h2 hm, fun k hk => RowG.under (h3 k hk) hm⟩
theorem RegsR.form {w : World} {v : Value} {ls : List (List Rt)} (h : RegsR w v ls) : ∃ p c, v = .slice p ls.length c := by
  obtain ⟨vs, h1, h2, h3⟩ := h
  obtain ⟨p, c, rfl, _⟩ := h2.form
  exact ⟨p, c, rfl⟩
theorem RegsR.at {w : World} {p : Option Addr} {n c : Nat} {ls : List (List Rt)} (h : RegsR w (.slice p n c) ls) {k : Nat} (hk : k < ls.length) :
    ∃ b o, p = some ⟨b, o, none⟩ ∧ b < w.heap.size ∧ ∃ pk ck, w.cell? ⟨b, o + k, none⟩ = some (.slice pk ls[k].length ck) ∧ RtR (fun _ => True) w (.slice pk ls[k].length ck) ls[k] := by
  obtain ⟨vs, h1, ⟨_, p', c', h2, _, h4⟩, h3⟩ := h
  simp only [Value.slice.injEq] at h2
  obtain ⟨rfl, rfl, rfl⟩ := h2
  rcases h4 with h4 | ⟨b, o, rfl, hb, -, hc⟩
  · omega
  · have hr := h3 k hk
    obtain ⟨pk, ck, hv⟩ := hr.form
    refine ⟨b, o, rfl, hb, pk, ck, ?_, by rw [← hv]; exact hr⟩
    have hkv : k < vs.length := by omega
    have := hc k (vs.getD k undef) (by simp [List.getD, hkv])
    rw [this, hv]
end Go.Gou
namespace Go.Proofs.YtlpieeeeolfclaaGreatDoor
open Go.RowKit Go.Gou Go.Reg Go.Shelf
set_option maxRecDepth 100000
set_option linter.constructorNameAsVariable false

/-- A region comes back, in memory of the call's own. -/
def RgnP (w : World) (q : List Rt → Prop) (e : Ending) (w' : World) : Prop :=
  Gou.Mod (fun _ => False) w w' ∧ ∃ v out, e = .returned v ∧ w'.ownsRow w.heap.size 32 4 v out.length (rts out) ∧ q out
theorem RgnP.under {w w1 : World} {q : List Rt → Prop} {e : Ending} {w' : World} (h : RgnP w1 q e w') (hm : Gou.Mod (fun _ => False) w w1) : RgnP w q e w' := by
  obtain ⟨h1, v, o, rfl, hown, h2⟩ := h
  exact ⟨hm.trans' h1, v, o, rfl, ownsRow_base hown hm.size, h2⟩
theorem CombP.rgn {w : World} {a b : List Rt} {f : Bool → Bool → Bool} {e : Ending} {w' : World} {q : List Rt → Prop} (h : CombP w a b f e w') (hq : ∀ out, RegOf out (Pts a b f) → q out) : RgnP w q e w' := by
  obtain ⟨h1, v, o, rfl, hown, h2, _⟩ := h
  exact ⟨h1, v, o, rfl, hown, hq o h2⟩
theorem RgnP.nil (w w' : World) (hm : Gou.Mod (fun _ => False) w w') {q : List Rt → Prop} (hq : q []) : RgnP w q (.returned (.slice none 0 0)) w' := ⟨hm, _, [], rfl, World.ownsRow_nil _ _ _ _, hq⟩
theorem sq_le {n K : Nat} (h : n ≤ K * K) (hK : K ≤ 10000) : n ≤ 100000000 := Nat.le_trans h (Nat.mul_le_mul hK hK)

set_option maxHeartbeats 1000000 in
theorem joined_regs (w : World) (v : Value) (ls : List (List Rt)) (xs ys : List Int) (K : Nat) (hg : Grd xs ys K) (hK : K ≤ 10000) (hl : RegsR w v ls) (hr : ∀ l ∈ ls, Rgn xs ys l) (hn : ls.length ≤ 1000) :
    Calls Tryz.prog 32 #[v] w (RgnP w (Rgn xs ys)) := by
  obtain ⟨p, c, rfl⟩ := hl.form
  have HL := Lib.hid hl
  have HR := Lib.hid hr
  have HG := Lib.hid hg
  have Hn := Lib.hid hn
  clear hl hr hg hn
  go_enter Tryz.func32, Tryz.ntmps32
  go_wp2_with fail
  go_loopw [3, 8] (fun vo vi wr => ∃ (i : Nat) (o : List Rt), vi = .int .i64 i ∧ i ≤ ls.length ∧ Rgn xs ys o ∧ wr.ownsRow w.heap.size 32 4 vo o.length (rts o) ∧ Gou.Mod (fun _ => False) w wr) (fun _ vi _ => ls.length - (intOf vi).toNat)
  case atStart => exact ⟨0, [], rfl, by omega, Rgn.nil _ _, World.ownsRow_nil _ _ _ _, Gou.Mod.refl _ _⟩
  case round =>
    obtain ⟨i, o, rfl, hi, ho, hown, hm⟩ := hrel
    obtain ⟨po, co, rfl⟩ := Gou.ownsRow_form hown
    have Ho := Lib.hid ho
    have Hown := Lib.hid hown
    have Hm := Lib.hid hm
    clear ho hown hm
    by_cases hil : i < ls.length
    · have e1 : decide ((i : Int) < (ls.length : Int)) = true := decide_eq_true (by omega)
      obtain ⟨bl, off, rfl, hb, pk, ck, k0, hrk⟩ := HL.out.at hil
      rw [← Hm.out.cell (p := ⟨bl, off + i, none⟩) hb (fun h => h)] at k0
      have hi1 : (i : Int) < (ls.length : Int) := by omega
      have hi0 : (0 : Int) ≤ (i : Int) := by omega
      have wi : IntKind.i64.wrap ((i : Int) + 1) = (i : Int) + 1 := wrap_id (by omega) (by have := Hn.out; omega)
      have Hin := Lib.hid (And.intro hi hil)
      have Hq := Lib.hid (HR.out _ (List.getElem_mem hil))
      have Hrk := Lib.hid hrk
      clear hrk
      generalize ls[i] = l at *
      go_wp2_with fail
      refine (regJoin_any _ po pk co ck o l (RowG.own_of Hown.out (fun _ _ _ => trivial)) (Hrk.out.under Hm.out) (Ho.out.x0 HG.out) (Hq.out.x0 HG.out) xs ys (Ho.out.e.app Hq.out.e) (by have := HG.out.x; omega) (by have := HG.out.y; omega) (by have h1 := sq_le (Ho.out.few HG.out) hK; have h2 := sq_le (Hq.out.few HG.out) hK; omega)).mono ?_
      rintro e w2 ⟨hm2, v2, o2, rfl, hown2, hr2, -⟩
      have Ho2 := Lib.hid (Rgn.of hr2 (Ho.out.e.app Hq.out.e))
      have Hm2 := Lib.hid (Hm.out.trans' hm2)
      have Hown2 := Lib.hid (ownsRow_base hown2 Hm.out.size)
      obtain ⟨p2, c2, rfl⟩ := Gou.ownsRow_form hown2
      clear hm2 hown2 hr2 k0
      go_wp2_with fail
      go_roundw
      case rel => exact ⟨i + 1, o2, by go_num, by have := Hin.out; omega, Ho2.out, Hown2.out, Hm2.out⟩
      case measure => have := Hin.out; simp [intOf, wi]; omega
    · have hil' : i = ls.length := by omega
      have e1 : decide ((i : Int) < (ls.length : Int)) = false := decide_eq_false (by omega)
      have Hend : Hid (RgnP w (Rgn xs ys) (.returned (.slice po o.length co)) wr) := Lib.hid ⟨Hm.out, _, o, rfl, Hown.out, Ho.out⟩
      go_wp2_with fail
      go_ret
      exact Hend.out

set_option maxHeartbeats 1000000 in
theorem repeated_any (w : World) (p : Option Addr) (c : Nat) (l : List Rt) (r : Rt) (xs ys : List Int) (K : Nat) (hg : Grd xs ys K) (hK : K ≤ 10000) (hl : RtR (fun _ => True) w (.slice p l.length c) l) (hq : Rgn xs ys l) (hr : r.Right) :
    Calls Tryz.prog 30 #[.slice p l.length c, rtV r] w (RgnP w (Step xs ys)) := by
  go_enter Tryz.func30, Tryz.ntmps30
  go_wp2_with fail
  obtain ⟨HN1, HN2⟩ := two_new w 32 32 #[.int .i64 r.x0, .int .i64 r.y0, .int .i64 r.x1, .int .i64 r.y1] #[.int .i64 r.x0, .int .i64 r.y0, .int .i64 r.x1, .int .i64 r.y1]
  have Hm2 : Hid (Gou.Mod (fun _ => False) w ((w.alloc (.cells #[.int .i64 r.x0, .int .i64 r.y0, .int .i64 r.x1, .int .i64 r.y1] 32)).alloc (.cells #[.int .i64 r.x0, .int .i64 r.y0, .int .i64 r.x1, .int .i64 r.y1] 32))) := Lib.hid ((Gou.Mod.alloc0 _ _).trans' (Gou.Mod.alloc0 _ _))
  have HB := Lib.hid (RowG.of_blk HN2 4 1 rfl (fun _ => True) trivial)
  clear HN1 HN2
  generalize (w.alloc (.cells #[.int .i64 r.x0, .int .i64 r.y0, .int .i64 r.x1, .int .i64 r.y1] 32)).alloc (.cells #[.int .i64 r.x0, .int .i64 r.y0, .int .i64 r.x1, .int .i64 r.y1] 32) = W2 at *
  refine (regOf_any W2 _ 1 [r] HB.out (fun q hq => by rw [List.mem_singleton.1 hq]; exact hr.1) [r.x0, r.x1] [r.y0, r.y1] Edg.one (by simp) (by simp) (by simp)).mono ?_
  rintro e w3 ⟨hm3, v3, m, rfl, hown3, hr3, -⟩
  have Hm3 := Lib.hid (Hm2.out.trans' hm3)
  have Hrm := Lib.hid hr3
  have Hl3 := Lib.hid (RowG.under hl Hm3.out)
  have HO3 := Lib.hid (RowG.own_of hown3 (G := fun _ => True) (fun _ _ _ => trivial))
  obtain ⟨p3, c3, rfl⟩ := Gou.ownsRow_form hown3
  have Hqm := Lib.hid (Rgn.one hr3)
  have HEd := Lib.hid ((hq.e.left [r.x0, r.x1] [r.y0, r.y1]).app (Hqm.out.e.right xs ys))
  clear hm3 hr3 hown3 HB
  go_wp2_with fail
  refine (regMeet_any w3 p p3 c c3 l m Hl3.out HO3.out (hq.x0 hg) (fun q hq' => (near_two hr.1 hr.2.2.1) _ (Hqm.out.e.x q hq' (Hqm.out.some q hq')).1) (xs ++ [r.x0, r.x1]) (ys ++ [r.y0, r.y1]) HEd.out (by have := hg.x; simp; omega) (by have := hg.y; simp; omega) (by have h1 := sq_le (hq.few hg) hK; have h2 := Hqm.out.len; simp at h2; omega)).mono ?_
  rintro e w4 ⟨hm4, v4, n, rfl, hown4, hr4, -⟩
  have Hm4 := Lib.hid (Hm3.out.trans' hm4)
  obtain ⟨p4, c4, rfl⟩ := Gou.ownsRow_form hown4
  clear hm4 hown4 hr4 HO3 Hl3
  by_cases h0 : n.length = 0
  · have t1 : (((n.length : Nat) : Int) == 0) = true := by simp [h0]
    have t2 : decide (((n.length : Nat) : Int) = 0) = true := by simp [h0]
    go_wp2_with fail
    go_ret
    exact RgnP.nil _ _ Hm4.out (Step.nil _ _)
  · have t1 : (((n.length : Nat) : Int) == 0) = false := by simp [h0]
    have t2 : decide (((n.length : Nat) : Int) = 0) = false := by simp [h0]
    go_wp2_with fail
    refine (all_any w4).mono ?_
    rintro e w5 ⟨rfl, hb5⟩
    have Hm5 := Lib.hid (Hm4.out.trans' (Gou.Mod.of_below hb5 (fun _ => False)))
    clear hb5
    go_wp2_with fail
    have HN5 := Lib.hid (RowG.of_blk (Blk.new w5 32 #[.int .i64 (-4398046511104), .int .i64 (-4398046511104), .int .i64 4398046511104, .int .i64 4398046511104]) 4 1 rfl (fun _ => True) trivial)
    refine (regOf_any _ _ 1 [⟨-4398046511104, -4398046511104, 4398046511104, 4398046511104⟩] HN5.out (fun q hq => by rw [List.mem_singleton.1 hq]; decide) _ _ (Edg.one (r := ⟨-4398046511104, -4398046511104, 4398046511104, 4398046511104⟩)) (by simp) (by simp) (by simp)).mono ?_
    rintro e w6 hc
    have Hend := Lib.hid ((hc.rgn (q := Step xs ys) (fun out ho => Step.all (by decide) ho)).under (Hm5.out.trans' (Gou.Mod.alloc0 _ _)))
    obtain ⟨p6, c6, o6, rfl, -⟩ := hc.got
    clear HN5
    go_wp2_with fail
    go_ret
    exact Hend.out
end Go.Proofs.YtlpieeeeolfclaaGreatDoor

/- ForeKeeps: fore.Spread. -/
namespace Go.Proofs.YtlpieeeeolfclaaGreatDoor
open Go.RowKit Go.Gou Go.Reg Go.Shelf
set_option maxRecDepth 100000
set_option linter.constructorNameAsVariable false

theorem ofS_cases {op : Int} (h : (ofS op).2 = true) : op = 1 ∨ op = 2 ∨ op = 3 ∨ op = 4 ∨ op = 5 ∨ op = 6 ∨ op = 7 ∨ op = 8 ∨ op = 9 ∨ op = 10 ∨ op = 11 ∨ op = 12 := by
  by_cases h1 : op = 1; · exact .inl h1
  by_cases h2 : op = 2; · omega
  by_cases h3 : op = 3; · omega
  by_cases h4 : op = 4; · omega
  by_cases h5 : op = 5; · omega
  by_cases h6 : op = 6; · omega
  by_cases h7 : op = 7; · omega
  by_cases h8 : op = 8; · omega
  by_cases h9 : op = 9; · omega
  by_cases h10 : op = 10; · omega
  by_cases h11 : op = 11; · omega
  by_cases h12 : op = 12; · omega
  simp [ofS, h1, h2, h3, h4, h5, h6, h7, h8, h9, h10, h11, h12] at h
theorem near_of {n : Int} (h : -1048576 ≤ n ∧ n ≤ 1048576) : Near n := by unfold Near far; omega
theorem near_in {lo hi : Int} {l : List Int} (h : l.all (withinB lo hi) = true) (h0 : -1048576 ≤ lo) (h1 : hi ≤ 1048576) {i : Nat} (hi' : i < l.length) : Near (l.getD i 0) := by
  have := within_getD h hi'
  exact near_of ⟨by omega, by omega⟩
theorem node_1 {ins ps : List Int} {c : Int} (h : oneS ⟨1, ins, ps⟩ c = 0) : ins.length = 1 ∧ ps.length = 2 ∧ Near (ps.getD 0 0) ∧ Near (ps.getD 1 0) := by
  obtain ⟨-, h2, -, h4⟩ := oneS_zero h
  simp [aritB, ofS] at h2
  simp [boundsB] at h4
  have h4' : ps.all (withinB (-1048576) 1048576) = true := List.all_eq_true.2 h4
  exact ⟨by omega, by omega, near_in h4' (by omega) (by omega) (by omega), near_in h4' (by omega) (by omega) (by omega)⟩
theorem node_r {op : Int} (ho : op = 2 ∨ op = 3 ∨ op = 4) {ins ps : List Int} {c : Int} (h : oneS ⟨op, ins, ps⟩ c = 0) : ins.length = 1 ∧ ps.length = 2 ∧ Near (ps.getD 0 0) ∧ Near (ps.getD 1 0) := by
  obtain ⟨-, h2, -, h4⟩ := oneS_zero h
  rcases ho with rfl | rfl | rfl
  all_goals
    simp [aritB, ofS] at h2
    simp [boundsB] at h4
    have h4' : ps.all (withinB 0 255) = true := List.all_eq_true.2 h4
    exact ⟨by omega, by omega, near_in h4' (by omega) (by omega) (by omega), near_in h4' (by omega) (by omega) (by omega)⟩
theorem node_6 {ins ps : List Int} {c : Int} (h : oneS ⟨6, ins, ps⟩ c = 0) : ins.length = 0 := by
  obtain ⟨-, h2, -, h4⟩ := oneS_zero h
  simp [aritB, ofS] at h2
  simp [h2.1]
theorem node_b {op : Int} (ho : op = 10 ∨ op = 12) {ins ps : List Int} {c : Int} (h : oneS ⟨op, ins, ps⟩ c = 0) : ins.length = 1 ∧ ps.length = 4 ∧ (boxR ps).Right := by
  obtain ⟨-, h2, -, h4⟩ := oneS_zero h
  have h4' : ps.all (withinB (-1048576) 1048576) = true ∧ ins.length = 1 ∧ ps.length = 4 := by
    rcases ho with rfl | rfl
    · simp [aritB, ofS] at h2
      simp [boundsB] at h4
      exact ⟨List.all_eq_true.2 h4.1, by omega, by omega⟩
    · simp [aritB, ofS] at h2
      simp [boundsB] at h4
      exact ⟨List.all_eq_true.2 h4, by omega, by omega⟩
  obtain ⟨k, k1, k2⟩ := h4'
  exact ⟨k1, k2, near_in k (by omega) (by omega) (by omega), near_in k (by omega) (by omega) (by omega), near_in k (by omega) (by omega) (by omega), near_in k (by omega) (by omega) (by omega)⟩
theorem node_11 {ins ps : List Int} {c : Int} (h : oneS ⟨11, ins, ps⟩ c = 0) : ins.length = 1 ∧ ps.length = 8 ∧ Near (ps.getD 0 0) ∧ Near (ps.getD 1 0) ∧ Near (ps.getD 2 0) ∧ Near (ps.getD 3 0) := by
  obtain ⟨-, h2, -, h4⟩ := oneS_zero h
  simp only [aritB, ofS, Bool.or_eq_false_iff, decide_eq_false_iff_not, Bool.not_eq_eq_eq_not, Bool.not_false, decide_eq_true_eq] at h2
  have h8 : ps.length = 8 := by have := h2.2; simp at this; omega
  have h1 : ins.length = 1 := by have := h2.1; simp at this; omega
  simp only [boundsB, Bool.and_eq_true] at h4
  simp only [show ¬ ((11 : Int) = 1 ∨ (11 : Int) = 12) by omega, show ¬ ((11 : Int) = 2 ∨ (11 : Int) = 3 ∨ (11 : Int) = 4) by omega, show ¬ ((11 : Int) = 5) by omega, show ¬ ((11 : Int) = 6) by omega, show ¬ ((11 : Int) = 7) by omega, show ¬ ((11 : Int) = 8) by omega, show ¬ ((11 : Int) = 10) by omega, if_false, if_true, Bool.and_eq_true] at h4
  obtain ⟨⟨k1, k2⟩, -⟩ := h4
  have a0 := near_in k1 (by omega) (by omega) (i := 0) (by simp; omega)
  have a1 := near_in k1 (by omega) (by omega) (i := 1) (by simp; omega)
  have a2 := near_in k2 (by omega) (by omega) (i := 0) (by simp; omega)
  have a3 := near_in k2 (by omega) (by omega) (i := 1) (by simp; omega)
  simp [List.getD, List.getElem?_take, List.getElem?_drop] at a0 a1 a2 a3
  exact ⟨h1, h8, by simpa [List.getD] using a0, by simpa [List.getD] using a1, by simpa [List.getD] using a2, by simpa [List.getD] using a3⟩

/-- What an Offset's, and a Blur's, region is. -/
def SprOk (n : GNode) (ls : List (List Rt)) (out : List Rt) : Prop :=
  (n.op = 1 → ∀ l, ls = [l] → RegOf out (Pts (l.map (moveP (n.ps.getD 0 0) (n.ps.getD 1 0))) [] orF)) ∧
  (n.op = 2 → ∀ l, ls = [l] → RegOf out (Pts (l.map (growP (n.ps.getD 0 0) (n.ps.getD 1 0) (n.ps.getD 0 0) (n.ps.getD 1 0))) [] orF))
theorem SprOk.no {n : GNode} {ls : List (List Rt)} {out : List Rt} (h1 : n.op ≠ 1) (h2 : n.op ≠ 2) : SprOk n ls out := ⟨fun h => absurd h h1, fun h => absurd h h2⟩
theorem sqC {n KE : Nat} (h : n ≤ 2 * KE * (2 * KE)) (hKK : KE ≤ 3200) : n ≤ 100000000 := by
  have := Nat.le_trans h (Nat.mul_le_mul (Nat.mul_le_mul_left 2 hKK) (Nat.mul_le_mul_left 2 hKK))
  omega
theorem sqB {n KE : Nat} (h : n ≤ KE * KE) (hKK : KE ≤ 3200) : n ≤ 1000000000 := by
  have := Nat.le_trans h (Nat.mul_le_mul hKK hKK)
  omega
theorem sq_le' {n KE : Nat} (h : n ≤ KE * KE) (hKK : KE ≤ 3200) : n ≤ 200000000 := by
  have := Nat.le_trans h (Nat.mul_le_mul hKK hKK)
  omega

set_option maxHeartbeats 4000000 in
theorem spread_off (w : World) (vi vp vl : Value) (ins ps : List Int) (ls : List (List Rt)) (c : Int) (xs ys : List Int) (KE : Nat) (hpp : IntsAt w.heap.size w vp ps) (hi' : ∃ p n c, vi = .slice p n c) (h1 : oneS ⟨1, ins, ps⟩ c = 0) (hg : Grd xs ys KE) (hKK : KE ≤ 3200)
    (hl : RegsR w vl ls) (hll : ls.length = ins.length) (hr : ∀ l ∈ ls, Rgn xs ys l) :
    Calls Tryz.prog 16 #[.agg #[.int .i64 1, vi, vp], vl] w (RgnP w fun out => Step xs ys out ∧ SprOk ⟨1, ins, ps⟩ ls out) := by
  have hKT : KE ≤ 10000 := by omega
  obtain ⟨pl, cl, rfl⟩ := hl.form
  obtain ⟨pi_, ni, ci_, rfl⟩ := hi'
  obtain ⟨pp, cp, rfl⟩ := hpp.len
  obtain ⟨e1, e2, h0, h1⟩ := node_1 h1
  obtain ⟨l, rfl⟩ : ∃ l, ls = [l] := List.length_eq_one_iff.1 (by omega)
  obtain ⟨bl, ol, rfl, hbl, pk, ck, l0, hlk⟩ := hl.at (k := 0) (by simp)
  simp only [Nat.add_zero, List.getElem_cons_zero] at l0 hlk
  have Hq := Lib.hid (hr l (List.mem_singleton.2 rfl))
  have Hl0 := Lib.hid hlk
  obtain ⟨bp, q, cp', hv, hcap, hbp, hc⟩ := ints_cells hpp (by omega)
  simp only [Value.slice.injEq] at hv
  obtain ⟨rfl, -, rfl⟩ := hv
  have c0 := hc 0 (by omega)
  have c1 := hc 1 (by omega)
  rw [Nat.add_zero] at c0
  clear hc hcap
  obtain ⟨p0, hp0⟩ : ∃ p, p = ps.getD 0 0 := ⟨_, rfl⟩
  have Hp0 := Lib.hid hp0
  rw [← hp0] at c0 h0
  have H0 := Lib.hid h0
  clear hp0
  obtain ⟨p1, hp1⟩ : ∃ p, p = ps.getD 1 0 := ⟨_, rfl⟩
  have Hp1 := Lib.hid hp1
  rw [← hp1] at c1 h1
  have H1 := Lib.hid h1
  clear hp1
  have HLen : Hid (ps.length = 2) := Lib.hid e2
  clear e2

  go_enter Tryz.func16, Tryz.ntmps16
  go_upto_region 3 with fail
  have HM := Lib.hid (Gou.Mod.alloc0 w (.cells #[.int .i64 1, .slice pi_ ni ci_, .slice (some ⟨bp, q, none⟩) ps.length cp] 37))
  have HB := Blk.new w 37 #[.int .i64 1, .slice pi_ ni ci_, .slice (some ⟨bp, q, none⟩) ps.length cp]
  have n2 := HB.cell 2 rfl
  rw [← HM.out.cell (p := ⟨bl, ol, none⟩) hbl (fun h => h)] at l0
  rw [← HM.out.cell (p := ⟨bp, q, none⟩) hbp (fun h => h)] at c0
  rw [← HM.out.cell (p := ⟨bp, q + 1, none⟩) hbp (fun h => h)] at c1
  have Hl := Lib.hid (Hl0.out.under HM.out)
  generalize w.alloc (.cells #[.int .i64 1, .slice pi_ ni ci_, .slice (some ⟨bp, q, none⟩) ps.length cp] 37) = W1 at *
  generalize w.heap.size = N at n2
  rw [HLen.out] at n2
  refine wp_region_held_drew (S := fun w' => Gou.Mod (fun _ => False) W1 w') (by kernel_rfl) (Gou.Mod.drew _ _) (fun hHeld => ?_)
  refine tk 0 (.slice (some ⟨bl, ol, none⟩) 1 cl) hHeld (h := ?_)
  refine tk 1 (.pointer (some ⟨bl, ol, none⟩)) hHeld (h := ?_)
  refine tkC 2 l0 (fun h => h) hHeld (h := ?_)
  refine tk 3 (.pointer (some ⟨N, 2, none⟩)) hHeld (h := ?_)
  refine tkC 4 n2 (fun h => h) hHeld (h := ?_)
  refine tk 5 (.pointer (some ⟨bp, q, none⟩)) hHeld (h := ?_)
  refine tkC 6 c0 (fun h => h) hHeld (h := ?_)
  refine tk 7 (.pointer (some ⟨N, 2, none⟩)) hHeld (h := ?_)
  refine tkC 8 n2 (fun h => h) hHeld (h := ?_)
  refine tk 9 (.pointer (some ⟨bp, q + 1, none⟩)) hHeld (h := ?_)
  refine tkC 10 c1 (fun h => h) hHeld (h := ?_)
  refine rd 11 (h := fun K hK => ?_)
  go_simp
  refine (regMove_any _ pk ck l p0 p1 (Hl.out.under hHeld) (Hq.out.near hg) H0.out H1.out (movE p0 xs) (movE p1 ys) (Hq.out.e.move p0 p1) (by have := hg.x; simp [movE_len, groE_len]; omega) (by have := hg.y; simp [movE_len, groE_len]; omega) (sqB (Hq.out.few hg) hKK)).mono ?_
  rintro e w4 ⟨hm, v4, o4, rfl, hown, hr, -⟩
  have M := Lib.hid (hHeld.trans' hm)
  have R4 := Lib.hid hr
  have O4 := Lib.hid (RowG.own_of hown (G := fun _ => True) (fun _ _ _ => trivial))
  have E4 := Lib.hid (ownsRow_base hown (Nat.le_trans HM.out.size hHeld.size))
  obtain ⟨p4', c4', rfl⟩ := Gou.ownsRow_form hown
  clear hm hown hr hHeld
  refine hK _ _ M.out (fun hHeld => ?_)
  clear hK K M
  try simp only [Act.put, uSa, uSb, uSc]
  refine tk 12 (.slice p4' o4.length c4') hHeld (h := ?_)
  have MS := Lib.hid hHeld
  refine wpAnyH_done (by kernel_rfl) ?_ _
  clear hHeld
  have HE : Hid (RgnP w (fun out => Step xs ys out ∧ SprOk ⟨1, ins, ps⟩ [l] out) (.returned (.slice p4' o4.length c4')) w4) := Lib.hid ⟨HM.out.trans' MS.out, _, o4, rfl, E4.out, Step.move Hq.out R4.out, ⟨fun _ l' hl' => (by obtain rfl : l = l' := (by simpa using hl'); show RegOf _ (Pts (l.map (moveP (ps.getD 0 0) (ps.getD 1 0))) [] orF); rw [← Hp0.out, ← Hp1.out]; exact R4.out), fun h => by simp at h⟩⟩
  go_wp2_with fail
  go_ret
  exact HE.out

set_option maxHeartbeats 4000000 in
theorem spread_blur (w : World) (vi vp vl : Value) (ins ps : List Int) (ls : List (List Rt)) (c : Int) (xs ys : List Int) (KE : Nat) (hpp : IntsAt w.heap.size w vp ps) (hi' : ∃ p n c, vi = .slice p n c) (h1 : oneS ⟨2, ins, ps⟩ c = 0) (hg : Grd xs ys KE) (hKK : KE ≤ 3200)
    (hl : RegsR w vl ls) (hll : ls.length = ins.length) (hr : ∀ l ∈ ls, Rgn xs ys l) :
    Calls Tryz.prog 16 #[.agg #[.int .i64 2, vi, vp], vl] w (RgnP w fun out => Step xs ys out ∧ SprOk ⟨2, ins, ps⟩ ls out) := by
  have hKT : KE ≤ 10000 := by omega
  obtain ⟨pl, cl, rfl⟩ := hl.form
  obtain ⟨pi_, ni, ci_, rfl⟩ := hi'
  obtain ⟨pp, cp, rfl⟩ := hpp.len
  obtain ⟨e1, e2, h0, h1⟩ := node_r (.inl rfl) h1
  obtain ⟨l, rfl⟩ : ∃ l, ls = [l] := List.length_eq_one_iff.1 (by omega)
  obtain ⟨bl, ol, rfl, hbl, pk, ck, l0, hlk⟩ := hl.at (k := 0) (by simp)
  simp only [Nat.add_zero, List.getElem_cons_zero] at l0 hlk
  have Hq := Lib.hid (hr l (List.mem_singleton.2 rfl))
  have Hl0 := Lib.hid hlk
  obtain ⟨bp, q, cp', hv, hcap, hbp, hc⟩ := ints_cells hpp (by omega)
  simp only [Value.slice.injEq] at hv
  obtain ⟨rfl, -, rfl⟩ := hv
  have c0 := hc 0 (by omega)
  have c1 := hc 1 (by omega)
  rw [Nat.add_zero] at c0
  clear hc hcap
  obtain ⟨p0, hp0⟩ : ∃ p, p = ps.getD 0 0 := ⟨_, rfl⟩
  have Hp0 := Lib.hid hp0
  rw [← hp0] at c0 h0
  have H0 := Lib.hid h0
  clear hp0
  obtain ⟨p1, hp1⟩ : ∃ p, p = ps.getD 1 0 := ⟨_, rfl⟩
  have Hp1 := Lib.hid hp1
  rw [← hp1] at c1 h1
  have H1 := Lib.hid h1
  clear hp1
  have HLen : Hid (ps.length = 2) := Lib.hid e2
  clear e2

  go_enter Tryz.func16, Tryz.ntmps16
  go_upto_region 7 with fail
  have HM := Lib.hid (Gou.Mod.alloc0 w (.cells #[.int .i64 2, .slice pi_ ni ci_, .slice (some ⟨bp, q, none⟩) ps.length cp] 37))
  have HB := Blk.new w 37 #[.int .i64 2, .slice pi_ ni ci_, .slice (some ⟨bp, q, none⟩) ps.length cp]
  have n2 := HB.cell 2 rfl
  rw [← HM.out.cell (p := ⟨bl, ol, none⟩) hbl (fun h => h)] at l0
  rw [← HM.out.cell (p := ⟨bp, q, none⟩) hbp (fun h => h)] at c0
  rw [← HM.out.cell (p := ⟨bp, q + 1, none⟩) hbp (fun h => h)] at c1
  have Hl := Lib.hid (Hl0.out.under HM.out)
  generalize w.alloc (.cells #[.int .i64 2, .slice pi_ ni ci_, .slice (some ⟨bp, q, none⟩) ps.length cp] 37) = W1 at *
  generalize w.heap.size = N at n2
  rw [HLen.out] at n2
  refine wp_region_held_drew (S := fun w' => Gou.Mod (fun _ => False) W1 w') (by kernel_rfl) (Gou.Mod.drew _ _) (fun hHeld => ?_)
  refine tk 0 (.slice (some ⟨bl, ol, none⟩) 1 cl) hHeld (h := ?_)
  refine tk 1 (.pointer (some ⟨bl, ol, none⟩)) hHeld (h := ?_)
  refine tkC 2 l0 (fun h => h) hHeld (h := ?_)
  refine tk 3 (.pointer (some ⟨N, 2, none⟩)) hHeld (h := ?_)
  refine tkC 4 n2 (fun h => h) hHeld (h := ?_)
  refine tk 5 (.pointer (some ⟨bp, q, none⟩)) hHeld (h := ?_)
  refine tkC 6 c0 (fun h => h) hHeld (h := ?_)
  refine tk 7 (.pointer (some ⟨N, 2, none⟩)) hHeld (h := ?_)
  refine tkC 8 n2 (fun h => h) hHeld (h := ?_)
  refine tk 9 (.pointer (some ⟨bp, q + 1, none⟩)) hHeld (h := ?_)
  refine tkC 10 c1 (fun h => h) hHeld (h := ?_)
  refine tk 11 (.pointer (some ⟨N, 2, none⟩)) hHeld (h := ?_)
  refine tkC 12 n2 (fun h => h) hHeld (h := ?_)
  refine tk 13 (.pointer (some ⟨bp, q, none⟩)) hHeld (h := ?_)
  refine tkC 14 c0 (fun h => h) hHeld (h := ?_)
  refine tk 15 (.pointer (some ⟨N, 2, none⟩)) hHeld (h := ?_)
  refine tkC 16 n2 (fun h => h) hHeld (h := ?_)
  refine tk 17 (.pointer (some ⟨bp, q + 1, none⟩)) hHeld (h := ?_)
  refine tkC 18 c1 (fun h => h) hHeld (h := ?_)
  refine rd 19 (h := fun K hK => ?_)
  go_simp
  refine (regGrow_any _ pk ck l p0 p1 p0 p1 (Hl.out.under hHeld) (Hq.out.near hg) H0.out H1.out H0.out H1.out (groE p0 p0 xs) (groE p1 p1 ys) (Hq.out.e.grow p0 p1 p0 p1) (by have := hg.x; simp [movE_len, groE_len]; omega) (by have := hg.y; simp [movE_len, groE_len]; omega) (sqB (Hq.out.few hg) hKK)).mono ?_
  rintro e w4 ⟨hm, v4, o4, rfl, hown, hr, -⟩
  have M := Lib.hid (hHeld.trans' hm)
  have R4 := Lib.hid hr
  have O4 := Lib.hid (RowG.own_of hown (G := fun _ => True) (fun _ _ _ => trivial))
  have E4 := Lib.hid (ownsRow_base hown (Nat.le_trans HM.out.size hHeld.size))
  obtain ⟨p4', c4', rfl⟩ := Gou.ownsRow_form hown
  clear hm hown hr hHeld
  refine hK _ _ M.out (fun hHeld => ?_)
  clear hK K M
  try simp only [Act.put, uSa, uSb, uSc]
  refine tk 20 (.slice p4' o4.length c4') hHeld (h := ?_)
  have MS := Lib.hid hHeld
  refine wpAnyH_done (by kernel_rfl) ?_ _
  clear hHeld
  have HE : Hid (RgnP w (fun out => Step xs ys out ∧ SprOk ⟨2, ins, ps⟩ [l] out) (.returned (.slice p4' o4.length c4')) w4) := Lib.hid ⟨HM.out.trans' MS.out, _, o4, rfl, E4.out, Step.grow Hq.out R4.out, ⟨fun h => by simp at h, fun _ l' hl' => (by obtain rfl : l = l' := (by simpa using hl'); show RegOf _ (Pts (l.map (growP (ps.getD 0 0) (ps.getD 1 0) (ps.getD 0 0) (ps.getD 1 0))) [] orF); rw [← Hp0.out, ← Hp1.out]; exact R4.out)⟩⟩
  go_wp2_with fail
  go_ret
  exact HE.out

set_option maxHeartbeats 4000000 in
theorem spread_erode (w : World) (vi vp vl : Value) (ins ps : List Int) (ls : List (List Rt)) (c : Int) (xs ys : List Int) (KE : Nat) (hpp : IntsAt w.heap.size w vp ps) (hi' : ∃ p n c, vi = .slice p n c) (h1 : oneS ⟨3, ins, ps⟩ c = 0) (hg : Grd xs ys KE) (hKK : KE ≤ 3200)
    (hl : RegsR w vl ls) (hll : ls.length = ins.length) (hr : ∀ l ∈ ls, Rgn xs ys l) :
    Calls Tryz.prog 16 #[.agg #[.int .i64 3, vi, vp], vl] w (RgnP w fun out => Step xs ys out ∧ SprOk ⟨3, ins, ps⟩ ls out) := by
  have hKT : KE ≤ 10000 := by omega
  obtain ⟨pl, cl, rfl⟩ := hl.form
  obtain ⟨pi_, ni, ci_, rfl⟩ := hi'
  obtain ⟨pp, cp, rfl⟩ := hpp.len
  obtain ⟨e1, e2, h0, h1⟩ := node_r (.inr (.inl rfl)) h1
  obtain ⟨l, rfl⟩ : ∃ l, ls = [l] := List.length_eq_one_iff.1 (by omega)
  obtain ⟨bl, ol, rfl, hbl, pk, ck, l0, hlk⟩ := hl.at (k := 0) (by simp)
  simp only [Nat.add_zero, List.getElem_cons_zero] at l0 hlk
  have Hq := Lib.hid (hr l (List.mem_singleton.2 rfl))
  have Hl0 := Lib.hid hlk
  obtain ⟨bp, q, cp', hv, hcap, hbp, hc⟩ := ints_cells hpp (by omega)
  simp only [Value.slice.injEq] at hv
  obtain ⟨rfl, -, rfl⟩ := hv
  have c0 := hc 0 (by omega)
  have c1 := hc 1 (by omega)
  rw [Nat.add_zero] at c0
  clear hc hcap
  obtain ⟨p0, hp0⟩ : ∃ p, p = ps.getD 0 0 := ⟨_, rfl⟩
  have Hp0 := Lib.hid hp0
  rw [← hp0] at c0 h0
  have H0 := Lib.hid h0
  clear hp0
  obtain ⟨p1, hp1⟩ : ∃ p, p = ps.getD 1 0 := ⟨_, rfl⟩
  have Hp1 := Lib.hid hp1
  rw [← hp1] at c1 h1
  have H1 := Lib.hid h1
  clear hp1
  have HLen : Hid (ps.length = 2) := Lib.hid e2
  clear e2

  go_enter Tryz.func16, Tryz.ntmps16
  go_upto_region 7 with fail
  have HM := Lib.hid (Gou.Mod.alloc0 w (.cells #[.int .i64 3, .slice pi_ ni ci_, .slice (some ⟨bp, q, none⟩) ps.length cp] 37))
  have HB := Blk.new w 37 #[.int .i64 3, .slice pi_ ni ci_, .slice (some ⟨bp, q, none⟩) ps.length cp]
  have n2 := HB.cell 2 rfl
  rw [← HM.out.cell (p := ⟨bl, ol, none⟩) hbl (fun h => h)] at l0
  rw [← HM.out.cell (p := ⟨bp, q, none⟩) hbp (fun h => h)] at c0
  rw [← HM.out.cell (p := ⟨bp, q + 1, none⟩) hbp (fun h => h)] at c1
  have Hl := Lib.hid (Hl0.out.under HM.out)
  generalize w.alloc (.cells #[.int .i64 3, .slice pi_ ni ci_, .slice (some ⟨bp, q, none⟩) ps.length cp] 37) = W1 at *
  generalize w.heap.size = N at n2
  rw [HLen.out] at n2
  refine wp_region_held_drew (S := fun w' => Gou.Mod (fun _ => False) W1 w') (by kernel_rfl) (Gou.Mod.drew _ _) (fun hHeld => ?_)
  refine tk 0 (.slice (some ⟨bl, ol, none⟩) 1 cl) hHeld (h := ?_)
  refine tk 1 (.pointer (some ⟨bl, ol, none⟩)) hHeld (h := ?_)
  refine tkC 2 l0 (fun h => h) hHeld (h := ?_)
  refine tk 3 (.pointer (some ⟨N, 2, none⟩)) hHeld (h := ?_)
  refine tkC 4 n2 (fun h => h) hHeld (h := ?_)
  refine tk 5 (.pointer (some ⟨bp, q, none⟩)) hHeld (h := ?_)
  refine tkC 6 c0 (fun h => h) hHeld (h := ?_)
  refine tk 7 (.pointer (some ⟨N, 2, none⟩)) hHeld (h := ?_)
  refine tkC 8 n2 (fun h => h) hHeld (h := ?_)
  refine tk 9 (.pointer (some ⟨bp, q + 1, none⟩)) hHeld (h := ?_)
  refine tkC 10 c1 (fun h => h) hHeld (h := ?_)
  refine tk 11 (.pointer (some ⟨N, 2, none⟩)) hHeld (h := ?_)
  refine tkC 12 n2 (fun h => h) hHeld (h := ?_)
  refine tk 13 (.pointer (some ⟨bp, q, none⟩)) hHeld (h := ?_)
  refine tkC 14 c0 (fun h => h) hHeld (h := ?_)
  refine tk 15 (.pointer (some ⟨N, 2, none⟩)) hHeld (h := ?_)
  refine tkC 16 n2 (fun h => h) hHeld (h := ?_)
  refine tk 17 (.pointer (some ⟨bp, q + 1, none⟩)) hHeld (h := ?_)
  refine tkC 18 c1 (fun h => h) hHeld (h := ?_)
  refine rd 19 (h := fun K hK => ?_)
  go_simp
  refine (regGrow_any _ pk ck l p0 p1 p0 p1 (Hl.out.under hHeld) (Hq.out.near hg) H0.out H1.out H0.out H1.out (groE p0 p0 xs) (groE p1 p1 ys) (Hq.out.e.grow p0 p1 p0 p1) (by have := hg.x; simp [movE_len, groE_len]; omega) (by have := hg.y; simp [movE_len, groE_len]; omega) (sqB (Hq.out.few hg) hKK)).mono ?_
  rintro e w4 ⟨hm, v4, o4, rfl, hown, hr, -⟩
  have M := Lib.hid (hHeld.trans' hm)
  have R4 := Lib.hid hr
  have O4 := Lib.hid (RowG.own_of hown (G := fun _ => True) (fun _ _ _ => trivial))
  have E4 := Lib.hid (ownsRow_base hown (Nat.le_trans HM.out.size hHeld.size))
  obtain ⟨p4', c4', rfl⟩ := Gou.ownsRow_form hown
  clear hm hown hr hHeld
  refine hK _ _ M.out (fun hHeld => ?_)
  clear hK K M
  try simp only [Act.put, uSa, uSb, uSc]
  refine tk 20 (.slice p4' o4.length c4') hHeld (h := ?_)
  have MS := Lib.hid hHeld
  refine wpAnyH_done (by kernel_rfl) ?_ _
  clear hHeld
  have HE : Hid (RgnP w (fun out => Step xs ys out ∧ SprOk ⟨3, ins, ps⟩ [l] out) (.returned (.slice p4' o4.length c4')) w4) := Lib.hid ⟨HM.out.trans' MS.out, _, o4, rfl, E4.out, Step.grow Hq.out R4.out, SprOk.no (by simp) (by simp)⟩
  go_wp2_with fail
  go_ret
  exact HE.out

set_option maxHeartbeats 4000000 in
theorem spread_dilate (w : World) (vi vp vl : Value) (ins ps : List Int) (ls : List (List Rt)) (c : Int) (xs ys : List Int) (KE : Nat) (hpp : IntsAt w.heap.size w vp ps) (hi' : ∃ p n c, vi = .slice p n c) (h1 : oneS ⟨4, ins, ps⟩ c = 0) (hg : Grd xs ys KE) (hKK : KE ≤ 3200)
    (hl : RegsR w vl ls) (hll : ls.length = ins.length) (hr : ∀ l ∈ ls, Rgn xs ys l) :
    Calls Tryz.prog 16 #[.agg #[.int .i64 4, vi, vp], vl] w (RgnP w fun out => Step xs ys out ∧ SprOk ⟨4, ins, ps⟩ ls out) := by
  have hKT : KE ≤ 10000 := by omega
  obtain ⟨pl, cl, rfl⟩ := hl.form
  obtain ⟨pi_, ni, ci_, rfl⟩ := hi'
  obtain ⟨pp, cp, rfl⟩ := hpp.len
  obtain ⟨e1, e2, h0, h1⟩ := node_r (.inr (.inr rfl)) h1
  obtain ⟨l, rfl⟩ : ∃ l, ls = [l] := List.length_eq_one_iff.1 (by omega)
  obtain ⟨bl, ol, rfl, hbl, pk, ck, l0, hlk⟩ := hl.at (k := 0) (by simp)
  simp only [Nat.add_zero, List.getElem_cons_zero] at l0 hlk
  have Hq := Lib.hid (hr l (List.mem_singleton.2 rfl))
  have Hl0 := Lib.hid hlk
  obtain ⟨bp, q, cp', hv, hcap, hbp, hc⟩ := ints_cells hpp (by omega)
  simp only [Value.slice.injEq] at hv
  obtain ⟨rfl, -, rfl⟩ := hv
  have c0 := hc 0 (by omega)
  have c1 := hc 1 (by omega)
  rw [Nat.add_zero] at c0
  clear hc hcap
  obtain ⟨p0, hp0⟩ : ∃ p, p = ps.getD 0 0 := ⟨_, rfl⟩
  have Hp0 := Lib.hid hp0
  rw [← hp0] at c0 h0
  have H0 := Lib.hid h0
  clear hp0
  obtain ⟨p1, hp1⟩ : ∃ p, p = ps.getD 1 0 := ⟨_, rfl⟩
  have Hp1 := Lib.hid hp1
  rw [← hp1] at c1 h1
  have H1 := Lib.hid h1
  clear hp1
  have HLen : Hid (ps.length = 2) := Lib.hid e2
  clear e2

  go_enter Tryz.func16, Tryz.ntmps16
  go_upto_region 7 with fail
  have HM := Lib.hid (Gou.Mod.alloc0 w (.cells #[.int .i64 4, .slice pi_ ni ci_, .slice (some ⟨bp, q, none⟩) ps.length cp] 37))
  have HB := Blk.new w 37 #[.int .i64 4, .slice pi_ ni ci_, .slice (some ⟨bp, q, none⟩) ps.length cp]
  have n2 := HB.cell 2 rfl
  rw [← HM.out.cell (p := ⟨bl, ol, none⟩) hbl (fun h => h)] at l0
  rw [← HM.out.cell (p := ⟨bp, q, none⟩) hbp (fun h => h)] at c0
  rw [← HM.out.cell (p := ⟨bp, q + 1, none⟩) hbp (fun h => h)] at c1
  have Hl := Lib.hid (Hl0.out.under HM.out)
  generalize w.alloc (.cells #[.int .i64 4, .slice pi_ ni ci_, .slice (some ⟨bp, q, none⟩) ps.length cp] 37) = W1 at *
  generalize w.heap.size = N at n2
  rw [HLen.out] at n2
  refine wp_region_held_drew (S := fun w' => Gou.Mod (fun _ => False) W1 w') (by kernel_rfl) (Gou.Mod.drew _ _) (fun hHeld => ?_)
  refine tk 0 (.slice (some ⟨bl, ol, none⟩) 1 cl) hHeld (h := ?_)
  refine tk 1 (.pointer (some ⟨bl, ol, none⟩)) hHeld (h := ?_)
  refine tkC 2 l0 (fun h => h) hHeld (h := ?_)
  refine tk 3 (.pointer (some ⟨N, 2, none⟩)) hHeld (h := ?_)
  refine tkC 4 n2 (fun h => h) hHeld (h := ?_)
  refine tk 5 (.pointer (some ⟨bp, q, none⟩)) hHeld (h := ?_)
  refine tkC 6 c0 (fun h => h) hHeld (h := ?_)
  refine tk 7 (.pointer (some ⟨N, 2, none⟩)) hHeld (h := ?_)
  refine tkC 8 n2 (fun h => h) hHeld (h := ?_)
  refine tk 9 (.pointer (some ⟨bp, q + 1, none⟩)) hHeld (h := ?_)
  refine tkC 10 c1 (fun h => h) hHeld (h := ?_)
  refine tk 11 (.pointer (some ⟨N, 2, none⟩)) hHeld (h := ?_)
  refine tkC 12 n2 (fun h => h) hHeld (h := ?_)
  refine tk 13 (.pointer (some ⟨bp, q, none⟩)) hHeld (h := ?_)
  refine tkC 14 c0 (fun h => h) hHeld (h := ?_)
  refine tk 15 (.pointer (some ⟨N, 2, none⟩)) hHeld (h := ?_)
  refine tkC 16 n2 (fun h => h) hHeld (h := ?_)
  refine tk 17 (.pointer (some ⟨bp, q + 1, none⟩)) hHeld (h := ?_)
  refine tkC 18 c1 (fun h => h) hHeld (h := ?_)
  refine rd 19 (h := fun K hK => ?_)
  go_simp
  refine (regGrow_any _ pk ck l p0 p1 p0 p1 (Hl.out.under hHeld) (Hq.out.near hg) H0.out H1.out H0.out H1.out (groE p0 p0 xs) (groE p1 p1 ys) (Hq.out.e.grow p0 p1 p0 p1) (by have := hg.x; simp [movE_len, groE_len]; omega) (by have := hg.y; simp [movE_len, groE_len]; omega) (sqB (Hq.out.few hg) hKK)).mono ?_
  rintro e w4 ⟨hm, v4, o4, rfl, hown, hr, -⟩
  have M := Lib.hid (hHeld.trans' hm)
  have R4 := Lib.hid hr
  have O4 := Lib.hid (RowG.own_of hown (G := fun _ => True) (fun _ _ _ => trivial))
  have E4 := Lib.hid (ownsRow_base hown (Nat.le_trans HM.out.size hHeld.size))
  obtain ⟨p4', c4', rfl⟩ := Gou.ownsRow_form hown
  clear hm hown hr hHeld
  refine hK _ _ M.out (fun hHeld => ?_)
  clear hK K M
  try simp only [Act.put, uSa, uSb, uSc]
  refine tk 20 (.slice p4' o4.length c4') hHeld (h := ?_)
  have MS := Lib.hid hHeld
  refine wpAnyH_done (by kernel_rfl) ?_ _
  clear hHeld
  have HE : Hid (RgnP w (fun out => Step xs ys out ∧ SprOk ⟨4, ins, ps⟩ [l] out) (.returned (.slice p4' o4.length c4')) w4) := Lib.hid ⟨HM.out.trans' MS.out, _, o4, rfl, E4.out, Step.grow Hq.out R4.out, SprOk.no (by simp) (by simp)⟩
  go_wp2_with fail
  go_ret
  exact HE.out

set_option maxHeartbeats 4000000 in
theorem spread_shadow (w : World) (vi vp vl : Value) (ins ps : List Int) (ls : List (List Rt)) (c : Int) (xs ys : List Int) (KE : Nat) (hpp : IntsAt w.heap.size w vp ps) (hi' : ∃ p n c, vi = .slice p n c) (h1 : oneS ⟨11, ins, ps⟩ c = 0) (hg : Grd xs ys KE) (hKK : KE ≤ 3200)
    (hl : RegsR w vl ls) (hll : ls.length = ins.length) (hr : ∀ l ∈ ls, Rgn xs ys l) :
    Calls Tryz.prog 16 #[.agg #[.int .i64 11, vi, vp], vl] w (RgnP w fun out => Step xs ys out ∧ SprOk ⟨11, ins, ps⟩ ls out) := by
  have hKT : KE ≤ 10000 := by omega
  obtain ⟨pl, cl, rfl⟩ := hl.form
  obtain ⟨pi_, ni, ci_, rfl⟩ := hi'
  obtain ⟨pp, cp, rfl⟩ := hpp.len
  obtain ⟨e1, e2, h0, h1, h2, h3⟩ := node_11 h1
  obtain ⟨l, rfl⟩ : ∃ l, ls = [l] := List.length_eq_one_iff.1 (by omega)
  obtain ⟨bl, ol, rfl, hbl, pk, ck, l0, hlk⟩ := hl.at (k := 0) (by simp)
  simp only [Nat.add_zero, List.getElem_cons_zero] at l0 hlk
  have Hq := Lib.hid (hr l (List.mem_singleton.2 rfl))
  have Hl0 := Lib.hid hlk
  obtain ⟨bp, q, cp', hv, hcap, hbp, hc⟩ := ints_cells hpp (by omega)
  simp only [Value.slice.injEq] at hv
  obtain ⟨rfl, -, rfl⟩ := hv
  have c0 := hc 0 (by omega)
  have c1 := hc 1 (by omega)
  have c2 := hc 2 (by omega)
  have c3 := hc 3 (by omega)
  rw [Nat.add_zero] at c0
  clear hc hcap
  obtain ⟨p0, hp0⟩ : ∃ p, p = ps.getD 0 0 := ⟨_, rfl⟩
  have Hp0 := Lib.hid hp0
  rw [← hp0] at c0 h0
  have H0 := Lib.hid h0
  clear hp0
  obtain ⟨p1, hp1⟩ : ∃ p, p = ps.getD 1 0 := ⟨_, rfl⟩
  have Hp1 := Lib.hid hp1
  rw [← hp1] at c1 h1
  have H1 := Lib.hid h1
  clear hp1
  obtain ⟨p2, hp2⟩ : ∃ p, p = ps.getD 2 0 := ⟨_, rfl⟩
  have Hp2 := Lib.hid hp2
  rw [← hp2] at c2 h2
  have H2 := Lib.hid h2
  clear hp2
  obtain ⟨p3, hp3⟩ : ∃ p, p = ps.getD 3 0 := ⟨_, rfl⟩
  have Hp3 := Lib.hid hp3
  rw [← hp3] at c3 h3
  have H3 := Lib.hid h3
  clear hp3
  have HLen : Hid (ps.length = 8) := Lib.hid e2
  clear e2

  go_enter Tryz.func16, Tryz.ntmps16
  go_upto_region 15 with fail
  have HM := Lib.hid (Gou.Mod.alloc0 w (.cells #[.int .i64 11, .slice pi_ ni ci_, .slice (some ⟨bp, q, none⟩) ps.length cp] 37))
  have HB := Blk.new w 37 #[.int .i64 11, .slice pi_ ni ci_, .slice (some ⟨bp, q, none⟩) ps.length cp]
  have n2 := HB.cell 2 rfl
  rw [← HM.out.cell (p := ⟨bl, ol, none⟩) hbl (fun h => h)] at l0
  rw [← HM.out.cell (p := ⟨bp, q, none⟩) hbp (fun h => h)] at c0
  rw [← HM.out.cell (p := ⟨bp, q + 1, none⟩) hbp (fun h => h)] at c1
  rw [← HM.out.cell (p := ⟨bp, q + 2, none⟩) hbp (fun h => h)] at c2
  rw [← HM.out.cell (p := ⟨bp, q + 3, none⟩) hbp (fun h => h)] at c3
  have Hl := Lib.hid (Hl0.out.under HM.out)
  generalize w.alloc (.cells #[.int .i64 11, .slice pi_ ni ci_, .slice (some ⟨bp, q, none⟩) ps.length cp] 37) = W1 at *
  generalize w.heap.size = N at n2
  rw [HLen.out] at n2
  refine wp_region_held_drew (S := fun w' => Gou.Mod (fun _ => False) W1 w') (by kernel_rfl) (Gou.Mod.drew _ _) (fun hHeld => ?_)
  refine tk 0 (.slice (some ⟨bl, ol, none⟩) 1 cl) hHeld (h := ?_)
  refine tk 1 (.pointer (some ⟨bl, ol, none⟩)) hHeld (h := ?_)
  refine tkC 2 l0 (fun h => h) hHeld (h := ?_)
  refine tk 3 (.pointer (some ⟨N, 2, none⟩)) hHeld (h := ?_)
  refine tkC 4 n2 (fun h => h) hHeld (h := ?_)
  refine tk 5 (.pointer (some ⟨bp, q, none⟩)) hHeld (h := ?_)
  refine tkC 6 c0 (fun h => h) hHeld (h := ?_)
  refine tk 7 (.pointer (some ⟨N, 2, none⟩)) hHeld (h := ?_)
  refine tkC 8 n2 (fun h => h) hHeld (h := ?_)
  refine tk 9 (.pointer (some ⟨bp, q + 1, none⟩)) hHeld (h := ?_)
  refine tkC 10 c1 (fun h => h) hHeld (h := ?_)
  refine tk 12 (.pointer (some ⟨N, 2, none⟩)) hHeld (h := ?_)
  refine tkC 13 n2 (fun h => h) hHeld (h := ?_)
  refine tk 14 (.pointer (some ⟨bp, q + 2, none⟩)) hHeld (h := ?_)
  refine tkC 15 c2 (fun h => h) hHeld (h := ?_)
  refine tk 16 (.pointer (some ⟨N, 2, none⟩)) hHeld (h := ?_)
  refine tkC 17 n2 (fun h => h) hHeld (h := ?_)
  refine tk 18 (.pointer (some ⟨bp, q + 3, none⟩)) hHeld (h := ?_)
  refine tkC 19 c3 (fun h => h) hHeld (h := ?_)
  refine tk 20 (.pointer (some ⟨N, 2, none⟩)) hHeld (h := ?_)
  refine tkC 21 n2 (fun h => h) hHeld (h := ?_)
  refine tk 22 (.pointer (some ⟨bp, q + 2, none⟩)) hHeld (h := ?_)
  refine tkC 23 c2 (fun h => h) hHeld (h := ?_)
  refine tk 24 (.pointer (some ⟨N, 2, none⟩)) hHeld (h := ?_)
  refine tkC 25 n2 (fun h => h) hHeld (h := ?_)
  refine tk 26 (.pointer (some ⟨bp, q + 3, none⟩)) hHeld (h := ?_)
  refine tkC 27 c3 (fun h => h) hHeld (h := ?_)
  refine rd 11 (h := fun K hK => ?_)
  go_simp
  refine (regMove_any _ pk ck l p0 p1 (Hl.out.under hHeld) (Hq.out.near hg) H0.out H1.out (movE p0 xs) (movE p1 ys) (Hq.out.e.move p0 p1) (by have := hg.x; simp [movE_len, groE_len]; omega) (by have := hg.y; simp [movE_len, groE_len]; omega) (sqB (Hq.out.few hg) hKK)).mono ?_
  rintro e w4 ⟨hm, v4, o4, rfl, hown, hr, -⟩
  have M := Lib.hid (hHeld.trans' hm)
  have R4 := Lib.hid hr
  have O4 := Lib.hid (RowG.own_of hown (G := fun _ => True) (fun _ _ _ => trivial))
  have E4 := Lib.hid (ownsRow_base hown (Nat.le_trans HM.out.size hHeld.size))
  obtain ⟨p4', c4', rfl⟩ := Gou.ownsRow_form hown
  clear hm hown hr hHeld
  refine hK _ _ M.out (fun hHeld => ?_)
  clear hK K M
  try simp only [Act.put, uSa, uSb, uSc]
  refine rd 28 (h := fun K hK => ?_)
  go_simp
  refine (regGrow_any _ p4' c4' o4 p2 p3 p2 p3 O4.out ((Hq.out.move R4.out).near (hg.move p0 p1)) H2.out H3.out H2.out H3.out (groE p2 p2 (movE p0 xs)) (groE p3 p3 (movE p1 ys)) ((Hq.out.move R4.out).e.grow p2 p3 p2 p3) (by have := hg.x; simp [movE_len, groE_len]; omega) (by have := hg.y; simp [movE_len, groE_len]; omega) (sqB ((Hq.out.move R4.out).few (hg.move p0 p1)) hKK)).mono ?_
  rintro e w5 ⟨hm, v5, o5, rfl, hown, hr, -⟩
  have M := Lib.hid (hHeld.trans' hm)
  have R5 := Lib.hid hr
  have O5 := Lib.hid (RowG.own_of hown (G := fun _ => True) (fun _ _ _ => trivial))
  have E5 := Lib.hid (ownsRow_base hown (Nat.le_trans HM.out.size hHeld.size))
  obtain ⟨p5', c5', rfl⟩ := Gou.ownsRow_form hown
  clear hm hown hr hHeld
  refine hK _ _ M.out (fun hHeld => ?_)
  clear hK K M
  try simp only [Act.put, uSa, uSb, uSc]
  refine tk 29 (.slice p5' o5.length c5') hHeld (h := ?_)
  have MS := Lib.hid hHeld
  refine wpAnyH_done (by kernel_rfl) ?_ _
  clear hHeld
  have l1 := (MS.out.cell (p := ⟨bl, ol, none⟩) (by show bl < _; have := HM.out.size; omega) (fun h => h)).trans l0
  have HO5 := Lib.hid O5.out
  have Hl5 := Lib.hid (Hl.out.under MS.out)
  have MS5 := Lib.hid MS.out
  clear l0 n2 c0 c1 c2 c3
  go_wp2_with fail
  refine (regJoin_any w5 pk p5' ck c5' l o5 Hl5.out HO5.out (Hq.out.x0 hg) (((Hq.out.move R4.out).grow R5.out).x0 ((hg.move p0 p1).grow p2 p3 p2 p3)) (xs ++ groE p2 p2 (movE p0 xs)) (ys ++ groE p3 p3 (movE p1 ys)) ((Hq.out.e.left _ _).app (((Hq.out.move R4.out).grow R5.out).e.right xs ys)) (by have := hg.x; simp [movE_len, groE_len]; omega) (by have := hg.y; simp [movE_len, groE_len]; omega) (by have h1 := sq_le' (Hq.out.few hg) hKK; have h2 := sqC (((Hq.out.move R4.out).grow R5.out).few ((hg.move p0 p1).grow p2 p3 p2 p3)) hKK; omega)).mono ?_
  rintro e w6 ⟨hm, v6, o6, rfl, hown, hr6, -⟩
  have HE : Hid (RgnP w (fun out => Step xs ys out ∧ SprOk ⟨11, ins, ps⟩ [l] out) (.returned v6) w6) := Lib.hid ⟨(HM.out.trans' MS5.out).trans' hm, _, o6, rfl, ownsRow_base hown (Nat.le_trans HM.out.size MS5.out.size), Step.shadow Hq.out R4.out R5.out hr6, SprOk.no (by simp) (by simp)⟩
  obtain ⟨p6, c6, rfl⟩ := Gou.ownsRow_form hown
  clear hm hown hr6
  go_wp2_with fail
  go_ret
  exact HE.out

set_option maxHeartbeats 4000000 in
theorem spread_clip (w : World) (vi vp vl : Value) (ins ps : List Int) (ls : List (List Rt)) (c : Int) (xs ys : List Int) (KE : Nat) (hpp : IntsAt w.heap.size w vp ps) (hi' : ∃ p n c, vi = .slice p n c) (h1 : oneS ⟨12, ins, ps⟩ c = 0) (hg : Grd xs ys KE) (hKK : KE ≤ 3200)
    (hl : RegsR w vl ls) (hll : ls.length = ins.length) (hr : ∀ l ∈ ls, Rgn xs ys l) :
    Calls Tryz.prog 16 #[.agg #[.int .i64 12, vi, vp], vl] w (RgnP w fun out => Step xs ys out ∧ SprOk ⟨12, ins, ps⟩ ls out) := by
  have hKT : KE ≤ 10000 := by omega
  obtain ⟨pl, cl, rfl⟩ := hl.form
  obtain ⟨pi_, ni, ci_, rfl⟩ := hi'
  obtain ⟨pp, cp, rfl⟩ := hpp.len
  obtain ⟨e1, e2, h0⟩ := node_b (.inr rfl) h1
  obtain ⟨l, rfl⟩ : ∃ l, ls = [l] := List.length_eq_one_iff.1 (by omega)
  obtain ⟨bl, ol, rfl, hbl, pk, ck, l0, hlk⟩ := hl.at (k := 0) (by simp)
  simp only [Nat.add_zero, List.getElem_cons_zero] at l0 hlk
  have Hq := Lib.hid (hr l (List.mem_singleton.2 rfl))
  have Hl0 := Lib.hid hlk
  have HR := Lib.hid h0
  have Hlen : Hid (ps.length = 4) := Lib.hid e2
  clear e2

  go_enter Tryz.func16, Tryz.ntmps16
  go_upto_region 11 with fail
  have HM := Lib.hid (Gou.Mod.alloc0 w (.cells #[.int .i64 12, .slice pi_ ni ci_, .slice pp ps.length cp] 37))
  have HB := Blk.new w 37 #[.int .i64 12, .slice pi_ ni ci_, .slice pp ps.length cp]
  have n2 := HB.cell 2 rfl
  rw [← HM.out.cell (p := ⟨bl, ol, none⟩) hbl (fun h => h)] at l0
  have Hl := Lib.hid (Hl0.out.under HM.out)
  generalize w.alloc (.cells #[.int .i64 12, .slice pi_ ni ci_, .slice pp ps.length cp] 37) = W1 at *
  have Hvp : Hid (∀ w' : World, Gou.Mod (fun _ => False) W1 w' → IntsAt w'.heap.size w' (.slice pp ps.length cp) ps) := Lib.hid (fun w' hm => hpp.up (Gou.Mod.below (Gou.Mod.trans' HM.out hm) (Nat.le_refl _) (fun _ _ h => h)))
  generalize w.heap.size = N at n2
  refine wp_region_held_drew (S := fun w' => Gou.Mod (fun _ => False) W1 w') (by kernel_rfl) (Gou.Mod.drew _ _) (fun hHeld => ?_)
  refine tk 0 (.slice (some ⟨bl, ol, none⟩) 1 cl) hHeld (h := ?_)
  refine tk 1 (.pointer (some ⟨bl, ol, none⟩)) hHeld (h := ?_)
  refine tkC 2 l0 (fun h => h) hHeld (h := ?_)
  refine tk 3 (.pointer (some ⟨N, 2, none⟩)) hHeld (h := ?_)
  refine tkC 4 n2 (fun h => h) hHeld (h := ?_)
  refine rd 5 (h := fun K hK => ?_)
  go_simp
  refine (box_any _ (.slice pp ps.length cp) ps (Hvp.out _ hHeld) (by have := Hlen.out; omega)).mono ?_
  rintro e w4 ⟨rfl, hm⟩
  have M := Lib.hid (hHeld.trans' hm)
  clear hm hHeld
  refine hK _ _ M.out (fun hHeld => ?_)
  clear hK K M
  try simp only [Act.put, uSa, uSb, uSc]
  refine rd 6 (h := fun K hKK => ?_)
  go_simp
  have HB5 := Lib.hid (RowG.of_blk (Blk.new w4 32 #[.int .i64 (boxR ps).x0, .int .i64 (boxR ps).y0, .int .i64 (boxR ps).x1, .int .i64 (boxR ps).y1]) 4 1 rfl (fun _ => True) trivial)
  refine hKK _ _ (hHeld.trans' (Gou.Mod.alloc0 _ _)) (fun hHeld => ?_)
  clear hKK K
  try simp only [Act.put, uSa, uSb, uSc]
  refine rd 7 (h := fun K hK => ?_)
  go_simp
  refine (regOf_any _ _ 1 [boxR ps] HB5.out (fun q hq => by rw [List.mem_singleton.1 hq]; exact HR.out.1) [(boxR ps).x0, (boxR ps).x1] [(boxR ps).y0, (boxR ps).y1] Edg.one (by simp) (by simp) (by simp)).mono ?_
  rintro e w6 ⟨hm, v6, o6, rfl, hown, hr, -⟩
  have M := Lib.hid (hHeld.trans' hm)
  have R6 := Lib.hid hr
  have O6 := Lib.hid (RowG.own_of hown (G := fun _ => True) (fun _ _ _ => trivial))
  have E6 := Lib.hid (ownsRow_base hown (Nat.le_trans HM.out.size hHeld.size))
  obtain ⟨p6', c6', rfl⟩ := Gou.ownsRow_form hown
  clear hm hown hr hHeld
  refine hK _ _ M.out (fun hHeld => ?_)
  clear hK K M
  try simp only [Act.put, uSa, uSb, uSc]
  refine rd 8 (h := fun K hK => ?_)
  go_simp
  refine (regMeet_any _ pk p6' ck c6' l o6 (Hl.out.under hHeld) O6.out (Hq.out.x0 hg) (fun q hq' => (near_two HR.out.1 HR.out.2.2.1) _ ((Rgn.one R6.out).e.x q hq' ((Rgn.one R6.out).some q hq')).1) (xs ++ [(boxR ps).x0, (boxR ps).x1]) (ys ++ [(boxR ps).y0, (boxR ps).y1]) ((Hq.out.e.left _ _).app ((Rgn.one R6.out).e.right xs ys)) (by have := hg.x; simp [movE_len, groE_len]; omega) (by have := hg.y; simp [movE_len, groE_len]; omega) (by have h1 := sq_le' (Hq.out.few hg) hKK; have h2 := (Rgn.one R6.out).len; simp at h2; omega)).mono ?_
  rintro e w7 ⟨hm, v7, o7, rfl, hown, hr, -⟩
  have M := Lib.hid (hHeld.trans' hm)
  have R7 := Lib.hid hr
  have O7 := Lib.hid (RowG.own_of hown (G := fun _ => True) (fun _ _ _ => trivial))
  have E7 := Lib.hid (ownsRow_base hown (Nat.le_trans HM.out.size hHeld.size))
  obtain ⟨p7', c7', rfl⟩ := Gou.ownsRow_form hown
  clear hm hown hr hHeld
  refine hK _ _ M.out (fun hHeld => ?_)
  clear hK K M
  try simp only [Act.put, uSa, uSb, uSc]
  refine tk 9 (.slice p7' o7.length c7') hHeld (h := ?_)
  have MS := Lib.hid hHeld
  refine wpAnyH_done (by kernel_rfl) ?_ _
  clear hHeld
  have HE : Hid (RgnP w (fun out => Step xs ys out ∧ SprOk ⟨12, ins, ps⟩ [l] out) (.returned (.slice p7' o7.length c7')) w7) := Lib.hid ⟨HM.out.trans' MS.out, _, o7, rfl, E7.out, Step.clip Hq.out HR.out R6.out R7.out, SprOk.no (by simp) (by simp)⟩
  go_wp2_with fail
  go_ret
  exact HE.out

set_option maxHeartbeats 4000000 in
theorem spread_tile (w : World) (vi vp vl : Value) (ins ps : List Int) (ls : List (List Rt)) (c : Int) (xs ys : List Int) (KE : Nat) (hpp : IntsAt w.heap.size w vp ps) (hi' : ∃ p n c, vi = .slice p n c) (h1 : oneS ⟨10, ins, ps⟩ c = 0) (hg : Grd xs ys KE) (hKK : KE ≤ 3200)
    (hl : RegsR w vl ls) (hll : ls.length = ins.length) (hr : ∀ l ∈ ls, Rgn xs ys l) :
    Calls Tryz.prog 16 #[.agg #[.int .i64 10, vi, vp], vl] w (RgnP w fun out => Step xs ys out ∧ SprOk ⟨10, ins, ps⟩ ls out) := by
  have hKT : KE ≤ 10000 := by omega
  obtain ⟨pl, cl, rfl⟩ := hl.form
  obtain ⟨pi_, ni, ci_, rfl⟩ := hi'
  obtain ⟨pp, cp, rfl⟩ := hpp.len
  obtain ⟨e1, e2, h0⟩ := node_b (.inl rfl) h1
  obtain ⟨l, rfl⟩ : ∃ l, ls = [l] := List.length_eq_one_iff.1 (by omega)
  obtain ⟨bl, ol, rfl, hbl, pk, ck, l0, hlk⟩ := hl.at (k := 0) (by simp)
  simp only [Nat.add_zero, List.getElem_cons_zero] at l0 hlk
  have Hq := Lib.hid (hr l (List.mem_singleton.2 rfl))
  have Hl0 := Lib.hid hlk
  have HR := Lib.hid h0
  have Hlen : Hid (ps.length = 4) := Lib.hid e2
  clear e2

  go_enter Tryz.func16, Tryz.ntmps16
  go_upto_region 13 with fail
  have HM := Lib.hid (Gou.Mod.alloc0 w (.cells #[.int .i64 10, .slice pi_ ni ci_, .slice pp ps.length cp] 37))
  have HB := Blk.new w 37 #[.int .i64 10, .slice pi_ ni ci_, .slice pp ps.length cp]
  have n2 := HB.cell 2 rfl
  rw [← HM.out.cell (p := ⟨bl, ol, none⟩) hbl (fun h => h)] at l0
  have Hl := Lib.hid (Hl0.out.under HM.out)
  generalize w.alloc (.cells #[.int .i64 10, .slice pi_ ni ci_, .slice pp ps.length cp] 37) = W1 at *
  have Hvp : Hid (∀ w' : World, Gou.Mod (fun _ => False) W1 w' → IntsAt w'.heap.size w' (.slice pp ps.length cp) ps) := Lib.hid (fun w' hm => hpp.up (Gou.Mod.below (Gou.Mod.trans' HM.out hm) (Nat.le_refl _) (fun _ _ h => h)))
  generalize w.heap.size = N at n2
  refine wp_region_held_drew (S := fun w' => Gou.Mod (fun _ => False) W1 w') (by kernel_rfl) (Gou.Mod.drew _ _) (fun hHeld => ?_)
  refine tk 0 (.slice (some ⟨bl, ol, none⟩) 1 cl) hHeld (h := ?_)
  refine tk 1 (.pointer (some ⟨bl, ol, none⟩)) hHeld (h := ?_)
  refine tkC 2 l0 (fun h => h) hHeld (h := ?_)
  refine tk 3 (.pointer (some ⟨N, 2, none⟩)) hHeld (h := ?_)
  refine tkC 4 n2 (fun h => h) hHeld (h := ?_)
  refine rd 5 (h := fun K hK => ?_)
  go_simp
  refine (box_any _ (.slice pp ps.length cp) ps (Hvp.out _ hHeld) (by have := Hlen.out; omega)).mono ?_
  rintro e w4 ⟨rfl, hm⟩
  have M := Lib.hid (hHeld.trans' hm)
  clear hm hHeld
  refine hK _ _ M.out (fun hHeld => ?_)
  clear hK K M
  try simp only [Act.put, uSa, uSb, uSc]
  refine rd 6 (h := fun K hK => ?_)
  go_simp
  refine (repeated_any _ pk ck l (boxR ps) xs ys KE hg hKT (Hl.out.under hHeld) Hq.out HR.out).mono ?_
  rintro e w5 ⟨hm, v5, o5, rfl, hown, hr⟩
  have M := Lib.hid (hHeld.trans' hm)
  have R5 := Lib.hid hr
  have E5 := Lib.hid (ownsRow_base hown (Nat.le_trans HM.out.size hHeld.size))
  obtain ⟨p5', c5', rfl⟩ := Gou.ownsRow_form hown
  clear hm hown hr hHeld
  refine hK _ _ M.out (fun hHeld => ?_)
  clear hK K M
  try simp only [Act.put, uSa, uSb, uSc]
  refine tk 7 (.slice p5' o5.length c5') hHeld (h := ?_)
  have MS := Lib.hid hHeld
  refine wpAnyH_done (by kernel_rfl) ?_ _
  clear hHeld
  have HE : Hid (RgnP w (fun out => Step xs ys out ∧ SprOk ⟨10, ins, ps⟩ [l] out) (.returned (.slice p5' o5.length c5')) w5) := Lib.hid ⟨HM.out.trans' MS.out, _, o5, rfl, E5.out, R5.out, SprOk.no (by simp) (by simp)⟩
  go_wp2_with fail
  go_ret
  exact HE.out

set_option maxHeartbeats 4000000 in
theorem spread_matrix (w : World) (vi vp vl : Value) (ins ps : List Int) (ls : List (List Rt)) (c : Int) (xs ys : List Int) (KE : Nat) (hpp : IntsAt w.heap.size w vp ps) (hi' : ∃ p n c, vi = .slice p n c) (h1 : oneS ⟨5, ins, ps⟩ c = 0) (hg : Grd xs ys KE) (hKK : KE ≤ 3200)
    (hl : RegsR w vl ls) (hll : ls.length = ins.length) (hr : ∀ l ∈ ls, Rgn xs ys l) :
    Calls Tryz.prog 16 #[.agg #[.int .i64 5, vi, vp], vl] w (RgnP w fun out => Step xs ys out ∧ SprOk ⟨5, ins, ps⟩ ls out) := by
  have hKT : KE ≤ 10000 := by omega
  obtain ⟨pl, cl, rfl⟩ := hl.form
  obtain ⟨pi_, ni, ci_, rfl⟩ := hi'
  obtain ⟨pp, cp, rfl⟩ := hpp.len
  have Hli : Hid (ls.length ≤ 8) := Lib.hid (by have := oneS_ins h1; simp only at this; omega)
  have Hls := Lib.hid hl
  clear hll hl

  go_enter Tryz.func16, Tryz.ntmps16
  go_upto_region 17 with fail
  have HM := Lib.hid (Gou.Mod.alloc0 w (.cells #[.int .i64 5, .slice pi_ ni ci_, .slice pp ps.length cp] 37))
  generalize w.alloc (.cells #[.int .i64 5, .slice pi_ ni ci_, .slice pp ps.length cp] 37) = W1 at *
  go_wp2_with fail
  refine (joined_regs W1 (.slice pl ls.length cl) ls xs ys KE hg hKT (Hls.out.under HM.out) hr (by have := Hli.out; omega)).mono ?_
  rintro e w4 ⟨hm, v4, o4, rfl, hown, hq4⟩
  have HE : Hid (RgnP w (fun out => Step xs ys out ∧ SprOk ⟨5, ins, ps⟩ ls out) (.returned v4) w4) := Lib.hid ⟨HM.out.trans' hm, _, o4, rfl, ownsRow_base hown HM.out.size, Step.join hq4, SprOk.no (by simp) (by simp)⟩
  obtain ⟨p4, c4, rfl⟩ := Gou.ownsRow_form hown
  clear hm hown hq4
  go_wp2_with fail
  go_ret
  exact HE.out

set_option maxHeartbeats 4000000 in
theorem spread_blend (w : World) (vi vp vl : Value) (ins ps : List Int) (ls : List (List Rt)) (c : Int) (xs ys : List Int) (KE : Nat) (hpp : IntsAt w.heap.size w vp ps) (hi' : ∃ p n c, vi = .slice p n c) (h1 : oneS ⟨7, ins, ps⟩ c = 0) (hg : Grd xs ys KE) (hKK : KE ≤ 3200)
    (hl : RegsR w vl ls) (hll : ls.length = ins.length) (hr : ∀ l ∈ ls, Rgn xs ys l) :
    Calls Tryz.prog 16 #[.agg #[.int .i64 7, vi, vp], vl] w (RgnP w fun out => Step xs ys out ∧ SprOk ⟨7, ins, ps⟩ ls out) := by
  have hKT : KE ≤ 10000 := by omega
  obtain ⟨pl, cl, rfl⟩ := hl.form
  obtain ⟨pi_, ni, ci_, rfl⟩ := hi'
  obtain ⟨pp, cp, rfl⟩ := hpp.len
  have Hli : Hid (ls.length ≤ 8) := Lib.hid (by have := oneS_ins h1; simp only at this; omega)
  have Hls := Lib.hid hl
  clear hll hl

  go_enter Tryz.func16, Tryz.ntmps16
  go_upto_region 17 with fail
  have HM := Lib.hid (Gou.Mod.alloc0 w (.cells #[.int .i64 7, .slice pi_ ni ci_, .slice pp ps.length cp] 37))
  generalize w.alloc (.cells #[.int .i64 7, .slice pi_ ni ci_, .slice pp ps.length cp] 37) = W1 at *
  go_wp2_with fail
  refine (joined_regs W1 (.slice pl ls.length cl) ls xs ys KE hg hKT (Hls.out.under HM.out) hr (by have := Hli.out; omega)).mono ?_
  rintro e w4 ⟨hm, v4, o4, rfl, hown, hq4⟩
  have HE : Hid (RgnP w (fun out => Step xs ys out ∧ SprOk ⟨7, ins, ps⟩ ls out) (.returned v4) w4) := Lib.hid ⟨HM.out.trans' hm, _, o4, rfl, ownsRow_base hown HM.out.size, Step.join hq4, SprOk.no (by simp) (by simp)⟩
  obtain ⟨p4, c4, rfl⟩ := Gou.ownsRow_form hown
  clear hm hown hq4
  go_wp2_with fail
  go_ret
  exact HE.out

set_option maxHeartbeats 4000000 in
theorem spread_compose (w : World) (vi vp vl : Value) (ins ps : List Int) (ls : List (List Rt)) (c : Int) (xs ys : List Int) (KE : Nat) (hpp : IntsAt w.heap.size w vp ps) (hi' : ∃ p n c, vi = .slice p n c) (h1 : oneS ⟨8, ins, ps⟩ c = 0) (hg : Grd xs ys KE) (hKK : KE ≤ 3200)
    (hl : RegsR w vl ls) (hll : ls.length = ins.length) (hr : ∀ l ∈ ls, Rgn xs ys l) :
    Calls Tryz.prog 16 #[.agg #[.int .i64 8, vi, vp], vl] w (RgnP w fun out => Step xs ys out ∧ SprOk ⟨8, ins, ps⟩ ls out) := by
  have hKT : KE ≤ 10000 := by omega
  obtain ⟨pl, cl, rfl⟩ := hl.form
  obtain ⟨pi_, ni, ci_, rfl⟩ := hi'
  obtain ⟨pp, cp, rfl⟩ := hpp.len
  have Hli : Hid (ls.length ≤ 8) := Lib.hid (by have := oneS_ins h1; simp only at this; omega)
  have Hls := Lib.hid hl
  clear hll hl

  go_enter Tryz.func16, Tryz.ntmps16
  go_upto_region 17 with fail
  have HM := Lib.hid (Gou.Mod.alloc0 w (.cells #[.int .i64 8, .slice pi_ ni ci_, .slice pp ps.length cp] 37))
  generalize w.alloc (.cells #[.int .i64 8, .slice pi_ ni ci_, .slice pp ps.length cp] 37) = W1 at *
  go_wp2_with fail
  refine (joined_regs W1 (.slice pl ls.length cl) ls xs ys KE hg hKT (Hls.out.under HM.out) hr (by have := Hli.out; omega)).mono ?_
  rintro e w4 ⟨hm, v4, o4, rfl, hown, hq4⟩
  have HE : Hid (RgnP w (fun out => Step xs ys out ∧ SprOk ⟨8, ins, ps⟩ ls out) (.returned v4) w4) := Lib.hid ⟨HM.out.trans' hm, _, o4, rfl, ownsRow_base hown HM.out.size, Step.join hq4, SprOk.no (by simp) (by simp)⟩
  obtain ⟨p4, c4, rfl⟩ := Gou.ownsRow_form hown
  clear hm hown hq4
  go_wp2_with fail
  go_ret
  exact HE.out

set_option maxHeartbeats 4000000 in
theorem spread_merge (w : World) (vi vp vl : Value) (ins ps : List Int) (ls : List (List Rt)) (c : Int) (xs ys : List Int) (KE : Nat) (hpp : IntsAt w.heap.size w vp ps) (hi' : ∃ p n c, vi = .slice p n c) (h1 : oneS ⟨9, ins, ps⟩ c = 0) (hg : Grd xs ys KE) (hKK : KE ≤ 3200)
    (hl : RegsR w vl ls) (hll : ls.length = ins.length) (hr : ∀ l ∈ ls, Rgn xs ys l) :
    Calls Tryz.prog 16 #[.agg #[.int .i64 9, vi, vp], vl] w (RgnP w fun out => Step xs ys out ∧ SprOk ⟨9, ins, ps⟩ ls out) := by
  have hKT : KE ≤ 10000 := by omega
  obtain ⟨pl, cl, rfl⟩ := hl.form
  obtain ⟨pi_, ni, ci_, rfl⟩ := hi'
  obtain ⟨pp, cp, rfl⟩ := hpp.len
  have Hli : Hid (ls.length ≤ 8) := Lib.hid (by have := oneS_ins h1; simp only at this; omega)
  have Hls := Lib.hid hl
  clear hll hl

  go_enter Tryz.func16, Tryz.ntmps16
  go_upto_region 17 with fail
  have HM := Lib.hid (Gou.Mod.alloc0 w (.cells #[.int .i64 9, .slice pi_ ni ci_, .slice pp ps.length cp] 37))
  generalize w.alloc (.cells #[.int .i64 9, .slice pi_ ni ci_, .slice pp ps.length cp] 37) = W1 at *
  go_wp2_with fail
  refine (joined_regs W1 (.slice pl ls.length cl) ls xs ys KE hg hKT (Hls.out.under HM.out) hr (by have := Hli.out; omega)).mono ?_
  rintro e w4 ⟨hm, v4, o4, rfl, hown, hq4⟩
  have HE : Hid (RgnP w (fun out => Step xs ys out ∧ SprOk ⟨9, ins, ps⟩ ls out) (.returned v4) w4) := Lib.hid ⟨HM.out.trans' hm, _, o4, rfl, ownsRow_base hown HM.out.size, Step.join hq4, SprOk.no (by simp) (by simp)⟩
  obtain ⟨p4, c4, rfl⟩ := Gou.ownsRow_form hown
  clear hm hown hq4
  go_wp2_with fail
  go_ret
  exact HE.out

set_option maxHeartbeats 4000000 in
theorem spread_flood (w : World) (vi vp vl : Value) (ins ps : List Int) (ls : List (List Rt)) (c : Int) (xs ys : List Int) (KE : Nat) (hpp : IntsAt w.heap.size w vp ps) (hi' : ∃ p n c, vi = .slice p n c) (h1 : oneS ⟨6, ins, ps⟩ c = 0) (hg : Grd xs ys KE) (hKK : KE ≤ 3200)
    (hl : RegsR w vl ls) (hll : ls.length = ins.length) (hr : ∀ l ∈ ls, Rgn xs ys l) :
    Calls Tryz.prog 16 #[.agg #[.int .i64 6, vi, vp], vl] w (RgnP w fun out => Step xs ys out ∧ SprOk ⟨6, ins, ps⟩ ls out) := by
  have hKT : KE ≤ 10000 := by omega
  obtain ⟨pl, cl, rfl⟩ := hl.form
  obtain ⟨pi_, ni, ci_, rfl⟩ := hi'
  obtain ⟨pp, cp, rfl⟩ := hpp.len
  have hli : ls = [] := List.length_eq_zero_iff.1 (by have := node_6 h1; omega)

  have HM := Lib.hid (Gou.Mod.alloc0 w (.cells #[.int .i64 6, .slice pi_ ni ci_, .slice pp ps.length cp] 37))
  go_enter Tryz.func16, Tryz.ntmps16
  go_wp2_with fail
  go_ret
  exact RgnP.nil _ _ HM.out ⟨Step.nil _ _, SprOk.no (by simp) (by simp)⟩

theorem spread_any (w : World) (vi vp vl : Value) (n : GNode) (ls : List (List Rt)) (c : Int) (xs ys : List Int) (KE : Nat) (hpi : IntsAt w.heap.size w vi n.ins) (hpp : IntsAt w.heap.size w vp n.ps) (h1 : oneS n c = 0) (hg : Grd xs ys KE) (hKK : KE ≤ 3200)
    (hl : RegsR w vl ls) (hll : ls.length = n.ins.length) (hr : ∀ l ∈ ls, Rgn xs ys l) :
    Calls Tryz.prog 16 #[.agg #[.int .i64 n.op, vi, vp], vl] w (RgnP w fun out => Step xs ys out ∧ SprOk n ls out) := by
  have hi' : ∃ p n c, vi = .slice p n c := by
    obtain ⟨p, c, rfl⟩ := hpi.len
    exact ⟨_, _, _, rfl⟩
  have ho := ofS_cases (oneS_zero h1).1
  obtain ⟨op, ins, ps⟩ := n
  simp only at *
  rcases ho with rfl | rfl | rfl | rfl | rfl | rfl | rfl | rfl | rfl | rfl | rfl | rfl
  · exact spread_off w vi vp vl ins ps ls c xs ys KE hpp hi' h1 hg hKK hl hll hr
  · exact spread_blur w vi vp vl ins ps ls c xs ys KE hpp hi' h1 hg hKK hl hll hr
  · exact spread_erode w vi vp vl ins ps ls c xs ys KE hpp hi' h1 hg hKK hl hll hr
  · exact spread_dilate w vi vp vl ins ps ls c xs ys KE hpp hi' h1 hg hKK hl hll hr
  · exact spread_matrix w vi vp vl ins ps ls c xs ys KE hpp hi' h1 hg hKK hl hll hr
  · exact spread_flood w vi vp vl ins ps ls c xs ys KE hpp hi' h1 hg hKK hl hll hr
  · exact spread_blend w vi vp vl ins ps ls c xs ys KE hpp hi' h1 hg hKK hl hll hr
  · exact spread_compose w vi vp vl ins ps ls c xs ys KE hpp hi' h1 hg hKK hl hll hr
  · exact spread_merge w vi vp vl ins ps ls c xs ys KE hpp hi' h1 hg hKK hl hll hr
  · exact spread_tile w vi vp vl ins ps ls c xs ys KE hpp hi' h1 hg hKK hl hll hr
  · exact spread_shadow w vi vp vl ins ps ls c xs ys KE hpp hi' h1 hg hKK hl hll hr
  · exact spread_clip w vi vp vl ins ps ls c xs ys KE hpp hi' h1 hg hKK hl hll hr

end Go.Proofs.YtlpieeeeolfclaaGreatDoor

/- ForeKeeps: fore.carried over regions: what it keeps on the way. -/
namespace Go.Proofs.YtlpieeeeolfclaaGreatDoor
open Go.RowKit Go.Gou Go.Reg Go.Shelf
set_option maxRecDepth 100000
set_option linter.constructorNameAsVariable false

/-- What a filter is like that is taken. -/
structure Taken (g : Gr) : Prop where
  pos : 0 < g.nodes.length
  few : g.nodes.length ≤ 256
  one : ∀ n ∈ g.nodes, oneS n g.nodes.length = 0
  out0 : 0 ≤ g.out
  out1 : g.out < g.nodes.length
  done : ∀ i, i < g.nodes.length → Done (insN g) i

open Classical in
theorem taken_of {g : Gr} (h : checkS g = 0) : Taken g := by
  unfold checkS at h
  split at h
  · omega
  · rename_i h1
    split at h
    · rename_i h2
      exact absurd h h2
    · rename_i h2
      split at h
      · omega
      · rename_i h3
        split at h
        · omega
        · rename_i h4
          refine ⟨by omega, by omega, firstBad_zero (Classical.not_not.1 h2), by omega, by omega, fun i hi => Classical.byContradiction fun hn => h4 ?_⟩
          unfold roundB
          rw [decide_eq_true_eq]
          exact ⟨i, hi, hn⟩

/-- The edges' bound behind so many nodes. -/
def kb : Nat → Nat
  | 0 => 12
  | i + 1 => 3 * kb i + 2
theorem kb_le {i : Nat} (h : i ≤ 5) : kb i ≤ 3200 := by
  rcases (by omega : i = 0 ∨ i = 1 ∨ i = 2 ∨ i = 3 ∨ i = 4 ∨ i = 5) with rfl | rfl | rfl | rfl | rfl | rfl <;> decide
theorem kb_le' {i : Nat} (h : i ≤ 6) : kb i ≤ 10000 := by
  rcases (by omega : i ≤ 5 ∨ i = 6) with h | rfl
  · have := kb_le h
    omega
  · decide

/-- The nodes' regions, as far as they are known, in a block of their own. -/
structure CarR (w : World) (B VB n : Nat) (vs : List Value) (V : Nat → List Rt) : Prop where
  top : w.ownsRow B 26 1 (.slice (some ⟨VB, 0, none⟩) n n) n vs
  row : ∀ k, k < n → RtR (fun b => b ≠ VB) w (vs.getD k undef) (V k)
theorem CarR.len {w : World} {B VB n : Nat} {vs : List Value} {V : Nat → List Rt} (h : CarR w B VB n vs V) : vs.length = n := by
  have := h.top.1
  omega
theorem CarR.under {w w' : World} {B VB n : Nat} {vs : List Value} {V : Nat → List Rt} (h : CarR w B VB n vs V) (hm : Gou.Mod (fun _ => False) w w') : CarR w' B VB n vs V :=
  ⟨own_up h.top hm, fun k hk => RowG.under (h.row k hk) hm⟩
theorem CarR.store {w : World} {B VB n : Nat} {vs : List Value} {V : Nat → List Rt} (h : CarR w B VB n vs V) {k0 : Nat} (hk0 : k0 < n) {v : Value} {l : List Rt} (hv : RtR (fun b => b ≠ VB) w v l) :
    CarR (w.setCell ⟨VB, k0, none⟩ v) B VB n (vs.set k0 v) (fun k => if k = k0 then l else V k) := by
  have hm : Gou.Mod (fun k => k = VB) w (w.setCell ⟨VB, k0, none⟩ v) := Gou.Mod.setCell w ⟨VB, k0, none⟩ v
  refine ⟨own_set h.top k0 v, fun k hk => ?_⟩
  rw [getD_set' _ _ _ _ (by rw [h.len]; exact hk0)]
  by_cases e : k = k0
  · subst e
    rw [if_pos rfl, if_pos rfl]
    exact hv.mod hm (fun b _ hb hs => hb hs)
  · rw [if_neg e, if_neg e]
    exact (h.row k hk).mod hm (fun b _ hb hs => hb hs)
theorem CarR.cell {w : World} {B VB n : Nat} {vs : List Value} {V : Nat → List Rt} (h : CarR w B VB n vs V) {k : Nat} (hk : k < n) :
    ∃ p c, w.cell? ⟨VB, k, none⟩ = some (.slice p (V k).length c) ∧ RtR (fun b => b ≠ VB) w (.slice p (V k).length c) (V k) := by
  have hr := h.row k hk
  obtain ⟨p, c, hv⟩ := hr.form
  refine ⟨p, c, ?_, by rw [← hv]; exact hr⟩
  have hkv : k < vs.length := by rw [h.len]; exact hk
  rw [h.top.cellAt k (by rw [Nat.mul_one]; exact hk), ← hv]
  simp [List.getD, hkv]

/-- A node's inputs. -/
def insV (a : List Rt) (V : Nat → List Rt) (ins : List Int) : List (List Rt) := ins.map fun i => if i = -1 then a else V i.toNat
theorem insV_len (a : List Rt) (V : Nat → List Rt) (ins : List Int) : (insV a V ins).length = ins.length := by simp [insV]
theorem insV_get (a : List Rt) (V : Nat → List Rt) (ins : List Int) (j : Nat) (h : j < ins.length) : (insV a V ins).getD j [] = if ins[j] = -1 then a else V ins[j].toNat := by simp [insV, List.getD, h]
theorem insV_congr {a : List Rt} {V V' : Nat → List Rt} {ins : List Int} (h : ∀ i ∈ ins, i ≠ -1 → V' i.toNat = V i.toNat) : insV a V' ins = insV a V ins := by
  unfold insV
  apply List.map_congr_left
  intro i hi
  by_cases e : i = -1
  · rw [if_pos e, if_pos e]
  · rw [if_neg e, if_neg e, h i hi e]
theorem insV_rgn {a : List Rt} {V : Nat → List Rt} {ins : List Int} {n : Nat} {xs ys : List Int} (ha : Rgn xs ys a) (hV : ∀ k, k < n → Rgn xs ys (V k)) (hi : ∀ i ∈ ins, -1 ≤ i ∧ i < n) : ∀ l ∈ insV a V ins, Rgn xs ys l := by
  intro l hl
  obtain ⟨i, hm, rfl⟩ := List.mem_map.1 hl
  by_cases e : i = -1
  · rw [if_pos e]
    exact ha
  · rw [if_neg e]
    have := hi i hm
    exact hV _ (by omega)

theorem T_rgs : RowT Tryz.prog 50 26 1 24 (.slice none 0 0) := ⟨Tryz.underlying50, by kernel_rfl, rfl, by omega⟩
theorem info_rgn : (Tryz.prog.info? 26).map (fun i => (i.zero, i.size, i.bytes)) = some (some (.slice none 0 0), 1, 24) := by kernel_rfl

/-- A node's inputs so far, in memory: the first j. -/
structure InsR (w : World) (B : Nat) (lv : Value) (j : Nat) (vs : List Value) (L : List (List Rt)) : Prop where
  own : w.ownsRow B 26 1 lv j vs
  row : ∀ t, t < j → RtR (fun b => b < B) w (vs.getD t undef) (L.getD t [])
theorem InsR.len {w : World} {B : Nat} {lv : Value} {j : Nat} {vs : List Value} {L : List (List Rt)} (h : InsR w B lv j vs L) : vs.length = j := by
  have := h.own.1
  omega
theorem InsR.grow {w w1 : World} {B : Nat} {lv v' : Value} {j : Nat} {vs : List Value} {L : List (List Rt)} (h : InsR w B lv j vs L) {u : Value} (G : Grown w B 26 1 lv (j + 1) (vs ++ [u]) v' w1) (hu : RtR (fun b => b < B) w u (L.getD j [])) : InsR w1 B v' (j + 1) (vs ++ [u]) L := by
  have hno : ∀ b, b < w.heap.size → b < B → ¬ lv.ownBlock = some b := fun b _ hb hs => by
    have := own_ge h.own b hs
    omega
  refine ⟨G.own, fun t ht => ?_⟩
  by_cases e : t = j
  · subst e
    have : (vs ++ [u]).getD t undef = u := by simp [List.getD, h.len]
    rw [this]
    exact hu.mod G.mod hno
  · have : (vs ++ [u]).getD t undef = vs.getD t undef := by
      have := h.len
      simp [List.getD, List.getElem?_append_left (show t < vs.length by omega)]
    rw [this]
    exact (h.row t (by omega)).mod G.mod hno
theorem InsR.under {w w1 : World} {B : Nat} {lv : Value} {j : Nat} {vs : List Value} {L : List (List Rt)} (h : InsR w B lv j vs L) (hm : Gou.Mod (fun _ => False) w w1) : InsR w1 B lv j vs L :=
  ⟨own_up h.own hm, fun t ht => RowG.under (h.row t ht) hm⟩
theorem InsR.regs {w : World} {B : Nat} {lv : Value} {vs : List Value} {L : List (List Rt)} (h : InsR w B lv L.length vs L) : RegsR w lv L :=
  ⟨vs, h.len, RowG.own_of h.own (fun _ _ _ => trivial), fun k hk => by
    have := (h.row k hk).imp (fun _ _ _ => trivial)
    rwa [show L.getD k [] = L[k] from by simp [List.getD, hk]] at this⟩
end Go.Proofs.YtlpieeeeolfclaaGreatDoor

