/- NodeKeeps: the walk. -/
import Derived.Test.YtfphlkoneocejaaMore12B
import Derived.Test.YtfphlkoneocejaaSame12
import Derived.Test.YtfphlkoneocejaaDefer
import Derived.Test.YtfphlkoneocejaaStep
namespace Go.Proofs.Ytfphlkoneocejaa
open Go.RowKit Go.Gou

/-- A list of numbers in a block that is neither a row's own nor M. -/
def IntsOff (v : Value) (M : Nat) (w : World) (u : Value) (xs : List Int) : Prop :=
  ∃ (p : Option Addr) (cap : Nat), u = .slice p xs.length cap ∧ xs.length ≤ cap ∧ (xs = [] ∨ ∃ b o, p = some ⟨b, o, none⟩ ∧ b < w.heap.size ∧ v.ownBlock ≠ some b ∧ b ≠ M ∧
    ∀ i, (h : i < xs.length) → w.cell? ⟨b, o + i, none⟩ = some (.int .i64 xs[i]))

theorem IntsOff.at {v : Value} {M : Nat} {w : World} {u : Value} {xs : List Int} (h : IntsOff v M w u xs) : IntsAt w.heap.size w u xs := by
  obtain ⟨p, cap, rfl, hcap, h⟩ := h
  refine ⟨p, cap, rfl, hcap, h.imp id ?_⟩
  rintro ⟨b, o, rfl, hB, _, _, hc⟩
  exact ⟨b, o, rfl, hB, hc⟩

/-- Cell by cell, under whatever reading of the lists. -/
def CellsBy (I : Value → List Int → Prop) (xs : List Value) (ns : List GNode) : Prop :=
  xs.length = ns.length * 3 ∧ ∀ i, (h : i < ns.length) → ∃ vi vp, xs[i * 3]? = some (.int .i64 ns[i].op) ∧ xs[i * 3 + 1]? = some vi ∧ xs[i * 3 + 2]? = some vp ∧ I vi ns[i].ins ∧ I vp ns[i].ps

theorem CellsBy.mono {I J : Value → List Int → Prop} {xs : List Value} {ns : List GNode} (h : CellsBy I xs ns) (hIJ : ∀ v l, I v l → J v l) : CellsBy J xs ns :=
  ⟨h.1, fun i hi => by
    obtain ⟨a, b, c0, c1, c2, c3, c4⟩ := h.2 i hi
    exact ⟨a, b, c0, c1, c2, hIJ _ _ c3, hIJ _ _ c4⟩⟩

theorem CellsBy.snoc {I : Value → List Int → Prop} {xs : List Value} {ns : List GNode} (h : CellsBy I xs ns) (n : GNode) (vi vp : Value) (h1 : I vi n.ins) (h2 : I vp n.ps) :
    CellsBy I (xs ++ [.int .i64 n.op, vi, vp]) (ns ++ [n]) := by
  obtain ⟨hl, h⟩ := h
  refine ⟨by simp [hl]; omega, fun i hi => ?_⟩
  by_cases hin : i < ns.length
  · obtain ⟨a, b, c0, c1, c2, c3, c4⟩ := h i hin
    refine ⟨a, b, ?_, ?_, ?_, ?_, ?_⟩
    · rw [List.getElem?_append_left (by omega), c0, List.getElem_append_left hin]
    · rw [List.getElem?_append_left (by omega), c1]
    · rw [List.getElem?_append_left (by omega), c2]
    · rw [List.getElem_append_left hin]; exact c3
    · rw [List.getElem_append_left hin]; exact c4
  · have hi' : i = ns.length := by simp at hi; omega
    subst hi'
    refine ⟨vi, vp, ?_, ?_, ?_, ?_, ?_⟩
    · rw [List.getElem?_append_right (by omega), hl]; simp
    · rw [List.getElem?_append_right (by omega), hl]
      have : ns.length * 3 + 1 - ns.length * 3 = 1 := by omega
      rw [this]; rfl
    · rw [List.getElem?_append_right (by omega), hl]
      have : ns.length * 3 + 2 - ns.length * 3 = 2 := by omega
      rw [this]; rfl
    · simpa using h1
    · simpa using h2

theorem few_node {g : Gr} {m : Int} (h : fewB g m = true) (k : Nat) (hk : k < g.nodes.length) : g.nodes[k].ins.length ≤ 20 ∧ g.nodes[k].ps.length ≤ 40 := by
  simp only [fewB, Bool.and_eq_true, List.all_eq_true] at h
  have := h.2 _ (List.getElem_mem hk)
  simpa [fewN] using this

theorem few_len3 {g : Gr} (h : fewB g 300 = true) : g.nodes.length ≤ 300 := by
  simp only [fewB, Bool.and_eq_true, decide_eq_true_eq] at h
  have := h.1
  omega

theorem below_lit {wr wc w1 : World} (hB : Below wr.heap.size wr wc) (hm : Mod (fun _ => False) wc w1) : Below wr.heap.size wr w1 :=
  hB.trans (hm.below hB.size fun _ _ h => h)

/-- What the loop leaves: the copy's box M, its row, its lists. -/
structure KeepR (w : World) (x out : Value) (M : Nat) (g : Gr) (k : Nat) (wr : World) : Prop where
  box : BoxAt w x out wr
  row : ∃ v xs, wr.cell? ⟨M, 0, none⟩ = some v ∧ wr.ownsRow (w.heap.size + 1) 27 3 v k xs ∧ CellsBy (IntsOff v M wr) xs (g.nodes.take k) ∧ v.ownBlock ≠ some M
  c1 : wr.cell? ⟨M, 1, none⟩ = some out
  fz : wr.frozen? ⟨M, 0, none⟩ = false
  lo : w.heap.size < M
  hi : M < wr.heap.size

theorem keep_gr {wr : World} {B M : Nat} {g : Gr} {p : Option Addr} {c : Nat} {xs : List Value} (hrow : wr.ownsRow B 27 3 (.slice p g.nodes.length c) g.nodes.length xs)
    (hc : CellsBy (IntsOff (.slice p g.nodes.length c) M wr) xs (g.nodes.take g.nodes.length)) : GrV wr (.agg #[.slice p g.nodes.length c, .int .i64 g.out]) g := by
  rw [List.take_length] at hc
  refine ⟨_, rfl, ?_⟩
  have hn : NodeCells wr.heap.size wr xs g.nodes := hc.mono fun _ _ h => h.at
  rcases hrow.2 with ⟨h1, h2⟩ | ⟨q, cap, cur, h1, _⟩
  · simp only [Value.slice.injEq] at h1
    obtain ⟨rfl, h3, rfl⟩ := h1
    have h0 : g.nodes = [] := List.eq_nil_of_length_eq_zero h2
    exact ⟨none, 0, by rw [h3], by omega, .inl h0⟩
  · simp only [Value.slice.injEq, true_and] at h1
    obtain ⟨rfl, rfl⟩ := h1
    exact NodesAt.of_cells (o := 0) hn (hrow.lt q rfl).2 (ownsRow_cap hrow) fun j hj => by rw [Nat.zero_add]; exact hrow.cellAt j hj

theorem deferQ_store {o : Oper} {Q : Exit → Act → World → Prop} {a : Act} {w : World} {x y : Operand} {M n c : Nat} {p : Option Addr} {u : Value} (hop : o.op = .store 22 x y) (hd : o.dst = none)
    (hx : a.eval x = .pointer (some ⟨M, 0, none⟩)) (hy : a.eval y = .slice p n c) (hc : w.cell? ⟨M, 0, none⟩ = some u) (hf : w.frozen? ⟨M, 0, none⟩ = false) (h : Q .normal a (w.setCell ⟨M, 0, none⟩ (.slice p n c))) :
    deferQ Try.prog o Q .normal a w := by
  show Oper.wp _ _ _ _ _ _
  have ha : ∀ v, a.put o.dst v = a := fun v => by rw [hd]; rfl
  unfold Oper.wp execOp
  rw [hop]
  generalize a.eval = ρ at *
  go_simp
  (try simp only [ha])
  exact h

theorem intsOff_new {w25 w26 : World} {B M b d k c g26 : Nat} {l : List Int} {v : Value} (q : w25.ownsRow B 3 1 (.slice (some ⟨b, 0, none⟩) l.length d) l.length (iv l)) (gr : w25.grownBy w26 v.ownBlock)
    (hv : ∀ j, v.ownBlock = some j → j < B) (hM : M < B) (hat : v.ownBlock = some g26 ∨ g26 = w25.heap.size) (u : Value) :
    IntsOff (.slice (some ⟨g26, 0, none⟩) k c) M (w26.setCell ⟨M, 0, none⟩ u) (.slice (some ⟨b, 0, none⟩) l.length d) l := by
  have hb := q.lt b rfl
  have hne : ∀ j, v.ownBlock = some j → j ≠ b := fun j hj e => by
    have := hv j hj
    omega
  have q26 := ownsRow_mod q (Mod.of_grown gr) (fun j hj e => by
    simp [Value.ownBlock] at hj
    exact hne j e hj.symm)
  refine ⟨_, d, rfl, ownsRow_cap q, .inr ⟨b, 0, rfl, ?_, ?_, by omega, fun i hi => ?_⟩⟩
  · have := gr.size
    simp only [World.size_setCell]
    omega
  · simp only [Value.ownBlock]
    intro e
    simp at e
    subst e
    rcases hat with h | h
    · exact hne _ h rfl
    · omega
  · rw [World.cell?_setCell_far _ _ _ _ (by simp; omega), Nat.zero_add, q26.cellAt i (by omega)]
    simp [iv, hi]

theorem keep_step {w wr w25 w26 : World} {x out : Value} {M k g26 c26 b1 d1 b2 d2 : Nat} {g : Gr} {vn : Value} {xs : List Value} {nd : GNode}
    (hbox : BoxAt w x out wr) (hrow : wr.ownsRow (w.heap.size + 1) 27 3 vn k xs) (hcells : CellsBy (IntsOff vn M wr) xs (g.nodes.take k)) (hnm : vn.ownBlock ≠ some M)
    (m0 : wr.cell? ⟨M, 0, none⟩ = some vn) (m1 : wr.cell? ⟨M, 1, none⟩ = some out) (mfz : wr.frozen? ⟨M, 0, none⟩ = false) (mlo : w.heap.size < M) (mhi : M < wr.heap.size)
    (hsn : g.nodes.take (k + 1) = g.nodes.take k ++ [nd]) (B25 : Below wr.heap.size wr w25)
    (q1 : w25.ownsRow wr.heap.size 3 1 (.slice (some ⟨b1, 0, none⟩) nd.ins.length d1) nd.ins.length (iv nd.ins)) (q2 : w25.ownsRow wr.heap.size 3 1 (.slice (some ⟨b2, 0, none⟩) nd.ps.length d2) nd.ps.length (iv nd.ps))
    (gr26 : w25.grownBy w26 vn.ownBlock)
    (o26 : w26.ownsRow (w.heap.size + 1) 27 3 (.slice (some ⟨g26, 0, none⟩) (k + 1) c26) (k + 1) (xs ++ [.int .i64 nd.op, .slice (some ⟨b1, 0, none⟩) nd.ins.length d1, .slice (some ⟨b2, 0, none⟩) nd.ps.length d2]))
    (at26 : vn.ownBlock = some g26 ∨ g26 = w25.heap.size) (lt26 : g26 < w26.heap.size) :
    KeepR w x out M g (k + 1) (w26.setCell ⟨M, 0, none⟩ (.slice (some ⟨g26, 0, none⟩) (k + 1) c26)) := by
  have S26 : Mod (fun q => vn.ownBlock = some q) wr w26 := (Mod.of_below B25 _).trans' (Mod.of_grown gr26)
  have hown := hrow.lt
  have hmS := Mod.setCell w26 ⟨M, 0, none⟩ (.slice (some ⟨g26, 0, none⟩) (k + 1) c26)
  have hT : Mod (fun q => vn.ownBlock = some q ∨ q = M) wr (w26.setCell ⟨M, 0, none⟩ (.slice (some ⟨g26, 0, none⟩) (k + 1) c26)) := (S26.imp fun _ _ h => .inl h).trans hmS fun _ _ h => .inr h
  have hb25 := B25.size
  have hgM : g26 ≠ M := by
    rcases at26 with h | h
    · intro e
      rw [e] at h
      exact hnm h
    · omega
  have hw : ¬ (vn.ownBlock = some w.heap.size ∨ w.heap.size = M) := by
    rintro (h | h)
    · have := (hown _ h).1
      omega
    · omega
  refine ⟨⟨?_, ?_, Nat.lt_of_lt_of_le hbox.lt hT.size, hbox.bel.trans (hT.below hbox.bel.size fun q hq h => ?_)⟩, ⟨_, _, ?_, ownsRow_mod o26 hmS fun q hq e => ?_, ?_, ?_⟩, ?_, ?_, mlo, Nat.lt_of_lt_of_le mhi hT.size⟩
  · rw [hT.cell (p := ⟨w.heap.size, 0, none⟩) hbox.lt hw]; exact hbox.c0
  · rw [hT.cell (p := ⟨w.heap.size, 1, none⟩) hbox.lt hw]; exact hbox.c1
  · rcases h with h | h
    · have := (hown _ h).1
      omega
    · omega
  · rw [World.cell?_setCell_same (u := vn)]
    rw [S26.cell (p := ⟨M, 0, none⟩) mhi hnm]
    exact m0
  · simp [Value.ownBlock] at hq
    simp at e
    omega
  · rw [hsn]
    refine CellsBy.snoc (hcells.mono fun u l h => ?_) nd _ _ ?_ ?_
    · obtain ⟨p, cap, rfl, hcap, h⟩ := h
      refine ⟨p, cap, rfl, hcap, h.imp id ?_⟩
      rintro ⟨b, o, rfl, hb, hb1, hb2, hc⟩
      refine ⟨b, o, rfl, Nat.lt_of_lt_of_le hb hT.size, ?_, hb2, fun i hi => ?_⟩
      · simp only [Value.ownBlock]
        intro e
        simp at e
        subst e
        rcases at26 with h | h
        · exact hb1 h
        · omega
      · rw [hT.cell (p := ⟨b, o + i, none⟩) hb (fun h => h.elim hb1 hb2)]
        exact hc i hi
    · exact intsOff_new q1 gr26 (fun j hj => (hown j hj).2) mhi at26 _
    · exact intsOff_new q2 gr26 (fun j hj => (hown j hj).2) mhi at26 _
  · simp [Value.ownBlock]
    exact hgM
  · rw [World.cell?_setCell_other _ _ _ _ (by simp), S26.cell (p := ⟨M, 1, none⟩) mhi hnm]
    exact m1
  · have hz := S26.frozen (p := ⟨M, 0, none⟩) mhi hnm
    rw [mfz] at hz
    go_simp

set_option maxHeartbeats 8000000 in
theorem nodeKeeps_law (w : World) (v : Value) (g : Gr) (hg : GrV w v g) (hwf : GrWf g) :
    Calls Try.prog 4 #[v] w fun e w' => e = .returned (.bool true) ∧ Below w.heap.size w w' := by
  have Hg := Lib.hid hg
  have Hwf := Lib.hid hwf
  obtain ⟨p, cap, rfl⟩ := hg.form
  have hl := hwf.len
  unfold maxLen at hl
  have Hb := Lib.hid (BoxAt.start w (.slice p g.nodes.length cap) (.int .i64 g.out) 24)
  clear hg hwf
  go_enter Try.func4, Try.ntmps4
  go_wp2_with fail
  refine (awake_any _).mono ?_
  rintro e w1 ⟨rfl, hb1⟩
  have Hb1 := Lib.hid (Hb.out.step hb1)
  obtain ⟨c0, c1, lt, _⟩ := Hb1.out
  clear hb1 Hb
  cases hf : fewB g 300 with
  | false =>
    go_wp2_with fail
    refine (few_any _ _ g 300 (Hg.out.up Hb1.out.bel) Hwf.out).mono ?_
    rintro e w2 ⟨rfl, hb2⟩
    rw [hf]
    have Hb2 := Lib.hid (Hb1.out.step hb2)
    clear hb2 c0 c1 lt hf
    go_wp2_with fail
    refine (awake_any _).mono ?_
    rintro e w3 ⟨rfl, hb3⟩
    go_wp2_with fail
    go_ret
    exact ⟨rfl, (Hb2.out.step hb3).bel⟩
  | true =>
    have Hf := Lib.hid hf
    go_wp2_with fail
    refine (few_any _ _ g 300 (Hg.out.up Hb1.out.bel) Hwf.out).mono ?_
    rintro e w2 ⟨rfl, hb2⟩
    rw [hf]
    have Hb2 := Lib.hid (Hb1.out.step hb2)
    clear hb2 c0 c1 lt hf Hb1
    obtain ⟨c0, c1, lt, _⟩ := Hb2.out
    go_wp2_with fail
    have hst : KeepR w (.slice p g.nodes.length cap) (.int .i64 g.out) w2.heap.size g 0 (w2.alloc (.cells #[.slice none 0 0, .int .i64 g.out] 24)) :=
      ⟨Hb2.out.alloc _, ⟨.slice none 0 0, [], by rw [World.cell?_alloc_new]; rfl, World.ownsRow_nil _ _ _ _, ⟨rfl, fun i h => by simp at h⟩, by simp [Value.ownBlock]⟩, by rw [World.cell?_alloc_new]; rfl, by rw [World.frozen?_alloc_new], lt, by simp⟩
    have Hst := Lib.hid hst
    clear hst c0 c1 Hb2
    generalize hM : w2.heap.size = M at *
    go_loopw [4] (fun c wr => ∃ k : Nat, c = .int .i64 k ∧ k ≤ g.nodes.length ∧ KeepR w (.slice p g.nodes.length cap) (.int .i64 g.out) M g k wr) (fun c _ => g.nodes.length - (intOf c).toNat)
    case atStart => exact ⟨0, rfl, Nat.zero_le _, Hst.out⟩
    case round =>
      obtain ⟨k, rfl, hk, hkr⟩ := hrel
      have Hk := Lib.hid hkr
      obtain ⟨⟨b0, b1, blt, bbel⟩, ⟨vn, xs, m0, hrow, hcells, hnm⟩, m1, mfz, mlo, mhi⟩ := hkr
      by_cases hkl : k < g.nodes.length
      · obtain ⟨b, o, rfl, hbB, vi, vp, q0, q1, q2, hi, hp⟩ := gr_node Hg.out k hkl
        obtain ⟨pi, ci, rfl⟩ := hi.len
        obtain ⟨pp, cp, rfl⟩ := hp.len
        have hfi := (few_node Hf.out k hkl).1
        have hfp := (few_node Hf.out k hkl).2
        have hkI : (k : Int) < (g.nodes.length : Int) := by omega
        have hk0 : (0 : Int) ≤ (k : Int) := by omega
        have hsn : g.nodes.take (k + 1) = g.nodes.take k ++ [g.nodes[k]] := by rw [List.take_succ_eq_append_getElem hkl]
        have Hsn := Lib.hid hsn
        clear hsn
        have hnB : ∀ q, q ≤ w.heap.size → vn.ownBlock ≠ some q := fun q hq e => by
          have := (hrow.lt q e).1
          omega
        generalize g.nodes[k] = nd at *
        have HS : Hid (∀ w', Mod (fun q => vn.ownBlock = some q) wr w' → Mod (fun q => vn.ownBlock = some q) wr w' ∧ w'.cell? ⟨w.heap.size, 0, none⟩ = some (.slice (some ⟨b, o, none⟩) g.nodes.length cap) ∧ w'.cell? ⟨M, 0, none⟩ = some vn ∧
          w'.cell? ⟨b, o + k * 3, none⟩ = some (.int .i64 nd.op) ∧ w'.cell? ⟨b, o + k * 3 + 1, none⟩ = some (.slice pi nd.ins.length ci) ∧ w'.cell? ⟨b, o + k * 3 + 2, none⟩ = some (.slice pp nd.ps.length cp)) := fun w' hm =>
          ⟨hm, by rw [hm.cell (p := ⟨w.heap.size, 0, none⟩) blt (hnB _ (Nat.le_refl _))]; exact b0, by rw [hm.cell (p := ⟨M, 0, none⟩) mhi hnm]; exact m0,
            by rw [hm.cell (p := ⟨b, o + k * 3, none⟩) (Nat.lt_of_lt_of_le hbB bbel.size) (hnB b (Nat.le_of_lt hbB)), bbel.cell (p := ⟨b, o + k * 3, none⟩) hbB]; exact q0,
            by rw [hm.cell (p := ⟨b, o + k * 3 + 1, none⟩) (Nat.lt_of_lt_of_le hbB bbel.size) (hnB b (Nat.le_of_lt hbB)), bbel.cell (p := ⟨b, o + k * 3 + 1, none⟩) hbB]; exact q1,
            by rw [hm.cell (p := ⟨b, o + k * 3 + 2, none⟩) (Nat.lt_of_lt_of_le hbB bbel.size) (hnB b (Nat.le_of_lt hbB)), bbel.cell (p := ⟨b, o + k * 3 + 2, none⟩) hbB]; exact q2⟩
        obtain ⟨iN, zN, hiN, hz0, hz1, hz2, hz3⟩ := info_nodes
        have hk300 : g.nodes.length ≤ 300 := few_len3 Hf.out
        have Hk0 := Lib.hid (And.intro Hk.out.box (And.intro hrow hcells))
        go_wp2_with fail
        clear q0 q1 q2 b0 b1
        refine wp_region_defer (S := (fun w' => Mod (fun q => vn.ownBlock = some q) wr w' ∧ w'.cell? ⟨w.heap.size, 0, none⟩ = some (.slice (some ⟨b, o, none⟩) g.nodes.length cap) ∧ w'.cell? ⟨M, 0, none⟩ = some vn ∧
          w'.cell? ⟨b, o + k * 3, none⟩ = some (.int .i64 nd.op) ∧ w'.cell? ⟨b, o + k * 3 + 1, none⟩ = some (.slice pi nd.ins.length ci) ∧ w'.cell? ⟨b, o + k * 3 + 2, none⟩ = some (.slice pp nd.ps.length cp))) 28 ?o ?ho ?hm ?hd ?hg ?hb ?hs ?hS ?rest
        case ho => rfl
        case hm => kernel_rfl
        case hd => rfl
        case hg => rfl
        case hb => kernel_rfl
        case hs => kernel_rfl
        case hS => exact HS.out _ (Mod.drew _ _)
        intro hHeld
        refine wpAnyH_take (i := 0) (oi := ({ dst := some 23, op := Op.fieldAddr 24 (Operand.tmp 3) 0, type := 0, pos := "law.go:85", after := #[], guard := none } : Oper)) (v := ?_) rfl (by kernel_rfl) (by kernel_rfl) (by kernel_rfl) (fun _ _ _ h => h) (Or.inl ⟨by rfl, ?_⟩) hHeld ?_
        rotate_left
        · (intro w' hSw; (try dsimp only at hSw); go_simp; (try with_reducible rfl))
        (try simp only [Act.put, List.setIfInBounds_toArray, List.set_cons_zero, List.set_cons_succ])
        refine wpAnyH_take (i := 1) (oi := ({ dst := some 24, op := Op.load 22 (Operand.tmp 23), type := 22, pos := "law.go:85", after := #[{ on := 0, ground := Ground.data }], guard := none } : Oper)) (v := ?_) rfl (by kernel_rfl) (by kernel_rfl) (by kernel_rfl) (fun _ _ _ h => h) (Or.inl ⟨by rfl, ?_⟩) hHeld ?_
        rotate_left
        · (intro w' hSw; (try dsimp only at hSw); go_simp; (try with_reducible rfl))
        (try simp only [Act.put, List.setIfInBounds_toArray, List.set_cons_zero, List.set_cons_succ])
        refine wpAnyH_take (i := 2) (oi := ({ dst := some 25, op := Op.fieldAddr 24 (Operand.tmp 1) 0, type := 0, pos := "law.go:85", after := #[], guard := none } : Oper)) (v := ?_) rfl (by kernel_rfl) (by kernel_rfl) (by kernel_rfl) (fun _ _ _ h => h) (Or.inl ⟨by rfl, ?_⟩) hHeld ?_
        rotate_left
        · (intro w' hSw; (try dsimp only at hSw); go_simp; (try with_reducible rfl))
        (try simp only [Act.put, List.setIfInBounds_toArray, List.set_cons_zero, List.set_cons_succ])
        refine wpAnyH_take (i := 3) (oi := ({ dst := some 26, op := Op.load 22 (Operand.tmp 25), type := 22, pos := "law.go:85", after := #[{ on := 2, ground := Ground.data }], guard := none } : Oper)) (v := ?_) rfl (by kernel_rfl) (by kernel_rfl) (by kernel_rfl) (fun _ _ _ h => h) (Or.inl ⟨by rfl, ?_⟩) hHeld ?_
        rotate_left
        · (intro w' hSw; (try dsimp only at hSw); go_simp; (try with_reducible rfl))
        (try simp only [Act.put, List.setIfInBounds_toArray, List.set_cons_zero, List.set_cons_succ])
        refine wpAnyH_take (i := 4) (oi := ({ dst := some 27, op := Op.move (Operand.tmp 4), type := 3, pos := "law.go:85", after := #[], guard := none } : Oper)) (v := ?_) rfl (by kernel_rfl) (by kernel_rfl) (by kernel_rfl) (fun _ _ _ h => h) (Or.inl ⟨by rfl, ?_⟩) hHeld ?_
        rotate_left
        · (intro w' hSw; (try dsimp only at hSw); go_simp; (try with_reducible rfl))
        (try simp only [Act.put, List.setIfInBounds_toArray, List.set_cons_zero, List.set_cons_succ])
        refine wpAnyH_take (i := 5) (oi := ({ dst := some 28, op := Op.indexAddr 22 (Operand.tmp 26) (Operand.tmp 27), type := 0, pos := "law.go:85", after := #[{ on := 3, ground := Ground.data }, { on := 4, ground := Ground.data }], guard := none } : Oper)) (v := ?_) rfl (by kernel_rfl) (by kernel_rfl) (by kernel_rfl) (fun _ _ _ h => h) (Or.inl ⟨by rfl, ?_⟩) hHeld ?_
        rotate_left
        · (intro w' hSw; (try dsimp only at hSw); go_simp; (try with_reducible rfl))
        (try simp only [Act.put, List.setIfInBounds_toArray, List.set_cons_zero, List.set_cons_succ])
        refine wpAnyH_take (i := 6) (oi := ({ dst := some 29, op := Op.fieldAddr 27 (Operand.tmp 28) 0, type := 0, pos := "law.go:85", after := #[{ on := 5, ground := Ground.data }], guard := none } : Oper)) (v := ?_) rfl (by kernel_rfl) (by kernel_rfl) (by kernel_rfl) (fun _ _ _ h => h) (Or.inl ⟨by rfl, ?_⟩) hHeld ?_
        rotate_left
        · (intro w' hSw; (try dsimp only at hSw); go_simp; (try with_reducible rfl))
        (try simp only [Act.put, List.setIfInBounds_toArray, List.set_cons_zero, List.set_cons_succ])
        refine wpAnyH_take (i := 7) (oi := ({ dst := some 30, op := Op.load 3 (Operand.tmp 29), type := 3, pos := "law.go:85", after := #[{ on := 6, ground := Ground.data }], guard := none } : Oper)) (v := ?_) rfl (by kernel_rfl) (by kernel_rfl) (by kernel_rfl) (fun _ _ _ h => h) (Or.inl ⟨by rfl, ?_⟩) hHeld ?_
        rotate_left
        · (intro w' hSw; (try dsimp only at hSw); go_simp; (try with_reducible rfl))
        (try simp only [Act.put, List.setIfInBounds_toArray, List.set_cons_zero, List.set_cons_succ])
        refine wpAnyH_take (i := 9) (oi := ({ dst := some 32, op := Op.fieldAddr 24 (Operand.tmp 1) 0, type := 0, pos := "law.go:85", after := #[], guard := none } : Oper)) (v := ?_) rfl (by kernel_rfl) (by kernel_rfl) (by kernel_rfl) (fun _ _ _ h => h) (Or.inl ⟨by rfl, ?_⟩) hHeld ?_
        rotate_left
        · (intro w' hSw; (try dsimp only at hSw); go_simp; (try with_reducible rfl))
        (try simp only [Act.put, List.setIfInBounds_toArray, List.set_cons_zero, List.set_cons_succ])
        refine wpAnyH_take (i := 10) (oi := ({ dst := some 33, op := Op.load 22 (Operand.tmp 32), type := 22, pos := "law.go:85", after := #[{ on := 9, ground := Ground.data }], guard := none } : Oper)) (v := ?_) rfl (by kernel_rfl) (by kernel_rfl) (by kernel_rfl) (fun _ _ _ h => h) (Or.inl ⟨by rfl, ?_⟩) hHeld ?_
        rotate_left
        · (intro w' hSw; (try dsimp only at hSw); go_simp; (try with_reducible rfl))
        (try simp only [Act.put, List.setIfInBounds_toArray, List.set_cons_zero, List.set_cons_succ])
        refine wpAnyH_take (i := 11) (oi := ({ dst := some 34, op := Op.move (Operand.tmp 4), type := 3, pos := "law.go:85", after := #[], guard := none } : Oper)) (v := ?_) rfl (by kernel_rfl) (by kernel_rfl) (by kernel_rfl) (fun _ _ _ h => h) (Or.inl ⟨by rfl, ?_⟩) hHeld ?_
        rotate_left
        · (intro w' hSw; (try dsimp only at hSw); go_simp; (try with_reducible rfl))
        (try simp only [Act.put, List.setIfInBounds_toArray, List.set_cons_zero, List.set_cons_succ])
        refine wpAnyH_take (i := 12) (oi := ({ dst := some 35, op := Op.indexAddr 22 (Operand.tmp 33) (Operand.tmp 34), type := 0, pos := "law.go:85", after := #[{ on := 10, ground := Ground.data }, { on := 11, ground := Ground.data }], guard := none } : Oper)) (v := ?_) rfl (by kernel_rfl) (by kernel_rfl) (by kernel_rfl) (fun _ _ _ h => h) (Or.inl ⟨by rfl, ?_⟩) hHeld ?_
        rotate_left
        · (intro w' hSw; (try dsimp only at hSw); go_simp; (try with_reducible rfl))
        (try simp only [Act.put, List.setIfInBounds_toArray, List.set_cons_zero, List.set_cons_succ])
        refine wpAnyH_take (i := 13) (oi := ({ dst := some 36, op := Op.fieldAddr 27 (Operand.tmp 35) 1, type := 0, pos := "law.go:85", after := #[{ on := 12, ground := Ground.data }], guard := none } : Oper)) (v := ?_) rfl (by kernel_rfl) (by kernel_rfl) (by kernel_rfl) (fun _ _ _ h => h) (Or.inl ⟨by rfl, ?_⟩) hHeld ?_
        rotate_left
        · (intro w' hSw; (try dsimp only at hSw); go_simp; (try with_reducible rfl))
        (try simp only [Act.put, List.setIfInBounds_toArray, List.set_cons_zero, List.set_cons_succ])
        refine wpAnyH_take (i := 14) (oi := ({ dst := some 37, op := Op.load 25 (Operand.tmp 36), type := 25, pos := "law.go:85", after := #[{ on := 13, ground := Ground.data }], guard := none } : Oper)) (v := ?_) rfl (by kernel_rfl) (by kernel_rfl) (by kernel_rfl) (fun _ _ _ h => h) (Or.inl ⟨by rfl, ?_⟩) hHeld ?_
        rotate_left
        · (intro w' hSw; (try dsimp only at hSw); go_simp; (try with_reducible rfl))
        (try simp only [Act.put, List.setIfInBounds_toArray, List.set_cons_zero, List.set_cons_succ])
        refine wpAnyH_take (i := 17) (oi := ({ dst := some 40, op := Op.fieldAddr 24 (Operand.tmp 1) 0, type := 0, pos := "law.go:85", after := #[], guard := none } : Oper)) (v := ?_) rfl (by kernel_rfl) (by kernel_rfl) (by kernel_rfl) (fun _ _ _ h => h) (Or.inl ⟨by rfl, ?_⟩) hHeld ?_
        rotate_left
        · (intro w' hSw; (try dsimp only at hSw); go_simp; (try with_reducible rfl))
        (try simp only [Act.put, List.setIfInBounds_toArray, List.set_cons_zero, List.set_cons_succ])
        refine wpAnyH_take (i := 18) (oi := ({ dst := some 41, op := Op.load 22 (Operand.tmp 40), type := 22, pos := "law.go:85", after := #[{ on := 17, ground := Ground.data }], guard := none } : Oper)) (v := ?_) rfl (by kernel_rfl) (by kernel_rfl) (by kernel_rfl) (fun _ _ _ h => h) (Or.inl ⟨by rfl, ?_⟩) hHeld ?_
        rotate_left
        · (intro w' hSw; (try dsimp only at hSw); go_simp; (try with_reducible rfl))
        (try simp only [Act.put, List.setIfInBounds_toArray, List.set_cons_zero, List.set_cons_succ])
        refine wpAnyH_take (i := 19) (oi := ({ dst := some 42, op := Op.move (Operand.tmp 4), type := 3, pos := "law.go:85", after := #[], guard := none } : Oper)) (v := ?_) rfl (by kernel_rfl) (by kernel_rfl) (by kernel_rfl) (fun _ _ _ h => h) (Or.inl ⟨by rfl, ?_⟩) hHeld ?_
        rotate_left
        · (intro w' hSw; (try dsimp only at hSw); go_simp; (try with_reducible rfl))
        (try simp only [Act.put, List.setIfInBounds_toArray, List.set_cons_zero, List.set_cons_succ])
        refine wpAnyH_take (i := 20) (oi := ({ dst := some 43, op := Op.indexAddr 22 (Operand.tmp 41) (Operand.tmp 42), type := 0, pos := "law.go:85", after := #[{ on := 18, ground := Ground.data }, { on := 19, ground := Ground.data }], guard := none } : Oper)) (v := ?_) rfl (by kernel_rfl) (by kernel_rfl) (by kernel_rfl) (fun _ _ _ h => h) (Or.inl ⟨by rfl, ?_⟩) hHeld ?_
        rotate_left
        · (intro w' hSw; (try dsimp only at hSw); go_simp; (try with_reducible rfl))
        (try simp only [Act.put, List.setIfInBounds_toArray, List.set_cons_zero, List.set_cons_succ])
        refine wpAnyH_take (i := 21) (oi := ({ dst := some 44, op := Op.fieldAddr 27 (Operand.tmp 43) 2, type := 0, pos := "law.go:85", after := #[{ on := 20, ground := Ground.data }], guard := none } : Oper)) (v := ?_) rfl (by kernel_rfl) (by kernel_rfl) (by kernel_rfl) (fun _ _ _ h => h) (Or.inl ⟨by rfl, ?_⟩) hHeld ?_
        rotate_left
        · (intro w' hSw; (try dsimp only at hSw); go_simp; (try with_reducible rfl))
        (try simp only [Act.put, List.setIfInBounds_toArray, List.set_cons_zero, List.set_cons_succ])
        refine wpAnyH_take (i := 22) (oi := ({ dst := some 45, op := Op.load 25 (Operand.tmp 44), type := 25, pos := "law.go:85", after := #[{ on := 21, ground := Ground.data }], guard := none } : Oper)) (v := ?_) rfl (by kernel_rfl) (by kernel_rfl) (by kernel_rfl) (fun _ _ _ h => h) (Or.inl ⟨by rfl, ?_⟩) hHeld ?_
        rotate_left
        · (intro w' hSw; (try dsimp only at hSw); go_simp; (try with_reducible rfl))
        (try simp only [Act.put, List.setIfInBounds_toArray, List.set_cons_zero, List.set_cons_succ])
        obtain ⟨wd, hwd⟩ : ∃ x : World, x = wr.drew := ⟨_, rfl⟩
        rw [← hwd] at hHeld ⊢
        have B0 : Below wr.heap.size wr wd := by rw [hwd]; exact (Below.refl _ _).drew
        clear hwd
        refine wpAnyH_ready (rs := [8, 16]) (by kernel_rfl) (by simp) (AllReadyH.cons (o := ({ dst := some 31, op := Op.buildSlice 25 0 #[], type := 25, pos := "law.go:85", after := #[], guard := none } : Oper)) rfl (fun K hK => ?_) (AllReadyH.cons (o := ({ dst := some 39, op := Op.buildSlice 25 0 #[], type := 25, pos := "law.go:85", after := #[], guard := none } : Oper)) rfl (fun K hK => ?_) AllReadyH.nil))
        · refine step_lit0 rfl rfl _ (Nat.le_refl _) (fun g8 w8 o8 m8 => ?_)
          have l8 := o8.lt g8 rfl
          have z8 := m8.size
          have B8 := below_lit B0 m8
          have p8 := ownsRow_base o8 B0.size
          refine hK.out _ _ (HS.out _ (Mod.of_below B8 _)) (fun hHeld => ?_)
          clear hK K
          (try simp only [Act.put, List.setIfInBounds_toArray, List.set_cons_zero, List.set_cons_succ])
          refine wpAnyH_ready (rs := [15, 16]) (by kernel_rfl) (by simp) (AllReadyH.cons (o := ({ dst := some 38, op := Op.call { callee := Callee.builtin Builtin.append, args := #[Operand.tmp 31, Operand.tmp 37], argTypes := #[25, 25] }, type := 25, pos := "law.go:85", after := #[{ on := 8, ground := Ground.data }, { on := 14, ground := Ground.data }], guard := none } : Oper)) rfl (fun K hK => ?_) (AllReadyH.cons (o := ({ dst := some 39, op := Op.buildSlice 25 0 #[], type := 25, pos := "law.go:85", after := #[], guard := none } : Oper)) rfl (fun K hK => ?_) AllReadyH.nil))
          · refine step_ints (Operand.tmp 31) (Operand.tmp 37) rfl rfl wr.heap.size B8.size g8 (by rfl) p8 pi ci nd.ins wr.heap.size (by rfl) ((hi.up bbel).below B8) (by omega) (fun g15 c15 w15 o15 r15 a15 => ?_)
            have l15 := o15.lt g15 rfl
            have z15 := r15.size
            have B15 := B8.grown r15 B8.size (fun q hq => by cases hq; exact (p8.lt g8 rfl).1)
            refine hK.out _ _ (HS.out _ (Mod.of_below B15 _)) (fun hHeld => ?_)
            clear hK K
            (try simp only [Act.put, List.setIfInBounds_toArray, List.set_cons_zero, List.set_cons_succ])
            refine wpAnyH_ready (rs := [16]) (by kernel_rfl) (by simp) (AllReadyH.cons (o := ({ dst := some 39, op := Op.buildSlice 25 0 #[], type := 25, pos := "law.go:85", after := #[], guard := none } : Oper)) rfl (fun K hK => ?_) AllReadyH.nil)
            · refine step_lit0 rfl rfl _ (Nat.le_refl _) (fun g16 w16 o16 m16 => ?_)
              have l16 := o16.lt g16 rfl
              have z16 := m16.size
              have B16 := below_lit B15 m16
              have o15_16 := ownsRow_mod o15 m16 (fun _ _ h => h)
              have p16 := ownsRow_base o16 B15.size
              refine hK.out _ _ (HS.out _ (Mod.of_below B16 _)) (fun hHeld => ?_)
              clear hK K
              (try simp only [Act.put, List.setIfInBounds_toArray, List.set_cons_zero, List.set_cons_succ])
              refine wpAnyH_ready (rs := [23]) (by kernel_rfl) (by simp) (AllReadyH.cons (o := ({ dst := some 46, op := Op.call { callee := Callee.builtin Builtin.append, args := #[Operand.tmp 39, Operand.tmp 45], argTypes := #[25, 25] }, type := 25, pos := "law.go:85", after := #[{ on := 16, ground := Ground.data }, { on := 22, ground := Ground.data }, { on := 15, ground := Ground.chain }], guard := none } : Oper)) rfl (fun K hK => ?_) AllReadyH.nil)
              · refine step_ints (Operand.tmp 39) (Operand.tmp 45) rfl rfl wr.heap.size B16.size g16 (by rfl) p16 pp cp nd.ps wr.heap.size (by rfl) ((hp.up bbel).below B16) (by omega) (fun g23 c23 w23 o23 r23 a23 => ?_)
                have l23 := o23.lt g23 rfl
                have z23 := r23.size
                have B23 := B16.grown r23 B16.size (fun q hq => by cases hq; exact (p16.lt g16 rfl).1)
                have o15_16_23 := ownsRow_mod o15_16 (Mod.of_grown r23) (fun q hq e => by simp [Value.ownBlock] at hq e; omega)
                refine hK.out _ _ (HS.out _ (Mod.of_below B23 _)) (fun hHeld => ?_)
                clear hK K
                (try simp only [Act.put, List.setIfInBounds_toArray, List.set_cons_zero, List.set_cons_succ])
                refine wpAnyH_take (i := 24) (oi := ({ dst := some 47, op := Op.build 27 #[(0, Operand.tmp 30), (1, Operand.tmp 38), (2, Operand.tmp 46)], type := 27, pos := "law.go:85", after := #[{ on := 7, ground := Ground.data }, { on := 15, ground := Ground.data }, { on := 23, ground := Ground.data }], guard := none } : Oper)) (v := ?_) rfl (by kernel_rfl) (by kernel_rfl) (by kernel_rfl) (fun _ _ _ h => h) (Or.inl ⟨by rfl, ?_⟩) hHeld ?_
                rotate_left
                · (intro w' hSw; (try dsimp only at hSw); go_simp; (try with_reducible rfl))
                (try simp only [Act.put, List.setIfInBounds_toArray, List.set_cons_zero, List.set_cons_succ])
                refine wpAnyH_ready (rs := [25]) (by kernel_rfl) (by simp) (AllReadyH.cons (o := ({ dst := some 48, op := Op.buildSlice 22 1 #[(0, Operand.tmp 47)], type := 22, pos := "law.go:85", after := #[{ on := 24, ground := Ground.data }], guard := none } : Oper)) rfl (fun K hK => ?_) AllReadyH.nil)
                refine step_lit1 rfl rfl (by rfl) (fun N25 w25 h25 m25 => ?_)
                have z25 := m25.size
                have B25 := below_lit B23 m25
                have q1 := ownsRow_mod o15_16_23 m25 (fun _ _ h => h)
                have q2 := ownsRow_mod o23 m25 (fun _ _ h => h)
                refine hK.out _ _ (HS.out _ (Mod.of_below B25 _)) (fun hHeld => ?_)
                clear hK K
                (try simp only [Act.put, List.setIfInBounds_toArray, List.set_cons_zero, List.set_cons_succ])
                refine wpAnyH_ready (rs := [26]) (by kernel_rfl) (by simp) (AllReadyH.cons (o := ({ dst := some 49, op := Op.call { callee := Callee.builtin Builtin.append, args := #[Operand.tmp 24, Operand.tmp 48], argTypes := #[22, 22] }, type := 22, pos := "law.go:85", after := #[{ on := 1, ground := Ground.data }, { on := 25, ground := Ground.data }, { on := 23, ground := Ground.chain }], guard := none } : Oper)) rfl (fun K hK => ?_) AllReadyH.nil)
                refine step_append_lies _ (by rfl) (Operand.tmp 24) (Operand.tmp 48) 22 (by rfl) (w.heap.size + 1) 27 iN zN 3 56 Try.underlying22 hiN hz0 hz1 hz2 hz3 (by omega) vn k xs (by rfl) (ownsRow_mod hrow (Mod.of_below B25 (fun _ => False)) (fun _ _ h => h)) ⟨N25, 0, none⟩ 1 1 [.int .i64 nd.op, .slice (some ⟨g15, 0, none⟩) nd.ins.length c15, .slice (some ⟨g23, 0, none⟩) nd.ps.length c23] (by rfl) (by rfl) (news_at h25 rfl) (by simp [Value.oneCell']) (by omega) (by unfold maxLen; omega) (by omega) (by omega) _ rfl ?_
                intro g26 c26 w26 o26 gr26 at26 lt26
                have S26 : Mod (fun q => vn.ownBlock = some q) wr w26 := (Mod.of_below B25 _).trans' (Mod.of_grown gr26)
                refine hK.out _ _ (HS.out _ S26) (fun hHeld => ?_)
                clear hK K
                (try simp only [Act.put, List.setIfInBounds_toArray, List.set_cons_zero, List.set_cons_succ])
                refine wpAnyH_take (i := 27) (oi := ({ dst := some 50, op := Op.fieldAddr 24 (Operand.tmp 3) 0, type := 0, pos := "law.go:85", after := #[{ on := 0, ground := Ground.phase }, { on := 1, ground := Ground.phase }, { on := 2, ground := Ground.phase }, { on := 3, ground := Ground.phase }, { on := 4, ground := Ground.phase }, { on := 5, ground := Ground.phase }, { on := 6, ground := Ground.phase }, { on := 7, ground := Ground.phase }, { on := 8, ground := Ground.phase }, { on := 9, ground := Ground.phase }, { on := 10, ground := Ground.phase }, { on := 11, ground := Ground.phase }, { on := 12, ground := Ground.phase }, { on := 13, ground := Ground.phase }, { on := 14, ground := Ground.phase }, { on := 15, ground := Ground.phase }, { on := 16, ground := Ground.phase }, { on := 17, ground := Ground.phase }, { on := 18, ground := Ground.phase }, { on := 19, ground := Ground.phase }, { on := 20, ground := Ground.phase }, { on := 21, ground := Ground.phase }, { on := 22, ground := Ground.phase }, { on := 23, ground := Ground.phase }, { on := 24, ground := Ground.phase }, { on := 25, ground := Ground.phase }, { on := 26, ground := Ground.phase }], guard := none } : Oper)) (v := ?_) rfl (by kernel_rfl) (by kernel_rfl) (by kernel_rfl) (fun _ _ _ h => h) (Or.inl ⟨by rfl, ?_⟩) hHeld ?_
                rotate_left
                · (intro w' hSw; (try dsimp only at hSw); go_simp; (try with_reducible rfl))
                (try simp only [Act.put, List.setIfInBounds_toArray, List.set_cons_zero, List.set_cons_succ])
                refine wpAnyH_take (i := 28) (oi := ({ dst := none, op := Op.assign (Operand.const (Value.bool true)), type := 0, pos := "law.go:85", after := #[{ on := 27, ground := Ground.data }, { on := 26, ground := Ground.data }, { on := 26, ground := Ground.chain }, { on := 0, ground := Ground.phase }, { on := 1, ground := Ground.phase }, { on := 2, ground := Ground.phase }, { on := 3, ground := Ground.phase }, { on := 4, ground := Ground.phase }, { on := 5, ground := Ground.phase }, { on := 6, ground := Ground.phase }, { on := 7, ground := Ground.phase }, { on := 8, ground := Ground.phase }, { on := 9, ground := Ground.phase }, { on := 10, ground := Ground.phase }, { on := 11, ground := Ground.phase }, { on := 12, ground := Ground.phase }, { on := 13, ground := Ground.phase }, { on := 14, ground := Ground.phase }, { on := 15, ground := Ground.phase }, { on := 16, ground := Ground.phase }, { on := 17, ground := Ground.phase }, { on := 18, ground := Ground.phase }, { on := 19, ground := Ground.phase }, { on := 20, ground := Ground.phase }, { on := 21, ground := Ground.phase }, { on := 22, ground := Ground.phase }, { on := 23, ground := Ground.phase }, { on := 24, ground := Ground.phase }, { on := 25, ground := Ground.phase }, { on := 26, ground := Ground.phase }], guard := none } : Oper)) (v := ?_) rfl (by kernel_rfl) (by kernel_rfl) (by kernel_rfl) (fun _ _ _ h => h) (Or.inl ⟨by rfl, ?_⟩) hHeld ?_
                rotate_left
                · (intro w' hSw; (try dsimp only at hSw); go_simp; (try with_reducible rfl))
                (try simp only [Act.put, List.setIfInBounds_toArray, List.set_cons_zero, List.set_cons_succ])
                refine wpAnyH_done (by kernel_rfl) ?_ _
                have hM0 := hHeld.2.2.1
                have hMf : w26.frozen? ⟨M, 0, none⟩ = false := by rw [S26.frozen (p := ⟨M, 0, none⟩) mhi hnm]; exact mfz
                clear hHeld
                refine deferQ_store (x := Operand.tmp 50) (y := Operand.tmp 49) (by rfl) (by rfl) (by rfl) (by rfl) hM0 hMf ?_
                have Hkr := Lib.hid (keep_step Hk0.out.1 Hk0.out.2.1 Hk0.out.2.2 hnm m0 m1 mfz mlo mhi Hsn.out B25 q1 q2 gr26 o26 at26 lt26)
                clear hM0 hMf at26 o26 gr26
                go_wp2_with fail
                go_roundw
                case rel => exact ⟨k + 1, by go_num, by omega, Hkr.out⟩
                case measure => simp [intOf]; omega
          · refine step_lit0 rfl rfl _ (Nat.le_refl _) (fun g16 w16 o16 m16 => ?_)
            have l16 := o16.lt g16 rfl
            have z16 := m16.size
            have B16 := below_lit B8 m16
            have p8_16 := ownsRow_mod p8 m16 (fun _ _ h => h)
            have p16 := ownsRow_base o16 B8.size
            refine hK.out _ _ (HS.out _ (Mod.of_below B16 _)) (fun hHeld => ?_)
            clear hK K
            (try simp only [Act.put, List.setIfInBounds_toArray, List.set_cons_zero, List.set_cons_succ])
            refine wpAnyH_ready (rs := [15]) (by kernel_rfl) (by simp) (AllReadyH.cons (o := ({ dst := some 38, op := Op.call { callee := Callee.builtin Builtin.append, args := #[Operand.tmp 31, Operand.tmp 37], argTypes := #[25, 25] }, type := 25, pos := "law.go:85", after := #[{ on := 8, ground := Ground.data }, { on := 14, ground := Ground.data }], guard := none } : Oper)) rfl (fun K hK => ?_) AllReadyH.nil)
            · refine step_ints (Operand.tmp 31) (Operand.tmp 37) rfl rfl wr.heap.size B16.size g8 (by rfl) p8_16 pi ci nd.ins wr.heap.size (by rfl) ((hi.up bbel).below B16) (by omega) (fun g15 c15 w15 o15 r15 a15 => ?_)
              have l15 := o15.lt g15 rfl
              have z15 := r15.size
              have B15 := B16.grown r15 B16.size (fun q hq => by cases hq; exact (p8_16.lt g8 rfl).1)
              have p16_15 := ownsRow_mod p16 (Mod.of_grown r15) (fun q hq e => by simp [Value.ownBlock] at hq e; omega)
              refine hK.out _ _ (HS.out _ (Mod.of_below B15 _)) (fun hHeld => ?_)
              clear hK K
              (try simp only [Act.put, List.setIfInBounds_toArray, List.set_cons_zero, List.set_cons_succ])
              refine wpAnyH_ready (rs := [23]) (by kernel_rfl) (by simp) (AllReadyH.cons (o := ({ dst := some 46, op := Op.call { callee := Callee.builtin Builtin.append, args := #[Operand.tmp 39, Operand.tmp 45], argTypes := #[25, 25] }, type := 25, pos := "law.go:85", after := #[{ on := 16, ground := Ground.data }, { on := 22, ground := Ground.data }, { on := 15, ground := Ground.chain }], guard := none } : Oper)) rfl (fun K hK => ?_) AllReadyH.nil)
              · refine step_ints (Operand.tmp 39) (Operand.tmp 45) rfl rfl wr.heap.size B15.size g16 (by rfl) p16_15 pp cp nd.ps wr.heap.size (by rfl) ((hp.up bbel).below B15) (by omega) (fun g23 c23 w23 o23 r23 a23 => ?_)
                have l23 := o23.lt g23 rfl
                have z23 := r23.size
                have B23 := B15.grown r23 B15.size (fun q hq => by cases hq; exact (p16_15.lt g16 rfl).1)
                have o15_23 := ownsRow_mod o15 (Mod.of_grown r23) (fun q hq e => by simp [Value.ownBlock] at hq e; omega)
                refine hK.out _ _ (HS.out _ (Mod.of_below B23 _)) (fun hHeld => ?_)
                clear hK K
                (try simp only [Act.put, List.setIfInBounds_toArray, List.set_cons_zero, List.set_cons_succ])
                refine wpAnyH_take (i := 24) (oi := ({ dst := some 47, op := Op.build 27 #[(0, Operand.tmp 30), (1, Operand.tmp 38), (2, Operand.tmp 46)], type := 27, pos := "law.go:85", after := #[{ on := 7, ground := Ground.data }, { on := 15, ground := Ground.data }, { on := 23, ground := Ground.data }], guard := none } : Oper)) (v := ?_) rfl (by kernel_rfl) (by kernel_rfl) (by kernel_rfl) (fun _ _ _ h => h) (Or.inl ⟨by rfl, ?_⟩) hHeld ?_
                rotate_left
                · (intro w' hSw; (try dsimp only at hSw); go_simp; (try with_reducible rfl))
                (try simp only [Act.put, List.setIfInBounds_toArray, List.set_cons_zero, List.set_cons_succ])
                refine wpAnyH_ready (rs := [25]) (by kernel_rfl) (by simp) (AllReadyH.cons (o := ({ dst := some 48, op := Op.buildSlice 22 1 #[(0, Operand.tmp 47)], type := 22, pos := "law.go:85", after := #[{ on := 24, ground := Ground.data }], guard := none } : Oper)) rfl (fun K hK => ?_) AllReadyH.nil)
                refine step_lit1 rfl rfl (by rfl) (fun N25 w25 h25 m25 => ?_)
                have z25 := m25.size
                have B25 := below_lit B23 m25
                have q1 := ownsRow_mod o15_23 m25 (fun _ _ h => h)
                have q2 := ownsRow_mod o23 m25 (fun _ _ h => h)
                refine hK.out _ _ (HS.out _ (Mod.of_below B25 _)) (fun hHeld => ?_)
                clear hK K
                (try simp only [Act.put, List.setIfInBounds_toArray, List.set_cons_zero, List.set_cons_succ])
                refine wpAnyH_ready (rs := [26]) (by kernel_rfl) (by simp) (AllReadyH.cons (o := ({ dst := some 49, op := Op.call { callee := Callee.builtin Builtin.append, args := #[Operand.tmp 24, Operand.tmp 48], argTypes := #[22, 22] }, type := 22, pos := "law.go:85", after := #[{ on := 1, ground := Ground.data }, { on := 25, ground := Ground.data }, { on := 23, ground := Ground.chain }], guard := none } : Oper)) rfl (fun K hK => ?_) AllReadyH.nil)
                refine step_append_lies _ (by rfl) (Operand.tmp 24) (Operand.tmp 48) 22 (by rfl) (w.heap.size + 1) 27 iN zN 3 56 Try.underlying22 hiN hz0 hz1 hz2 hz3 (by omega) vn k xs (by rfl) (ownsRow_mod hrow (Mod.of_below B25 (fun _ => False)) (fun _ _ h => h)) ⟨N25, 0, none⟩ 1 1 [.int .i64 nd.op, .slice (some ⟨g15, 0, none⟩) nd.ins.length c15, .slice (some ⟨g23, 0, none⟩) nd.ps.length c23] (by rfl) (by rfl) (news_at h25 rfl) (by simp [Value.oneCell']) (by omega) (by unfold maxLen; omega) (by omega) (by omega) _ rfl ?_
                intro g26 c26 w26 o26 gr26 at26 lt26
                have S26 : Mod (fun q => vn.ownBlock = some q) wr w26 := (Mod.of_below B25 _).trans' (Mod.of_grown gr26)
                refine hK.out _ _ (HS.out _ S26) (fun hHeld => ?_)
                clear hK K
                (try simp only [Act.put, List.setIfInBounds_toArray, List.set_cons_zero, List.set_cons_succ])
                refine wpAnyH_take (i := 27) (oi := ({ dst := some 50, op := Op.fieldAddr 24 (Operand.tmp 3) 0, type := 0, pos := "law.go:85", after := #[{ on := 0, ground := Ground.phase }, { on := 1, ground := Ground.phase }, { on := 2, ground := Ground.phase }, { on := 3, ground := Ground.phase }, { on := 4, ground := Ground.phase }, { on := 5, ground := Ground.phase }, { on := 6, ground := Ground.phase }, { on := 7, ground := Ground.phase }, { on := 8, ground := Ground.phase }, { on := 9, ground := Ground.phase }, { on := 10, ground := Ground.phase }, { on := 11, ground := Ground.phase }, { on := 12, ground := Ground.phase }, { on := 13, ground := Ground.phase }, { on := 14, ground := Ground.phase }, { on := 15, ground := Ground.phase }, { on := 16, ground := Ground.phase }, { on := 17, ground := Ground.phase }, { on := 18, ground := Ground.phase }, { on := 19, ground := Ground.phase }, { on := 20, ground := Ground.phase }, { on := 21, ground := Ground.phase }, { on := 22, ground := Ground.phase }, { on := 23, ground := Ground.phase }, { on := 24, ground := Ground.phase }, { on := 25, ground := Ground.phase }, { on := 26, ground := Ground.phase }], guard := none } : Oper)) (v := ?_) rfl (by kernel_rfl) (by kernel_rfl) (by kernel_rfl) (fun _ _ _ h => h) (Or.inl ⟨by rfl, ?_⟩) hHeld ?_
                rotate_left
                · (intro w' hSw; (try dsimp only at hSw); go_simp; (try with_reducible rfl))
                (try simp only [Act.put, List.setIfInBounds_toArray, List.set_cons_zero, List.set_cons_succ])
                refine wpAnyH_take (i := 28) (oi := ({ dst := none, op := Op.assign (Operand.const (Value.bool true)), type := 0, pos := "law.go:85", after := #[{ on := 27, ground := Ground.data }, { on := 26, ground := Ground.data }, { on := 26, ground := Ground.chain }, { on := 0, ground := Ground.phase }, { on := 1, ground := Ground.phase }, { on := 2, ground := Ground.phase }, { on := 3, ground := Ground.phase }, { on := 4, ground := Ground.phase }, { on := 5, ground := Ground.phase }, { on := 6, ground := Ground.phase }, { on := 7, ground := Ground.phase }, { on := 8, ground := Ground.phase }, { on := 9, ground := Ground.phase }, { on := 10, ground := Ground.phase }, { on := 11, ground := Ground.phase }, { on := 12, ground := Ground.phase }, { on := 13, ground := Ground.phase }, { on := 14, ground := Ground.phase }, { on := 15, ground := Ground.phase }, { on := 16, ground := Ground.phase }, { on := 17, ground := Ground.phase }, { on := 18, ground := Ground.phase }, { on := 19, ground := Ground.phase }, { on := 20, ground := Ground.phase }, { on := 21, ground := Ground.phase }, { on := 22, ground := Ground.phase }, { on := 23, ground := Ground.phase }, { on := 24, ground := Ground.phase }, { on := 25, ground := Ground.phase }, { on := 26, ground := Ground.phase }], guard := none } : Oper)) (v := ?_) rfl (by kernel_rfl) (by kernel_rfl) (by kernel_rfl) (fun _ _ _ h => h) (Or.inl ⟨by rfl, ?_⟩) hHeld ?_
                rotate_left
                · (intro w' hSw; (try dsimp only at hSw); go_simp; (try with_reducible rfl))
                (try simp only [Act.put, List.setIfInBounds_toArray, List.set_cons_zero, List.set_cons_succ])
                refine wpAnyH_done (by kernel_rfl) ?_ _
                have hM0 := hHeld.2.2.1
                have hMf : w26.frozen? ⟨M, 0, none⟩ = false := by rw [S26.frozen (p := ⟨M, 0, none⟩) mhi hnm]; exact mfz
                clear hHeld
                refine deferQ_store (x := Operand.tmp 50) (y := Operand.tmp 49) (by rfl) (by rfl) (by rfl) (by rfl) hM0 hMf ?_
                have Hkr := Lib.hid (keep_step Hk0.out.1 Hk0.out.2.1 Hk0.out.2.2 hnm m0 m1 mfz mlo mhi Hsn.out B25 q1 q2 gr26 o26 at26 lt26)
                clear hM0 hMf at26 o26 gr26
                go_wp2_with fail
                go_roundw
                case rel => exact ⟨k + 1, by go_num, by omega, Hkr.out⟩
                case measure => simp [intOf]; omega
        · refine step_lit0 rfl rfl _ (Nat.le_refl _) (fun g16 w16 o16 m16 => ?_)
          have l16 := o16.lt g16 rfl
          have z16 := m16.size
          have B16 := below_lit B0 m16
          have p16 := ownsRow_base o16 B0.size
          refine hK.out _ _ (HS.out _ (Mod.of_below B16 _)) (fun hHeld => ?_)
          clear hK K
          (try simp only [Act.put, List.setIfInBounds_toArray, List.set_cons_zero, List.set_cons_succ])
          refine wpAnyH_ready (rs := [8]) (by kernel_rfl) (by simp) (AllReadyH.cons (o := ({ dst := some 31, op := Op.buildSlice 25 0 #[], type := 25, pos := "law.go:85", after := #[], guard := none } : Oper)) rfl (fun K hK => ?_) AllReadyH.nil)
          · refine step_lit0 rfl rfl _ (Nat.le_refl _) (fun g8 w8 o8 m8 => ?_)
            have l8 := o8.lt g8 rfl
            have z8 := m8.size
            have B8 := below_lit B16 m8
            have p16_8 := ownsRow_mod p16 m8 (fun _ _ h => h)
            have p8 := ownsRow_base o8 B16.size
            refine hK.out _ _ (HS.out _ (Mod.of_below B8 _)) (fun hHeld => ?_)
            clear hK K
            (try simp only [Act.put, List.setIfInBounds_toArray, List.set_cons_zero, List.set_cons_succ])
            refine wpAnyH_ready (rs := [15]) (by kernel_rfl) (by simp) (AllReadyH.cons (o := ({ dst := some 38, op := Op.call { callee := Callee.builtin Builtin.append, args := #[Operand.tmp 31, Operand.tmp 37], argTypes := #[25, 25] }, type := 25, pos := "law.go:85", after := #[{ on := 8, ground := Ground.data }, { on := 14, ground := Ground.data }], guard := none } : Oper)) rfl (fun K hK => ?_) AllReadyH.nil)
            · refine step_ints (Operand.tmp 31) (Operand.tmp 37) rfl rfl wr.heap.size B8.size g8 (by rfl) p8 pi ci nd.ins wr.heap.size (by rfl) ((hi.up bbel).below B8) (by omega) (fun g15 c15 w15 o15 r15 a15 => ?_)
              have l15 := o15.lt g15 rfl
              have z15 := r15.size
              have B15 := B8.grown r15 B8.size (fun q hq => by cases hq; exact (p8.lt g8 rfl).1)
              have p16_8_15 := ownsRow_mod p16_8 (Mod.of_grown r15) (fun q hq e => by simp [Value.ownBlock] at hq e; omega)
              refine hK.out _ _ (HS.out _ (Mod.of_below B15 _)) (fun hHeld => ?_)
              clear hK K
              (try simp only [Act.put, List.setIfInBounds_toArray, List.set_cons_zero, List.set_cons_succ])
              refine wpAnyH_ready (rs := [23]) (by kernel_rfl) (by simp) (AllReadyH.cons (o := ({ dst := some 46, op := Op.call { callee := Callee.builtin Builtin.append, args := #[Operand.tmp 39, Operand.tmp 45], argTypes := #[25, 25] }, type := 25, pos := "law.go:85", after := #[{ on := 16, ground := Ground.data }, { on := 22, ground := Ground.data }, { on := 15, ground := Ground.chain }], guard := none } : Oper)) rfl (fun K hK => ?_) AllReadyH.nil)
              · refine step_ints (Operand.tmp 39) (Operand.tmp 45) rfl rfl wr.heap.size B15.size g16 (by rfl) p16_8_15 pp cp nd.ps wr.heap.size (by rfl) ((hp.up bbel).below B15) (by omega) (fun g23 c23 w23 o23 r23 a23 => ?_)
                have l23 := o23.lt g23 rfl
                have z23 := r23.size
                have B23 := B15.grown r23 B15.size (fun q hq => by cases hq; exact (p16_8_15.lt g16 rfl).1)
                have o15_23 := ownsRow_mod o15 (Mod.of_grown r23) (fun q hq e => by simp [Value.ownBlock] at hq e; omega)
                refine hK.out _ _ (HS.out _ (Mod.of_below B23 _)) (fun hHeld => ?_)
                clear hK K
                (try simp only [Act.put, List.setIfInBounds_toArray, List.set_cons_zero, List.set_cons_succ])
                refine wpAnyH_take (i := 24) (oi := ({ dst := some 47, op := Op.build 27 #[(0, Operand.tmp 30), (1, Operand.tmp 38), (2, Operand.tmp 46)], type := 27, pos := "law.go:85", after := #[{ on := 7, ground := Ground.data }, { on := 15, ground := Ground.data }, { on := 23, ground := Ground.data }], guard := none } : Oper)) (v := ?_) rfl (by kernel_rfl) (by kernel_rfl) (by kernel_rfl) (fun _ _ _ h => h) (Or.inl ⟨by rfl, ?_⟩) hHeld ?_
                rotate_left
                · (intro w' hSw; (try dsimp only at hSw); go_simp; (try with_reducible rfl))
                (try simp only [Act.put, List.setIfInBounds_toArray, List.set_cons_zero, List.set_cons_succ])
                refine wpAnyH_ready (rs := [25]) (by kernel_rfl) (by simp) (AllReadyH.cons (o := ({ dst := some 48, op := Op.buildSlice 22 1 #[(0, Operand.tmp 47)], type := 22, pos := "law.go:85", after := #[{ on := 24, ground := Ground.data }], guard := none } : Oper)) rfl (fun K hK => ?_) AllReadyH.nil)
                refine step_lit1 rfl rfl (by rfl) (fun N25 w25 h25 m25 => ?_)
                have z25 := m25.size
                have B25 := below_lit B23 m25
                have q1 := ownsRow_mod o15_23 m25 (fun _ _ h => h)
                have q2 := ownsRow_mod o23 m25 (fun _ _ h => h)
                refine hK.out _ _ (HS.out _ (Mod.of_below B25 _)) (fun hHeld => ?_)
                clear hK K
                (try simp only [Act.put, List.setIfInBounds_toArray, List.set_cons_zero, List.set_cons_succ])
                refine wpAnyH_ready (rs := [26]) (by kernel_rfl) (by simp) (AllReadyH.cons (o := ({ dst := some 49, op := Op.call { callee := Callee.builtin Builtin.append, args := #[Operand.tmp 24, Operand.tmp 48], argTypes := #[22, 22] }, type := 22, pos := "law.go:85", after := #[{ on := 1, ground := Ground.data }, { on := 25, ground := Ground.data }, { on := 23, ground := Ground.chain }], guard := none } : Oper)) rfl (fun K hK => ?_) AllReadyH.nil)
                refine step_append_lies _ (by rfl) (Operand.tmp 24) (Operand.tmp 48) 22 (by rfl) (w.heap.size + 1) 27 iN zN 3 56 Try.underlying22 hiN hz0 hz1 hz2 hz3 (by omega) vn k xs (by rfl) (ownsRow_mod hrow (Mod.of_below B25 (fun _ => False)) (fun _ _ h => h)) ⟨N25, 0, none⟩ 1 1 [.int .i64 nd.op, .slice (some ⟨g15, 0, none⟩) nd.ins.length c15, .slice (some ⟨g23, 0, none⟩) nd.ps.length c23] (by rfl) (by rfl) (news_at h25 rfl) (by simp [Value.oneCell']) (by omega) (by unfold maxLen; omega) (by omega) (by omega) _ rfl ?_
                intro g26 c26 w26 o26 gr26 at26 lt26
                have S26 : Mod (fun q => vn.ownBlock = some q) wr w26 := (Mod.of_below B25 _).trans' (Mod.of_grown gr26)
                refine hK.out _ _ (HS.out _ S26) (fun hHeld => ?_)
                clear hK K
                (try simp only [Act.put, List.setIfInBounds_toArray, List.set_cons_zero, List.set_cons_succ])
                refine wpAnyH_take (i := 27) (oi := ({ dst := some 50, op := Op.fieldAddr 24 (Operand.tmp 3) 0, type := 0, pos := "law.go:85", after := #[{ on := 0, ground := Ground.phase }, { on := 1, ground := Ground.phase }, { on := 2, ground := Ground.phase }, { on := 3, ground := Ground.phase }, { on := 4, ground := Ground.phase }, { on := 5, ground := Ground.phase }, { on := 6, ground := Ground.phase }, { on := 7, ground := Ground.phase }, { on := 8, ground := Ground.phase }, { on := 9, ground := Ground.phase }, { on := 10, ground := Ground.phase }, { on := 11, ground := Ground.phase }, { on := 12, ground := Ground.phase }, { on := 13, ground := Ground.phase }, { on := 14, ground := Ground.phase }, { on := 15, ground := Ground.phase }, { on := 16, ground := Ground.phase }, { on := 17, ground := Ground.phase }, { on := 18, ground := Ground.phase }, { on := 19, ground := Ground.phase }, { on := 20, ground := Ground.phase }, { on := 21, ground := Ground.phase }, { on := 22, ground := Ground.phase }, { on := 23, ground := Ground.phase }, { on := 24, ground := Ground.phase }, { on := 25, ground := Ground.phase }, { on := 26, ground := Ground.phase }], guard := none } : Oper)) (v := ?_) rfl (by kernel_rfl) (by kernel_rfl) (by kernel_rfl) (fun _ _ _ h => h) (Or.inl ⟨by rfl, ?_⟩) hHeld ?_
                rotate_left
                · (intro w' hSw; (try dsimp only at hSw); go_simp; (try with_reducible rfl))
                (try simp only [Act.put, List.setIfInBounds_toArray, List.set_cons_zero, List.set_cons_succ])
                refine wpAnyH_take (i := 28) (oi := ({ dst := none, op := Op.assign (Operand.const (Value.bool true)), type := 0, pos := "law.go:85", after := #[{ on := 27, ground := Ground.data }, { on := 26, ground := Ground.data }, { on := 26, ground := Ground.chain }, { on := 0, ground := Ground.phase }, { on := 1, ground := Ground.phase }, { on := 2, ground := Ground.phase }, { on := 3, ground := Ground.phase }, { on := 4, ground := Ground.phase }, { on := 5, ground := Ground.phase }, { on := 6, ground := Ground.phase }, { on := 7, ground := Ground.phase }, { on := 8, ground := Ground.phase }, { on := 9, ground := Ground.phase }, { on := 10, ground := Ground.phase }, { on := 11, ground := Ground.phase }, { on := 12, ground := Ground.phase }, { on := 13, ground := Ground.phase }, { on := 14, ground := Ground.phase }, { on := 15, ground := Ground.phase }, { on := 16, ground := Ground.phase }, { on := 17, ground := Ground.phase }, { on := 18, ground := Ground.phase }, { on := 19, ground := Ground.phase }, { on := 20, ground := Ground.phase }, { on := 21, ground := Ground.phase }, { on := 22, ground := Ground.phase }, { on := 23, ground := Ground.phase }, { on := 24, ground := Ground.phase }, { on := 25, ground := Ground.phase }, { on := 26, ground := Ground.phase }], guard := none } : Oper)) (v := ?_) rfl (by kernel_rfl) (by kernel_rfl) (by kernel_rfl) (fun _ _ _ h => h) (Or.inl ⟨by rfl, ?_⟩) hHeld ?_
                rotate_left
                · (intro w' hSw; (try dsimp only at hSw); go_simp; (try with_reducible rfl))
                (try simp only [Act.put, List.setIfInBounds_toArray, List.set_cons_zero, List.set_cons_succ])
                refine wpAnyH_done (by kernel_rfl) ?_ _
                have hM0 := hHeld.2.2.1
                have hMf : w26.frozen? ⟨M, 0, none⟩ = false := by rw [S26.frozen (p := ⟨M, 0, none⟩) mhi hnm]; exact mfz
                clear hHeld
                refine deferQ_store (x := Operand.tmp 50) (y := Operand.tmp 49) (by rfl) (by rfl) (by rfl) (by rfl) hM0 hMf ?_
                have Hkr := Lib.hid (keep_step Hk0.out.1 Hk0.out.2.1 Hk0.out.2.2 hnm m0 m1 mfz mlo mhi Hsn.out B25 q1 q2 gr26 o26 at26 lt26)
                clear hM0 hMf at26 o26 gr26
                go_wp2_with fail
                go_roundw
                case rel => exact ⟨k + 1, by go_num, by omega, Hkr.out⟩
                case measure => simp [intOf]; omega
      · obtain rfl : k = g.nodes.length := by omega
        obtain ⟨pv, cv, rfl⟩ := ownsRow_form hrow
        have hgw := keep_gr hrow hcells
        have Hgw := Lib.hid hgw
        clear hcells hgw hkl hk
        go_wp2_with fail
        refine (check_any _ _ g (Hg.out.up bbel) Hwf.out).mono ?_
        rintro e w3 ⟨rfl, hb3⟩
        have d0 : w3.cell? ⟨w.heap.size, 0, none⟩ = some (.slice p g.nodes.length cap) := by rw [hb3.cell (p := ⟨w.heap.size, 0, none⟩) blt]; exact b0
        have d1 : w3.cell? ⟨w.heap.size, 1, none⟩ = some (.int .i64 g.out) := by rw [hb3.cell (p := ⟨w.heap.size, 1, none⟩) blt]; exact b1
        have d2 : w3.cell? ⟨M, 0, none⟩ = some (.slice pv g.nodes.length cv) := by rw [hb3.cell (p := ⟨M, 0, none⟩) mhi]; exact m0
        have d3 : w3.cell? ⟨M, 1, none⟩ = some (.int .i64 g.out) := by rw [hb3.cell (p := ⟨M, 1, none⟩) mhi]; exact m1
        have Hb3 := Lib.hid (later_below bbel hb3)
        have Hb3' := Lib.hid hb3
        clear hb3 b0 b1 m0 m1
        go_wp2_with fail
        refine (same_any _ _ _ g (Hg.out.up Hb3.out) (Hgw.out.up Hb3'.out) Hwf.out.insl Hwf.out.psl (by unfold maxLen; omega)).mono ?_
        rintro e w4 ⟨rfl, hb4⟩
        go_wp2_with fail
        go_ret
        exact ⟨rfl, later_below Hb3.out hb4⟩

end Go.Proofs.Ytfphlkoneocejaa
