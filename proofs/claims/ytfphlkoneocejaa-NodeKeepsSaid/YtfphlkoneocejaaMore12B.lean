/- NodeMore: the walk. -/
import Derived.Test.YtfphlkoneocejaaMore12A
import Derived.Test.YtfphlkoneocejaaArgs
import Derived.Test.YtfphlkoneocejaaGrow
import Derived.Deep.AppendLies
import Derived.Deep.RegionHeldLaw
import Derived.Deep.DeepCutAuto
import Derived.Deep.RegionHeld3
namespace Go.Proofs.Ytfphlkoneocejaa
open Go.RowKit Go.Gou

/-- Two boxes: a filter's, and a node's behind it. -/
structure NB (w : World) (x y a b c : Value) (wr : World) : Prop where
  box : BoxAt w x y wr
  n0 : wr.cell? ⟨w.heap.size + 1, 0, none⟩ = some a
  n1 : wr.cell? ⟨w.heap.size + 1, 1, none⟩ = some b
  n2 : wr.cell? ⟨w.heap.size + 1, 2, none⟩ = some c
  lt1 : w.heap.size + 1 < wr.heap.size

theorem NB.start (w : World) (x y a b c : Value) (T U : TypeId) : NB w x y a b c ((w.alloc (.cells #[x, y] T)).alloc (.cells #[a, b, c] U)) := by
  have h : w.heap.size + 1 = (w.alloc (.cells #[x, y] T)).heap.size := by simp
  refine ⟨(BoxAt.start w x y T).alloc _, ?_, ?_, ?_, by simp⟩
  · rw [h, World.cell?_alloc_new]; rfl
  · rw [h, World.cell?_alloc_new]; rfl
  · rw [h, World.cell?_alloc_new]; rfl

theorem NB.step {w : World} {x y a b c : Value} {wr w2 : World} (h : NB w x y a b c wr) (hb : Below wr.heap.size wr w2) : NB w x y a b c w2 :=
  ⟨h.box.step hb, by rw [hb.cell (p := ⟨w.heap.size + 1, 0, none⟩) h.lt1]; exact h.n0, by rw [hb.cell (p := ⟨w.heap.size + 1, 1, none⟩) h.lt1]; exact h.n1, by rw [hb.cell (p := ⟨w.heap.size + 1, 2, none⟩) h.lt1]; exact h.n2, Nat.lt_of_lt_of_le h.lt1 hb.size⟩

theorem NB.drewN {w : World} {x y a b c : Value} {wr : World} (h : NB w x y a b c wr) (m : Nat) : NB w x y a b c (wr.drewN m) := h.step (below_drewN (Below.refl _ _) m)

theorem few_len {g : Gr} (h : fewB g 255 = true) : g.nodes.length ≤ 255 := by
  simp only [fewB, Bool.and_eq_true, decide_eq_true_eq] at h
  have := h.1
  omega

theorem GrV.nodes {w : World} {x y : Value} {g : Gr} (h : GrV w (.agg #[x, y]) g) : NodesAt w.heap.size w x g.nodes := by
  obtain ⟨vn, he, hn⟩ := h
  simp only [Value.agg.injEq] at he
  have : x = vn := by
    have := congrArg (fun a : Array Value => a[0]?) he
    simpa using this
  rw [this]
  exact hn

theorem heap_drew (w : World) : w.drew.heap = w.heap := rfl

/-- What the region leaves: a filter in a box of its own, its nodes in a row of its own. -/
structure MoreR (wr : World) (l : Nat) (out : Int) (xs : List Value) (c : Value) (wx : World) : Prop where
  ex : ∃ N gb cp', c = .pointer (some ⟨N, 0, none⟩) ∧ wr.heap.size ≤ N ∧ N < wx.heap.size ∧ wx.cell? ⟨N, 0, none⟩ = some (.slice (some ⟨gb, 0, none⟩) (l + 1) cp') ∧
    wx.cell? ⟨N, 1, none⟩ = some (.int .i64 out) ∧ wx.ownsRow wr.heap.size 27 3 (.slice (some ⟨gb, 0, none⟩) (l + 1) cp') (l + 1) xs
  bel : Below wr.heap.size wr wx

theorem moreA {wr w2 : World} {l gb cp' : Nat} {out : Int} {xs : List Value} (hown : w2.ownsRow wr.heap.size 27 3 (.slice (some ⟨gb, 0, none⟩) (l + 1) cp') (l + 1) xs) (hb : Below wr.heap.size wr w2) (T : TypeId) :
    MoreR wr l out xs (.pointer (some ⟨w2.heap.size, 0, none⟩)) (w2.alloc (.cells #[.slice (some ⟨gb, 0, none⟩) (l + 1) cp', .int .i64 out] T)) :=
  ⟨⟨_, gb, cp', rfl, hb.size, by simp, by rw [World.cell?_alloc_new]; rfl, by rw [World.cell?_alloc_new]; rfl, hown.alloc _⟩, hb.alloc hb.size _⟩

theorem moreB {wr w2 : World} {l gb cp' N : Nat} {out : Int} {xs : List Value} {a b : Value} (hown : w2.ownsRow wr.heap.size 27 3 (.slice (some ⟨gb, 0, none⟩) (l + 1) cp') (l + 1) xs) (hb : Below wr.heap.size wr w2)
    (hz : w2.cell? ⟨N, 0, none⟩ = some a) (hy : w2.cell? ⟨N, 1, none⟩ = some b) (hN : wr.heap.size ≤ N) (hne : gb ≠ N) :
    MoreR wr l out xs (.pointer (some ⟨N, 0, none⟩)) ((w2.setCell ⟨N, 0, none⟩ (.slice (some ⟨gb, 0, none⟩) (l + 1) cp')).setCell ⟨N, 1, none⟩ (.int .i64 out)) := by
  have hlt : N < w2.heap.size := by
    rcases Nat.lt_or_ge N w2.heap.size with h | h
    · exact h
    · simp [World.cell?, Array.getElem?_eq_none h] at hz
  have hm : Mod (fun k => k = N) w2 ((w2.setCell ⟨N, 0, none⟩ (.slice (some ⟨gb, 0, none⟩) (l + 1) cp')).setCell ⟨N, 1, none⟩ (.int .i64 out)) := (Mod.setCell w2 ⟨N, 0, none⟩ _).trans' (Mod.setCell _ ⟨N, 1, none⟩ _)
  refine ⟨⟨N, gb, cp', rfl, hN, Nat.lt_of_lt_of_le hlt hm.size, ?_, ?_, ?_⟩, (hb.setCell hN _).setCell hN _⟩
  · go_simp
  · go_simp
  · exact ownsRow_mod hown hm fun k hk => by
      simp [Value.ownBlock] at hk
      omega

theorem grMore_wf {g : Gr} {n : GNode} (h : GrWf g) (hn : NodeWf n) (hl : g.nodes.length + 1 ≤ maxLen) : GrWf (grMore g n) :=
  ⟨fun m hm => by
      rcases List.mem_append.1 hm with h1 | h1
      · exact h.op m h1
      · rw [List.mem_singleton.1 h1]; exact hn.op,
    fun m hm => by
      rcases List.mem_append.1 hm with h1 | h1
      · exact h.ins m h1
      · rw [List.mem_singleton.1 h1]; exact hn.ins,
    fun m hm => by
      rcases List.mem_append.1 hm with h1 | h1
      · exact h.ps m h1
      · rw [List.mem_singleton.1 h1]; exact hn.ps,
    h.out,
    fun m hm => by
      rcases List.mem_append.1 hm with h1 | h1
      · exact h.insl m h1
      · rw [List.mem_singleton.1 h1]; exact hn.insl,
    fun m hm => by
      rcases List.mem_append.1 hm with h1 | h1
      · exact h.psl m h1
      · rw [List.mem_singleton.1 h1]; exact hn.psl,
    by rw [grMore_len]; exact hl⟩

theorem NodeV.up {w w1 : World} {v : Value} {n : GNode} (h : NodeV w v n) (hb : Below w.heap.size w w1) : NodeV w1 v n := by
  obtain ⟨vi, vp, rfl, h1, h2⟩ := h
  exact ⟨vi, vp, rfl, h1.up hb, h2.up hb⟩

theorem box_at {w : World} {g : Nat} {a b : Value} {T : TypeId} (h : w.heap[g]? = some (.cells #[a, b] T (0, 0))) :
    w.cell? ⟨g, 0, none⟩ = some a ∧ w.cell? ⟨g, 1, none⟩ = some b ∧ w.frozen? ⟨g, 0, none⟩ = false ∧ w.frozen? ⟨g, 1, none⟩ = false :=
  ⟨by rw [cell_of_row w g 0 _ _ _ h]; rfl, by rw [cell_of_row w g 1 _ _ _ h]; rfl, by simp [World.frozen?, h], by simp [World.frozen?, h]⟩

theorem box_then {G : Prop} {w : World} {g : Nat} {a b : Value} {T : TypeId} (h : w.heap[g]? = some (.cells #[a, b] T (0, 0))) (k : w.cell? ⟨g, 0, none⟩ = some a → w.cell? ⟨g, 1, none⟩ = some b → w.frozen? ⟨g, 0, none⟩ = false → w.frozen? ⟨g, 1, none⟩ = false → G) : G :=
  k (box_at h).1 (box_at h).2.1 (box_at h).2.2.1 (box_at h).2.2.2

theorem info_node : (Try.prog.info? 27).map (fun i => (i.zero.map (fun z => z.cells.size), i.size, i.bytes)) = some (some 3, 3, 56) := by kernel_rfl

theorem info_nodes : ∃ i z, Try.prog.info? 27 = some i ∧ i.zero = some z ∧ i.size = 3 ∧ i.bytes = 56 ∧ z.cells.size = 3 := by
  have h := info_node
  cases hi : Try.prog.info? 27 with
  | none => rw [hi] at h; simp at h
  | some i =>
    rw [hi] at h
    simp only [Option.map_some, Option.some.injEq, Prod.mk.injEq] at h
    obtain ⟨h1, h2, h3⟩ := h
    cases hz : i.zero with
    | none => rw [hz] at h1; simp at h1
    | some z =>
      rw [hz] at h1
      simp only [Option.map_some, Option.some.injEq] at h1
      exact ⟨i, z, rfl, hz, h2, h3, h1⟩

set_option maxHeartbeats 8000000 in
theorem nodeMore_law (w : World) (v : Value) (g : Gr) (hg : GrV w v g) (hwf : GrWf g) (v2 : Value) (n : GNode) (hn : NodeV w v2 n) (hnwf : NodeWf n) :
    Calls Try.prog 3 #[v, v2] w fun e w' => e = .returned (.bool true) ∧ Below w.heap.size w w' := by
  have Hg := Lib.hid hg
  have Hwf := Lib.hid hwf
  have Hn := Lib.hid hn
  have Hnwf := Lib.hid hnwf
  obtain ⟨p, cap, rfl⟩ := hg.form
  obtain ⟨vi, vp, rfl, hins, hps⟩ := hn
  obtain ⟨pi, ci, rfl⟩ := hins.len
  obtain ⟨pp, cp, rfl⟩ := hps.len
  have hli := hnwf.insl
  have hlp := hnwf.psl
  have hl := hwf.len
  unfold maxLen at hli hlp hl
  have Hins := Lib.hid hins
  have Hps := Lib.hid hps
  have Hnb := Lib.hid (NB.start w (.slice p g.nodes.length cap) (.int .i64 g.out) (.int .i64 n.op) (.slice pi n.ins.length ci) (.slice pp n.ps.length cp) 24 27)
  clear hg hwf hnwf hins hps
  go_enter Try.func3, Try.ntmps3
  go_wp2_with fail
  refine (awake_any _).mono ?_
  rintro e w1 ⟨rfl, hb1⟩
  have Hnb1 := Lib.hid (Hnb.out.step hb1)
  obtain ⟨⟨c0, c1, lt, _⟩, n0, n1, n2, lt1⟩ := Hnb1.out
  clear hb1 Hnb
  cases hf : fewB g 255 with
  | false =>
    go_wp2_with fail
    refine (few_any _ _ g 255 (Hg.out.up Hnb1.out.box.bel) Hwf.out).mono ?_
    rintro e w2 ⟨rfl, hb2⟩
    rw [hf]
    have Hnb2 := Lib.hid (Hnb1.out.step hb2)
    clear hb2 c0 c1 lt n0 n1 n2 lt1 hf
    go_wp2_with fail
    refine (awake_any _).mono ?_
    rintro e w3 ⟨rfl, hb3⟩
    go_wp2_with fail
    go_ret
    exact ⟨rfl, (Hnb2.out.step hb3).box.bel⟩
  | true =>
    have Hf := Lib.hid hf
    go_wp2_with fail
    refine (few_any _ _ g 255 (Hg.out.up Hnb1.out.box.bel) Hwf.out).mono ?_
    rintro e w2 ⟨rfl, hb2⟩
    rw [hf]
    have Hnb2 := Lib.hid (Hnb1.out.step hb2)
    clear hb2 c0 c1 lt n0 n1 n2 lt1 hf Hnb1
    obtain ⟨⟨c0, c1, lt, _⟩, n0, n1, n2, lt1⟩ := Hnb2.out
    by_cases h50 : n.ins.length ≤ 50
    case neg =>
      go_wp2_with fail
      refine (awake_any _).mono ?_
      rintro e w3 ⟨rfl, hb3⟩
      go_wp2_with fail
      go_ret
      exact ⟨rfl, (Hnb2.out.step hb3).box.bel⟩
    by_cases hp50 : n.ps.length ≤ 50
    case neg =>
      go_wp2_with fail
      refine (awake_any _).mono ?_
      rintro e w3 ⟨rfl, hb3⟩
      go_wp2_with fail
      go_ret
      exact ⟨rfl, (Hnb2.out.step hb3).box.bel⟩
    by_cases hc : checkS g = 0
    case neg =>
      have hne : (checkS g != 0) = true := by rw [bne_iff_ne]; exact hc
      go_wp2_with fail
      refine (check_any _ _ g (Hg.out.up Hnb2.out.box.bel) Hwf.out).mono ?_
      rintro e w3 ⟨rfl, hb3⟩
      have Hnb3 := Lib.hid (Hnb2.out.step hb3)
      clear hb3 c0 c1 lt n0 n1 n2 lt1 hc
      go_wp2_with fail
      refine (awake_any _).mono ?_
      rintro e w4 ⟨rfl, hb4⟩
      go_wp2_with fail
      go_ret
      exact ⟨rfl, (Hnb3.out.step hb4).box.bel⟩
    go_wp2_with fail
    refine (check_any _ _ g (Hg.out.up Hnb2.out.box.bel) Hwf.out).mono ?_
    rintro e w3 ⟨rfl, hb3⟩
    rw [hc]
    have Ht := Lib.hid (taken_of hc)
    have Hnb3 := Lib.hid (Hnb2.out.step hb3)
    clear hb3 c0 c1 lt n0 n1 n2 lt1 hc Hnb2
    obtain ⟨⟨c0, c1, lt, _⟩, n0, n1, n2, lt1⟩ := Hnb3.out
    go_wp2_with fail
    go_loopw [5] (fun c wr => ∃ k : Nat, c = .int .i64 k ∧ k ≤ n.ins.length ∧ (∀ j, j < k → n.ins.getD j 0 ≠ (g.nodes.length : Int)) ∧ NB w (.slice p g.nodes.length cap) (.int .i64 g.out) (.int .i64 n.op) (.slice pi n.ins.length ci) (.slice pp n.ps.length cp) wr) (fun c _ => n.ins.length - (intOf c).toNat)
    case atStart => exact ⟨0, rfl, Nat.zero_le _, fun _ h => by omega, Hnb3.out⟩
    case round =>
      obtain ⟨k, rfl, hk, hno, hnb⟩ := hrel
      clear c0 c1 lt n0 n1 n2 lt1 Hnb3
      have Hnb4 := Lib.hid hnb
      have Hno := Lib.hid hno
      obtain ⟨⟨c0, c1, lt, hbel⟩, n0, n1, n2, lt1⟩ := hnb
      clear hno
      by_cases hkl : k < n.ins.length
      · obtain ⟨bi, oi, ci', hvi, _, hbi, hci⟩ := ints_cells Hins.out (by omega)
        simp only [Value.slice.injEq, true_and] at hvi
        obtain ⟨rfl, rfl⟩ := hvi
        have hx := hci k hkl
        rw [← hbel.cell (p := ⟨bi, oi + k, none⟩) hbi] at hx
        have hkI : (k : Int) < (n.ins.length : Int) := by omega
        have hk0 : (0 : Int) ≤ (k : Int) := by omega
        clear hci hbel
        generalize hxe : n.ins.getD k 0 = x at *
        by_cases he : x = (g.nodes.length : Int)
        · have e1 : (x == (g.nodes.length : Int)) = true := by rw [he]; simp
          clear hxe he
          go_wp2_with fail
          go_quiet (fail)
          go_wp2_with fail
          go_ret
          exact ⟨rfl, (Hnb4.out.drewN _).box.bel⟩
        · have e1 : (x == (g.nodes.length : Int)) = false := beq_eq_false_iff_ne.2 he
          have Hno2 : Hid (∀ j, j < k + 1 → n.ins.getD j 0 ≠ (g.nodes.length : Int)) := fun j hj => by
            by_cases e : j = k
            · rw [e, hxe]; exact he
            · exact Hno.out j (by omega)
          clear hxe he
          go_wp2_with fail
          go_quiet (fail)
          go_wp2_with fail
          go_roundw
          case rel => exact ⟨k + 1, by go_num, by omega, Hno2.out, Hnb4.out.drewN _⟩
          case measure => simp [intOf]; omega
      · obtain rfl : k = n.ins.length := by omega
        have Hnm : Hid ((g.nodes.length : Int) ∉ n.ins) := fun hm => by
          obtain ⟨j, hj, he⟩ := List.getElem_of_mem hm
          exact Hno.out j hj (by simp [List.getD, hj, he])
        clear hbel
        go_wp2_with fail
        have hpos := Ht.out.pos
        have hl255 : g.nodes.length ≤ 255 := few_len Hf.out
        obtain ⟨b, o, rfl, hbB, cs, Hcs, hcs, hcs1⟩ := nodes_cells ((Hg.out.up Hnb4.out.box.bel).nodes) hpos
        have HS : Hid (∀ w', Below wr.heap.size wr w' → (Below wr.heap.size wr w' ∧ w'.cell? ⟨w.heap.size, 0, none⟩ = some (.slice (some ⟨b, o, none⟩) g.nodes.length cap) ∧ w'.cell? ⟨w.heap.size, 1, none⟩ = some (.int .i64 g.out) ∧
            w'.cell? ⟨w.heap.size + 1, 0, none⟩ = some (.int .i64 n.op) ∧ w'.cell? ⟨w.heap.size + 1, 1, none⟩ = some (.slice pi n.ins.length ci) ∧ w'.cell? ⟨w.heap.size + 1, 2, none⟩ = some (.slice pp n.ps.length cp))) := fun w' hb =>
          ⟨hb, by rw [hb.cell (p := ⟨w.heap.size, 0, none⟩) lt]; exact c0, by rw [hb.cell (p := ⟨w.heap.size, 1, none⟩) lt]; exact c1, by rw [hb.cell (p := ⟨w.heap.size + 1, 0, none⟩) lt1]; exact n0,
            by rw [hb.cell (p := ⟨w.heap.size + 1, 1, none⟩) lt1]; exact n1, by rw [hb.cell (p := ⟨w.heap.size + 1, 2, none⟩) lt1]; exact n2⟩
        obtain ⟨iN, zN, hi, hz0, hz1, hz2, hz3⟩ := info_nodes
        go_cut [6] (fun c wx => MoreR wr g.nodes.length g.out (cs ++ [.int .i64 n.op, .slice pi n.ins.length ci, .slice pp n.ps.length cp]) c wx)
        case first =>
          clear Hg Hins Hps Hnwf Hnb4 Hn Hwf Hno Hnm Ht Hf
          go_region_held_law (fun w' => Below wr.heap.size wr w' ∧ w'.cell? ⟨w.heap.size, 0, none⟩ = some (.slice (some ⟨b, o, none⟩) g.nodes.length cap) ∧ w'.cell? ⟨w.heap.size, 1, none⟩ = some (.int .i64 g.out) ∧
            w'.cell? ⟨w.heap.size + 1, 0, none⟩ = some (.int .i64 n.op) ∧ w'.cell? ⟨w.heap.size + 1, 1, none⟩ = some (.slice pi n.ins.length ci) ∧ w'.cell? ⟨w.heap.size + 1, 2, none⟩ = some (.slice pp n.ps.length cp))
            (exact HS.out _ (by first | exact (Below.refl _ _).drew | exact (‹Below wr.heap.size wr _ ∧ _›).1.alloc (‹Below wr.heap.size wr _ ∧ _›).1.size _ | exact hB2 | exact hB2.alloc hB2.size _ | exact (hB2.setCell (by simp <;> omega) _).setCell (by simp <;> omega) _ | exact hB1))
            (first
              | ((refine step_append_lies _ (by rfl) _ _ _ (by rfl) wr.heap.size 27 iN zN 3 56 Try.underlying22 hi hz0 hz1 hz2 hz3 (by omega) _ 0 [] (by rfl) (own_at (cs := #[]) (by first | ((iterate 6 (try (first | rw [heap_drew] | (refine Eq.trans (Below.heap_alloc _ _ _ ?_) ?_; (focus ((try simp only [World.size_drew, World.size_alloc]) <;> omega))) | (refine Eq.trans (World.grownBy.block ‹World.grownBy _ _ _› _ ?_ ?_) ?_; (focus ((try simp only [World.size_drew, World.size_alloc]) <;> omega)); (focus ((simp [Value.ownBlock]) <;> omega))) | fail))); refine heap_at ?_; ((try simp only [World.size_drew, World.size_alloc]) <;> omega)) | fail) (by omega) (by unfold maxLen; omega) (by rfl)) ⟨b, o, none⟩ g.nodes.length cap cs (by rfl) Hcs.1 (news_below (‹Below wr.heap.size wr _ ∧ _›).1 hbB hcs) hcs1 hpos (by unfold maxLen; omega) (by omega) (‹Below wr.heap.size wr _ ∧ _›).1.size _ rfl ?_; intro g1 cap1 w1 hown1 hgrow1 hat1 hlt1; simp only [Nat.zero_add, List.nil_append] at hown1 ⊢; (simp [Value.ownBlock] at hat1); have hsz1 := hgrow1.size; (try simp only [World.size_drew, World.size_alloc] at hsz1); have hg1 := (hown1.lt g1 rfl).1; have hB1 : Below wr.heap.size wr w1 := (by refine (‹Below wr.heap.size wr _ ∧ _›).1.grown hgrow1 (‹Below wr.heap.size wr _ ∧ _›).1.size ?_; simp [Value.ownBlock]; try omega)))
              | ((refine step_append_lies _ (by rfl) _ _ _ (by rfl) wr.heap.size 27 iN zN 3 56 Try.underlying22 hi hz0 hz1 hz2 hz3 (by omega) (.slice (some ⟨g1, 0, none⟩) g.nodes.length cap1) g.nodes.length cs (by rfl) (by first | exact hown1 | exact hown1.alloc _ | exact (hown1.alloc _).alloc _) ⟨_, 0, none⟩ 1 1 [.int .i64 n.op, .slice pi n.ins.length ci, .slice pp n.ps.length cp] (by rfl) (by rfl) (news_at (cs := #[.int .i64 n.op, .slice pi n.ins.length ci, .slice pp n.ps.length cp]) (t := 27) (fr := (0, 0)) (by first | ((iterate 6 (try (first | rw [heap_drew] | (refine Eq.trans (Below.heap_alloc _ _ _ ?_) ?_; (focus ((try simp only [World.size_drew, World.size_alloc]) <;> omega))) | (refine Eq.trans (World.grownBy.block ‹World.grownBy _ _ _› _ ?_ ?_) ?_; (focus ((try simp only [World.size_drew, World.size_alloc]) <;> omega)); (focus ((simp [Value.ownBlock]) <;> omega))) | fail))); refine heap_at ?_; ((try simp only [World.size_drew, World.size_alloc]) <;> omega)) | fail) rfl) (by simp [Value.oneCell']) (by omega) (by unfold maxLen; omega) (by omega) (‹Below wr.heap.size wr _ ∧ _›).1.size _ rfl ?_; intro g2 cap2 w2 hown2 hgrow2 hat2 hlt2; (simp [Value.ownBlock] at hat2); have hsz2 := hgrow2.size; (try simp only [World.size_drew, World.size_alloc] at hsz2); have hg2 := (hown2.lt g2 rfl).1; have hB2 : Below wr.heap.size wr w2 := (by refine (‹Below wr.heap.size wr _ ∧ _›).1.grown hgrow2 (‹Below wr.heap.size wr _ ∧ _›).1.size ?_; simp [Value.ownBlock]; try omega); (try (refine box_then (w := w2) (g := w1.heap.size) (a := .slice none 0 0) (b := .int .i64 0) (T := 24) ?_ ?_; (focus ((iterate 6 (try (first | rw [heap_drew] | (refine Eq.trans (Below.heap_alloc _ _ _ ?_) ?_; (focus ((try simp only [World.size_drew, World.size_alloc]) <;> omega))) | (refine Eq.trans (World.grownBy.block ‹World.grownBy _ _ _› _ ?_ ?_) ?_; (focus ((try simp only [World.size_drew, World.size_alloc]) <;> omega)); (focus ((simp [Value.ownBlock]) <;> omega))) | fail))); refine heap_at ?_; ((try simp only [World.size_drew, World.size_alloc]) <;> omega))); intro hz4 hy4 hx4 hv4)); (try (refine box_then (w := w2) (g := w1.heap.size + 1) (a := .slice none 0 0) (b := .int .i64 0) (T := 24) ?_ ?_; (focus ((iterate 6 (try (first | rw [heap_drew] | (refine Eq.trans (Below.heap_alloc _ _ _ ?_) ?_; (focus ((try simp only [World.size_drew, World.size_alloc]) <;> omega))) | (refine Eq.trans (World.grownBy.block ‹World.grownBy _ _ _› _ ?_ ?_) ?_; (focus ((try simp only [World.size_drew, World.size_alloc]) <;> omega)); (focus ((simp [Value.ownBlock]) <;> omega))) | fail))); refine heap_at ?_; ((try simp only [World.size_drew, World.size_alloc]) <;> omega))); intro hz5 hy5 hx5 hv5)); (try (refine box_then (w := w2) (g := wr.heap.size) (a := .slice none 0 0) (b := .int .i64 0) (T := 24) ?_ ?_; (focus ((iterate 6 (try (first | rw [heap_drew] | (refine Eq.trans (Below.heap_alloc _ _ _ ?_) ?_; (focus ((try simp only [World.size_drew, World.size_alloc]) <;> omega))) | (refine Eq.trans (World.grownBy.block ‹World.grownBy _ _ _› _ ?_ ?_) ?_; (focus ((try simp only [World.size_drew, World.size_alloc]) <;> omega)); (focus ((simp [Value.ownBlock]) <;> omega))) | fail))); refine heap_at ?_; ((try simp only [World.size_drew, World.size_alloc]) <;> omega))); intro hz0 hy0 hx0 hv0)); (try (refine box_then (w := w2) (g := wr.heap.size + 1) (a := .slice none 0 0) (b := .int .i64 0) (T := 24) ?_ ?_; (focus ((iterate 6 (try (first | rw [heap_drew] | (refine Eq.trans (Below.heap_alloc _ _ _ ?_) ?_; (focus ((try simp only [World.size_drew, World.size_alloc]) <;> omega))) | (refine Eq.trans (World.grownBy.block ‹World.grownBy _ _ _› _ ?_ ?_) ?_; (focus ((try simp only [World.size_drew, World.size_alloc]) <;> omega)); (focus ((simp [Value.ownBlock]) <;> omega))) | fail))); refine heap_at ?_; ((try simp only [World.size_drew, World.size_alloc]) <;> omega))); intro hz1 hy1 hx1 hv1)); (try (refine box_then (w := w2) (g := wr.heap.size + 2) (a := .slice none 0 0) (b := .int .i64 0) (T := 24) ?_ ?_; (focus ((iterate 6 (try (first | rw [heap_drew] | (refine Eq.trans (Below.heap_alloc _ _ _ ?_) ?_; (focus ((try simp only [World.size_drew, World.size_alloc]) <;> omega))) | (refine Eq.trans (World.grownBy.block ‹World.grownBy _ _ _› _ ?_ ?_) ?_; (focus ((try simp only [World.size_drew, World.size_alloc]) <;> omega)); (focus ((simp [Value.ownBlock]) <;> omega))) | fail))); refine heap_at ?_; ((try simp only [World.size_drew, World.size_alloc]) <;> omega))); intro hz2 hy2 hx2 hv2)); (try (refine box_then (w := w2) (g := wr.heap.size + 3) (a := .slice none 0 0) (b := .int .i64 0) (T := 24) ?_ ?_; (focus ((iterate 6 (try (first | rw [heap_drew] | (refine Eq.trans (Below.heap_alloc _ _ _ ?_) ?_; (focus ((try simp only [World.size_drew, World.size_alloc]) <;> omega))) | (refine Eq.trans (World.grownBy.block ‹World.grownBy _ _ _› _ ?_ ?_) ?_; (focus ((try simp only [World.size_drew, World.size_alloc]) <;> omega)); (focus ((simp [Value.ownBlock]) <;> omega))) | fail))); refine heap_at ?_; ((try simp only [World.size_drew, World.size_alloc]) <;> omega))); intro hz3 hy3 hx3 hv3))))
              | fail)
          all_goals (go_wp2_with fail; go_meet; first | exact moreA hown2 hB2 _ | exact moreB hown2 hB2 (by assumption) (by assumption) (by omega) (by omega))
        case rest =>
          obtain ⟨⟨N, gb, cp', rfl, hN, hNlt, hm0, hm1, hown⟩, hbc⟩ := hcut
          have Hnb5 := Lib.hid (Hnb4.out.step hbc)
          have hw : wc.heap.size = wc.heap.size := rfl
          have Hcs2 := ((Hcs.below hbc).mono hbc.size).snoc n (.slice pi n.ins.length ci) (.slice pp n.ps.length cp) (Hins.out.up (Hnb4.out.step hbc).box.bel) (Hps.out.up (Hnb4.out.step hbc).box.bel)
          have Hgm : Hid (GrV wc (.agg #[.slice (some ⟨gb, 0, none⟩) (g.nodes.length + 1) cp', .int .i64 g.out]) (grMore g n)) := by
            refine ⟨_, rfl, ?_⟩
            have hl1 : (g.nodes ++ [n]).length = g.nodes.length + 1 := by simp
            have := NodesAt.of_cells (o := 0) (cap := cp') Hcs2 (hown.lt gb rfl).2 (by rw [hl1]; exact ownsRow_cap hown) (fun j hj => by rw [Nat.zero_add]; exact hown.cellAt j (by rw [hl1] at hj; exact hj))
            rw [hl1] at this
            exact this
          have Hnv : Hid (NodeV wc (.agg #[.int .i64 n.op, .slice pi n.ins.length ci, .slice pp n.ps.length cp]) n) := ⟨_, _, rfl, Hins.out.up (Hnb4.out.step hbc).box.bel, Hps.out.up (Hnb4.out.step hbc).box.bel⟩
          have Hgwf : Hid (GrWf (grMore g n)) := grMore_wf Hwf.out Hnwf.out (by unfold maxLen; omega)
          have Hres := Lib.hid (checkS_more g n Ht.out hl255 Hnm.out)
          obtain ⟨_, n0, n1, n2, lt1⟩ := Hnb5.out
          clear Hcs2 Hnb4 hown
          have Hchk : Hid (∀ w', Below wc.heap.size wc w' → Calls Try.prog 8 #[.agg #[.slice (some ⟨gb, 0, none⟩) (g.nodes.length + 1) cp', .int .i64 g.out]] w' fun e w2 => e = .returned (.int .i64 (oneS n (g.nodes.length + 1 : Nat))) ∧ Below w'.heap.size w' w2) := fun w' hb => by
            rw [← Hres.out]
            exact check_any _ _ (grMore g n) (Hgm.out.up hb) Hgwf.out
          have Hone : Hid (∀ w', Below wc.heap.size wc w' → Calls Try.prog 9 #[.agg #[.int .i64 n.op, .slice pi n.ins.length ci, .slice pp n.ps.length cp], .int .i64 (g.nodes.length + 1 : Nat)] w' fun e w2 => e = .returned (.int .i64 (oneS n (g.nodes.length + 1 : Nat))) ∧ Below w'.heap.size w' w2) := fun w' hb =>
            one_any _ _ n _ (Hnv.out.up hb) Hnwf.out.insl Hnwf.out.psl
          clear Hcs hcs1 HS hz0 hz1 hz2 hz3 c0 c1 lt Hg Hn Hins Hps Hno Hnm Ht Hf Hgm Hnv Hgwf Hres Hwf Hnwf
          generalize oneS n (g.nodes.length + 1 : Nat) = r at *
          go_wp2_with fail
          go_region_held3 (fun w' => Below wc.heap.size wc w' ∧ w'.cell? ⟨N, 0, none⟩ = some (.slice (some ⟨gb, 0, none⟩) (g.nodes.length + 1) cp') ∧ w'.cell? ⟨N, 1, none⟩ = some (.int .i64 g.out) ∧
            w'.cell? ⟨w.heap.size + 1, 0, none⟩ = some (.int .i64 n.op) ∧ w'.cell? ⟨w.heap.size + 1, 1, none⟩ = some (.slice pi n.ins.length ci) ∧ w'.cell? ⟨w.heap.size + 1, 2, none⟩ = some (.slice pp n.ps.length cp))
            (first | exact ⟨(Below.refl _ _).drew, hm0, hm1, n0, n1, n2⟩ | (obtain ⟨g0, g1, g2, g3, g4, g5⟩ := ‹Below wc.heap.size wc _ ∧ _›; exact ⟨later_below g0 hb3, (later_cell g0 hb3 hNlt g1), (later_cell g0 hb3 hNlt g2), (later_cell g0 hb3 lt1 g3), (later_cell g0 hb3 lt1 g4), (later_cell g0 hb3 lt1 g5)⟩))
            (first | (go_at_call 8; refine (Hchk.out _ (by (first | exact (‹Below wc.heap.size wc _ ∧ _›).1 | exact (Below.refl _ _).drew))).mono ?_; rintro e w3 ⟨rfl, hb3⟩) | (go_at_call 9; refine (Hone.out _ (by (first | exact (‹Below wc.heap.size wc _ ∧ _›).1 | exact (Below.refl _ _).drew))).mono ?_; rintro e w3 ⟨rfl, hb3⟩))
          all_goals
            go_wp2
            go_ret
            exact ⟨by simp, (Hnb5.out.step (‹Below wc.heap.size wc _ ∧ _›).1).box.bel⟩

end Go.Proofs.Ytfphlkoneocejaa
