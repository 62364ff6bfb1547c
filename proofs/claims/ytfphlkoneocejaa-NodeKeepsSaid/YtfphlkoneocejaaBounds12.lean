/- NodeBounds: whatever filter is handed in, the law answers true. -/
import Derived.Test.YtfphlkoneocejaaLaw12
namespace Go.Proofs.Ytfphlkoneocejaa
open Go.RowKit Go.Gou

/-- What a filter is like that is taken. -/
structure Taken (g : Gr) : Prop where
  pos : 0 < g.nodes.length
  few : g.nodes.length ≤ 256
  one : ∀ n ∈ g.nodes, oneS n g.nodes.length = 0
  out0 : 0 ≤ g.out
  out1 : g.out < g.nodes.length
  round : roundB g = false

theorem taken_of {g : Gr} (h : checkS g = 0) : Taken g := by
  unfold checkS at h
  split at h
  · omega
  · rename_i h1
    split at h
    · rename_i h2
      exact absurd h h2
    · rename_i h2
      split at h
      · omega
      · rename_i h3
        split at h
        · omega
        · rename_i h4
          exact ⟨by omega, by omega, firstBad_zero (Classical.not_not.1 h2), by omega, by omega, by simpa using h4⟩

theorem taken_mk {g : Gr} (h : Taken g) : checkS g = 0 := by
  have hf : ∀ (l : List GNode), (∀ n ∈ l, oneS n g.nodes.length = 0) → firstBad g.nodes.length l = 0 := by
    intro l
    induction l with
    | nil => intro _; rfl
    | cons a l ih =>
      intro hl
      unfold firstBad
      rw [if_pos (hl a (by simp))]
      exact ih fun n hn => hl n (by simp [hn])
  have h1 := h.pos
  have h2 := h.few
  have h3 := h.out0
  have h4 := h.out1
  unfold checkS
  rw [if_neg (by omega), if_neg (by rw [hf _ h.one]; simp), if_neg (by omega), if_neg (by rw [h.round]; simp)]

theorem no_self {G : List (List Nat)} {i : Nat} (h : Done G i) : i ∉ G.getD i [] := by
  induction h with
  | mk i hi hk ih =>
    intro hm
    have hm' : i ∈ G[i] := by simpa [List.getD, hi] using hm
    exact ih i hm' (by simpa [List.getD, hi] using hm')

theorem Taken.done {g : Gr} (h : Taken g) (i : Nat) (hi : i < g.nodes.length) : Done (insN g) i := by
  have := h.round
  simp only [roundB, decide_eq_false_iff_not, not_exists, not_and, Classical.not_not] at this
  exact this i hi

theorem Taken.input {g : Gr} (h : Taken g) (i : Nat) (hi : i < g.nodes.length) (x : Int) (hx : x ∈ g.nodes[i].ins) : -1 ≤ x ∧ x < g.nodes.length ∧ x ≠ i := by
  have h1 := (oneS_zero (h.one _ (List.getElem_mem hi))).2.2.1
  rw [List.all_eq_true] at h1
  have h2 := h1 x hx
  simp only [withinB, Bool.and_eq_true, decide_eq_true_eq] at h2
  refine ⟨h2.1, by omega, fun e => ?_⟩
  subst e
  refine no_self (h.done i hi) ?_
  rw [insN_mem g i hi, insG_get g i hi]
  exact ((insL_nodup _ _).2 _).2 ⟨hx, by omega, by omega⟩

/-- A node of a filter: where it lies, and its cells. -/
theorem gr_node {w : World} {p : Option Addr} {n cap : Nat} {q : Value} {g : Gr} (hg : GrV w (.agg #[.slice p n cap, q]) g) (i : Nat) (hi : i < g.nodes.length) :
    ∃ b o, p = some ⟨b, o, none⟩ ∧ b < w.heap.size ∧ ∃ vi vp, w.cell? ⟨b, o + i * 3, none⟩ = some (.int .i64 g.nodes[i].op) ∧ w.cell? ⟨b, o + i * 3 + 1, none⟩ = some vi ∧ w.cell? ⟨b, o + i * 3 + 2, none⟩ = some vp ∧
      IntsAt w.heap.size w vi g.nodes[i].ins ∧ IntsAt w.heap.size w vp g.nodes[i].ps := by
  obtain ⟨vn, hvn, p', cap', hp', _, hp⟩ := hg
  simp only [Value.agg.injEq, Array.mk.injEq, List.cons.injEq, and_true] at hvn
  obtain ⟨rfl, _⟩ := hvn
  simp only [Value.slice.injEq] at hp'
  obtain ⟨rfl, _, rfl⟩ := hp'
  rcases hp with hp | ⟨b, o, rfl, hb, hc⟩
  · rw [hp] at hi; simp at hi
  · obtain ⟨vi, vp, h⟩ := hc i hi
    exact ⟨b, o, rfl, hb, vi, vp, h⟩

set_option maxRecDepth 100000 in
set_option maxHeartbeats 4000000 in
theorem nodeBounds_law (w : World) (v : Value) (g : Gr) (hg : GrV w v g) (hwf : GrWf g) :
    Calls Try.prog 5 #[v] w fun e w' => e = .returned (.bool true) ∧ Below w.heap.size w w' := by
  have Hg := Lib.hid hg
  have Hwf := Lib.hid hwf
  obtain ⟨p, cap, rfl⟩ := hg.form
  clear hg hwf
  have hbox := BoxAt.start w (.slice p g.nodes.length cap) (.int .i64 g.out) 24
  have Hbox := Lib.hid hbox
  clear hbox
  have hl := Hwf.out.len
  unfold maxLen at hl
  go_enter Try.func5, Try.ntmps5
  go_wp2_with fail
  refine (awake_any _).mono ?_
  rintro e w1 ⟨rfl, hb1⟩
  have hbox := Hbox.out.step hb1
  have Hbox1 := Lib.hid hbox
  obtain ⟨c0, c1, lt, _⟩ := hbox
  clear hb1 Hbox
  cases hf : fewB g 300 with
  | false =>
    go_wp2_with fail
    refine (few_any _ _ g 300 (Hg.out.up Hbox1.out.bel) Hwf.out).mono ?_
    rintro e w2 ⟨rfl, hb2⟩
    rw [hf]
    have Hbox2 := Lib.hid (Hbox1.out.step hb2)
    clear hb2 c0 c1 lt hf
    go_wp2_with fail
    refine (awake_any _).mono ?_
    rintro e w3 ⟨rfl, hb3⟩
    go_wp2_with fail
    go_ret
    exact ⟨rfl, (Hbox2.out.step hb3).bel⟩
  | true =>
    go_wp2_with fail
    refine (few_any _ _ g 300 (Hg.out.up Hbox1.out.bel) Hwf.out).mono ?_
    rintro e w2 ⟨rfl, hb2⟩
    rw [hf]
    have hbox := Hbox1.out.step hb2
    have Hbox2 := Lib.hid hbox
    clear hb2 c0 c1 lt hf
    obtain ⟨c0, c1, lt, _⟩ := hbox
    by_cases hc : checkS g = 0
    · go_wp2_with fail
      refine (check_any _ _ g (Hg.out.up Hbox2.out.bel) Hwf.out).mono ?_
      rintro e w3 ⟨rfl, hb3⟩
      rw [hc]
      have ht := taken_of hc
      have Ht := Lib.hid ht
      have hbox := Hbox2.out.step hb3
      have Hbox3 := Lib.hid hbox
      clear hb3 c0 c1 lt hc ht
      obtain ⟨c0, c1, lt, _⟩ := hbox
      go_wp2_with fail
      go_loopw [3] (fun c wr => ∃ i : Nat, c = .int .i64 i ∧ i ≤ g.nodes.length ∧ BoxAt w (.slice p g.nodes.length cap) (.int .i64 g.out) wr) (fun c _ => g.nodes.length - (intOf c).toNat)
      case atStart => exact ⟨0, rfl, Nat.zero_le _, Hbox3.out⟩
      case round =>
        obtain ⟨i, rfl, hi, hbox⟩ := hrel
        clear c0 c1 lt
        have Hbox4 := Lib.hid hbox
        obtain ⟨c0, c1, lt, hbel⟩ := hbox
        have hfew := Ht.out.few
        by_cases hlt : i < g.nodes.length
        · obtain ⟨b, o, rfl, hb, vi, vp, k0, k1, k2, hins, hps⟩ := gr_node Hg.out i hlt
          obtain ⟨pi, ci, rfl⟩ := hins.len
          obtain ⟨pp, cp, rfl⟩ := hps.len
          have hcap : g.nodes.length ≤ cap := by
            obtain ⟨vn, hvn, p', cap', hp', hc', _⟩ := Hg.out
            simp only [Value.agg.injEq, Array.mk.injEq, List.cons.injEq, and_true] at hvn
            obtain rfl := hvn
            simp only [Value.slice.injEq, true_and] at hp'
            obtain ⟨_, rfl⟩ := hp'
            exact hc'
          rw [← hbel.cell (p := ⟨b, _, none⟩) hb] at k0 k1 k2
          have h1 := oneS_zero (Ht.out.one _ (List.getElem_mem hlt))
          have hone := fun (wx : World) (hbx : Below w.heap.size w wx) => one_any wx _ g.nodes[i] (g.nodes.length : Int) ⟨_, _, rfl, hins.up hbx, hps.up hbx⟩ (Hwf.out.insl _ (List.getElem_mem hlt)) (Hwf.out.psl _ (List.getElem_mem hlt))
          rw [Ht.out.one _ (List.getElem_mem hlt)] at hone
          have hinp := Ht.out.input i hlt
          have hil := oneS_ins (Ht.out.one _ (List.getElem_mem hlt))
          have har := h1.2.1
          have hlp : g.nodes[i].ps.length ≤ 20 ∧ ((g.nodes[i].ps.length : Int) != (ofS g.nodes[i].op).1.2.2) = false := by
            simp only [aritB, Bool.or_eq_false_iff, decide_eq_false_iff_not, Bool.not_eq_false', decide_eq_true_eq] at har
            have h2 : (ofS g.nodes[i].op).1.2.2 ≤ 20 := (ofS_most g.nodes[i].op).2.2
            rw [har.2]
            exact ⟨by omega, by simp⟩
          have har2 : ¬ ((g.nodes[i].ins.length : Int) < (ofS g.nodes[i].op).1.1) ∧ ¬ ((ofS g.nodes[i].op).1.2.1 < (g.nodes[i].ins.length : Int)) := by
            simp only [aritB, Bool.or_eq_false_iff, decide_eq_false_iff_not] at har
            exact har.1
          obtain ⟨hlp1, hlp2⟩ := hlp
          obtain ⟨har1, har3⟩ := har2
          have hari := fun (wx : World) => arity_any g.nodes[i].op wx
          have hok := h1.1
          rw [hok] at hari
          have Hone := Lib.hid hone
          have Hinp := Lib.hid hinp
          have Hins := Lib.hid hins
          have Hari := Lib.hid hari
          clear hone hinp har h1 hps hins hbel hari hok
          generalize g.nodes[i] = nk at *
          generalize (ofS nk.op).1.1 = aa at *
          generalize (ofS nk.op).1.2.1 = bb at *
          generalize (ofS nk.op).1.2.2 = cc at *
          go_wp2_with fail
          refine (Hari.out _).mono ?_
          rintro e w4 ⟨rfl, hb4⟩
          have hbox5 := (Hbox4.out.alloc (.cells #[.int .i64 nk.op, .slice pi nk.ins.length ci, .slice pp nk.ps.length cp] 27)).step hb4
          have hn0 : w4.cell? ⟨wr.heap.size, 0, none⟩ = some (.int .i64 nk.op) := by rw [hb4.cell (p := ⟨wr.heap.size, 0, none⟩) (by simp)]; simp [go_sem]
          have hn1 : w4.cell? ⟨wr.heap.size, 1, none⟩ = some (.slice pi nk.ins.length ci) := by rw [hb4.cell (p := ⟨wr.heap.size, 1, none⟩) (by simp)]; simp [go_sem]
          have hn2 : w4.cell? ⟨wr.heap.size, 2, none⟩ = some (.slice pp nk.ps.length cp) := by rw [hb4.cell (p := ⟨wr.heap.size, 2, none⟩) (by simp)]; simp [go_sem]
          have hnw : wr.heap.size < w4.heap.size := by have := hb4.size; simp at this; omega
          have Hbox5 := Lib.hid hbox5
          clear hb4 c0 c1 lt k0 k1 k2
          obtain ⟨c0, c1, lt, _⟩ := hbox5
          go_wp2_with fail
          refine (Hone.out _ Hbox5.out.bel).mono ?_
          rintro e w5 ⟨rfl, hb5⟩
          have hst : BoxAt w (.slice (some ⟨b, o, none⟩) g.nodes.length cap) (.int .i64 g.out) w5 ∧ w5.cell? ⟨wr.heap.size, 1, none⟩ = some (.slice pi nk.ins.length ci) ∧ wr.heap.size < w5.heap.size :=
            ⟨Hbox5.out.step hb5, by rw [hb5.cell (p := ⟨wr.heap.size, 1, none⟩) hnw]; exact hn1, Nat.lt_of_lt_of_le hnw hb5.size⟩
          have Hst := Lib.hid hst
          clear hst hb5 c0 c1 lt hn0 hn1 hn2 hlp2
          go_wp2_with fail
          obtain ⟨wo, rfl⟩ : ∃ wo : World, wo = wr := ⟨_, rfl⟩
          go_loopw [9] (fun c wr => ∃ k : Nat, c = .int .i64 k ∧ k ≤ nk.ins.length ∧ BoxAt w (.slice (some ⟨b, o, none⟩) g.nodes.length cap) (.int .i64 g.out) wr ∧ wr.cell? ⟨wo.heap.size, 1, none⟩ = some (.slice pi nk.ins.length ci) ∧ wo.heap.size < wr.heap.size) (fun c _ => nk.ins.length - (intOf c).toNat)
          case atStart => exact ⟨0, rfl, Nat.zero_le _, Hst.out.1, Hst.out.2.1, Hst.out.2.2⟩
          case round =>
            obtain ⟨k, rfl, hk, hbox6, hn1, hnw6⟩ := hrel
            clear Hst
            have Hbox6 := Lib.hid hbox6
            obtain ⟨c0, c1, lt, hbel6⟩ := hbox6
            by_cases hkl : k < nk.ins.length
            · obtain ⟨bi, oi, ci', hvi, _, hbi, hci⟩ := ints_cells Hins.out (by omega)
              simp only [Value.slice.injEq, true_and] at hvi
              obtain ⟨rfl, rfl⟩ := hvi
              have hx := hci k hkl
              rw [← hbel6.cell (p := ⟨bi, oi + k, none⟩) hbi] at hx
              have hmem : nk.ins.getD k 0 ∈ nk.ins := by simp [List.getD, hkl]
              obtain ⟨hx1, hx2, hx3⟩ := Hinp.out _ hmem
              have hx4 : (nk.ins.getD k 0 == (i : Int)) = false := beq_eq_false_iff_ne.2 hx3
              have hx5 : decide (nk.ins.getD k 0 < -1) = false := decide_eq_false (by omega)
              have hx6 : decide ((g.nodes.length : Int) ≤ nk.ins.getD k 0) = false := decide_eq_false (by omega)
              clear hci hmem hx3 hbel6
              generalize nk.ins.getD k 0 = x at *
              go_wp2_with fail
              go_quiet (fail)
              go_wp2_with fail
              go_roundw
              case rel => exact ⟨k + 1, by go_num, by omega, ⟨Hbox6.out.c0, Hbox6.out.c1, Hbox6.out.lt, below_drewN Hbox6.out.bel _⟩, hn1, hnw6⟩
              case measure => simp [intOf]; omega
            · clear hbel6
              go_wp2_with fail
              go_roundw
              case rel => exact ⟨i + 1, by go_num, by omega, Hbox6.out⟩
              case measure => simp [intOf]; omega
        · obtain rfl : i = g.nodes.length := by omega
          have h1 := Ht.out.out0
          have h2 := Ht.out.out1
          clear hbel
          go_wp2_with fail
          go_ret
          exact ⟨rfl, Hbox4.out.bel⟩
    · have hne : (checkS g != 0) = true := by rw [bne_iff_ne]; exact hc
      go_wp2_with fail
      refine (check_any _ _ g (Hg.out.up Hbox2.out.bel) Hwf.out).mono ?_
      rintro e w3 ⟨rfl, hb3⟩
      have Hbox3 := Lib.hid (Hbox2.out.step hb3)
      clear hb3 c0 c1 lt hc
      go_wp2_with fail
      refine (awake_any _).mono ?_
      rintro e w4 ⟨rfl, hb4⟩
      go_wp2_with fail
      go_ret
      exact ⟨rfl, (Hbox3.out.step hb4).bel⟩

end Go.Proofs.Ytfphlkoneocejaa
