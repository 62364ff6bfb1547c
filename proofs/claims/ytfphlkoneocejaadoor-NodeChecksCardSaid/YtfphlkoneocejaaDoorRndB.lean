/- The document's answer for layer 11: do nodes lead round: the walk. -/
import Derived.Test.YtfphlkoneocejaaDoorRndA
import Derived.Test.YtfphlkoneocejaaDoorOrdD
namespace Go.Proofs.YtfphlkoneocejaaDoor
open Go.RowKit Go.Gou

theorem info_bool : (Tryd.prog.info? 4).map (fun i => (i.zero, i.size, i.bytes)) = some (some (.bool false), 1, 1) := by kernel_rfl

def bv (D : List Bool) : List Value := D.map .bool

structure RS (w : World) (p : Option Addr) (cap : Nat) (g : Gr) (D : List Bool) (wr : World) : Prop where
  box : BoxAt w (.slice p g.nodes.length cap) (.int .i64 g.out) wr
  row : wr.ownsRow (w.heap.size + 1) 4 1 (.slice (some ⟨w.heap.size + 1, 0, none⟩) g.nodes.length g.nodes.length) g.nodes.length (bv D)

theorem RS.cell {w wr : World} {p : Option Addr} {cap : Nat} {g : Gr} {D : List Bool} (h : RS w p cap g D wr) (hl : D.length = g.nodes.length) (i : Nat) (hi : i < g.nodes.length) : wr.cell? ⟨w.heap.size + 1, i, none⟩ = some (.bool (D.getD i false)) := by
  have hc := h.row.cellAt i (by omega)
  rw [show (bv D)[i]? = some (.bool (D.getD i false)) by simp [bv, List.getD, show i < D.length by omega]] at hc
  exact hc

theorem RS.store {w wr : World} {p : Option Addr} {cap : Nat} {g : Gr} {D : List Bool} (h : RS w p cap g D wr) (i : Nat) (b : Bool) : RS w p cap g (D.set i b) (wr.setCell ⟨w.heap.size + 1, i, none⟩ (.bool b)) := by
  have hm := Mod.setCell wr ⟨w.heap.size + 1, i, none⟩ (.bool b)
  obtain ⟨s1, _⟩ := h.row.stored i (.bool b)
  refine ⟨h.box.mod hm (fun k hk e => by simp at e; omega), ?_⟩
  rw [show bv (D.set i b) = (bv D).set i (.bool b) by simp [bv, List.map_set]]
  exact s1

theorem RS.drewN {w wr : World} {p : Option Addr} {cap : Nat} {g : Gr} {D : List Bool} (h : RS w p cap g D wr) : RS w p cap g D wr := h

/-- A node of a filter: where it lies, and its cells. -/
theorem gr_node {w : World} {p : Option Addr} {n cap : Nat} {q : Value} {g : Gr} (hg : GrV w (.agg #[.slice p n cap, q]) g) (i : Nat) (hi : i < g.nodes.length) :
    ∃ b o, p = some ⟨b, o, none⟩ ∧ b < w.heap.size ∧ ∃ vi vp, w.cell? ⟨b, o + i * 3, none⟩ = some (.int .i64 g.nodes[i].op) ∧ w.cell? ⟨b, o + i * 3 + 1, none⟩ = some vi ∧ w.cell? ⟨b, o + i * 3 + 2, none⟩ = some vp ∧
      IntsAt w.heap.size w vi g.nodes[i].ins ∧ IntsAt w.heap.size w vp g.nodes[i].ps := by
  obtain ⟨vn, hvn, p', cap', hp', _, hp⟩ := hg
  simp only [Value.agg.injEq, Array.mk.injEq, List.cons.injEq, and_true] at hvn
  obtain ⟨rfl, _⟩ := hvn
  simp only [Value.slice.injEq] at hp'
  obtain ⟨rfl, _, rfl⟩ := hp'
  rcases hp with hp | ⟨b, o, rfl, hb, hc⟩
  · rw [hp] at hi; simp at hi
  · obtain ⟨vi, vp, h⟩ := hc i hi
    exact ⟨b, o, rfl, hb, vi, vp, h⟩

set_option maxHeartbeats 8000000 in
theorem refRound_any (w : World) (v : Value) (g : Gr) (hg : GrV w v g) (hn : g.nodes.length ≤ 300) (hwf : GrWf g) :
    Calls Tryd.prog 22 #[v] w fun e w' => e = .returned (.bool (roundB g)) ∧ Below w.heap.size w w' := by
  obtain ⟨i0, hi0, hz0, hz1, hz2⟩ := info_parts info_bool
  have Hg := Lib.hid hg
  have Hwf := Lib.hid hwf
  obtain ⟨p, cap, rfl⟩ := hg.form
  clear hg hwf
  go_enter Tryd.func22, Tryd.ntmps22
  go_wp2_with (first
    | (at_make; refine wpList_make_full _ rfl _ _ 53 rfl w.heap.size 4 i0 (.bool false) 1 Tryd.underlying53 hi0 hz0 hz1 _ _ _ _ g.nodes.length rfl rfl rfl rfl ?b1 ?b2 ?b3 ?_))
  case b1 => rw [hz2]; omega
  case b2 => unfold maxLen; omega
  case b3 => simp
  intro w1 hown hgrow
  have hzb1 : w.heap.size + 1 < w1.heap.size := (hown.lt _ rfl).2
  have hb1 : Below (w.heap.size + 1) (w.alloc (.cells #[.slice p g.nodes.length cap, .int .i64 g.out] 32)) w1 := (Below.refl _ _).grown hgrow (by simp) (fun k e => by cases e)
  have hrs : RS w p cap g (List.replicate g.nodes.length false) w1 := by
    refine ⟨(BoxAt.start w _ _ 32).step (by simpa using hb1), ?_⟩
    · rw [toList_madeCells_one] at hown
      refine ⟨by simp [bv], ?_⟩
      rcases hown.2 with ⟨h, _⟩ | ⟨g', cap', cur, hv, hg', r⟩
      · cases h
      · simp only [Value.slice.injEq, Option.some.injEq, Addr.mk.injEq, and_true] at hv
        obtain ⟨rfl, _, rfl⟩ := hv
        exact .inr ⟨_, _, cur, rfl, by omega, by simpa [bv] using r⟩
  have Hrs := Lib.hid hrs
  have Hbx := Lib.hid hrs.box
  obtain ⟨c0, c1, lt, _⟩ := Hbx.out
  clear hown hgrow hb1 hrs
  go_wp2_with fail
  go_loopw [4] (fun c wr => ∃ (t : Nat) (D : List Bool), c = .int .i64 t ∧ t ≤ g.nodes.length ∧ RQ g t D ∧ RS w p cap g D wr) (fun c _ => g.nodes.length - (intOf c).toNat)
  case atStart => exact ⟨0, _, rfl, Nat.zero_le _, RQ.start g, Hrs.out⟩
  case round =>
    obtain ⟨t, D0, rfl, ht, hq0, hrs0⟩ := hrel
    clear Hrs Hbx c0 c1 lt
    have Hq0 := Lib.hid hq0
    have Hrs0 := Lib.hid hrs0
    have Hbx := Lib.hid hrs0.box
    obtain ⟨c0, c1, lt, _⟩ := Hbx.out
    clear hq0 hrs0
    by_cases hlt : t < g.nodes.length
    · go_wp2_with fail
      obtain ⟨wo, rfl⟩ : ∃ wo : World, wo = wr := ⟨_, rfl⟩
      go_loopw [5] (fun c wr => ∃ (i : Nat) (D : List Bool), c = .int .i64 i ∧ i ≤ g.nodes.length ∧ RP g D0 i D ∧ RS w p cap g D wr) (fun c _ => g.nodes.length - (intOf c).toNat)
      case atStart => exact ⟨0, _, rfl, Nat.zero_le _, RP.start Hq0.out.1, Hrs0.out⟩
      case round =>
        obtain ⟨i, D, rfl, hi, hp, hrs⟩ := hrel
        clear Hrs0 Hbx c0 c1 lt
        have Hp := Lib.hid hp
        have Hrs := Lib.hid hrs
        have hbx := hrs.box
        have Hbx := Lib.hid hbx
        obtain ⟨c0, c1, lt, hbel⟩ := hbx
        have hDl := hp.base.len
        have hcl := hrs.cell hDl
        have hfr := hrs.row.frozenAt
        have hLlt := (hrs.row.lt _ rfl).2
        have Hcl := Lib.hid hcl
        have Hfr := Lib.hid hfr
        clear hp hrs hcl hfr
        by_cases hilt : i < g.nodes.length
        · obtain ⟨b, o, rfl, hb, vi, vp, k0, k1, k2, hins, hps⟩ := gr_node Hg.out i hilt
          obtain ⟨pi, ci, rfl⟩ := hins.len
          have hcap : g.nodes.length ≤ cap := by
            obtain ⟨vn, hvn, p', cap', hp', hc', _⟩ := Hg.out
            simp only [Value.agg.injEq, Array.mk.injEq, List.cons.injEq, and_true] at hvn
            obtain rfl := hvn
            simp only [Value.slice.injEq, true_and] at hp'
            obtain ⟨_, rfl⟩ := hp'
            exact hc'
          rw [← hbel.cell (p := ⟨b, _, none⟩) hb] at k1
          have hil := Hwf.out.insl _ (List.getElem_mem hilt)
          unfold maxLen at hil
          have hstep := fun (x : Bool) (hx : x = (D.getD i false || okN g.nodes.length D g.nodes[i].ins)) => Hp.out.step hilt x hx
          have Hstep := Lib.hid hstep
          have Hins := Lib.hid hins
          have Hbel := Lib.hid hbel
          have Hok0 : Hid (okN g.nodes.length D g.nodes[i].ins = (g.nodes[i].ins.take g.nodes[i].ins.length).all (okx g.nodes.length D)) := by show _ = _; rw [List.take_length]; rfl
          clear k0 k2 hps hins hstep hbel
          generalize g.nodes[i] = nk at *
          generalize hnk : nk.ins = ins at *
          go_wp2_with fail
          go_loop [6, 7] (fun ok c => ∃ k : Nat, c = .int .i64 k ∧ k ≤ ins.length ∧ ok = .bool ((ins.take k).all (okx g.nodes.length D))) (fun _ c => ins.length - (intOf c).toNat)
          case atStart => exact ⟨0, rfl, Nat.zero_le _, rfl⟩
          case round =>
            obtain ⟨k, rfl, hk, rfl⟩ := hrel
            by_cases hkl : k < ins.length
            · obtain ⟨bi, oi, ci', hvi, _, hbi, hci⟩ := ints_cells Hins.out (by omega)
              simp only [Value.slice.injEq, true_and] at hvi
              obtain ⟨rfl, rfl⟩ := hvi
              have hx := hci k hkl
              rw [← Hbel.out.cell (p := ⟨bi, oi + k, none⟩) hbi] at hx
              have hsucc : (ins.take (k + 1)).all (okx g.nodes.length D) = ((ins.take k).all (okx g.nodes.length D) && okx g.nodes.length D (ins.getD k 0)) := by
                rw [List.all_take_succ _ _ _ hkl]
                simp [List.getD, hkl]
              have Hsucc := Lib.hid hsucc
              clear hci hsucc
              generalize ins.getD k 0 = x at *
              cases hcur : (ins.take k).all (okx g.nodes.length D) with
              | false =>
                have Hnx : Hid ((ins.take (k + 1)).all (okx g.nodes.length D) = false) := by show _ = _; rw [Hsucc.out, hcur]; rfl
                clear hcur
                go_wp2_with fail
                go_round
                case rel => exact ⟨k + 1, by go_num, by omega, by rw [Hnx.out]⟩
                case measure => simp [intOf]; omega
              | true =>
                by_cases hx0 : x < 0
                · have Hnx : Hid ((ins.take (k + 1)).all (okx g.nodes.length D) = true) := by show _ = _; rw [Hsucc.out, hcur]; simp [okx, hx0]
                  clear hcur
                  go_wp2_with fail
                  go_round
                  case rel => exact ⟨k + 1, by go_num, by omega, by rw [Hnx.out]⟩
                  case measure => simp [intOf]; omega
                · by_cases hxn : (g.nodes.length : Int) ≤ x
                  · have Hnx : Hid ((ins.take (k + 1)).all (okx g.nodes.length D) = true) := by show _ = _; rw [Hsucc.out, hcur]; simp [okx, hxn]
                    clear hcur
                    go_wp2_with fail
                    go_round
                    case rel => exact ⟨k + 1, by go_num, by omega, by rw [Hnx.out]⟩
                    case measure => simp [intOf]; omega
                  · obtain ⟨u, rfl⟩ : ∃ u : Nat, x = u := ⟨x.toNat, by omega⟩
                    have hu : u < g.nodes.length := by omega
                    have hcu := Hcl.out u hu
                    have Hnx : Hid ((ins.take (k + 1)).all (okx g.nodes.length D) = D.getD u false) := by
                      show _ = _
                      have e1 : decide ((u : Int) < 0) = false := decide_eq_false hx0
                      have e2 : decide ((g.nodes.length : Int) ≤ (u : Int)) = false := decide_eq_false hxn
                      rw [Hsucc.out, hcur]
                      simp only [okx, e1, e2, Bool.true_and, Bool.false_or, Int.toNat_natCast]
                    clear hcur
                    generalize D.getD u false = du at *
                    go_wp2_with fail
                    go_round
                    case rel => exact ⟨k + 1, by go_num, by omega, by rw [Hnx.out]⟩
                    case measure => simp [intOf]; omega
            · obtain rfl : k = ins.length := by omega
              rw [← Hok0.out]
              have hci := Hcl.out i hilt
              have hfi := Hfr.out i
              clear Hok0
              generalize okN g.nodes.length D ins = q at *
              cases hdi : D.getD i false with
              | true =>
                have Hn : Hid (RP g D0 (i + 1) (D.set i true)) := Hstep.out true (by rw [hdi]; rfl)
                rw [hdi] at hci
                clear hdi
                go_wp2_with fail
                go_roundw
                case rel => exact ⟨i + 1, _, by go_num, by omega, Hn.out, Hrs.out.store i true⟩
                case measure => simp [intOf]; omega
              | false =>
                have Hn : Hid (RP g D0 (i + 1) (D.set i q)) := Hstep.out q (by rw [hdi]; rfl)
                rw [hdi] at hci
                clear hdi
                go_wp2_with fail
                go_roundw
                case rel => exact ⟨i + 1, _, by go_num, by omega, Hn.out, Hrs.out.store i q⟩
                case measure => simp [intOf]; omega
        · obtain rfl : i = g.nodes.length := by omega
          clear hbel
          go_wp2_with fail
          go_roundw
          case rel => exact ⟨t + 1, D, by go_num, by omega, Hq0.out.pass Hp.out, Hrs.out⟩
          case measure => simp [intOf]; omega
    · obtain rfl : t = g.nodes.length := by omega
      have hDl := Hq0.out.1.len
      have hcl := Hrs0.out.cell hDl
      have Hcl := Lib.hid hcl
      have hLlt := (Hrs0.out.row.lt _ rfl).2
      clear hcl hDl
      go_wp2_with fail
      go_loop [9] (fun c => ∃ i : Nat, c = .int .i64 i ∧ i ≤ g.nodes.length ∧ ∀ j, j < i → D0.getD j false = true) (fun c => g.nodes.length - (intOf c).toNat)
      case atStart => exact ⟨0, rfl, Nat.zero_le _, fun _ h => by omega⟩
      case round =>
        obtain ⟨i, rfl, hi, hall⟩ := hrel
        have Hall := Lib.hid hall
        clear hall
        by_cases hilt : i < g.nodes.length
        · have hci := Hcl.out i hilt
          cases hdi : D0.getD i false with
          | true =>
            rw [hdi] at hci
            have Hn : Hid (∀ j, j < i + 1 → D0.getD j false = true) := fun j hj => by
              by_cases e : j = i
              · rw [e]; exact hdi
              · exact Hall.out j (by omega)
            clear hdi
            go_wp2_with fail
            go_round
            case rel => exact ⟨i + 1, by go_num, by omega, Hn.out⟩
            case measure => simp [intOf]; omega
          | false =>
            rw [hdi] at hci
            have Hr := Lib.hid (Hq0.out.no i hilt hdi)
            clear hdi
            go_wp2_with fail
            go_ret
            exact ⟨ret_bool Hr.out.symm, Hrs0.out.box.bel⟩
        · obtain rfl : i = g.nodes.length := by omega
          have Hr := Lib.hid (Hq0.out.yes Hall.out)
          go_wp2_with fail
          go_ret
          exact ⟨ret_bool Hr.out.symm, Hrs0.out.box.bel⟩

end Go.Proofs.YtfphlkoneocejaaDoor
