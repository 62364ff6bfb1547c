/- The document's answer for layer 12: a filter; the law NodeChecks. -/
import Derived.Test.YtfphlkoneocejaaDoorRndB
import Derived.Test.YtfphlkoneocejaaDoorLaw12
import Derived.Test.YtfphlkoneocejaaDoorCheck
namespace Go.Proofs.YtfphlkoneocejaaDoor
open Go.RowKit Go.Gou

theorem few_node {g : Gr} {m : Int} (h : fewB g m = true) (k : Nat) (hk : k < g.nodes.length) : g.nodes[k].ins.length ≤ 20 ∧ g.nodes[k].ps.length ≤ 40 := by
  simp only [fewB, Bool.and_eq_true, List.all_eq_true] at h
  have := h.2 _ (List.getElem_mem hk)
  simpa [fewN] using this

theorem few_len {g : Gr} (h : fewB g 300 = true) : g.nodes.length ≤ 300 := by
  simp only [fewB, Bool.and_eq_true, decide_eq_true_eq] at h
  omega

set_option maxHeartbeats 4000000 in
theorem refCheck_any (w : World) (v : Value) (g : Gr) (hg : GrV w v g) (hwf : GrWf g) (hfew : fewB g 300 = true) (ht : Tabs w) :
    Calls Tryd.prog 11 #[v] w fun e w' => e = .returned (.int .i64 (checkS g)) ∧ Below w.heap.size w w' := by
  have Hg := Lib.hid hg
  have Hwf := Lib.hid hwf
  have Ht := Lib.hid ht
  have hmax := few_len hfew
  have Hfew := Lib.hid hfew
  obtain ⟨p, cap, rfl⟩ := hg.form
  clear hg hwf hfew ht
  have Hbx := Lib.hid (BoxAt.start w (.slice p g.nodes.length cap) (.int .i64 g.out) 32)
  by_cases h0 : g.nodes.length = 0 ∨ 256 < g.nodes.length
  · have Hs : Hid (checkS g = 3) := by show _ = _; unfold checkS; rw [if_pos h0]
    by_cases h1 : g.nodes.length < 1
    · go_enter Tryd.func11, Tryd.ntmps11
      go_wp2_with fail
      go_ret
      exact ⟨ret_int Hs.out.symm, Hbx.out.bel⟩
    · have h2 : 256 < g.nodes.length := by omega
      clear h0
      go_enter Tryd.func11, Tryd.ntmps11
      go_wp2_with fail
      go_ret
      exact ⟨ret_int Hs.out.symm, Hbx.out.bel⟩
  · have hcs : checkS g = if firstBad g.nodes.length g.nodes ≠ 0 then firstBad g.nodes.length g.nodes else if g.out < 0 ∨ (g.nodes.length : Int) ≤ g.out then 8 else if roundB g = true then 6 else 0 := by
      unfold checkS; rw [if_neg h0]
    have Hcs := Lib.hid hcs
    have h1 : 1 ≤ g.nodes.length := by omega
    have h2 : g.nodes.length ≤ 256 := by omega
    clear hcs h0
    go_enter Tryd.func11, Tryd.ntmps11
    go_wp2_with fail
    go_loopw [3] (fun c wr => ∃ k : Nat, c = .int .i64 k ∧ k ≤ g.nodes.length ∧ firstBad g.nodes.length (g.nodes.take k) = 0 ∧ BoxAt w (.slice p g.nodes.length cap) (.int .i64 g.out) wr) (fun c _ => g.nodes.length - (intOf c).toNat)
    case atStart => exact ⟨0, rfl, Nat.zero_le _, rfl, Hbx.out⟩
    case round =>
      obtain ⟨k, rfl, hk, hfb, hbx⟩ := hrel
      clear Hbx
      have Hbx := Lib.hid hbx
      obtain ⟨c0, c1, lt, hbel⟩ := hbx
      by_cases hlt : k < g.nodes.length
      · obtain ⟨b, o, rfl, hb, vi, vp, k0, k1, k2, hins, hps⟩ := gr_node Hg.out k hlt
        obtain ⟨pi, ci, rfl⟩ := hins.len
        obtain ⟨pp, cp, rfl⟩ := hps.len
        have hcap : g.nodes.length ≤ cap := by
          obtain ⟨vn, hvn, p', cap', hp', hc', _⟩ := Hg.out
          simp only [Value.agg.injEq, Array.mk.injEq, List.cons.injEq, and_true] at hvn
          obtain rfl := hvn
          simp only [Value.slice.injEq, true_and] at hp'
          obtain ⟨_, rfl⟩ := hp'
          exact hc'
        rw [← hbel.cell (p := ⟨b, _, none⟩) hb] at k0 k1 k2
        have hfn := few_node Hfew.out k hlt
        have hone := fun (wx : World) (hbx : Below w.heap.size w wx) => refOne_any wx _ g.nodes[k] (g.nodes.length : Int) ⟨_, _, rfl, hins.up hbx, hps.up hbx⟩ (Ht.out.up hbx) (by omega) (by omega) (by omega) (by omega)
        have hft := firstBad_take hlt hfb
        have Hone := Lib.hid hone
        have Hft := Lib.hid hft
        have Hbel := Lib.hid hbel
        have hltI : (k : Int) < (g.nodes.length : Int) := by omega
        have hk0 : (0 : Int) ≤ (k : Int) := by omega
        clear hone hft hfb hins hps hfn hbel
        generalize hnk : g.nodes[k] = nk at *
        have Hnk := Lib.hid hnk
        clear hnk
        generalize nk.ins.length = li at *
        generalize nk.ps.length = lp at *
        go_wp2_with fail
        go_region_held3 (fun w' => Below w.heap.size w w' ∧ w.heap.size < w'.heap.size ∧ w'.cell? ⟨w.heap.size, 0, none⟩ = some (.slice (some ⟨b, o, none⟩) g.nodes.length cap) ∧ w'.cell? ⟨w.heap.size, 1, none⟩ = some (.int .i64 g.out) ∧ w'.cell? ⟨b, o + k * 3, none⟩ = some (.int .i64 nk.op) ∧ w'.cell? ⟨b, o + k * 3 + 1, none⟩ = some (.slice pi li ci) ∧ w'.cell? ⟨b, o + k * 3 + 2, none⟩ = some (.slice pp lp cp))
          (first | exact ⟨Hbel.out.drew, lt, c0, c1, k0, k1, k2⟩ | (obtain ⟨g0, g1, g2, g3, g4, g5, g6⟩ := ‹Below w.heap.size w _ ∧ _›; exact ⟨later_below g0 hb3, Nat.lt_of_lt_of_le g1 hb3.size, (hb3.cell (p := ⟨w.heap.size, 0, none⟩) g1).trans g2, (hb3.cell (p := ⟨w.heap.size, 1, none⟩) g1).trans g3, later_cell g0 hb3 hb g4, later_cell g0 hb3 hb g5, later_cell g0 hb3 hb g6⟩))
          (first | (go_at_call 8; refine (Hone.out _ (by (first | exact (‹Below w.heap.size w _ ∧ _›).1 | exact Hbel.out.drew))).mono ?_; rintro e w3 ⟨rfl, hb3⟩))
        obtain ⟨g0, g1, g2, g3, _⟩ := ‹Below w.heap.size w _ ∧ _›
        have Hbx3 : Hid (BoxAt w (.slice (some ⟨b, o, none⟩) g.nodes.length cap) (.int .i64 g.out) w3) := ⟨g2, g3, g1, g0⟩
        clear g0 g1 g2 g3 c0 c1 lt k0 k1 k2
        by_cases hz : oneS nk g.nodes.length = 0
        · have hf1 : firstBad g.nodes.length (g.nodes.take (k + 1)) = 0 := by rw [Hft.out.1]; exact hz
          have Hf1 := Lib.hid hf1
          rw [hz]
          clear hz hf1
          go_wp2_with fail
          go_roundw
          case rel => exact ⟨k + 1, by go_num, by omega, Hf1.out, Hbx3.out⟩
          case measure => simp [intOf]; omega
        · have hne : (oneS nk g.nodes.length != 0) = true := by rw [bne_iff_ne]; exact hz
          have hs : checkS g = oneS nk g.nodes.length := by
            have h1 := Hft.out.2 hz
            rw [Hcs.out, h1, if_pos hz]
          have Hs := Lib.hid hs
          clear hz hs
          generalize oneS nk g.nodes.length = r at *
          go_wp2_with fail
          go_ret
          exact ⟨ret_int Hs.out.symm, Hbx3.out.bel⟩
      · have hall : firstBad g.nodes.length g.nodes = 0 := by rw [List.take_of_length_le (by omega)] at hfb; exact hfb
        have hcs2 : checkS g = if g.out < 0 ∨ (g.nodes.length : Int) ≤ g.out then 8 else if roundB g = true then 6 else 0 := by
          rw [Hcs.out, if_neg (by rw [hall]; simp)]
        have Hcs2 := Lib.hid hcs2
        have Hbel := Lib.hid hbel
        clear hcs2 hall hfb Hcs hbel
        by_cases ho : g.out < 0
        · have Hs : Hid (checkS g = 8) := by show _ = _; rw [Hcs2.out, if_pos (.inl ho)]
          go_wp2_with fail
          go_ret
          exact ⟨ret_int Hs.out.symm, Hbx.out.bel⟩
        · by_cases ho2 : (g.nodes.length : Int) ≤ g.out
          · have Hs : Hid (checkS g = 8) := by show _ = _; rw [Hcs2.out, if_pos (.inr ho2)]
            go_wp2_with fail
            go_ret
            exact ⟨ret_int Hs.out.symm, Hbx.out.bel⟩
          · cases hr : roundB g with
            | true =>
              have Hs : Hid (checkS g = 6) := by show _ = _; rw [Hcs2.out, if_neg (by omega), if_pos hr]
              have Hr := Lib.hid hr
              clear hr
              go_wp2_with fail
              refine (refRound_any _ _ g (Hg.out.up Hbx.out.bel) (by omega) Hwf.out).mono ?_
              rintro e w3 ⟨rfl, hb3⟩
              rw [Hr.out]
              go_wp2_with fail
              go_ret
              exact ⟨ret_int Hs.out.symm, (Hbx.out.step hb3).bel⟩
            | false =>
              have Hs : Hid (checkS g = 0) := by show _ = _; rw [Hcs2.out, if_neg (by omega), if_neg (by rw [hr]; simp)]
              have Hr := Lib.hid hr
              clear hr
              go_wp2_with fail
              refine (refRound_any _ _ g (Hg.out.up Hbx.out.bel) (by omega) Hwf.out).mono ?_
              rintro e w3 ⟨rfl, hb3⟩
              rw [Hr.out]
              go_wp2_with fail
              go_ret
              exact ⟨ret_int Hs.out.symm, (Hbx.out.step hb3).bel⟩

end Go.Proofs.YtfphlkoneocejaaDoor
