/- The node check, whole. -/
import Derived.Test.YtfphlkoneocejaaOrdE
import Derived.Test.YtfphlkoneocejaaNodeD
import Derived.WalkMore
import Derived.ScopeJumps
namespace Go.Proofs.Ytfphlkoneocejaa
open Go.RowKit Go.Gou

/-- The first node that may not be says why. -/
def firstBad (count : Int) : List GNode → Int
  | [] => 0
  | n :: l => if oneS n count = 0 then firstBad count l else oneS n count

noncomputable def checkS (g : Gr) : Int :=
  if g.nodes.length = 0 ∨ 256 < g.nodes.length then 3
  else if firstBad g.nodes.length g.nodes ≠ 0 then firstBad g.nodes.length g.nodes
  else if g.out < 0 ∨ (g.nodes.length : Int) ≤ g.out then 8
  else if roundB g = true then 6 else 0

/-- A filter whose numbers are numbers of the machine. -/
structure GrWf (g : Gr) : Prop where
  op : ∀ n ∈ g.nodes, (Lit.int .i64 n.op).wf = true
  ins : ∀ n ∈ g.nodes, ∀ x ∈ n.ins, (Lit.int .i64 x).wf = true
  ps : ∀ n ∈ g.nodes, ∀ x ∈ n.ps, (Lit.int .i64 x).wf = true
  out : (Lit.int .i64 g.out).wf = true
  insl : ∀ n ∈ g.nodes, n.ins.length ≤ maxLen
  psl : ∀ n ∈ g.nodes, n.ps.length ≤ maxLen
  len : g.nodes.length ≤ maxLen

theorem firstBad_zero {count : Int} {l : List GNode} (h : firstBad count l = 0) : ∀ n ∈ l, oneS n count = 0 := by
  induction l with
  | nil => simp
  | cons a l ih =>
    unfold firstBad at h
    split at h
    · rename_i h0
      intro n hn
      rcases List.mem_cons.1 hn with rfl | hn
      · exact h0
      · exact ih h n hn
    · rename_i h0
      exact absurd h h0

theorem firstBad_take {count : Int} {l : List GNode} {k : Nat} (hk : k < l.length) (h : firstBad count (l.take k) = 0) : firstBad count (l.take (k + 1)) = oneS l[k] count ∧ (oneS l[k] count ≠ 0 → firstBad count l = oneS l[k] count) := by
  induction l generalizing k with
  | nil => simp at hk
  | cons a l ih =>
    cases k with
    | zero =>
      constructor
      · simp only [List.take_succ_cons, List.take_zero, firstBad, List.getElem_cons_zero]
        split
        · rename_i h0; exact h0.symm
        · rfl
      · intro hne
        simp only [List.getElem_cons_zero] at hne
        simp [firstBad, hne]
    | succ k =>
      simp only [List.take_succ_cons, firstBad] at h
      split at h
      · rename_i h0
        obtain ⟨h1, h2⟩ := ih (by simpa using hk) h
        constructor
        · rw [List.take_succ_cons]
          unfold firstBad
          rw [if_pos h0]
          simpa using h1
        · intro hne
          unfold firstBad
          rw [if_pos h0]
          simpa using h2 (by simpa using hne)
      · rename_i h0
        exact absurd h h0

theorem oneS_zero {n : GNode} {count : Int} (h : oneS n count = 0) : (ofS n.op).2 = true ∧ aritB n = false ∧ n.ins.all (withinB (-1) (count - 1)) = true ∧ boundsB n = true := by
  unfold oneS at h
  split at h
  · omega
  · rename_i h1
    split at h
    · omega
    · rename_i h2
      split at h
      · omega
      · rename_i h3
        split at h
        · omega
        · rename_i h4
          exact ⟨by simpa using h1, by simpa using h2, by simpa using h3, by simpa using h4⟩

theorem ite_ok {α : Type} {P : α → Prop} {c : Prop} [Decidable c] {a b : α} (ha : P a) (hb : P b) : P (if c then a else b) := by
  split
  · exact ha
  · exact hb

def MostOk (r : (Int × Int × Int) × Bool) : Prop := r.1.2.1 ≤ 8 ∧ 0 ≤ r.1.2.2 ∧ r.1.2.2 ≤ 20

theorem ofS_most (op : Int) : MostOk (ofS op) := by
  unfold ofS
  repeat (refine ite_ok (by unfold MostOk; decide) ?_)
  unfold MostOk
  decide

theorem oneS_ins {n : GNode} {count : Int} (h : oneS n count = 0) : n.ins.length ≤ 8 := by
  have := (oneS_zero h).2.1
  simp only [aritB, Bool.or_eq_false_iff, decide_eq_false_iff_not] at this
  have h2 : (ofS n.op).1.2.1 ≤ 8 := (ofS_most n.op).1
  omega

/-- What stands at the label 'over': the answer in its slot. -/
def OverC (w : World) (c : Int) (a : Act) (w' : World) : Prop :=
  ∃ u0 u1 u2 u4 u5 u6 u7 u8 u9 u10 u11 u12 u13 u14 u15 u16 u17 u18 u19 u20 u21 u22 u23 u24 u25 u26 u27 u28 u29 u30 u31 u32 u33 u34 u35 u36 u37 u38 u39 u40 u41 u42 u43 u44 u45 : Value, a = { tmps := #[u0, u1, u2, .int .i64 c, u4, u5, u6, u7, u8, u9, u10, u11, u12, u13, u14, u15, u16, u17, u18, u19, u20, u21, u22, u23, u24, u25, u26, u27, u28, u29, u30, u31, u32, u33, u34, u35, u36, u37, u38, u39, u40, u41, u42, u43, u44, u45], defers := [] } ∧ Below w.heap.size w w'
def Over (w : World) (g : Gr) (a : Act) (w' : World) : Prop := OverC w (checkS g) a w'
theorem over_of {w w' : World} {g : Gr} {c : Int} {a : Act} (h : checkS g = c) (ho : OverC w c a w') : Over w g a w' := by
  unfold Over
  rw [h]
  exact ho

set_option maxHeartbeats 2000000 in
theorem check_any (w : World) (v : Value) (g : Gr) (hg : GrV w v g) (hwf : GrWf g) :
    Calls Try.prog 8 #[v] w fun e w' => e = .returned (.int .i64 (checkS g)) ∧ Below w.heap.size w w' := by
  have Hg := Lib.hid hg
  have Hwf := Lib.hid hwf
  obtain ⟨p, cap, rfl⟩ := hg.form
  have hmax := hwf.len
  unfold maxLen at hmax
  clear hg hwf
  have hb0 := (Below.refl w.heap.size w).alloc (Nat.le_refl _) (.cells #[.slice p g.nodes.length cap, .int .i64 g.out] 24)
  have Hb0 := Lib.hid hb0
  clear hb0
  go_enter Try.func8, Try.ntmps8
  go_wp2_with fail
  refine wp_scope_jumps 0 (Over w g) (fun _ _ => 0) rfl ?first ?pass
  case pass =>
    rintro a w' ⟨u0, u1, u2, u4, u5, u6, u7, u8, u9, u10, u11, u12, u13, u14, u15, u16, u17, u18, u19, u20, u21, u22, u23, u24, u25, u26, u27, u28, u29, u30, u31, u32, u33, u34, u35, u36, u37, u38, u39, u40, u41, u42, u43, u44, u45, rfl, hb⟩
    go_wp2
    simp only [Exit.jump]
    go_ret
    exact ⟨rfl, hb⟩
  case first =>
    by_cases h0 : g.nodes.length = 0
    · have hs : checkS g = 3 := by unfold checkS; rw [if_pos (.inl h0)]
      have Hs := Lib.hid hs
      have e0 : ((g.nodes.length : Int) == 0) = true := by rw [h0]; rfl
      clear h0 hs
      go_wp2_with fail
      go_step3
      simp only [Exit.then, Exit.jump]
      exact ⟨by first | trivial | rfl, over_of Hs.out ⟨_, _, _, _, _, _, _, _, _, _, _, _, _, _, _, _, _, _, _, _, _, _, _, _, _, _, _, _, _, _, _, _, _, _, _, _, _, _, _, _, _, _, _, _, _, rfl, Hb0.out⟩⟩
    · have e0 : ((g.nodes.length : Int) == 0) = false := beq_eq_false_iff_ne.2 (by omega)
      by_cases h256 : 256 < g.nodes.length
      · have hs : checkS g = 3 := by unfold checkS; rw [if_pos (.inr h256)]
        have Hs := Lib.hid hs
        clear h0 hs
        go_wp2_with fail
        go_step3
        simp only [Exit.then, Exit.jump]
        exact ⟨by first | trivial | rfl, over_of Hs.out ⟨_, _, _, _, _, _, _, _, _, _, _, _, _, _, _, _, _, _, _, _, _, _, _, _, _, _, _, _, _, _, _, _, _, _, _, _, _, _, _, _, _, _, _, _, _, rfl, Hb0.out⟩⟩
      · have hcs : checkS g = if firstBad g.nodes.length g.nodes ≠ 0 then firstBad g.nodes.length g.nodes else if g.out < 0 ∨ (g.nodes.length : Int) ≤ g.out then 8 else if roundB g = true then 6 else 0 := by
          unfold checkS; rw [if_neg (by omega)]
        have Hcs := Lib.hid hcs
        clear hcs
        go_wp2_with fail
        go_loopw [3, 19] (fun c i wr => ∃ k : Nat, i = .int .i64 k ∧ k ≤ g.nodes.length ∧ firstBad g.nodes.length (g.nodes.take k) = 0 ∧ Below (w.heap.size + 1) (w.alloc (.cells #[.slice p g.nodes.length cap, .int .i64 g.out] 24)) wr) (fun _ i _ => g.nodes.length - (intOf i).toNat)
        case atStart => exact ⟨0, rfl, Nat.zero_le _, rfl, Below.refl _ _⟩
        case round =>
          obtain ⟨k, rfl, hk, hfb, hb⟩ := hrel
          have hc0' : wr.cell? ⟨w.heap.size, 0, none⟩ = some (.slice p g.nodes.length cap) := by rw [hb.cell (p := ⟨w.heap.size, 0, none⟩) (by simp)]; simp [go_sem]
          have hc1' : wr.cell? ⟨w.heap.size, 1, none⟩ = some (.int .i64 g.out) := by rw [hb.cell (p := ⟨w.heap.size, 1, none⟩) (by simp)]; simp [go_sem]
          have hzr : w.heap.size < wr.heap.size := by have := hb.size; simp at this; omega
          have hbw : Below w.heap.size w wr := Hb0.out.trans (hb.mono (by omega))
          have Hb := Lib.hid hb
          have Hbw := Lib.hid hbw
          clear hb hbw
          by_cases hlt : k < g.nodes.length
          · obtain ⟨vn, hvn, hns⟩ := Hg.out
            simp only [Value.agg.injEq, Array.mk.injEq, List.cons.injEq, and_true] at hvn
            subst hvn
            obtain ⟨p', cap', hp', _, hp⟩ := hns
            simp only [Value.slice.injEq, true_and] at hp'
            obtain ⟨rfl, rfl⟩ := hp'
            rcases hp with hp | ⟨b, o, rfl, hbb, hc⟩
            · rw [hp] at hlt; simp at hlt
            obtain ⟨vi, vp, k0, k1, k2, hi, hps⟩ := hc k hlt
            obtain ⟨pi, ci, rfl⟩ := hi.len
            obtain ⟨pp, cp, rfl⟩ := hps.len
            rw [← Hbw.out.cell (p := ⟨b, _, none⟩) hbb] at k0 k1 k2
            have hft := firstBad_take hlt hfb
            have hone := fun (wx : World) (hbx : Below w.heap.size w wx) => one_any wx _ g.nodes[k] (g.nodes.length : Int) ⟨_, _, rfl, hi.up hbx, hps.up hbx⟩ (Hwf.out.insl _ (List.getElem_mem hlt)) (Hwf.out.psl _ (List.getElem_mem hlt))
            have Hone := Lib.hid hone
            have Hft := Lib.hid hft
            clear hone hft hc hi hps hfb
            generalize hnk : g.nodes[k] = nk at *
            have Hnk := Lib.hid hnk
            clear hnk
            generalize nk.ins.length = li at *
            generalize nk.ps.length = lp at *
            go_wp2_with fail
            refine (Hone.out _ (Hbw.out.alloc (by omega) _)).mono ?_
            rintro e w3 ⟨rfl, hb3⟩
            have hb3' : Below (w.heap.size + 1) (w.alloc (.cells #[.slice (some ⟨b, o, none⟩) g.nodes.length cap, .int .i64 g.out] 24)) w3 := (Hb.out.alloc (by omega) _).trans (hb3.mono (by simp; omega))
            have Hb3 := Lib.hid hb3'
            clear hb3 hb3'
            by_cases hz : oneS nk g.nodes.length = 0
            · have hf1 : firstBad g.nodes.length (g.nodes.take (k + 1)) = 0 := by rw [Hft.out.1]; exact hz
              have Hf1 := Lib.hid hf1
              rw [hz]
              clear hz hf1
              go_wp2_with fail
              go_roundw
              case rel => exact ⟨k + 1, by go_num, by omega, Hf1.out, Hb3.out⟩
              case measure => simp [intOf]; omega
            · have hne : (oneS nk g.nodes.length != 0) = true := by rw [bne_iff_ne]; exact hz
              have hs : checkS g = oneS nk g.nodes.length := by
                have h1 := Hft.out.2 hz
                rw [Hcs.out, h1, if_pos hz]
              have Hs := Lib.hid hs
              clear hz hs
              have hbf : Below w.heap.size w w3 := ((Below.refl _ _).alloc (Nat.le_refl _) _).trans (Hb3.out.mono (by omega))
              have Hbf := Lib.hid hbf
              clear hbf
              go_wp2_with fail
              go_step3
              simp only [Exit.then, Exit.inBlock, Exit.jump]
              exact ⟨by first | trivial | rfl, over_of Hs.out ⟨_, _, _, _, _, _, _, _, _, _, _, _, _, _, _, _, _, _, _, _, _, _, _, _, _, _, _, _, _, _, _, _, _, _, _, _, _, _, _, _, _, _, _, _, _, rfl, Hbf.out⟩⟩
          · have hall : firstBad g.nodes.length g.nodes = 0 := by rw [List.take_of_length_le (by omega)] at hfb; exact hfb
            have hcs2 : checkS g = if g.out < 0 ∨ (g.nodes.length : Int) ≤ g.out then 8 else if roundB g = true then 6 else 0 := by
              rw [Hcs.out, if_neg (by rw [hall]; simp)]
            have Hcs2 := Lib.hid hcs2
            have Hall := Lib.hid hall
            clear hcs2 hall hfb Hcs
            by_cases ho : g.out < 0
            · have hs : checkS g = 8 := by rw [Hcs2.out, if_pos (.inl ho)]
              have Hs := Lib.hid hs
              clear hs
              go_wp2_with fail
              go_step3
              simp only [Exit.then, Exit.inBlock, Exit.jump]
              exact ⟨by first | trivial | rfl, over_of Hs.out ⟨_, _, _, _, _, _, _, _, _, _, _, _, _, _, _, _, _, _, _, _, _, _, _, _, _, _, _, _, _, _, _, _, _, _, _, _, _, _, _, _, _, _, _, _, _, rfl, Hbw.out⟩⟩
            · by_cases ho2 : (g.nodes.length : Int) ≤ g.out
              · have hs : checkS g = 8 := by rw [Hcs2.out, if_pos (.inr ho2)]
                have Hs := Lib.hid hs
                clear hs
                go_wp2_with fail
                go_step3
                simp only [Exit.then, Exit.inBlock, Exit.jump]
                exact ⟨by first | trivial | rfl, over_of Hs.out ⟨_, _, _, _, _, _, _, _, _, _, _, _, _, _, _, _, _, _, _, _, _, _, _, _, _, _, _, _, _, _, _, _, _, _, _, _, _, _, _, _, _, _, _, _, _, rfl, Hbw.out⟩⟩
              · have hs : checkS g = if roundB g = true then 6 else 0 := by rw [Hcs2.out, if_neg (by omega)]
                have hgok : GrOk g := ⟨by omega, fun n hn => by have := oneS_ins (firstBad_zero Hall.out n hn); omega, Hwf.out.ins⟩
                have hrd := round_any wr _ g (Hg.out.up Hbw.out) hgok
                have Hs := Lib.hid hs
                have Hrd := Lib.hid hrd
                clear hs hgok hrd
                cases hr : roundB g with
                | true =>
                  have hs6 : checkS g = 6 := by rw [Hs.out, if_pos hr]
                  have Hs6 := Lib.hid hs6
                  clear hs6
                  rw [hr] at Hrd
                  clear hr
                  go_wp2_with fail
                  refine (Hrd.out).mono ?_
                  rintro e w4 ⟨rfl, hb4⟩
                  have hbf := Hbw.out.trans (hb4.mono Hbw.out.size)
                  have Hbf := Lib.hid hbf
                  clear hbf hb4
                  go_wp2_with fail
                  go_step3
                  go_wp2_with fail
                  simp only [Exit.jump]
                  go_ret
                  exact ⟨ret_int Hs6.out.symm, Hbf.out⟩
                | false =>
                  have hs0 : checkS g = 0 := by rw [Hs.out, if_neg (by rw [hr]; simp)]
                  have Hs0 := Lib.hid hs0
                  clear hs0
                  rw [hr] at Hrd
                  clear hr
                  go_wp2_with fail
                  refine (Hrd.out).mono ?_
                  rintro e w4 ⟨rfl, hb4⟩
                  have hbf := Hbw.out.trans (hb4.mono Hbw.out.size)
                  have Hbf := Lib.hid hbf
                  clear hbf hb4
                  go_wp2_with fail
                  go_step3
                  go_wp2_with fail
                  simp only [Exit.jump]
                  go_ret
                  exact ⟨ret_int Hs0.out.symm, Hbf.out⟩

end Go.Proofs.Ytfphlkoneocejaa
