/- Texts of the scenes' proofs, laid together: NodeD, Check, SdH, SdI, SdF. -/
import Derived.Test.YtpbmfalokongfaaGreatDoorZaf
import Derived.WalkMore
import Derived.ScopeJumps
import Derived.Test.YtpbmfalokongfaaGreatDoorZae
import Derived.Test.YtpbmfalokongfaaGreatDoorZab
import Derived.Test.YtpbmfalokongfaaGreatDoorZac
set_option maxHeartbeats 64000000
set_option linter.unusedSimpArgs false
set_option linter.unusedVariables false
set_option linter.unusedSectionVars false
set_option linter.constructorNameAsVariable false
set_option maxRecDepth 100000
namespace Go.Proofs.YtpbmfalokongfaaGreatDoor
open Go.RowKit Go.Gou
def ugj (n : ubb) : Bool := decide ((n.ins.length : Int) < (ofS n.op).1.1) || decide ((ofS n.op).1.2.1 < (n.ins.length : Int)) || !decide ((n.ps.length : Int) = (ofS n.op).1.2.2)
def oneS (n : ubb) (count : Int) : Int :=
 if (ofS n.op).2 = false then 1 else if ugj n = true then 7 else if n.ins.all (uag (-1) (count - 1)) = false then 8 else if ua1 n = false then 3 else 0
def NodeV (w : World) (v : Value) (n : ubb) : Prop := ∃ vi vp, v = .agg #[iV n.op, vi, vp] ∧ IntsAt w.heap.size w vi n.ins ∧ IntsAt w.heap.size w vp n.ps
theorem ua9 {k : IntKind} {a b : Int} (h : a = b) : Ending.returned (.int k a) = .returned (.int k b) := by rw [h]
theorem of_eq (op a b c : Int) (ok : Bool) (w : World) (h : ofS op = ((a, b, c), ok)) :
 Calls Tryz.prog 102 #[iV op] w fun e w' => e = .returned (.tuple #[.agg #[iV a, iV b, iV c], .bool ok]) ∧ Below w.heap.size w w' := by
 have := of_any op w
 simpa [ofV, h] using this
theorem Asks.up {w w1 : World} {v : Value} {xs : List Int} {q : Int → Bool} (h : Asks w.heap.size w v xs q) (hb : Below w.heap.size w w1) : Asks w1.heap.size w1 v xs q := by
 obtain ⟨f, caps, rfl, hr, h⟩ := h
 exact ⟨f, caps, rfl, hr, fun w' n hn hb' => h w' n hn (uab hb hb')⟩
theorem one_any (w : World) (v : Value) (n : ubb) (count : Int) (hv : NodeV w v n) (hli : n.ins.length ≤ maxLen) (hlp : n.ps.length ≤ maxLen) :
 Calls Tryz.prog 99 #[v, iV count] w fun e w' => e = .returned (iV (oneS n count)) ∧ Below w.heap.size w w' := by
 obtain ⟨vi, vp, rfl, hi, hp⟩ := hv
 obtain ⟨pi, ci, rfl⟩ := hi.len
 obtain ⟨pp, cp, rfl⟩ := hp.len
 have bst := fun (w1 : World) (o1 o2 o3 : Obj) (hb1 : Below ((w.alloc o1).alloc o2).heap.size ((w.alloc o1).alloc o2) w1) =>
  (uab (((Below.refl w.heap.size w).alloc (Nat.le_refl _) o1).alloc (by simp) o2) hb1).alloc (Nat.le_trans (by simp; omega) hb1.size) o3
 have Bst := hd' bst
 clear bst
 cases hof : ofS n.op with
 | mk abc ok =>
 obtain ⟨a, b, c⟩ := abc
 have Hof := hd' hof
 clear hof
 cases ok with
 | false =>
  have Hs : Hid (oneS n count = 1) := by show _ = _; simp [oneS, Hof.o]
  go_enter Tryz.func99, Tryz.ntmps99
  go_wp2_with fail
  refine (of_eq _ a b c false _ Hof.o).mono ?_
  rintro e w1 ⟨rfl, hb1⟩
  have hz1 : w.heap.size < w1.heap.size := by have := hb1.size; simp at this; omega
  obtain ⟨hc1, _⟩ := ubj hb1
  go_wp2
  go_ret
  exact ⟨ua9 Hs.o.symm, Bst.o _ _ _ _ hb1⟩
 | true =>
  by_cases har : ugj n = true
  ·have Hs : Hid (oneS n count = 7) := by show _ = _; simp [oneS, Hof.o, har]
   have Har := hd' har
   clear har
   have hq : (a ≤ n.ins.length ∧ n.ins.length ≤ b) → ((n.ps.length : Int) != c) = true := by
    have h := Har.o
    simp only [ugj, Hof.o, Bool.or_eq_true, decide_eq_true_eq, Bool.not_eq_true', decide_eq_false_iff_not] at h
    intro ⟨h1, h2⟩
    rw [bne_iff_ne]
    omega
   have Hq := hd' hq
   clear hq
   go_enter Tryz.func99, Tryz.ntmps99
   go_wp2_with fail
   refine (of_eq _ a b c true _ Hof.o).mono ?_
   rintro e w1 ⟨rfl, hb1⟩
   have hz1 : w.heap.size + 1 < w1.heap.size := by have := hb1.size; simp at this; omega
   have hz0 : w.heap.size < w1.heap.size := by omega
   obtain ⟨hc1, _⟩ := ubj hb1
   unfold maxLen at hli hlp
   by_cases h1 : a ≤ n.ins.length
   ·by_cases h2 : n.ins.length ≤ b
    ·have h3 := Hq.o ⟨h1, h2⟩
     go_wp2_with fail
     go_ret
     exact ⟨ua9 Hs.o.symm, Bst.o _ _ _ _ hb1⟩
    ·go_wp2_with fail
     go_ret
     exact ⟨ua9 Hs.o.symm, Bst.o _ _ _ _ hb1⟩
   ·go_wp2_with fail
    go_ret
    exact ⟨ua9 Hs.o.symm, Bst.o _ _ _ _ hb1⟩
  ·have Har := hd' har
   clear har
   have h := Har.o
   simp only [ugj, Hof.o, Bool.or_eq_true, decide_eq_true_eq, Bool.not_eq_true', decide_eq_false_iff_not, not_or, Classical.not_not, Int.not_lt] at h
   obtain ⟨⟨h1, h2⟩, h3⟩ := h
   have Hlc : Hid ((n.ps.length : Int) = (ofS n.op).1.2.2) := by show _ = _; rw [Hof.o]; exact h3
   have hlc : ((n.ps.length : Int) != c) = false := by rw [h3]; simp
   clear h3
   have hli' := hd' hli
   have hlp' := hd' hlp
   have hcnt : ∀ (w1 : World) (ob : Obj), Below ((w.alloc ob).alloc (.cells #[iV count] 3)).heap.size ((w.alloc ob).alloc (.cells #[iV count] 3)) w1 →
       Asks w1.heap.size w1 (.func (.func 104) #[] #[.pointer (some ⟨w.heap.size + 1, 0, none⟩)]) n.ins (uag (-1) (count - 1)) := by
    intro w1 ob hb1
    have hlt : w.heap.size + 1 < ((w.alloc ob).alloc (.cells #[iV count] 3)).heap.size := by simp
    have hcell : ((w.alloc ob).alloc (.cells #[iV count] 3)).cell? ⟨w.heap.size + 1, 0, none⟩ = some (iV count) := by simp [go_sem]
    exact ⟨_, _, rfl, run_one1, fun w' m _ hb => one1_any count m w' _ (uau hb1 hb hlt ((hb1.cell (p := ⟨_, _, none⟩) hlt).trans hcell))⟩
   have Hcnt := hd' hcnt
   clear hcnt
   go_enter Tryz.func99, Tryz.ntmps99
   go_wp2_with fail
   refine (of_eq _ a b c true _ Hof.o).mono ?_
   rintro e w1 ⟨rfl, hb1⟩
   have hz1 : w.heap.size + 1 < w1.heap.size := by have := hb1.size; simp at this; omega
   have hz0 : w.heap.size < w1.heap.size := by omega
   obtain ⟨hc1, _⟩ := ubj hb1
   unfold maxLen at hli hlp
   have hask := Hcnt.o _ _ hb1
   have hbs := Bst.o _ _ _ (.cells #[iV a, iV b, iV c] 147) hb1
   have hba := (Below.refl w1.heap.size w1).alloc (Nat.le_refl _) (.cells #[iV a, iV b, iV c] 147)
   go_wp2_with fail
   cases hin : n.ins.all (uag (-1) (count - 1)) with
   | false =>
    have Hs : Hid (oneS n count = 8) := by show _ = _; simp [oneS, Hof.o, Har.o, hin]
    refine (ubm _ _ _ n.ins _ (hi.up hbs) (hask.up hba) hli'.out).mono ?_
    rintro e w2 ⟨rfl, hb2⟩
    rw [hin]
    clear hin
    go_wp2_with fail
    go_ret
    exact ⟨ua9 Hs.o.symm, uab hbs hb2⟩
   | true =>
    have Hin := hd' hin
    refine (ubm _ _ _ n.ins _ (hi.up hbs) (hask.up hba) hli'.out).mono ?_
    rintro e w2 ⟨rfl, hb2⟩
    rw [hin]
    clear hin
    have hbs2 := uab hbs hb2
    have hz2 : w.heap.size < w2.heap.size := by have := hb2.size; simp at this; omega
    have hc2 : ∀ o, w2.cell? ⟨w.heap.size, o, none⟩ = w1.cell? ⟨w.heap.size, o, none⟩ := fun o => by
     rw [hb2.cell (p := ⟨w.heap.size, o, none⟩) (by simp; omega), hba.cell (p := ⟨w.heap.size, o, none⟩) hz0]
    go_wp2_with fail
    cases hbo : ua1 n with
    | false =>
     have Hs : Hid (oneS n count = 3) := by show _ = _; simp [oneS, Hof.o, Har.o, Hin.o, hbo]
     refine (ufu _ _ _ n (hp.up hbs2) (by rw [Hof.o]) Hlc.o).mono ?_
     rintro e w3 ⟨rfl, hb3⟩
     rw [hbo]
     clear hbo
     go_wp2_with fail
     go_ret
     exact ⟨ua9 Hs.o.symm, uab hbs2 hb3⟩
    | true =>
     have Hs : Hid (oneS n count = 0) := by show _ = _; simp [oneS, Hof.o, Har.o, Hin.o, hbo]
     refine (ufu _ _ _ n (hp.up hbs2) (by rw [Hof.o]) Hlc.o).mono ?_
     rintro e w3 ⟨rfl, hb3⟩
     rw [hbo]
     clear hbo
     go_wp2_with fail
     go_ret
     exact ⟨ua9 Hs.o.symm, uab hbs2 hb3⟩
end Go.Proofs.YtpbmfalokongfaaGreatDoor
namespace Go.Proofs.YtpbmfalokongfaaGreatDoor
open Go.RowKit Go.Gou
def ua2 (count : Int) : List ubb → Int
 | [] => 0
 | n :: l => if oneS n count = 0 then ua2 count l else oneS n count
noncomputable def checkS (g : Gr) : Int :=
 if g.nodes.length = 0 ∨ 256 < g.nodes.length then 3
 else if ua2 g.nodes.length g.nodes ≠ 0 then ua2 g.nodes.length g.nodes
 else if g.out < 0 ∨ (g.nodes.length : Int) ≤ g.out then 8
 else if roundB g = true then 6 else 0
structure GrWf (g : Gr) : Prop where
 op : ∀ n ∈ g.nodes, (Lit.int .i64 n.op).wf = true
 ins : ∀ n ∈ g.nodes, ∀ x ∈ n.ins, (Lit.int .i64 x).wf = true
 ps : ∀ n ∈ g.nodes, ∀ x ∈ n.ps, (Lit.int .i64 x).wf = true
 out : (Lit.int .i64 g.out).wf = true
 insl : ∀ n ∈ g.nodes, n.ins.length ≤ maxLen
 psl : ∀ n ∈ g.nodes, n.ps.length ≤ maxLen
 len : g.nodes.length ≤ maxLen
theorem ugd {count : Int} {l : List ubb} (h : ua2 count l = 0) : ∀ n ∈ l, oneS n count = 0 := by
 induction l with
 | nil => simp
 | cons a l ih =>
  unfold ua2 at h
  split at h
  ·rename_i h0
   intro n hn
   rcases List.mem_cons.1 hn with rfl | hn
   ·exact h0
   ·exact ih h n hn
  ·rename_i h0
   exact absurd h h0
theorem udc {count : Int} {l : List ubb} {k : Nat} (hk : k < l.length) (h : ua2 count (l.take k) = 0) : ua2 count (l.take (k + 1)) = oneS l[k] count ∧ (oneS l[k] count ≠ 0 → ua2 count l = oneS l[k] count) := by
 induction l generalizing k with
 | nil => simp at hk
 | cons a l ih =>
  cases k with
  | zero =>
   constructor
   ·simp only [List.take_succ_cons, List.take_zero, ua2, List.getElem_cons_zero]
    split
    ·rename_i h0; exact h0.symm
    ·rfl
   ·intro hne
    simp only [List.getElem_cons_zero] at hne
    simp [ua2, hne]
  | succ k =>
   simp only [List.take_succ_cons, ua2] at h
   split at h
   ·rename_i h0
    obtain ⟨h1, h2⟩ := ih (by simpa using hk) h
    constructor
    ·rw [List.take_succ_cons]
     unfold ua2
     rw [if_pos h0]
     simpa using h1
    ·intro hne
     unfold ua2
     rw [if_pos h0]
     simpa using h2 (by simpa using hne)
   ·rename_i h0
    exact absurd h h0
theorem oneS_zero {n : ubb} {count : Int} (h : oneS n count = 0) : (ofS n.op).2 = true ∧ ugj n = false ∧ n.ins.all (uag (-1) (count - 1)) = true ∧ ua1 n = true := by
 unfold oneS at h
 split at h
 ·omega
 ·rename_i h1
  split at h
  ·omega
  ·rename_i h2
   split at h
   ·omega
   ·rename_i h3
    split at h
    ·omega
    ·rename_i h4
     exact ⟨by simpa using h1, by simpa using h2, by simpa using h3, by simpa using h4⟩
theorem ite_ok {α : Type} {P : α → Prop} {c : Prop} [Decidable c] {a b : α} (ha : P a) (hb : P b) : P (if c then a else b) := by
 split
 ·exact ha
 ·exact hb
def MostOk (r : (Int × Int × Int) × Bool) : Prop := r.1.2.1 ≤ 8 ∧ 0 ≤ r.1.2.2 ∧ r.1.2.2 ≤ 20
theorem ofS_most (op : Int) : MostOk (ofS op) := by
 unfold ofS
 repeat (refine ite_ok (by unfold MostOk; decide) ?_)
 unfold MostOk
 decide
theorem oneS_ins {n : ubb} {count : Int} (h : oneS n count = 0) : n.ins.length ≤ 8 := by
 have := (oneS_zero h).2.1
 simp only [ugj, Bool.or_eq_false_iff, decide_eq_false_iff_not] at this
 have h2 : (ofS n.op).1.2.1 ≤ 8 := (ofS_most n.op).1
 omega
def OverC (w : World) (c : Int) (a : Act) (w' : World) : Prop :=
 ∃ u0 u1 u2 u4 u5 u6 u7 u8 u9 u10 u11 u12 u13 u14 u15 u16 u17 u18 u19 u20 u21 u22 u23 u24 u25 u26 u27 u28 u29 u30 u31 u32 u33 u34 u35 u36 u37 u38 u39 u40 u41 u42 u43 u44 u45 : Value, a = { tmps := #[u0, u1, u2, iV c, u4, u5, u6, u7, u8, u9, u10, u11, u12, u13, u14, u15, u16, u17, u18, u19, u20, u21, u22, u23, u24, u25, u26, u27, u28, u29, u30, u31, u32, u33, u34, u35, u36, u37, u38, u39, u40, u41, u42, u43, u44, u45], defers := [] } ∧ Below w.heap.size w w'
def Over (w : World) (g : Gr) (a : Act) (w' : World) : Prop := OverC w (checkS g) a w'
theorem uer {w w' : World} {g : Gr} {c : Int} {a : Act} (h : checkS g = c) (ho : OverC w c a w') : Over w g a w' := by
 unfold Over
 rw [h]
 exact ho
theorem check_any (w : World) (v : Value) (g : Gr) (hg : GrV w v g) (hwf : GrWf g) :
 Calls Tryz.prog 94 #[v] w fun e w' => e = .returned (iV (checkS g)) ∧ Below w.heap.size w w' := by
 have Hg := hd' hg
 have Hwf := hd' hwf
 obtain ⟨p, cap, rfl⟩ := hg.form
 have hmax := hwf.len
 unfold maxLen at hmax
 clear hg hwf
 have hb0 := (Below.refl w.heap.size w).alloc (Nat.le_refl _) (.cells #[.slice p g.nodes.length cap, iV g.out] 40)
 have Hb0 := hd' hb0
 clear hb0
 go_enter Tryz.func94, Tryz.ntmps94
 go_wp2_with fail
 refine wp_scope_jumps 0 (Over w g) (fun _ _ => 0) rfl ?first ?pass
 case pass =>
  rintro a w' ⟨u0, u1, u2, u4, u5, u6, u7, u8, u9, u10, u11, u12, u13, u14, u15, u16, u17, u18, u19, u20, u21, u22, u23, u24, u25, u26, u27, u28, u29, u30, u31, u32, u33, u34, u35, u36, u37, u38, u39, u40, u41, u42, u43, u44, u45, rfl, hb⟩
  go_wp2
  simp only [Exit.jump]
  go_ret
  exact ⟨rfl, hb⟩
 case first =>
  by_cases h0 : g.nodes.length = 0
  ·have hs : checkS g = 3 := by unfold checkS; rw [if_pos (.inl h0)]
   have Hs := hd' hs
   have e0 : ((g.nodes.length : Int) == 0) = true := by rw [h0]; rfl
   clear h0 hs
   go_wp2_with fail
   go_step3
   simp only [Exit.then, Exit.jump]
   exact ⟨by first | trivial | rfl, uer Hs.o ⟨_, _, _, _, _, _, _, _, _, _, _, _, _, _, _, _, _, _, _, _, _, _, _, _, _, _, _, _, _, _, _, _, _, _, _, _, _, _, _, _, _, _, _, _, _, rfl, Hb0.o⟩⟩
  ·have e0 : ((g.nodes.length : Int) == 0) = false := bqf.2 (by omega)
   by_cases h256 : 256 < g.nodes.length
   ·have hs : checkS g = 3 := by unfold checkS; rw [if_pos (.inr h256)]
    have Hs := hd' hs
    clear h0 hs
    go_wp2_with fail
    go_step3
    simp only [Exit.then, Exit.jump]
    exact ⟨by first | trivial | rfl, uer Hs.o ⟨_, _, _, _, _, _, _, _, _, _, _, _, _, _, _, _, _, _, _, _, _, _, _, _, _, _, _, _, _, _, _, _, _, _, _, _, _, _, _, _, _, _, _, _, _, rfl, Hb0.o⟩⟩
   ·have hcs : checkS g = if ua2 g.nodes.length g.nodes ≠ 0 then ua2 g.nodes.length g.nodes else if g.out < 0 ∨ (g.nodes.length : Int) ≤ g.out then 8 else if roundB g = true then 6 else 0 := by
     unfold checkS; rw [if_neg (by omega)]
    have Hcs := hd' hcs
    clear hcs
    go_wp2_with fail
    go_loopw [3, 19] (fun c i wr => ∃ k : Nat, i = iV k ∧ k ≤ g.nodes.length ∧ ua2 g.nodes.length (g.nodes.take k) = 0 ∧ Below (w.heap.size + 1) (w.alloc (.cells #[.slice p g.nodes.length cap, iV g.out] 40)) wr) (fun _ i _ => g.nodes.length - (intOf i).toNat)
    case atStart => exact ⟨0, rfl, Nat.zero_le _, rfl, Below.refl _ _⟩
    case round =>
     obtain ⟨k, rfl, hk, hfb, hb⟩ := hrel
     have hc0' : wr.cell? ⟨w.heap.size, 0, none⟩ = some (.slice p g.nodes.length cap) := by rw [hb.cell (p := ⟨w.heap.size, 0, none⟩) (by simp)]; simp [go_sem]
     have hc1' : wr.cell? ⟨w.heap.size, 1, none⟩ = some (iV g.out) := by rw [hb.cell (p := ⟨w.heap.size, 1, none⟩) (by simp)]; simp [go_sem]
     have hzr : w.heap.size < wr.heap.size := by have := hb.size; simp at this; omega
     have hbw : Below w.heap.size w wr := Hb0.o.trans (hb.mono (by omega))
     have Hb := hd' hb
     have Hbw := hd' hbw
     clear hb hbw
     by_cases hlt : k < g.nodes.length
     ·obtain ⟨vn, hvn, hns⟩ := Hg.o
      simp only [Value.agg.injEq, Array.mk.injEq, List.cons.injEq, and_true] at hvn
      subst hvn
      obtain ⟨p', cap', hp', _, hp⟩ := hns
      simp only [Value.slice.injEq, true_and] at hp'
      obtain ⟨rfl, rfl⟩ := hp'
      rcases hp with hp | ⟨b, o, rfl, hbb, hc⟩
      ·rw [hp] at hlt; simp at hlt
      obtain ⟨vi, vp, k0, k1, k2, hi, hps⟩ := hc k hlt
      obtain ⟨pi, ci, rfl⟩ := hi.len
      obtain ⟨pp, cp, rfl⟩ := hps.len
      rw [← Hbw.o.cell (p := ⟨b, _, none⟩) hbb] at k0 k1 k2
      have hft := udc hlt hfb
      have hone := fun (wx : World) (hbx : Below w.heap.size w wx) => one_any wx _ g.nodes[k] (g.nodes.length : Int) ⟨_, _, rfl, hi.up hbx, hps.up hbx⟩ (Hwf.o.insl _ (lgM hlt)) (Hwf.o.psl _ (lgM hlt))
      have Hone := hd' hone
      have Hft := hd' hft
      clear hone hft hc hi hps hfb
      generalize hnk : g.nodes[k] = nk at *
      have Hnk := hd' hnk
      clear hnk
      generalize nk.ins.length = li at *
      generalize nk.ps.length = lp at *
      go_wp2_with fail
      refine (Hone.o _ (Hbw.o.alloc (by omega) _)).mono ?_
      rintro e w3 ⟨rfl, hb3⟩
      have hb3' : Below (w.heap.size + 1) (w.alloc (.cells #[.slice (some ⟨b, o, none⟩) g.nodes.length cap, iV g.out] 40)) w3 := (Hb.o.alloc (by omega) _).trans (hb3.mono (by simp; omega))
      have Hb3 := hd' hb3'
      clear hb3 hb3'
      by_cases hz : oneS nk g.nodes.length = 0
      ·have hf1 : ua2 g.nodes.length (g.nodes.take (k + 1)) = 0 := by rw [Hft.o.1]; exact hz
       have Hf1 := hd' hf1
       rw [hz]
       clear hz hf1
       go_wp2_with fail
       go_roundw
       case rel => exact ⟨k + 1, by go_num, by omega, Hf1.o, Hb3.o⟩
       case measure => simp [intOf]; omega
      ·have hne : (oneS nk g.nodes.length != 0) = true := by rw [bne_iff_ne]; exact hz
       have hs : checkS g = oneS nk g.nodes.length := by
        have h1 := Hft.o.2 hz
        rw [Hcs.o, h1, if_pos hz]
       have Hs := hd' hs
       clear hz hs
       have hbf : Below w.heap.size w w3 := ((Below.refl _ _).alloc (Nat.le_refl _) _).trans (Hb3.o.mono (by omega))
       have Hbf := hd' hbf
       clear hbf
       go_wp2_with fail
       go_step3
       simp only [Exit.then, Exit.inBlock, Exit.jump]
       exact ⟨by first | trivial | rfl, uer Hs.o ⟨_, _, _, _, _, _, _, _, _, _, _, _, _, _, _, _, _, _, _, _, _, _, _, _, _, _, _, _, _, _, _, _, _, _, _, _, _, _, _, _, _, _, _, _, _, rfl, Hbf.o⟩⟩
     ·have hall : ua2 g.nodes.length g.nodes = 0 := by rw [List.take_of_length_le (by omega)] at hfb; exact hfb
      have hcs2 : checkS g = if g.out < 0 ∨ (g.nodes.length : Int) ≤ g.out then 8 else if roundB g = true then 6 else 0 := by
       rw [Hcs.o, if_neg (by rw [hall]; simp)]
      have Hcs2 := hd' hcs2
      have Hall := hd' hall
      clear hcs2 hall hfb Hcs
      by_cases ho : g.out < 0
      ·have hs : checkS g = 8 := by rw [Hcs2.o, if_pos (.inl ho)]
       have Hs := hd' hs
       clear hs
       go_wp2_with fail
       go_step3
       simp only [Exit.then, Exit.inBlock, Exit.jump]
       exact ⟨by first | trivial | rfl, uer Hs.o ⟨_, _, _, _, _, _, _, _, _, _, _, _, _, _, _, _, _, _, _, _, _, _, _, _, _, _, _, _, _, _, _, _, _, _, _, _, _, _, _, _, _, _, _, _, _, rfl, Hbw.o⟩⟩
      ·by_cases ho2 : (g.nodes.length : Int) ≤ g.out
       ·have hs : checkS g = 8 := by rw [Hcs2.o, if_pos (.inr ho2)]
        have Hs := hd' hs
        clear hs
        go_wp2_with fail
        go_step3
        simp only [Exit.then, Exit.inBlock, Exit.jump]
        exact ⟨by first | trivial | rfl, uer Hs.o ⟨_, _, _, _, _, _, _, _, _, _, _, _, _, _, _, _, _, _, _, _, _, _, _, _, _, _, _, _, _, _, _, _, _, _, _, _, _, _, _, _, _, _, _, _, _, rfl, Hbw.o⟩⟩
       ·have hs : checkS g = if roundB g = true then 6 else 0 := by rw [Hcs2.o, if_neg (by omega)]
        have hgok : GrOk g := ⟨by omega, fun n hn => by have := oneS_ins (ugd Hall.o n hn); omega, Hwf.o.ins⟩
        have hrd := round_any wr _ g (Hg.o.up Hbw.o) hgok
        have Hs := hd' hs
        have Hrd := hd' hrd
        clear hs hgok hrd
        cases hr : roundB g with
        | true =>
         have hs6 : checkS g = 6 := by rw [Hs.o, if_pos hr]
         have Hs6 := hd' hs6
         clear hs6
         rw [hr] at Hrd
         clear hr
         go_wp2_with fail
         refine (Hrd.o).mono ?_
         rintro e w4 ⟨rfl, hb4⟩
         have hbf := Hbw.o.trans (hb4.mono Hbw.o.size)
         have Hbf := hd' hbf
         clear hbf hb4
         go_wp2_with fail
         go_step3
         go_wp2_with fail
         simp only [Exit.jump]
         go_ret
         exact ⟨ua9 Hs6.o.symm, Hbf.o⟩
        | false =>
         have hs0 : checkS g = 0 := by rw [Hs.o, if_neg (by rw [hr]; simp)]
         have Hs0 := hd' hs0
         clear hs0
         rw [hr] at Hrd
         clear hr
         go_wp2_with fail
         refine (Hrd.o).mono ?_
         rintro e w4 ⟨rfl, hb4⟩
         have hbf := Hbw.o.trans (hb4.mono Hbw.o.size)
         have Hbf := hd' hbf
         clear hbf hb4
         go_wp2_with fail
         go_step3
         go_wp2_with fail
         simp only [Exit.jump]
         go_ret
         exact ⟨ua9 Hs0.o.symm, Hbf.o⟩
end Go.Proofs.YtpbmfalokongfaaGreatDoor
namespace Go.Gou
open Go.RowKit
instance instInhPxl : Inhabited Pxl := ⟨Pxl.zero⟩
theorem pxs_row (ps : List Pxl) : ∀ (j : Nat), j < ps.length → ∀ (i : Nat) (v : Value), (Pxl.cells ps[j]!)[i]? = some v → (pxs ps)[j * 4 + i]? = some v := by
 induction ps with
 | nil => intro j h; simp at h
 | cons p r ih =>
  intro j h i v hv
  have e : pxs (p :: r) = p.cells ++ pxs r := by simp [pxs]
  have hl : p.cells.length = 4 := rfl
  rw [e]
  cases j with
  | zero =>
   have hi := (lgS.1 hv).1
   have hi4 : i < 4 := hi
   rw [lgL (by omega), Nat.zero_mul, Nat.zero_add]
   exact hv
  | succ j =>
   rw [lgR (by omega), hl, show (j + 1) * 4 + i - 4 = j * 4 + i by omega]
   exact ih j (by simpa using h) i v hv
theorem PixR.row {G : Nat → Prop} {w : World} {p : Option Addr} {n c : Nat} {ps : List Pxl} (h : RowG G w 4 (.slice p n c) ps.length (pxs ps)) (h0 : 0 < ps.length) : ∃ b o, p = some ⟨b, o, none⟩ ∧ b < w.heap.size ∧ ∀ j, j < ps.length → ∀ i v, (Pxl.cells ps[j]!)[i]? = some v → w.cell? ⟨b, o + j * 4 + i, none⟩ = some v := by
 obtain ⟨_, p', cap, e, _, h⟩ := h
 simp only [Value.slice.injEq] at e
 obtain ⟨rfl, -, -⟩ := e
 rcases h with h | ⟨b, o, rfl, hb, _, hc⟩
 ·omega
 ·refine ⟨b, o, rfl, hb, fun j hj i v hv => ?_⟩
  have := hc _ _ (pxs_row ps j hj i v hv)
  rwa [← Nat.add_assoc] at this
theorem RowG.ints {G : Nat → Prop} {w : World} {v : Value} {xs : List Int} (h : IntsR G w v xs) : IntsAt w.heap.size w v xs := by
 obtain ⟨_, p, cap, rfl, hcap, h⟩ := h
 refine ⟨p, cap, rfl, hcap, ?_⟩
 rcases h with h | ⟨b, o, rfl, hb, _, hc⟩
 ·exact .inl (List.length_eq_zero_iff.1 h)
 ·exact .inr ⟨b, o, rfl, hb, fun i hi => hc i _ (by simp [ivs, hi])⟩
theorem NodesR.at_ {G : Nat → Prop} {w : World} {v : Value} {ns : List ubb} (h : NodesR G w v ns) : NodesAt w.heap.size w v ns := by
 obtain ⟨cs, ⟨_, p, cap, rfl, hcap, h⟩, h2, h3⟩ := h
 refine ⟨p, cap, rfl, hcap, ?_⟩
 rcases h with h | ⟨b, o, rfl, hb, _, hc⟩
 ·exact .inl (List.length_eq_zero_iff.1 h)
 ·refine .inr ⟨b, o, rfl, hb, fun i hi => ?_⟩
  obtain ⟨vi, vp, g0, g1, g2, g3, g4⟩ := h3 i hi
  exact ⟨vi, vp, hc _ _ g0, by have := hc _ _ g1; rwa [← Nat.add_assoc] at this, by have := hc _ _ g2; rwa [← Nat.add_assoc] at this, RowG.ints g3, RowG.ints g4⟩
theorem Ct.right2_bad {c : Ct} (hk : c.kind = 2) (h : c.w < 1 ∨ c.h < 1 ∨ 4096 < c.w ∨ 4096 < c.h ∨ 65536 < c.w * c.h ∨ (c.pix.length : Int) ≠ c.w * c.h ∨ c.turn < 0 ∨ 3 < c.turn ∨ nearB c.box.x0 = false ∨ nearB c.box.y0 = false) : c.rightB = false := by
 unfold Ct.rightB
 rw [if_neg (by omega), if_pos hk]
 rcases h with h | h | h | h | h | h | h | h | h | h
 ·rw [dqt h]; simp
 ·rw [dqt h]; simp
 ·rw [dqt h]; simp
 ·rw [dqt h]; simp
 ·rw [dqt h]; simp
 ·rw [dqt h]; simp
 ·rw [dqt h]; simp
 ·rw [dqt h]; simp
 ·rw [h]; simp
 ·rw [h]; simp
theorem Ct.right2_ok {c : Ct} (hk : c.kind = 2) (h1 : ¬ c.w < 1) (h2 : ¬ c.h < 1) (h3 : ¬ 4096 < c.w) (h4 : ¬ 4096 < c.h) (h5 : ¬ 65536 < c.w * c.h) (h6 : (c.pix.length : Int) = c.w * c.h) (h7 : ¬ c.turn < 0) (h8 : ¬ 3 < c.turn) (h9 : nearB c.box.x0 = true) (h10 : nearB c.box.y0 = true) : c.rightB = c.pix.all Pxl.rightB := by
 unfold Ct.rightB
 rw [if_neg (by omega), if_pos hk, dqf h1, dqf h2, dqf h3, dqf h4, dqf h5, dqf (fun hh => hh h6), dqf h7, dqf h8, h9, h10]
 simp
theorem Ct.right1 {c : Ct} (hk : c.kind = 1) : c.rightB = (c.box.nearB && c.px.rightB) := by
 unfold Ct.rightB
 rw [if_pos hk]
theorem Ct.right0 {c : Ct} (hk : c.kind = 0) : c.rightB = true := by
 unfold Ct.rightB
 rw [if_neg (by omega), if_neg (by omega), hk]
 rfl
theorem ugz {a b : Int} (h1 : ¬ a < 1) (h2 : ¬ b < 1) (h3 : ¬ 4096 < a) (h4 : ¬ 4096 < b) : IntKind.i64.wrap (a * b) = a * b := by
 have h5 : 1 * 1 ≤ a * b := Int.mul_le_mul (by omega) (by omega) (by omega) (by omega)
 have h6 : a * b ≤ 4096 * 4096 := Int.mul_le_mul (by omega) (by omega) (by omega) (by omega)
 rw [IntKind.wrap_i64]
 generalize a * b = x at *
 omega
end Go.Gou
namespace Go.Proofs.YtpbmfalokongfaaGreatDoor
open Go.RowKit Go.Gou Go.Lib
theorem ucz (p : Pxl) (w : World) : Calls Tryz.prog 91 #[.agg (Pxl.cells p).toArray] w fun e w' => e = .returned (.bool p.rightB) ∧ Gou.Mod (fun _ => False) w w' := by
 have Hb : Hid (p.rightB = (decide (p.p0 ≤ p.p3) && (decide (p.p1 ≤ p.p3) && decide (p.p2 ≤ p.p3)))) := hd' rfl
 have HB := hd' (Blk.new w 34 #[Value.int .u8 ((p.p0 : Nat) : Int), Value.int .u8 ((p.p1 : Nat) : Int), Value.int .u8 ((p.p2 : Nat) : Int), Value.int .u8 ((p.p3 : Nat) : Int)])
 have HM := hd' (Gou.Mod.alloc0 w (.cells #[Value.int .u8 ((p.p0 : Nat) : Int), Value.int .u8 ((p.p1 : Nat) : Int), Value.int .u8 ((p.p2 : Nat) : Int), Value.int .u8 ((p.p3 : Nat) : Int)] 34))
 show Calls Tryz.prog 91 #[.agg #[Value.int .u8 ((p.p0 : Nat) : Int), Value.int .u8 ((p.p1 : Nat) : Int), Value.int .u8 ((p.p2 : Nat) : Int), Value.int .u8 ((p.p3 : Nat) : Int)]] w _
 go_enter Tryz.func91, Tryz.ntmps91
 go_upto_region 1 with fail
 generalize w.alloc (.cells #[Value.int .u8 ((p.p0 : Nat) : Int), Value.int .u8 ((p.p1 : Nat) : Int), Value.int .u8 ((p.p2 : Nat) : Int), Value.int .u8 ((p.p3 : Nat) : Int)] 34) = W1 at *
 have c0 : W1.cell? ⟨w.heap.size, 0, none⟩ = some (.int .u8 ((p.p0 : Nat) : Int)) := HB.o.cell 0 rfl
 have c1 : W1.cell? ⟨w.heap.size, 1, none⟩ = some (.int .u8 ((p.p1 : Nat) : Int)) := HB.o.cell 1 rfl
 have c2 : W1.cell? ⟨w.heap.size, 2, none⟩ = some (.int .u8 ((p.p2 : Nat) : Int)) := HB.o.cell 2 rfl
 have c3 : W1.cell? ⟨w.heap.size, 3, none⟩ = some (.int .u8 ((p.p3 : Nat) : Int)) := HB.o.cell 3 rfl
 by_cases h0 : p.p0 ≤ p.p3
 ·have e0 : decide (((p.p0 : Nat) : Int) ≤ ((p.p3 : Nat) : Int)) = true := dqt (by omega)
  by_cases h1 : p.p1 ≤ p.p3
  ·have e1 : decide (((p.p1 : Nat) : Int) ≤ ((p.p3 : Nat) : Int)) = true := dqt (by omega)
   by_cases h2 : p.p2 ≤ p.p3
   ·have e2 : decide (((p.p2 : Nat) : Int) ≤ ((p.p3 : Nat) : Int)) = true := dqt (by omega)
    go_wp2_with fail
    go_ret
    exact ⟨by rw [Hb.o]; simp [*], HM.o⟩
   ·have e2 : decide (((p.p2 : Nat) : Int) ≤ ((p.p3 : Nat) : Int)) = false := dqf (by omega)
    go_wp2_with fail
    go_ret
    exact ⟨by rw [Hb.o]; simp [*], HM.o⟩
  ·have e1 : decide (((p.p1 : Nat) : Int) ≤ ((p.p3 : Nat) : Int)) = false := dqf (by omega)
   go_wp2_with fail
   go_ret
   exact ⟨by rw [Hb.o]; simp [*], HM.o⟩
 ·have e0 : decide (((p.p0 : Nat) : Int) ≤ ((p.p3 : Nat) : Int)) = false := dqf (by omega)
  go_wp2_with fail
  go_ret
  exact ⟨by rw [Hb.o]; simp [*], HM.o⟩
theorem uhf (p : Pxl) (w : World) : Calls Tryz.prog 93 #[.agg (Pxl.cells p).toArray] w fun e w' => e = .returned (.bool (!p.rightB)) ∧ Gou.Mod (fun _ => False) w w' := by
 have HB := hd' (Blk.new w 34 #[Value.int .u8 ((p.p0 : Nat) : Int), Value.int .u8 ((p.p1 : Nat) : Int), Value.int .u8 ((p.p2 : Nat) : Int), Value.int .u8 ((p.p3 : Nat) : Int)])
 have HM := hd' (Gou.Mod.alloc0 w (.cells #[Value.int .u8 ((p.p0 : Nat) : Int), Value.int .u8 ((p.p1 : Nat) : Int), Value.int .u8 ((p.p2 : Nat) : Int), Value.int .u8 ((p.p3 : Nat) : Int)] 34))
 show Calls Tryz.prog 93 #[.agg #[Value.int .u8 ((p.p0 : Nat) : Int), Value.int .u8 ((p.p1 : Nat) : Int), Value.int .u8 ((p.p2 : Nat) : Int), Value.int .u8 ((p.p3 : Nat) : Int)]] w _
 go_enter Tryz.func93, Tryz.ntmps93
 go_upto_region 1 with fail
 generalize w.alloc (.cells #[Value.int .u8 ((p.p0 : Nat) : Int), Value.int .u8 ((p.p1 : Nat) : Int), Value.int .u8 ((p.p2 : Nat) : Int), Value.int .u8 ((p.p3 : Nat) : Int)] 34) = W1 at *
 have c0 : W1.cell? ⟨w.heap.size, 0, none⟩ = some (.int .u8 ((p.p0 : Nat) : Int)) := HB.o.cell 0 rfl
 have c1 : W1.cell? ⟨w.heap.size, 1, none⟩ = some (.int .u8 ((p.p1 : Nat) : Int)) := HB.o.cell 1 rfl
 have c2 : W1.cell? ⟨w.heap.size, 2, none⟩ = some (.int .u8 ((p.p2 : Nat) : Int)) := HB.o.cell 2 rfl
 have c3 : W1.cell? ⟨w.heap.size, 3, none⟩ = some (.int .u8 ((p.p3 : Nat) : Int)) := HB.o.cell 3 rfl
 go_wp2_with fail
 refine (ucz p _).mono ?_
 rintro e w2 ⟨rfl, hm2⟩
 have HM2 := hd' (HM.o.trans' hm2)
 clear hm2 c0 c1 c2 c3
 go_wp2_with fail
 go_ret
 exact ⟨rfl, HM2.o⟩
theorem ue7 (r : Rc) (w : World) : Calls Tryz.prog 62 #[.agg #[iV r.x0, iV r.y0, iV r.x1, iV r.y1]] w fun e w' => e = .returned (.bool r.nearB) ∧ Gou.Mod (fun _ => False) w w' := by
 have HB := hd' (Blk.new w 32 #[iV r.x0, iV r.y0, iV r.x1, iV r.y1])
 have HM := hd' (Gou.Mod.alloc0 w (.cells #[iV r.x0, iV r.y0, iV r.x1, iV r.y1] 32))
 go_enter Tryz.func62, Tryz.ntmps62
 go_upto_region 1 with fail
 generalize w.alloc (.cells #[iV r.x0, iV r.y0, iV r.x1, iV r.y1] 32) = W1 at *
 have c0 : W1.cell? ⟨w.heap.size, 0, none⟩ = some (iV r.x0) := HB.o.cell 0 rfl
 have c1 : W1.cell? ⟨w.heap.size, 1, none⟩ = some (iV r.y0) := HB.o.cell 1 rfl
 have c2 : W1.cell? ⟨w.heap.size, 2, none⟩ = some (iV r.x1) := HB.o.cell 2 rfl
 have c3 : W1.cell? ⟨w.heap.size, 3, none⟩ = some (iV r.y1) := HB.o.cell 3 rfl
 go_wp2_with fail
 have HN := hd' (Blk.new W1 3 #[iV r.x0, iV r.y0, iV r.x1, iV r.y1])
 refine (ues _ W1.heap.size 4 4 [r.x0, r.y0, r.x1, r.y1] rfl (by omega) (fun j hj => ?_)).mono ?_
 ·match j, hj with
  | 0, _ => exact HN.o.cell 0 rfl
  | 1, _ => exact HN.o.cell 1 rfl
  | 2, _ => exact HN.o.cell 2 rfl
  | 3, _ => exact HN.o.cell 3 rfl
 ·rintro e w2 ⟨rfl, hm2⟩
  have HM2 := hd' (HM.o.trans' ((Gou.Mod.alloc0 W1 _).trans' hm2))
  clear hm2 c0 c1 c2 c3
  go_wp2_with fail
  go_ret
  exact ⟨by simp [Rc.nearB, List.all], HM2.o⟩
theorem uig (w : World) (c : Ct) (vp : Value) (h : PixR (fun _ => True) w vp c.pix) (hn : c.pix.length ≤ 1000000) (hk0 : 0 ≤ c.kind) (hk2 : c.kind ≤ 2) :
 Calls Tryz.prog 81 #[.agg (uak c vp)] w fun e w' => e = .returned (.bool c.rightB) ∧ Gou.Mod (fun _ => False) w w' := by
 obtain ⟨pp, cp, rfl⟩ := RowG.slice h
 have HB := hd' (Blk.new w 37 (uak c (.slice pp c.pix.length cp)))
 have HM := hd' (Gou.Mod.alloc0 w (.cells (uak c (.slice pp c.pix.length cp)) 37))
 have Hp := hd' h
 have Hn := hd' hn
 clear h hn
 go_enter Tryz.func81, Tryz.ntmps81
 go_upto_region 1 with fail
 generalize w.alloc (.cells (uak c (.slice pp c.pix.length cp)) 37) = W1 at *
 have c0 : W1.cell? ⟨w.heap.size, 0, none⟩ = some (iV c.kind) := HB.o.cell 0 rfl
 have c1 : W1.cell? ⟨w.heap.size, 1, none⟩ = some (iV c.box.x0) := HB.o.cell 1 rfl
 have c2 : W1.cell? ⟨w.heap.size, 2, none⟩ = some (iV c.box.y0) := HB.o.cell 2 rfl
 have c3 : W1.cell? ⟨w.heap.size, 3, none⟩ = some (iV c.box.x1) := HB.o.cell 3 rfl
 have c4 : W1.cell? ⟨w.heap.size, 4, none⟩ = some (iV c.box.y1) := HB.o.cell 4 rfl
 have c5 : W1.cell? ⟨w.heap.size, 5, none⟩ = some (.int .u8 ((c.px.p0 : Nat) : Int)) := HB.o.cell 5 rfl
 have c6 : W1.cell? ⟨w.heap.size, 6, none⟩ = some (.int .u8 ((c.px.p1 : Nat) : Int)) := HB.o.cell 6 rfl
 have c7 : W1.cell? ⟨w.heap.size, 7, none⟩ = some (.int .u8 ((c.px.p2 : Nat) : Int)) := HB.o.cell 7 rfl
 have c8 : W1.cell? ⟨w.heap.size, 8, none⟩ = some (.int .u8 ((c.px.p3 : Nat) : Int)) := HB.o.cell 8 rfl
 have c9 : W1.cell? ⟨w.heap.size, 9, none⟩ = some (iV c.w) := HB.o.cell 9 rfl
 have c10 : W1.cell? ⟨w.heap.size, 10, none⟩ = some (iV c.h) := HB.o.cell 10 rfl
 have c11 : W1.cell? ⟨w.heap.size, 11, none⟩ = some (iV c.turn) := HB.o.cell 11 rfl
 have c12 : W1.cell? ⟨w.heap.size, 12, none⟩ = some (.slice pp c.pix.length cp) := HB.o.cell 12 rfl
 by_cases k1 : c.kind = 1
 ·have Hk := hd' k1
  rw [k1] at c0
  clear hk0 hk2 k1 c9 c10 c11 c12
  go_wp2_with fail
  refine (ue7 c.box _).mono ?_
  rintro e w2 ⟨rfl, hm2⟩
  have HM2 := hd' (HM.o.trans' hm2)
  have HB2 := hd' (HB.o.up hm2)
  clear hm2 c0 c1 c2 c3 c4 c5 c6 c7 c8
  have c5 : w2.cell? ⟨w.heap.size, 5, none⟩ = some (.int .u8 ((c.px.p0 : Nat) : Int)) := HB2.o.cell 5 rfl
  have c6 : w2.cell? ⟨w.heap.size, 6, none⟩ = some (.int .u8 ((c.px.p1 : Nat) : Int)) := HB2.o.cell 6 rfl
  have c7 : w2.cell? ⟨w.heap.size, 7, none⟩ = some (.int .u8 ((c.px.p2 : Nat) : Int)) := HB2.o.cell 7 rfl
  have c8 : w2.cell? ⟨w.heap.size, 8, none⟩ = some (.int .u8 ((c.px.p3 : Nat) : Int)) := HB2.o.cell 8 rfl
  have Hr := hd' (Ct.right1 Hk.o)
  generalize c.box.nearB = x at *
  cases x
  ·go_wp2_with fail
   go_ret
   exact ⟨by rw [Hr.o]; rfl, HM2.o⟩
  ·go_wp2_with fail
   refine (ucz c.px _).mono ?_
   rintro e w3 ⟨rfl, hm3⟩
   have HM3 := hd' (HM2.o.trans' hm3)
   clear hm3 c5 c6 c7 c8
   go_wp2_with fail
   go_ret
   exact ⟨by rw [Hr.o]; rfl, HM3.o⟩
 ·have e1 : (c.kind == 1) = false := bqf.2 k1
  by_cases k2 : c.kind = 2
  ·have Hk := hd' k2
   rw [k2] at c0
   clear hk0 hk2 k1 e1 k2
   go_upto_region 5 with fail
   by_cases h0 : c.w < 1
   ·have e0 : decide (c.w < 1) = true := dqt h0
    have Hbad : Hid (c.rightB = false) := hd' (Ct.right2_bad Hk.o (.inl h0))
    go_wp2_with fail
    go_ret
    exact ⟨by rw [Hbad.o]; rfl, HM.o⟩
   ·have e0 : decide (c.w < 1) = false := dqf h0
    by_cases h1 : c.h < 1
    ·have e1 : decide (c.h < 1) = true := dqt h1
     have Hbad : Hid (c.rightB = false) := hd' (Ct.right2_bad Hk.o (.inr (.inl h1)))
     go_wp2_with fail
     go_ret
     exact ⟨by rw [Hbad.o]; rfl, HM.o⟩
    ·have e1 : decide (c.h < 1) = false := dqf h1
     by_cases h2 : 4096 < c.w
     ·have e2 : decide (4096 < c.w) = true := dqt h2
      have Hbad : Hid (c.rightB = false) := hd' (Ct.right2_bad Hk.o (.inr (.inr (.inl h2))))
      go_wp2_with fail
      go_ret
      exact ⟨by rw [Hbad.o]; rfl, HM.o⟩
     ·have e2 : decide (4096 < c.w) = false := dqf h2
      by_cases h3 : 4096 < c.h
      ·have e3 : decide (4096 < c.h) = true := dqt h3
       have Hbad : Hid (c.rightB = false) := hd' (Ct.right2_bad Hk.o (.inr (.inr (.inr (.inl h3)))))
       go_wp2_with fail
       go_ret
       exact ⟨by rw [Hbad.o]; rfl, HM.o⟩
      ·have e3 : decide (4096 < c.h) = false := dqf h3
       have hw := ugz h0 h1 h2 h3
       by_cases h4 : 65536 < c.w * c.h
       ·have e4 : decide (65536 < c.w * c.h) = true := dqt h4
        have Hbad : Hid (c.rightB = false) := hd' (Ct.right2_bad Hk.o (.inr (.inr (.inr (.inr (.inl h4))))))
        go_wp2_with fail
        go_ret
        exact ⟨by rw [Hbad.o]; rfl, HM.o⟩
       ·have e4 : decide (65536 < c.w * c.h) = false := dqf h4
        by_cases h5 : (c.pix.length : Int) = c.w * c.h
        ·have e5 : (((c.pix.length : Nat) : Int) == c.w * c.h) = true := beq_iff_eq.2 h5
         go_upto_region 7 with fail
         by_cases h6 : c.turn < 0
         ·have e6 : decide (0 ≤ c.turn) = false := dqf (by omega)
          have Hbad : Hid (c.rightB = false) := hd' (Ct.right2_bad Hk.o (.inr (.inr (.inr (.inr (.inr (.inr (.inl h6))))))))
          go_wp2_with fail
          go_ret
          exact ⟨by rw [Hbad.o]; rfl, HM.o⟩
         ·have e6 : decide (0 ≤ c.turn) = true := dqt (by omega)
          by_cases h7 : 3 < c.turn
          ·have e7 : decide (c.turn ≤ 3) = false := dqf (by omega)
           have Hbad : Hid (c.rightB = false) := hd' (Ct.right2_bad Hk.o (.inr (.inr (.inr (.inr (.inr (.inr (.inr (.inl h7)))))))))
           go_wp2_with fail
           go_ret
           exact ⟨by rw [Hbad.o]; rfl, HM.o⟩
          ·have e7 : decide (c.turn ≤ 3) = true := dqt (by omega)
           have Hbad : Hid (nearB c.box.x0 = false ∨ nearB c.box.y0 = false → c.rightB = false) := hd' (fun hh => Ct.right2_bad Hk.o (by rcases hh with hh | hh; exact .inr (.inr (.inr (.inr (.inr (.inr (.inr (.inr (.inl hh)))))))); exact .inr (.inr (.inr (.inr (.inr (.inr (.inr (.inr (.inr hh))))))))))
           have Hgood : Hid (nearB c.box.x0 = true → nearB c.box.y0 = true → c.rightB = c.pix.all Pxl.rightB) := hd' (fun a b => Ct.right2_ok Hk.o h0 h1 h2 h3 h4 h5 h6 h7 a b)
           have Hpos : Hid (0 < c.pix.length) := hd' (by have : 1 * 1 ≤ c.w * c.h := Int.mul_le_mul (by omega) (by omega) (by omega) (by omega); omega)
           clear h0 h1 h2 h3 h4 h5 h6 h7 hw e0 e1 e2 e3 e4 e5
           go_wp2_with fail
           have HN := hd' (Blk.new W1 3 #[iV c.box.x0, iV c.box.y0])
           refine (ues _ W1.heap.size 2 2 [c.box.x0, c.box.y0] rfl (by omega) (fun j hj => ?_)).mono ?_
           ·match j, hj with
            | 0, _ => exact HN.o.cell 0 rfl
            | 1, _ => exact HN.o.cell 1 rfl
           rintro e w2 ⟨rfl, hm2⟩
           have HM2 := hd' (HM.o.trans' ((Gou.Mod.alloc0 W1 _).trans' hm2))
           have HB2 := hd' ((HB.o.up (Gou.Mod.alloc0 W1 _)).up hm2)
           clear hm2 c0 c1 c2 c3 c4 c5 c6 c7 c8 c9 c10 c11 c12 HN
           have Hnn : Hid ([c.box.x0, c.box.y0].all nearB = (nearB c.box.x0 && nearB c.box.y0)) := hd' (by simp [List.all])
           cases hx : [c.box.x0, c.box.y0].all nearB
           ·have Hx : Hid (c.rightB = false) := hd' (Hbad.o (by rw [Hnn.o] at hx; cases ha : nearB c.box.x0; exact .inl rfl; rw [ha] at hx; exact .inr (by simpa using hx)))
            clear hx
            go_wp2_with fail
            go_ret
            exact ⟨by rw [Hx.o]; rfl, HM2.o⟩
           ·have Hx : Hid (c.rightB = c.pix.all Pxl.rightB) := hd' (by rw [Hnn.o, Bool.and_eq_true] at hx; exact Hgood.o hx.1 hx.2)
            clear hx
            obtain ⟨pb, po, rfl, hpb, hpc⟩ := PixR.row Hp.o Hpos.o
            have c12 : w2.cell? ⟨w.heap.size, 12, none⟩ = some (.slice (some ⟨pb, po, none⟩) c.pix.length cp) := HB2.o.cell 12 rfl
            have Hpb := hd' hpb
            have Hpc := hd' hpc
            clear hpb hpc
            go_wp2_with fail
            refine (AnyQ.slices_ContainsFunc anyPx 4 Tryz.isAgg34 Tryz.sizeOf34 Pxl.cells (fun _ => rfl) (fun p => !p.rightB) 93 #[] (enters_of Tryz.func93 (by kernel_rfl) rfl) pb po c.pix.length cp c.pix w2 (fun W x hW => (uhf x W).mono ?_) (Nat.le_refl _) (by have := Hn.o; omega) (by have := Hpb.o; have := HM2.o.size; omega) (fun j hj i v hv => (HM2.o.cell (p := ⟨pb, po + j * 4 + i, none⟩) Hpb.o (fun h => h)).trans (Hpc.o j hj i v hv))).mono ?_
            ·rintro e w3 ⟨rfl, hm3⟩
             exact ⟨rfl, hW.trans (hm3.below hW.size (fun _ _ h => h))⟩
            ·rintro e w3 ⟨rfl, hb3⟩
             have HM3 := hd' (HM2.o.trans' (Gou.Mod.of_below hb3 _))
             have Ha : Hid (((c.pix.take c.pix.length).any fun p => !p.rightB) = !c.pix.all Pxl.rightB) := hd' (by rw [List.take_length, List.any_eq_not_all_not]; simp)
             clear hb3 c12
             rw [Ha.o]
             go_wp2_with fail
             go_ret
             exact ⟨by rw [Hx.o]; simp, HM3.o⟩
        ·have e5 : (((c.pix.length : Nat) : Int) == c.w * c.h) = false := bqf.2 h5
         have Hbad : Hid (c.rightB = false) := hd' (Ct.right2_bad Hk.o (.inr (.inr (.inr (.inr (.inr (.inl h5)))))))
         go_wp2_with fail
         go_ret
         exact ⟨by rw [Hbad.o]; rfl, HM.o⟩
  ·have e2 : (c.kind == 2) = false := bqf.2 k2
   have Hr := hd' (Ct.right0 (c := c) (by omega))
   go_wp2_with fail
   go_ret
   exact ⟨by rw [Hr.o]; rfl, HM.o⟩
end Go.Proofs.YtpbmfalokongfaaGreatDoor
namespace Go.Gou
theorem Ct.own0 {c : Ct} (h : c.kind = 0) : c.own = Ct.zero := by
 unfold Ct.own
 rw [if_neg (by omega), if_neg (by omega), h]
 rfl
theorem Ct.own1 {c : Ct} (h : c.kind = 1) : c.own = { Ct.zero with kind := 1, box := c.box, px := c.px } := by
 unfold Ct.own
 rw [if_pos h]
theorem Ct.own2 {c : Ct} (h : c.kind = 2) : c.own = { Ct.zero with kind := 2, box := ⟨c.box.x0, c.box.y0, 0, 0⟩, w := c.w, h := c.h, turn := c.turn, pix := c.pix } := by
 unfold Ct.own
 rw [if_neg (by omega), if_pos h]
end Go.Gou
namespace Go.Proofs.YtpbmfalokongfaaGreatDoor
open Go.RowKit Go.Gou Go.Lib
def OwnP (w : World) (c : Ct) (e : Ending) (w' : World) : Prop := ∃ p k, e = .returned (.agg (uak c.own (.slice p c.own.pix.length k))) ∧ PixR (LookG 45 77 w.heap.size w') w' (.slice p c.own.pix.length k) c.own.pix ∧ Gou.Mod (fun _ => False) w w'
theorem uh1 (ps : List Pxl) : ∀ d ∈ pxs ps, d.oneCell' = true := by
 intro d hd
 obtain ⟨p, _, h⟩ := List.mem_flatMap.1 hd
 simp only [Pxl.cells, List.mem_cons, List.not_mem_nil, or_false] at h
 rcases h with rfl | rfl | rfl | rfl <;> rfl
theorem own_any (w : World) (c : Ct) (vp : Value) (h : PixR (fun _ => True) w vp c.pix) (hn : c.pix.length ≤ 1000000) (hk0 : 0 ≤ c.kind) (hk2 : c.kind ≤ 2) :
 Calls Tryz.prog 82 #[.agg (uak c vp)] w (OwnP w c) := by
 obtain ⟨pp, cp, rfl⟩ := RowG.slice h
 have Hp := hd' h
 have Hn := hd' hn
 clear h hn
 obtain ⟨b0, b1, bm⟩ := uaw w 37 37 (uak c (.slice pp c.pix.length cp)) (uak Ct.zero nlS)
 have HB := hd' b0
 have HR := hd' b1
 have HM := hd' bm
 clear b0 b1 bm
 go_enter Tryz.func82, Tryz.ntmps82
 go_upto_region 1 with fail
 show Code.wp _ _ _ _ ((w.alloc (.cells (uak c (.slice pp c.pix.length cp)) 37)).alloc (.cells (uak Ct.zero nlS) 37))
 generalize (w.alloc (.cells (uak c (.slice pp c.pix.length cp)) 37)).alloc (.cells (uak Ct.zero nlS) 37) = W1 at *
 have c0 : W1.cell? ⟨w.heap.size, 0, none⟩ = some (iV c.kind) := HB.o.cell 0 rfl
 have c1 : W1.cell? ⟨w.heap.size, 1, none⟩ = some (iV c.box.x0) := HB.o.cell 1 rfl
 have c2 : W1.cell? ⟨w.heap.size, 2, none⟩ = some (iV c.box.y0) := HB.o.cell 2 rfl
 have c3 : W1.cell? ⟨w.heap.size, 3, none⟩ = some (iV c.box.x1) := HB.o.cell 3 rfl
 have c4 : W1.cell? ⟨w.heap.size, 4, none⟩ = some (iV c.box.y1) := HB.o.cell 4 rfl
 have c5 : W1.cell? ⟨w.heap.size, 5, none⟩ = some (.int .u8 ((c.px.p0 : Nat) : Int)) := HB.o.cell 5 rfl
 have c6 : W1.cell? ⟨w.heap.size, 6, none⟩ = some (.int .u8 ((c.px.p1 : Nat) : Int)) := HB.o.cell 6 rfl
 have c7 : W1.cell? ⟨w.heap.size, 7, none⟩ = some (.int .u8 ((c.px.p2 : Nat) : Int)) := HB.o.cell 7 rfl
 have c8 : W1.cell? ⟨w.heap.size, 8, none⟩ = some (.int .u8 ((c.px.p3 : Nat) : Int)) := HB.o.cell 8 rfl
 have c9 : W1.cell? ⟨w.heap.size, 9, none⟩ = some (iV c.w) := HB.o.cell 9 rfl
 have c10 : W1.cell? ⟨w.heap.size, 10, none⟩ = some (iV c.h) := HB.o.cell 10 rfl
 have c11 : W1.cell? ⟨w.heap.size, 11, none⟩ = some (iV c.turn) := HB.o.cell 11 rfl
 have c12 : W1.cell? ⟨w.heap.size, 12, none⟩ = some (.slice pp c.pix.length cp) := HB.o.cell 12 rfl
 by_cases k1 : c.kind = 1
 ·have Hk := hd' (Ct.own1 k1)
  rw [k1] at c0
  clear hk0 hk2 k1 c9 c10 c11 c12
  go_wp2_with (first | ((with_reducible refine sT 37 ?_); refine stA (uak { Ct.zero with kind := 1, box := c.box, px := c.px } nlS) (HR.o.there 0 13 (by simp [uak])) size_content (by simp [uak, Ct.zero, Rc.zero, Pxl.zero, Value.oneCell']) (h := ?_)) | fail)
  have HS := hd' (Blk.setMod W1 (w.heap.size + 1) 0 (uak { Ct.zero with kind := 1, box := c.box, px := c.px } nlS).toList)
  have HR2 := hd' (HR.o.setAll (uak { Ct.zero with kind := 1, box := c.box, px := c.px } nlS) rfl)
  have HM2 := hd' (HM.o.trans HS.o (fun k hk e => by omega))
  generalize W1.setCells (w.heap.size + 1) 0 (uak { Ct.zero with kind := 1, box := c.box, px := c.px } nlS).toList = W2 at *
  refine bpr (results_cell_row rfl _ _ (w.heap.size + 1) 37 (uak { Ct.zero with kind := 1, box := c.box, px := c.px } nlS) (0, 0) _ rfl HR2.o Tryz.underlying37 rfl size_content) rfl ?_
  unfold OwnP
  rw [Hk.o]
  exact ⟨none, 0, rfl, PixR.nil _ _, HM2.o⟩
 ·have e1 : (c.kind == 1) = false := bqf.2 k1
  by_cases k2 : c.kind = 2
  ·have Hk := hd' (Ct.own2 k2)
   rw [k2] at c0
   clear hk0 hk2 k1 k2
   go_upto_region 5 with fail
   have HWM := hd' (Gou.Mod.refl (fun _ => False) W1)
   refine wdf (S := fun w' => Gou.Mod (fun _ => False) W1 w') 17 (Gou.Mod.drew _ _) (h := fun hH => ?_)
   refine tk 0 (.pointer (some ⟨w.heap.size, 1, none⟩)) hH (h := ?_)
   refine tk 1 (.pointer (some ⟨w.heap.size, 1, none⟩)) hH (h := ?_)
   refine tkC 2 c1 (fun h => h) hH (h := ?_)
   refine tk 3 (.pointer (some ⟨w.heap.size, 1, none⟩)) hH (h := ?_)
   refine tk 4 (.pointer (some ⟨w.heap.size, 2, none⟩)) hH (h := ?_)
   refine tkC 5 c2 (fun h => h) hH (h := ?_)
   refine tk 6 (.agg #[iV c.box.x0, iV c.box.y0, iV 0, iV 0]) hH (h := ?_)
   refine tk 7 (.pointer (some ⟨w.heap.size, 9, none⟩)) hH (h := ?_)
   refine tkC 8 c9 (fun h => h) hH (h := ?_)
   refine tk 9 (.pointer (some ⟨w.heap.size, 10, none⟩)) hH (h := ?_)
   refine tkC 10 c10 (fun h => h) hH (h := ?_)
   refine tk 11 (.pointer (some ⟨w.heap.size, 11, none⟩)) hH (h := ?_)
   refine tkC 12 c11 (fun h => h) hH (h := ?_)
   refine tk 13 (.pointer (some ⟨w.heap.size, 12, none⟩)) hH (h := ?_)
   refine tkC 14 c12 (fun h => h) hH (h := ?_)
   refine rd 15 (h := fun K hK => ?_)
   go_simp
   refine (ue8 _ pp c.pix.length cp (pxs c.pix) (fun _ => True) (RowG.mod Hp.o (HM.o.trans' hH) (fun _ _ _ h => h)) (uh1 _) (by have := Hn.o; omega)).mono ?_
   rintro e w4 ⟨p4, c4, rfl, ho4, hm4⟩
   have M := hd' (hH.trans' hm4)
   have Ho4 := hd' ho4
   have Hz4 := hd' hH.size
   clear hH ho4 hm4
   refine hK _ _ M.o (fun hH => ?_)
   clear hK K M
   try simp only [Act.put, uSa, uSb, uSc]
   refine tkK 16 (.agg (uak { Ct.zero with kind := 2, box := ⟨c.box.x0, c.box.y0, 0, 0⟩, w := c.w, h := c.h, turn := c.turn, pix := c.pix } (.slice p4 c.pix.length c4))) hH (h := ?_)
   refine tk 17 (.bool true) hH (h := ?_)
   have MS := hd' hH
   refine wpAnyH_done (by kernel_rfl) ?_ _
   clear hH
   show Oper.wp _ _ _ _ _ _
   refine wp_store_mid 37 _ _ rfl (w.heap.size + 1) 0 (uak { Ct.zero with kind := 2, box := ⟨c.box.x0, c.box.y0, 0, 0⟩, w := c.w, h := c.h, turn := c.turn, pix := c.pix } (.slice p4 c.pix.length c4)) rfl rfl ((HR.o.up MS.o).there 0 13 (by simp [uak])) size_content (by simp [uak, Ct.zero, Rc.zero, Pxl.zero, Value.oneCell']) ?_
   have HS := hd' (Blk.setMod w4 (w.heap.size + 1) 0 (uak { Ct.zero with kind := 2, box := ⟨c.box.x0, c.box.y0, 0, 0⟩, w := c.w, h := c.h, turn := c.turn, pix := c.pix } (.slice p4 c.pix.length c4)).toList)
   have HR2 := hd' ((HR.o.up MS.o).setAll (uak { Ct.zero with kind := 2, box := ⟨c.box.x0, c.box.y0, 0, 0⟩, w := c.w, h := c.h, turn := c.turn, pix := c.pix } (.slice p4 c.pix.length c4)) rfl)
   have HM2 := hd' ((HM.o.trans' MS.o).trans HS.o (fun k hk e => by omega))
   have HO := hd' (uac Ho4.o HS.o (fun k hk e => uan Ho4.o (HR.o.up MS.o) (by decide) (by rw [hk, e])))
   generalize w4.setCells (w.heap.size + 1) 0 (uak { Ct.zero with kind := 2, box := ⟨c.box.x0, c.box.y0, 0, 0⟩, w := c.w, h := c.h, turn := c.turn, pix := c.pix } (.slice p4 c.pix.length c4)).toList = W2 at *
   try simp only [Act.put]
   go_wp2_with fail
   refine bpr (results_cell_row rfl _ _ (w.heap.size + 1) 37 (uak { Ct.zero with kind := 2, box := ⟨c.box.x0, c.box.y0, 0, 0⟩, w := c.w, h := c.h, turn := c.turn, pix := c.pix } (.slice p4 c.pix.length c4)) (0, 0) _ rfl HR2.o Tryz.underlying37 rfl size_content) rfl ?_
   unfold OwnP
   rw [Hk.o]
   exact ⟨p4, c4, rfl, uiw (uaj HO.o (Nat.le_trans HM.o.size Hz4.o)) (by decide) (by decide), HM2.o⟩
  ·have e2 : (c.kind == 2) = false := bqf.2 k2
   have Hk := hd' (Ct.own0 (c := c) (by omega))
   go_wp2_with (first | ((with_reducible refine sT 37 ?_); refine stA (uak Ct.zero nlS) (HR.o.there 0 13 (by simp [uak])) size_content (by simp [uak, Ct.zero, Rc.zero, Pxl.zero, Value.oneCell']) (h := ?_)) | fail)
   have HS := hd' (Blk.setMod W1 (w.heap.size + 1) 0 (uak Ct.zero nlS).toList)
   have HR2 := hd' (HR.o.setAll (uak Ct.zero nlS) rfl)
   have HM2 := hd' (HM.o.trans HS.o (fun k hk e => by omega))
   generalize W1.setCells (w.heap.size + 1) 0 (uak Ct.zero nlS).toList = W2 at *
   refine bpr (results_cell_row rfl _ _ (w.heap.size + 1) 37 (uak Ct.zero nlS) (0, 0) _ rfl HR2.o Tryz.underlying37 rfl size_content) rfl ?_
   unfold OwnP
   rw [Hk.o]
   exact ⟨none, 0, rfl, PixR.nil _ _, HM2.o⟩
def FiltP (w : World) (has : Bool) (g : Gr) (e : Ending) (w' : World) : Prop := ∃ p k g2, g2 = (if has then g else Gr.zero) ∧ e = .returned (.tuple #[.agg #[.slice p g2.nodes.length k, iV g2.out], iV (if has then checkS g else 0)]) ∧ NodesR (LookG 45 77 w.heap.size w') w' (.slice p g2.nodes.length k) g2.nodes ∧ Gou.Mod (fun _ => False) w w'
theorem udt (w : World) (has : Bool) (g : Gr) (vn : Value) (h : NodesR (fun _ => True) w vn g.nodes) (hwf : GrWf g) (hn : g.nodes.length ≤ 1000000) (hl : ∀ n ∈ g.nodes, n.ins.length ≤ 1000000 ∧ n.ps.length ≤ 1000000) :
 Calls Tryz.prog 83 #[.bool has, .agg #[vn, iV g.out]] w (FiltP w has g) := by
 obtain ⟨pn, cn, rfl⟩ : ∃ p c, vn = .slice p g.nodes.length c := by
  obtain ⟨cs, h1, _⟩ := h
  exact RowG.slice h1
 have Hp := hd' h
 have Hwf := hd' hwf
 have Hn := hd' hn
 have Hl := hd' hl
 clear h hn hwf hl
 obtain ⟨b0, b1, bm⟩ := uaw w 40 40 #[.slice pn g.nodes.length cn, iV g.out] #[.slice none 0 0, iV 0]
 have HB := hd' b0
 have HR := hd' b1
 have HM := hd' bm
 clear b0 b1 bm
 go_enter Tryz.func83, Tryz.ntmps83
 go_upto_region 1 with fail
 generalize (w.alloc (.cells #[.slice pn g.nodes.length cn, iV g.out] 40)).alloc (.cells #[.slice none 0 0, iV 0] 40) = W1 at *
 have HG : Hid (W1.rangeAt w.heap.size 0 [.slice pn g.nodes.length cn, iV g.out]) := hd' (Blk.range (pre := []) (post := []) HB.o (by simp) rfl)
 have Hp1 := hd' (Hp.o.mod HM.o (fun _ _ _ h => h))
 have r0 : W1.cell? ⟨w.heap.size + 1, 0, none⟩ = some nlS := HR.o.cell 0 rfl
 have r1 : W1.cell? ⟨w.heap.size + 1, 1, none⟩ = some (iV 0) := HR.o.cell 1 rfl
 have s0 := HR.o.frozen 0
 have s1 := HR.o.frozen 1
 cases has
 ·go_wp2_with fail
  have hR := (HR.o.set 0 nlS).set 1 (iV 0)
  have hS := (Gou.Mod.set1 W1 (w.heap.size + 1) 0 nlS).trans' (Gou.Mod.set1 _ (w.heap.size + 1) 1 (iV 0))
  refine bpr (uam rfl (ResAt.of rfl hR Tryz.underlying40 rfl ua6)) rfl ?_
  exact ⟨none, 0, Gr.zero, rfl, rfl, NodesR.nil _ _, HM.o.trans hS (fun k hk e => by omega)⟩
 ·go_upto_region 3 with fail
  clear r0 r1 s0 s1
  have HRlt : Hid (w.heap.size + 1 < W1.heap.size) := hd' (Blk.lt HR.o)
  have Hq0 : Hid (NodesR (fun k => k < w.heap.size) W1 (.slice pn g.nodes.length cn) g.nodes) := hd' ((Hp.o.imp (G' := fun k => k < w.heap.size) (fun k hk _ => hk)).mod HM.o (fun _ _ _ h => h))
  have Hq1 : Hid (∀ wx, Gou.Mod (fun k => k = w.heap.size + 1) W1 wx → NodesR (fun _ => True) wx (.slice pn g.nodes.length cn) g.nodes) := hd' (fun wx hx => (Hq0.o.mod hx (fun k _ hk e => by omega)).imp (fun _ _ _ => trivial))
  have drew_size : W1.drew.heap.size = W1.heap.size := rfl
  refine wp_region_held_drew (S := fun w' => Gou.Mod (fun k => k = w.heap.size + 1) W1 w') (by kernel_rfl) (Gou.Mod.drew _ _) (fun hH => ?_)
  refine tkR 0 (.agg #[.slice pn g.nodes.length cn, iV g.out]) HG.o (by omega) Tryz.underlying40 ua6 hH (h := ?_)
  refine tkR 2 (.agg #[.slice pn g.nodes.length cn, iV g.out]) HG.o (by omega) Tryz.underlying40 ua6 hH (h := ?_)
  refine rd 1 (h := fun K hK => ?_)
  go_simp
  refine (ue1 _ pn cn g (Hq1.o _ hH) Hn.o Hl.o).mono ?_
  rintro e w4 ⟨p4, c4, rfl, hn4, hm4⟩
  have M := hd' (hH.trans' (hm4.imp (fun _ _ h => h.elim)))
  have Hn4 := hd' hn4
  have HM4 := hd' ((Gou.Mod.drew (fun _ => False) W1).trans' hm4)
  clear hH hn4 hm4
  refine hK _ _ M.o (fun hH => ?_)
  clear hK K M
  try simp only [Act.put, uSa, uSb, uSc]
  refine rd 3 (h := fun K hK => ?_)
  go_simp
  refine (check_any _ (.agg #[.slice pn g.nodes.length cn, iV g.out]) g ⟨_, rfl, NodesR.at_ (Hq1.o _ hH)⟩ Hwf.o).mono ?_
  rintro e w5 ⟨rfl, hb5⟩
  have hm5 := Gou.Mod.of_below hb5 (fun _ => False)
  have M := hd' (hH.trans' (hm5.imp (fun _ _ h => h.elim)))
  have Hn5 := hd' (Hn4.o.fam hm5 (fun _ _ h => h) (fun k hk => LookG.of_mod hm5 k hk))
  have HM5 := hd' (HM4.o.trans' hm5)
  clear hH hb5 hm5
  refine hK _ _ M.o (fun hH => ?_)
  clear hK K M
  try simp only [Act.put, uSa, uSb, uSc]
  refine rd 4 (h := fun K hK => ?_)
  refine wp_store_mid 40 _ _ rfl (w.heap.size + 1) 0 #[.slice p4 g.nodes.length c4, iV g.out] rfl rfl ((HR.o.up HM5.o).there 0 2 (by simp)) ua6 (by simp [Value.oneCell']) ?_
  have HS := hd' (Blk.setMod w5 (w.heap.size + 1) 0 (#[.slice p4 g.nodes.length c4, iV g.out] : Array Value).toList)
  have HR6 := hd' ((HR.o.up HM5.o).setAll #[.slice p4 g.nodes.length c4, iV g.out] rfl)
  have M := hd' (hH.trans' HS.o)
  have Hn6 := hd' (Hn5.o.fam HS.o (fun k hk e => by have h1 := hk.1; have h2 := HRlt.o; subst e; simp only [drew_size] at h1; omega) (fun k hk => hk.step HS.o (fun e => by have h1 := hk.1; have h2 := HRlt.o; subst e; simp only [drew_size] at h1; omega) (Nat.le_refl _)))
  clear hH HS
  generalize w5.setCells (w.heap.size + 1) 0 (#[.slice p4 g.nodes.length c4, iV g.out] : Array Value).toList = W6 at *
  refine hK _ _ M.o (fun hH => ?_)
  clear hK K M
  try simp only [Act.put, uSa, uSb, uSc]
  refine tk 5 (iV (checkS g)) hH (h := ?_)
  have MS := hd' hH
  refine wpAnyH_done (by kernel_rfl) ?_ _
  clear hH
  try simp only [Act.put]
  go_wp2_with fail
  refine bpr (uam rfl (ResAt.of rfl HR6.o Tryz.underlying40 rfl ua6)) rfl ?_
  exact ⟨p4, c4, g, rfl, rfl, Hn6.o.imp (fun k _ hk => ⟨Nat.le_trans HM.o.size hk.1, hk.2⟩), HM.o.trans MS.o (fun k hk e => by omega)⟩
end Go.Proofs.YtpbmfalokongfaaGreatDoor
namespace Go.Gou
open Go.RowKit
theorem At.cells {w w2 : World} (hc : ∀ b j, 30 ≤ j → w2.cell? ⟨b, j, none⟩ = w.cell? ⟨b, j, none⟩) : ∀ {π : List Nat} {b o b1 o1 : Nat}, At w b o π b1 o1 → At w2 b o π b1 o1
 | [], _, _, _, _, h => h
 | i :: π, b, o, b1, o1, h => by
  obtain ⟨g, n, c, e1, h1⟩ := h
  exact ⟨g, n, c, (hc b (o + 30) (by omega)).trans e1, At.cells hc h1⟩
theorem Blk.ty {w : World} {b : Nat} {T T' : TypeId} {cs cs' : Array Value} (h : Blk w b T cs) (h' : Blk w b T' cs') : T = T' := by
 unfold Blk at h h'
 rw [h] at h'
 simp only [Option.some.injEq, Obj.cells.injEq] at h'
 exact h'.2.1
theorem DoerR.box {TL TD TI TB : TypeId} {base : Nat} {w w' : World} {D : Nat} {a : Ar} {T : Ly} {F : List Nat} {o : Opr} {vg vl vp vf vb : Value} {cur : Array Value} (h : DoerR TL TD TI TB base w D a T F o vg vl vp vf vb cur) (hTI : TI ≠ TL ∧ TI ≠ TD ∧ ucx TI) (hTB : TB ≠ TL ∧ TB ≠ TD ∧ ucx TB)
 {k : Nat} {U : TypeId} {cs : Array Value} (hk : Blk w k U cs) (hU : U ≠ TL ∧ ¬ ucx U) (hD : k ≠ D) (hb : base ≤ k) (hm : Mod (fun x => x = k) w w') : DoerR TL TD TI TB base w' D a T F o vg vl vp vf vb cur := by
 refine h.mod hTI hTB hm (fun e => hD e.symm) (fun x hx e => ?_) (fun x _ hl e => ?_) (fun x hx e => by omega)
 ·obtain ⟨⟨c, _, _, g1, _⟩, _, _⟩ := h.tree
  obtain ⟨_, _, cu, g2⟩ := g1.rows x hx
  subst e
  exact hU.1 (Blk.ty hk g2)
 ·obtain ⟨cu, T', g1, _, _, hT⟩ := hl
  subst e
  exact hU.2 (Blk.ty hk g1 ▸ hT)
end Go.Gou
namespace Go.Proofs.YtpbmfalokongfaaGreatDoor
open Go.RowKit Go.Gou
def InsertP (base : Nat) (a : Ar) (T : Ly) (F : List Nat) (op : Opr) (vp vf vb : Value) (s : Ly) (π : List Nat) (w : World) (D : Nat) (e : Ending) (w' : World) : Prop := Gou.Mod (fun x => x = D ∨ x ∈ F) w w' ∧
 ((op.at_ < 0 ∨ (s.kids.length : Int) < op.at_ ∨ 64 ≤ π.length) → e = .returned (.tuple #[.agg iiZ, iV 3])) ∧
 (∀ n : Nat, op.at_ = n → n ≤ s.kids.length → π.length < 64 → (a.take = none → e = .returned (.tuple #[.agg iiZ, iV 9])) ∧
     ∀ b y, a.take = some (b, y) → e = .returned (.tuple #[.agg #[iV y.1, iV y.2], iV 0]) ∧ ∃ vg vl cur F3, ubi base w' D b (T.put π (.mk s.id s.look (s.kids.take n ++ (.mk y Lk.plain []) :: s.kids.drop n))) F3 op vg vl vp vf vb cur)
theorem ug2 (base : Nat) (w : World) (D : Nat) (a : Ar) (T : Ly) (F : List Nat) (op : Opr) (vg vl vp vf vb : Value) (cur : Array Value) (hD : ubi base w D a T F op vg vl vp vf vb cur) (π : List Nat) (s : Ly) (hp : T.pathOf op.to = some π) (hs : T.get? π = some s) (hn : s.kids.length ≤ 1000000) (hh : T.height ≤ 1000)
 (hlen : a.gens.length = a.live.length) (h0 : 0 < a.live.length) (hsm : a.live.length ≤ 1024) :
 Calls Tryz.prog 44 #[.pointer (some ⟨D, 0, none⟩)] w (InsertP base a T F op vp vf vb s π w D) := by
 obtain ⟨⟨pg, cg, rfl⟩, ⟨pl, cl, rfl⟩⟩ := hD.ar.forms
 have HD := hd' hD
 have Hp := hd' hp
 have Hs := hd' hs
 have Hn := hd' hn
 have Hh := hd' hh
 have HA := hd' (And.intro hlen (And.intro h0 hsm))
 have HDlt := hd' (Blk.lt hD.blk)
 have HFlt : Hid (∀ x ∈ F, x < w.heap.size) := hd' (fun x hx => by
  obtain ⟨⟨c, _, _, g1, _⟩, _, _⟩ := hD.tree
  exact (g1.rows x hx).2.1)
 have hpl : π.length ≤ 1000 := by
  have := Ly.get_height hs
  omega
 have Hpl := hd' hpl
 clear hD hp hs hn hh hlen h0 hsm hpl
 have HN2 := hd' (Blk.new w 30 iiZ)
 have HMa := hd' (Gou.Mod.alloc0 w (.cells iiZ 30))
 go_enter Tryz.func44, Tryz.ntmps44
 go_upto_region 1 with fail
 generalize w.alloc (.cells iiZ 30) = W1 at *
 have HD1 := hd' (HD.o.up HMa.o)
 have HTr : Hid (W1.rangeAt D 36 [iV op.to.1, iV op.to.2]) := hd' (fun j v hv => by
  obtain ⟨_, _, _, _, _, c36, c37, _⟩ := HD1.o.cell
  match j, hv with
  | 0, hv => simp at hv; rw [← hv]; exact c36
  | 1, hv => simp at hv; rw [← hv]; exact c37)
 refine wp_region_held_drew (S := fun w' => Gou.Mod (fun _ => False) W1 w') (by kernel_rfl) (Gou.Mod.drew _ _) (fun hH => ?_)
 refine tk 0 (.pointer (some ⟨D, 0, none⟩)) hH (h := ?_)
 refine tk 1 (.pointer (some ⟨D, 0, none⟩)) hH (h := ?_)
 refine tk 2 (.pointer (some ⟨D, 0, none⟩)) hH (h := ?_)
 refine tk 3 (.pointer (some ⟨D, 2, none⟩)) hH (h := ?_)
 refine tk 4 (.pointer (some ⟨D, 0, none⟩)) hH (h := ?_)
 refine tk 5 (.pointer (some ⟨D, 0, none⟩)) hH (h := ?_)
 refine tk 6 (.pointer (some ⟨D, 33, none⟩)) hH (h := ?_)
 refine tk 7 (.pointer (some ⟨D, 36, none⟩)) hH (h := ?_)
 refine tkR 8 (.agg #[iV op.to.1, iV op.to.2]) HTr.o (fun h => h) Tryz.underlying30 uaf hH (h := ?_)
 refine rd 9 (h := fun K hK => ?_)
 go_simp
 refine (udd base op.to T _ D 2 F 0 (HD1.o.up hH).tree (by have := Hh.o; omega)).mono ?_
 rintro e w4 ⟨hm4, _, hs4⟩
 obtain ⟨b', o', F', s', rfl, hz4⟩ := hs4 _ Hp.o
 have hss : s' = s := by
  have := hz4.get
  rw [Hs.o] at this
  exact (Option.some.inj this).symm
 subst hss
 have M := hd' (hH.trans' hm4)
 have Hz4 := hd' hz4
 obtain ⟨dd, hdd⟩ : ∃ dd, dd = 0 + π.length := ⟨_, rfl⟩
 rw [← hdd]
 have Hdd := hd' hdd
 clear hH hm4 hs4 hz4 hdd
 refine hK _ _ M.o (fun hH => ?_)
 clear hK K M
 try simp only [Act.put, uSa, uSb, uSc]
 refine tk 10 (.tuple #[.pointer (some ⟨b', o', none⟩), iV ((dd : Nat) : Int)]) hH (h := ?_)
 refine tk 11 (.pointer (some ⟨b', o', none⟩)) hH (h := ?_)
 refine tk 12 (iV ((dd : Nat) : Int)) hH (h := ?_)
 refine tk 13 (.pointer (some ⟨b', o', none⟩)) hH (h := ?_)
 refine tk 14 (iV ((dd : Nat) : Int)) hH (h := ?_)
 have MS := hd' hH
 refine wpAnyH_done (by kernel_rfl) ?_ _
 clear hH
 try simp only [Act.put]
 have HD4 := hd' (HD1.o.up MS.o)
 obtain ⟨p, cap, c30, _, _, hcap, hcap2, _⟩ := Hz4.o.sub.kids
 obtain ⟨_, _, _, _, _, _, _, c38⟩ := HD4.o.cell
 have HM4 := hd' (HMa.o.trans' MS.o)
 have HN4 := hd' (HN2.o.up MS.o)
 have n0 := HN4.o.cell 0 rfl
 have n1 := HN4.o.cell 1 rfl
 have g0 := HN4.o.frozen 0
 have g1 := HN4.o.frozen 1
 clear MS hcap hcap2 HTr HN2
 go_upto_region 2 with fail
 rcases Int.lt_or_le op.at_ 0 with hneg | hpos
 ·have e1 : decide (op.at_ < 0) = true := dqt hneg
  go_quiet (fail)
  go_wp2_with fail
  have hR := (((HN4.o.up (Gou.Mod.drewN (fun _ => False) w4 nq)).set 0 (iV 0)).set 1 (iV 0))
  have HMq := (HM4.o.trans' (Gou.Mod.drewN (fun _ => False) w4 nq)).trans ((Gou.Mod.set1 (w4.drewN nq) w.heap.size 0 (iV 0)).trans' (Gou.Mod.set1 _ w.heap.size 1 (iV 0))) (fun k hk e => by omega)
  refine bpr (uam rfl (ResAt.of rfl hR Tryz.underlying30 rfl uaf)) rfl ?_
  exact ⟨HMq.imp (fun _ _ h => h.elim), fun _ => rfl, fun n e _ => by omega⟩
 ·have e1 : decide (op.at_ < 0) = false := dqf (by omega)
  rcases Int.lt_or_le (s'.kids.length : Int) op.at_ with hgt | hle
  ·have e2 : decide ((s'.kids.length : Int) < op.at_) = true := dqt hgt
   go_quiet (fail)
   go_wp2_with fail
   have hR := (((HN4.o.up (Gou.Mod.drewN (fun _ => False) w4 nq)).set 0 (iV 0)).set 1 (iV 0))
   have HMq := (HM4.o.trans' (Gou.Mod.drewN (fun _ => False) w4 nq)).trans ((Gou.Mod.set1 (w4.drewN nq) w.heap.size 0 (iV 0)).trans' (Gou.Mod.set1 _ w.heap.size 1 (iV 0))) (fun k hk e => by omega)
   refine bpr (uam rfl (ResAt.of rfl hR Tryz.underlying30 rfl uaf)) rfl ?_
   exact ⟨HMq.imp (fun _ _ h => h.elim), fun _ => rfl, fun n e hn => by omega⟩
  ·have e2 : decide ((s'.kids.length : Int) < op.at_) = false := dqf (by omega)
   have hw : IntKind.i64.wrap ((dd : Int) + 1) = (dd : Int) + 1 := by rw [IntKind.wrap_i64]; have := Hdd.o; have := Hpl.o; omega
   rcases Nat.lt_or_ge dd 64 with hd | hd
   ·have e3 : decide ((64 : Int) < (dd : Int) + 1) = false := dqf (by omega)
    go_quiet (fail)
    go_upto_region 4 with fail
    have HD5 := hd' (HD4.o.up (Gou.Mod.drewN (fun _ => False) w4 nq))
    have Hz5 := hd' (Hz4.o.at_.up (Gou.Mod.drewN (fun _ => False) w4 nq))
    have HM5 := hd' (HM4.o.trans' (Gou.Mod.drewN (fun _ => False) w4 nq))
    have HN5 := hd' (HN4.o.up (Gou.Mod.drewN (fun _ => False) w4 nq))
    obtain ⟨m, hm⟩ : ∃ m : Nat, op.at_ = m := ⟨op.at_.toNat, by omega⟩
    have Hm := hd' hm
    have Hml : Hid (m ≤ s'.kids.length) := hd' (by omega)
    have Hd64 := hd' hd
    clear c30 c38 e1 e2 e3 hw hle hpos hm hd HD4 HM4 HN4 Hz4 n0 n1 g0 g1
    generalize w4.drewN nq = W5 at *
    obtain ⟨c0, c1, _⟩ := HD5.o.cell
    go_wp2_with fail
    refine (uj1 _ _ _ a HD5.o.ar.reads HA.o.1 HA.o.2.1 HA.o.2.2).mono ?_
    rintro e w6 ⟨hm6, vg6, vl6, ht6, hno6⟩
    have HM6 := hd' (HM5.o.trans' hm6)
    have HD6 := hd' (HD5.o.up hm6)
    have HN6 := hd' (HN5.o.up hm6)
    have HAt6 := hd' (Hz5.o.up hm6)
    have Hbase : Hid (base ≤ W5.heap.size) := hd' (by have := HD5.o.tree.ge; have := Blk.lt HD5.o.blk; omega)
    clear c0 c1 hm6
    cases htk : a.take with
    | none =>
     obtain ⟨rfl, ⟨pg6, ng6, cg6, rfl⟩, pl6, nl6, cl6, rfl⟩ := hno6 htk
     have Htk := hd' htk
     clear ht6 hno6 htk
     go_upto_region 6 with fail
     obtain ⟨ba, bi, bm⟩ := uaw w6 28 30 #[.slice pg6 ng6 cg6, .slice pl6 nl6 cl6] iiZ
     generalize (w6.alloc (.cells #[.slice pg6 ng6 cg6, .slice pl6 nl6 cl6] 28)).alloc (.cells iiZ 30) = W7 at *
     have HN7 := hd' (HN6.o.up bm)
     have HM7 := hd' (HM6.o.trans' bm)
     have n0 := HN7.o.cell 0 rfl
     have n1 := HN7.o.cell 1 rfl
     have g0 := HN7.o.frozen 0
     have g1 := HN7.o.frozen 1
     clear ba bi bm HD6 HN6 HM6 HAt6
     go_wp2_with fail
     have hR := ((HN7.o.set 0 (iV 0)).set 1 (iV 0))
     have HMq := HM7.o.trans ((Gou.Mod.set1 W7 w.heap.size 0 (iV 0)).trans' (Gou.Mod.set1 _ w.heap.size 1 (iV 0))) (fun k hk e => by omega)
     refine bpr (uam rfl (ResAt.of rfl hR Tryz.underlying30 rfl uaf)) rfl ?_
     exact ⟨HMq.imp (fun _ _ h => h.elim), fun h => by have := Hm.o; have := Hml.o; have := Hd64.o; have := Hdd.o; omega, fun n e _ _ => ⟨fun _ => rfl, fun b y hby => by rw [Htk.o] at hby; cases hby⟩⟩
    | some by_ =>
     obtain ⟨b, y⟩ := by_
     obtain ⟨rfl, hb6⟩ := ht6 b y htk
     obtain ⟨⟨pg6, cg6, rfl⟩, ⟨pl6, cl6, rfl⟩⟩ := hb6.forms
     have Hb6 := hd' hb6
     have Htk := hd' htk
     clear ht6 hno6 htk hb6
     go_upto_region 7 with fail
     obtain ⟨ba, bi, bm⟩ := uaw w6 28 30 #[.slice pg6 b.gens.length cg6, .slice pl6 b.live.length cl6] #[iV y.1, iV y.2]
     generalize (w6.alloc (.cells #[.slice pg6 b.gens.length cg6, .slice pl6 b.live.length cl6] 28)).alloc (.cells #[iV y.1, iV y.2] 30) = W7 at *
     have HD7 := hd' (HD6.o.up bm)
     have HN7 := hd' (HN6.o.up bm)
     have HM7 := hd' (HM6.o.trans' bm)
     have HAt7 := hd' (HAt6.o.up bm)
     have Hb7 := hd' (Hb6.o.up bm)
     have Hi7 := hd' bi
     have Ha7 := hd' ba
     have a0 : W7.cell? ⟨w6.heap.size, 0, none⟩ = some (.slice pg6 b.gens.length cg6) := ba.cell 0 rfl
     have a1 : W7.cell? ⟨w6.heap.size, 1, none⟩ = some (.slice pl6 b.live.length cl6) := ba.cell 1 rfl
     obtain ⟨c0, c1, _⟩ := HD7.o.cell
     have f0 := HD7.o.blk.frozen 0
     have f1 := HD7.o.blk.frozen 1
     have HN7g : Hid (w.heap.size < w6.heap.size + 1) := hd' (by have := HM6.o.size; omega)
     clear ba bi bm HD6 HN6 HM6 HAt6 Hb6
     go_upto_region 8 with fail
     show Code.wp _ _ _ _ (W7.setCells D 0 [.slice pg6 b.gens.length cg6, .slice pl6 b.live.length cl6])
     obtain ⟨cur8, hd8⟩ := HD7.o.arena tI.2.1 tB.2.1 (a2 := b) ⟨uaj Hb7.o.g Hbase.o, uaj Hb7.o.l Hbase.o⟩
     have HS8 := hd' (Blk.setMod W7 D 0 [.slice pg6 b.gens.length cg6, .slice pl6 b.live.length cl6])
     have HAt8 : Hid (At (W7.setCells D 0 [.slice pg6 b.gens.length cg6, .slice pl6 b.live.length cl6]) D 2 π b' o') := hd' (At.cells (fun bb j hj => World.cell?_setCells_out D [.slice pg6 b.gens.length cg6, .slice pl6 b.live.length cl6] 0 W7 ⟨bb, j, none⟩ (fun _ _ => .inr (by show 0 + 2 ≤ j; omega))) HAt7.o)
     have HD8 := hd' hd8
     have hnD : w.heap.size ≠ D ∧ w6.heap.size + 1 ≠ D := by have := HDlt.o; have := HM7.o.size; have := Blk.lt HD7.o.blk; have h9 := Hi7.o; constructor; omega; intro e; rw [e] at h9; exact absurd h9 (by have hb := HD7.o.blk; unfold Blk at hb ⊢; rw [hb]; simp)
     have HN8 := hd' (HN7.o.mod HS8.o hnD.1)
     have Hi8 := hd' (Hi7.o.mod HS8.o hnD.2)
     have HN7D : Hid (¬ (w6.heap.size + 1 = D ∨ w6.heap.size + 1 ∈ F)) := hd' (fun e => by
      rcases e with e | e
      ·exact hnD.2 e
      ·have := HFlt.o _ e
       have := HN7g.o
       omega)
     have HM8 := hd' ((HM7.o.imp (S' := fun x => x = D ∨ x ∈ F) (fun _ _ h => h.elim)).trans' (HS8.o.imp (fun _ _ h => .inl h)))
     clear hd8 HS8 HD7 HN7 HM7 HAt7 Hb7 Hi7 Ha7 a0 a1 c0 c1 f0 f1 hnD
     generalize W7.setCells D 0 [.slice pg6 b.gens.length cg6, .slice pl6 b.live.length cl6] = W8 at *
     generalize w6.heap.size + 1 = N7 at *
     have HIr8 : Hid (W8.rangeAt N7 0 [iV y.1, iV y.2]) := hd' (Blk.range (pre := []) (post := []) Hi8.o (by simp) rfl)
     have HDq := hd' (HD8.o.up (Gou.Mod.drew (fun _ => False) W8))
     have HAq := hd' (HAt8.o.up (Gou.Mod.drew (fun _ => False) W8))
     refine wp_region_held_drew (S := fun w' => Gou.Mod (fun x => x = D ∨ x ∈ F) W8 w') (by kernel_rfl) (Gou.Mod.drew _ _) (fun hH => ?_)
     refine tk 0 (.pointer (some ⟨b', o', none⟩)) hH (h := ?_)
     refine tk 1 (.pointer (some ⟨D, 0, none⟩)) hH (h := ?_)
     refine tk 2 (.pointer (some ⟨D, 0, none⟩)) hH (h := ?_)
     refine tk 3 (.pointer (some ⟨D, 33, none⟩)) hH (h := ?_)
     refine tk 4 (.pointer (some ⟨D, 38, none⟩)) hH (h := ?_)
     refine tkR 6 (.agg #[iV y.1, iV y.2]) HIr8.o HN7D.o Tryz.underlying30 uaf hH (h := ?_)
     refine rd2 5 7 (h := fun K11 hK => ?_) (g := fun K11 hK => ?_)
     ·skip
      have g0 := HDq.o.cell.2.2.2.2.2.2.2
      rw [Hm.o] at g0
      go_simp
      clear g0
      have M := hd' hH
      clear hH
      refine hK _ _ M.o (fun hH => ?_)
      clear hK K11 M
      try simp only [Act.put, uSa, uSb, uSc]
      refine rd 7 (h := fun K hK => ?_)
      go_simp
      refine (uek _).mono ?_
      rintro e w9 ⟨rfl, hm9⟩
      have M := hd' (hH.trans' (hm9.imp (fun _ _ h => h.elim)))
      replace HDq := hd' (HDq.o.up hm9)
      replace HAq := hd' (HAq.o.up hm9)
      clear hm9
      clear hH
      refine hK _ _ M.o (fun hH => ?_)
      clear hK K M
      try simp only [Act.put, uSa, uSb, uSc]
      refine tkK 8 (.agg (lyA y Lk.plain nlS nlS nlS nlS)) hH (h := ?_)
      refine rd 9 (h := fun K hK => ?_)
      go_simp
      obtain ⟨b2, o2, F2', hz9⟩ := Zoom.ex HDq.o.tree Hs.o
      obtain ⟨e1, e2⟩ := (hz9.at_).one HAq.o
      rw [e1, e2] at hz9
      clear e1 e2
      refine (uck base w9 D b T F op _ _ vp vf vb cur8 HDq.o hz9 (.mk y Lk.plain []) [] nlS nlS nlS nlS (LyO.mk y Lk.plain [] nlS nlS nlS nlS [] [] ⟨PixR.nil _ _, NodesR.nil _ _, NodesR.nil _ _⟩ (World.ownsRow_nil _ _ _ _) rfl rfl (fun j c k f h => by simp at h) (by simp [Value.ownBlock])) (fun x hx => by simp at hx) m Hml.o Hn.o).mono ?_
      rintro e w10 ⟨rfl, ⟨F4, cur4, hd10⟩, hm10⟩
      have M := hd' (hH.trans' hm10)
      have HD10 := hd' hd10
      clear hH hd10 hm10 hz9
      refine hK _ _ M.o (fun hH => ?_)
      clear hK K M
      try simp only [Act.put, uSa, uSb, uSc]
      have MS := hd' hH
      refine wpAnyH_done (by kernel_rfl) ?_ _
      clear hH
      try simp only [Act.put]
      have HR10 := hd' (HN8.o.mod MS.o (fun e => by
       rcases e with e | e
       ·have := HDlt.o; omega
       ·have := HFlt.o _ e; omega))
      have Hi10 := hd' (Hi8.o.mod MS.o HN7D.o)
      have HM10 := hd' (HM8.o.trans' MS.o)
      have i0 := Hi10.o.cell 0 rfl
      have i1 := Hi10.o.cell 1 rfl
      have r0 := HR10.o.cell 0 rfl
      have r1 := HR10.o.cell 1 rfl
      have s0 := HR10.o.frozen 0
      have s1 := HR10.o.frozen 1
      clear MS
      go_wp2_with fail
      have hS := (Gou.Mod.set1 w10 w.heap.size 0 (iV y.1)).trans' (Gou.Mod.set1 _ w.heap.size 1 (iV y.2))
      have hR := (HR10.o.set 0 (iV y.1)).set 1 (iV y.2)
      have hd11 := HD10.o.box tI tB HR10.o (by decide) (by have := HDlt.o; omega) (by have := HD.o.tree.ge; have := HDlt.o; omega) hS
      refine bpr (uam rfl (ResAt.of rfl hR Tryz.underlying30 rfl uaf)) rfl ?_
      refine ⟨HM10.o.trans hS (fun k hk e => by omega), fun h => by have := Hm.o; have := Hml.o; have := Hd64.o; have := Hdd.o; omega, fun n e _ _ => ⟨fun hno => (by rw [Htk.o] at hno; cases hno), fun b' y' hby => ?_⟩⟩
      rw [Htk.o] at hby
      cases hby
      obtain rfl : n = m := by have := Hm.o; omega
      exact ⟨rfl, _, _, _, _, hd11⟩
     ·skip
      go_simp
      refine (uek _).mono ?_
      rintro e w9 ⟨rfl, hm9⟩
      have M := hd' (hH.trans' (hm9.imp (fun _ _ h => h.elim)))
      replace HDq := hd' (HDq.o.up hm9)
      replace HAq := hd' (HAq.o.up hm9)
      clear hm9
      clear hH
      refine hK _ _ M.o (fun hH => ?_)
      clear hK K11 M
      try simp only [Act.put, uSa, uSb, uSc]
      refine tkK 8 (.agg (lyA y Lk.plain nlS nlS nlS nlS)) hH (h := ?_)
      refine rd 5 (h := fun K hK => ?_)
      have g0 := HDq.o.cell.2.2.2.2.2.2.2
      rw [Hm.o] at g0
      go_simp
      clear g0
      have M := hd' hH
      clear hH
      refine hK _ _ M.o (fun hH => ?_)
      clear hK K M
      try simp only [Act.put, uSa, uSb, uSc]
      refine rd 9 (h := fun K hK => ?_)
      go_simp
      obtain ⟨b2, o2, F2', hz9⟩ := Zoom.ex HDq.o.tree Hs.o
      obtain ⟨e1, e2⟩ := (hz9.at_).one HAq.o
      rw [e1, e2] at hz9
      clear e1 e2
      refine (uck base w9 D b T F op _ _ vp vf vb cur8 HDq.o hz9 (.mk y Lk.plain []) [] nlS nlS nlS nlS (LyO.mk y Lk.plain [] nlS nlS nlS nlS [] [] ⟨PixR.nil _ _, NodesR.nil _ _, NodesR.nil _ _⟩ (World.ownsRow_nil _ _ _ _) rfl rfl (fun j c k f h => by simp at h) (by simp [Value.ownBlock])) (fun x hx => by simp at hx) m Hml.o Hn.o).mono ?_
      rintro e w10 ⟨rfl, ⟨F4, cur4, hd10⟩, hm10⟩
      have M := hd' (hH.trans' hm10)
      have HD10 := hd' hd10
      clear hH hd10 hm10 hz9
      refine hK _ _ M.o (fun hH => ?_)
      clear hK K M
      try simp only [Act.put, uSa, uSb, uSc]
      have MS := hd' hH
      refine wpAnyH_done (by kernel_rfl) ?_ _
      clear hH
      try simp only [Act.put]
      have HR10 := hd' (HN8.o.mod MS.o (fun e => by
       rcases e with e | e
       ·have := HDlt.o; omega
       ·have := HFlt.o _ e; omega))
      have Hi10 := hd' (Hi8.o.mod MS.o HN7D.o)
      have HM10 := hd' (HM8.o.trans' MS.o)
      have i0 := Hi10.o.cell 0 rfl
      have i1 := Hi10.o.cell 1 rfl
      have r0 := HR10.o.cell 0 rfl
      have r1 := HR10.o.cell 1 rfl
      have s0 := HR10.o.frozen 0
      have s1 := HR10.o.frozen 1
      clear MS
      go_wp2_with fail
      have hS := (Gou.Mod.set1 w10 w.heap.size 0 (iV y.1)).trans' (Gou.Mod.set1 _ w.heap.size 1 (iV y.2))
      have hR := (HR10.o.set 0 (iV y.1)).set 1 (iV y.2)
      have hd11 := HD10.o.box tI tB HR10.o (by decide) (by have := HDlt.o; omega) (by have := HD.o.tree.ge; have := HDlt.o; omega) hS
      refine bpr (uam rfl (ResAt.of rfl hR Tryz.underlying30 rfl uaf)) rfl ?_
      refine ⟨HM10.o.trans hS (fun k hk e => by omega), fun h => by have := Hm.o; have := Hml.o; have := Hd64.o; have := Hdd.o; omega, fun n e _ _ => ⟨fun hno => (by rw [Htk.o] at hno; cases hno), fun b' y' hby => ?_⟩⟩
      rw [Htk.o] at hby
      cases hby
      obtain rfl : n = m := by have := Hm.o; omega
      exact ⟨rfl, _, _, _, _, hd11⟩
   ·have e3 : decide ((64 : Int) < (dd : Int) + 1) = true := dqt (by omega)
    go_quiet (fail)
    go_wp2_with fail
    have hR := (((HN4.o.up (Gou.Mod.drewN (fun _ => False) w4 nq)).set 0 (iV 0)).set 1 (iV 0))
    have HMq := (HM4.o.trans' (Gou.Mod.drewN (fun _ => False) w4 nq)).trans ((Gou.Mod.set1 (w4.drewN nq) w.heap.size 0 (iV 0)).trans' (Gou.Mod.set1 _ w.heap.size 1 (iV 0))) (fun k hk e => by omega)
    refine bpr (uam rfl (ResAt.of rfl hR Tryz.underlying30 rfl uaf)) rfl ?_
    exact ⟨HMq.imp (fun _ _ h => h.elim), fun _ => rfl, fun n e hn h => by have := Hdd.o; omega⟩
end Go.Proofs.YtpbmfalokongfaaGreatDoor
