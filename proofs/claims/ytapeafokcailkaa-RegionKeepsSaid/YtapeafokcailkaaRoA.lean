/- Regions: the code's regions of rectangles, joined, met, cut; right ones. -/
import Derived.Test.YtapeafokcailkaaRlB
set_option linter.unusedSimpArgs false
set_option linter.unusedVariables false
set_option linter.unusedSectionVars false
set_option linter.constructorNameAsVariable false
namespace Go.Reg
/-- A right list of rectangles. -/
def IsRight (l : List Rt) : Prop := (∀ r ∈ l, r.Some ∧ r.Right) ∧ RegOf l (Pts l [] orF)
theorem RegOf.eq_iff {l out : List Rt} (h : RegOf out (Pts l [] orF)) : l = out ↔ RegOf l (Pts l [] orF) := ⟨fun e => by rw [← e] at h; exact h, fun h2 => h2.uniq h (fun _ _ => Iff.rfl)⟩
end Go.Reg
namespace Go.Proofs.Ytapeafokcailkaa
open Go.RowKit Go.Gou Go.Reg Go.Shelf
set_option maxRecDepth 100000

theorem regOf_any (w : World) (p : Option Addr) (c : Nat) (l : List Rt) (hl : RtR (fun _ => True) w (.slice p l.length c) l) (hx : ∀ r ∈ l, Near r.x0) (hn : l.length ≤ 100000) :
    Calls Try.prog 12 #[.slice p l.length c] w (CombP w l [] orF) := by
  have hcon := combine_any w 36 orF W_either p none c 0 l [] hl (RowG.nil _ _ _) hx (fun r hr => by cases hr) (by simpa using hn)
  have Hcon := Lib.hid hcon
  clear hcon hl hx hn
  go_enter Try.func12, Try.ntmps12
  go_wp2_with fail
  refine Hcon.out.mono ?_
  rintro e w1 hc
  obtain ⟨hm, v, out, rfl, hown, hr⟩ := hc
  have Hend : Hid (CombP w l [] orF (.returned v) w1) := Lib.hid ⟨hm, v, out, rfl, hown, hr⟩
  obtain ⟨p1, c1, rfl⟩ := Gou.ownsRow_form hown
  clear hm hown hr
  go_wp2_with fail
  go_ret
  exact Hend.out

theorem regJoin_any (w : World) (pa pb : Option Addr) (ca cb : Nat) (a b : List Rt) (hA : RtR (fun _ => True) w (.slice pa a.length ca) a) (hB : RtR (fun _ => True) w (.slice pb b.length cb) b) (hax : ∀ r ∈ a, Near r.x0) (hbx : ∀ r ∈ b, Near r.x0) (hn : a.length + b.length ≤ 100000) :
    Calls Try.prog 16 #[.slice pa a.length ca, .slice pb b.length cb] w (CombP w a b orF) := by
  have Hcon := Lib.hid (combine_any w 36 orF W_either pa pb ca cb a b hA hB hax hbx hn)
  clear hA hB hax hbx hn
  go_enter Try.func16, Try.ntmps16
  go_wp2_with fail
  refine Hcon.out.mono ?_
  rintro e w1 hc
  obtain ⟨hm, v, out, rfl, hown, hr⟩ := hc
  have Hend : Hid (CombP w a b orF (.returned v) w1) := Lib.hid ⟨hm, v, out, rfl, hown, hr⟩
  obtain ⟨p1, c1, rfl⟩ := Gou.ownsRow_form hown
  clear hm hown hr
  go_wp2_with fail
  go_ret
  exact Hend.out

theorem regMeet_any (w : World) (pa pb : Option Addr) (ca cb : Nat) (a b : List Rt) (hA : RtR (fun _ => True) w (.slice pa a.length ca) a) (hB : RtR (fun _ => True) w (.slice pb b.length cb) b) (hax : ∀ r ∈ a, Near r.x0) (hbx : ∀ r ∈ b, Near r.x0) (hn : a.length + b.length ≤ 100000) :
    Calls Try.prog 18 #[.slice pa a.length ca, .slice pb b.length cb] w (CombP w a b andF) := by
  have Hcon := Lib.hid (combine_any w 40 andF W_both pa pb ca cb a b hA hB hax hbx hn)
  clear hA hB hax hbx hn
  go_enter Try.func18, Try.ntmps18
  go_wp2_with fail
  refine Hcon.out.mono ?_
  rintro e w1 hc
  obtain ⟨hm, v, out, rfl, hown, hr⟩ := hc
  have Hend : Hid (CombP w a b andF (.returned v) w1) := Lib.hid ⟨hm, v, out, rfl, hown, hr⟩
  obtain ⟨p1, c1, rfl⟩ := Gou.ownsRow_form hown
  clear hm hown hr
  go_wp2_with fail
  go_ret
  exact Hend.out

theorem regCut_any (w : World) (pa pb : Option Addr) (ca cb : Nat) (a b : List Rt) (hA : RtR (fun _ => True) w (.slice pa a.length ca) a) (hB : RtR (fun _ => True) w (.slice pb b.length cb) b) (hax : ∀ r ∈ a, Near r.x0) (hbx : ∀ r ∈ b, Near r.x0) (hn : a.length + b.length ≤ 100000) :
    Calls Try.prog 19 #[.slice pa a.length ca, .slice pb b.length cb] w (CombP w a b cutF) := by
  have Hcon := Lib.hid (combine_any w 41 cutF W_first pa pb ca cb a b hA hB hax hbx hn)
  clear hA hB hax hbx hn
  go_enter Try.func19, Try.ntmps19
  go_wp2_with fail
  refine Hcon.out.mono ?_
  rintro e w1 hc
  obtain ⟨hm, v, out, rfl, hown, hr⟩ := hc
  have Hend : Hid (CombP w a b cutF (.returned v) w1) := Lib.hid ⟨hm, v, out, rfl, hown, hr⟩
  obtain ⟨p1, c1, rfl⟩ := Gou.ownsRow_form hown
  clear hm hown hr
  go_wp2_with fail
  go_ret
  exact Hend.out

theorem within_all {r : Rt} : (!decide r.Some || (decide ((-4398046511104 : Int) ≤ r.x0) && (decide ((-4398046511104 : Int) ≤ r.y0) && (decide (r.x1 ≤ 4398046511104) && decide (r.y1 ≤ 4398046511104))))) = (!decide r.Some || decide r.Right) := by
  by_cases h : r.Some
  · have h2 := inAll_right h
    rw [Bool.eq_iff_iff]
    simp only [h, decide_true, Bool.not_true, Bool.false_or, Bool.and_eq_true, decide_eq_true_eq]
    rw [← h2]
    unfold inAll far
    omega
  · simp [h]

set_option maxHeartbeats 8000000 in
/-- Is a region right: the code's answer. -/
theorem regRight_any (w : World) (p : Option Addr) (c : Nat) (l : List Rt) (hl : RtR (fun _ => True) w (.slice p l.length c) l) (hn : l.length ≤ 100000) :
    Calls Try.prog 10 #[.slice p l.length c] w fun e w' => Gou.Mod (fun _ => False) w w' ∧ ∃ q, e = .returned (.bool q) ∧ (q = true ↔ IsRight l) := by
  have HL := Lib.hid hl
  have Hn := Lib.hid hn
  clear hl hn
  go_enter Try.func10, Try.ntmps10
  go_wp2_with fail
  go_loopw [7] (fun vi wr => ∃ i : Nat, vi = .int .i64 i ∧ i ≤ l.length ∧ (∀ r ∈ l.take i, r.Some ∧ r.Right) ∧ Gou.Mod (fun _ => False) w wr) (fun vi _ => l.length - (intOf vi).toNat)
  case atStart => exact ⟨0, rfl, by omega, fun r hr => by simp at hr, Gou.Mod.refl _ _⟩
  case round =>
    obtain ⟨i, rfl, hi, hall, hm⟩ := hrel
    have Hall := Lib.hid hall
    have Hm := Lib.hid hm
    clear hall hm
    by_cases hil : i < l.length
    · have e1 : decide ((i : Int) < (l.length : Int)) = true := decide_eq_true (by omega)
      obtain ⟨-, bl, off, rfl, hb, -, hc⟩ := HL.out.cells (by omega)
      obtain ⟨k0, k1, k2, k3⟩ := hc i hil
      rw [← Hm.out.cell (p := ⟨bl, off + i * 4, none⟩) hb (fun h => h)] at k0
      rw [← Hm.out.cell (p := ⟨bl, off + i * 4 + 1, none⟩) hb (fun h => h)] at k1
      rw [← Hm.out.cell (p := ⟨bl, off + i * 4 + 2, none⟩) hb (fun h => h)] at k2
      rw [← Hm.out.cell (p := ⟨bl, off + i * 4 + 3, none⟩) hb (fun h => h)] at k3
      have hi1 : (i : Int) < (l.length : Int) := by omega
      have hi0 : (0 : Int) ≤ (i : Int) := by omega
      have wi : IntKind.i64.wrap ((i : Int) + 1) = (i : Int) + 1 := wrap_id (by omega) (by have := Hn.out; omega)
      have Hbad := Lib.hid (fun (h : ¬ (l[i].Some ∧ l[i].Right)) => (fun hr => h (hr.1 _ (List.getElem_mem hil)) : ¬ IsRight l))
      have Hst := Lib.hid (fun (h : l[i].Some ∧ l[i].Right) => (by
        rw [List.take_succ_eq_append_getElem hil]
        intro r hr
        rcases List.mem_append.1 hr with hr | hr
        · exact Hall.out r hr
        · simp only [List.mem_singleton] at hr
          rw [hr]
          exact h : ∀ r ∈ l.take (i + 1), r.Some ∧ r.Right))
      have Hin := Lib.hid (And.intro hi hil)
      have HW0 := Lib.hid (fun (w' : World) => within_any l[i] ⟨-4398046511104, -4398046511104, 4398046511104, 4398046511104⟩ w')
      have HE0 := Lib.hid (fun (w' : World) => rectEmpty_any l[i] w')
      clear hc
      generalize l[i] = s at *
      obtain ⟨q1, hq1⟩ : ∃ q, q = decide s.Some := ⟨_, rfl⟩
      obtain ⟨q2, hq2⟩ : ∃ q, q = decide s.Right := ⟨_, rfl⟩
      have HWi : Hid (∀ w' : World, Calls Try.prog 31 #[rtV s, rtV ⟨-4398046511104, -4398046511104, 4398046511104, 4398046511104⟩] w' fun e w'' => e = .returned (.bool (!q1 || q2)) ∧ Gou.Mod (fun _ => False) w' w'') := Lib.hid (fun w' => by
        have h := HW0.out w'
        simp only [within_all] at h
        rw [← hq1, ← hq2] at h
        exact h)
      have HEm : Hid (∀ w' : World, Calls Try.prog 33 #[rtV s] w' fun e w'' => e = .returned (.bool (!q1)) ∧ Below w'.heap.size w' w'') := Lib.hid (fun w' => by
        have h := HE0.out w'
        rw [← hq1] at h
        exact h)
      have Hq := Lib.hid (And.intro hq1 hq2)
      clear hq1 hq2 HW0 HE0
      obtain ⟨a, b, c', d⟩ := s
      simp only at k0 k1 k2 k3
      go_wp2_with fail
      have HN := Lib.hid (Blk.new wr 36 #[.int .i64 a, .int .i64 b, .int .i64 c', .int .i64 d])
      have Hm3 : Hid (Gou.Mod (fun _ => False) w (wr.alloc (.cells #[.int .i64 a, .int .i64 b, .int .i64 c', .int .i64 d] 36))) := Lib.hid (Hm.out.trans' (Gou.Mod.alloc0 _ _))
      have Nlt : Hid (wr.heap.size < (wr.alloc (.cells #[.int .i64 a, .int .i64 b, .int .i64 c', .int .i64 d] 36)).heap.size) := Lib.hid (by simp)
      clear k0 k1 k2 k3 Hm
      generalize wr.alloc (.cells #[.int .i64 a, .int .i64 b, .int .i64 c', .int .i64 d] 36) = W3 at *
      generalize wr.heap.size = N at *
      obtain ⟨⟨cb0, cb1, cb2, cb3⟩, -⟩ := four HN.out
      cases q1 with
      | true =>
        cases q2 with
        | true =>
          go_wp2_with fail
          refine wp_region_held_drew (S := fun w' => Gou.Mod (fun _ => False) W3 w') (by kernel_rfl) (Gou.Mod.drew _ _) (fun hHeld => ?_)
          refine wpAnyH_take (i := 0) (oi := ({ dst := some 11, op := Op.load 36 (Operand.tmp 4), type := 36, pos := "region.go:140", after := #[], guard := none } : Oper)) (v := .agg #[.int .i64 a, .int .i64 b, .int .i64 c', .int .i64 d]) rfl (by kernel_rfl) (by kernel_rfl) (by kernel_rfl) (fun _ _ _ h => h) (Or.inl ⟨by rfl, ?_⟩) hHeld ?_
          · (intro w' hSw; (try dsimp only at hSw); have g0 := (hSw.cell (p := ⟨N, 0, none⟩) Nlt.out (fun h => h)).trans cb0; have g1 := (hSw.cell (p := ⟨N, 1, none⟩) Nlt.out (fun h => h)).trans cb1; have g2 := (hSw.cell (p := ⟨N, 2, none⟩) Nlt.out (fun h => h)).trans cb2; have g3 := (hSw.cell (p := ⟨N, 3, none⟩) Nlt.out (fun h => h)).trans cb3; clear hSw; go_simp; (try with_reducible rfl))
          try simp only [Act.put, List.setIfInBounds_toArray, List.set_cons_zero, List.set_cons_succ]
          refine wpAnyH_ready (rs := [1]) (by kernel_rfl) (by simp) (AllReadyH.cons (o := ({ dst := some 12, op := Op.call { callee := Callee.value (Operand.func 32), args := #[], argTypes := #[] }, type := 36, pos := "region.go:140", after := #[], guard := none } : Oper)) rfl (fun K hK => ?_) AllReadyH.nil)
          go_simp
          refine (all_any _).mono ?_
          rintro e w4 ⟨rfl, hm⟩
          have M4 := Lib.hid (hHeld.trans' (Gou.Mod.of_below hm (fun _ => False)))
          clear hm hHeld
          refine hK _ _ M4.out (fun hHeld => ?_)
          clear hK K
          try simp only [Act.put, List.setIfInBounds_toArray, List.set_cons_zero, List.set_cons_succ]
          refine wpAnyH_ready (rs := [2]) (by kernel_rfl) (by simp) (AllReadyH.cons (o := ({ dst := some 13, op := Op.call { callee := Callee.value (Operand.func 31), args := #[Operand.tmp 11, Operand.tmp 12], argTypes := #[36, 36] }, type := 4, pos := "region.go:140", after := #[{ on := 0, ground := Ground.data }, { on := 1, ground := Ground.data }, { on := 1, ground := Ground.chain }], guard := none } : Oper)) rfl (fun K hK => ?_) AllReadyH.nil)
          go_simp
          refine (HWi.out _).mono ?_
          rintro e w5 ⟨rfl, hm⟩
          have M5 := Lib.hid (hHeld.trans' hm)
          clear hm hHeld
          refine hK _ _ M5.out (fun hHeld => ?_)
          clear hK K
          try simp only [Act.put, List.setIfInBounds_toArray, List.set_cons_zero, List.set_cons_succ]
          refine wpAnyH_take (i := 3) (oi := ({ dst := some 14, op := Op.unOp UnOp.not 4 (Operand.tmp 13), type := 4, pos := "region.go:140", after := #[{ on := 2, ground := Ground.data }], guard := none } : Oper)) (v := .bool false) rfl (by kernel_rfl) (by kernel_rfl) (by kernel_rfl) (fun _ _ _ h => h) (Or.inl ⟨by rfl, ?_⟩) hHeld ?_
          · (intro w' hSw; (try dsimp only at hSw); clear hSw; go_simp; (try with_reducible rfl))
          try simp only [Act.put, List.setIfInBounds_toArray, List.set_cons_zero, List.set_cons_succ]
          refine wpAnyH_take (i := 4) (oi := ({ dst := some 15, op := Op.move (Operand.tmp 14), type := 4, pos := "region.go:140", after := #[{ on := 3, ground := Ground.data }, { on := 2, ground := Ground.chain }], guard := none } : Oper)) (v := .bool false) rfl (by kernel_rfl) (by kernel_rfl) (by kernel_rfl) (fun _ _ _ h => h) (Or.inl ⟨by rfl, ?_⟩) hHeld ?_
          · (intro w' hSw; (try dsimp only at hSw); clear hSw; go_simp; (try with_reducible rfl))
          try simp only [Act.put, List.setIfInBounds_toArray, List.set_cons_zero, List.set_cons_succ]
          refine wpAnyH_take (i := 5) (oi := ({ dst := some 16, op := Op.load 36 (Operand.tmp 4), type := 36, pos := "region.go:140", after := #[{ on := 4, ground := Ground.guard }], guard := some (4, false) } : Oper)) (v := .agg #[.int .i64 a, .int .i64 b, .int .i64 c', .int .i64 d]) rfl (by kernel_rfl) (by kernel_rfl) (by kernel_rfl) (fun _ _ _ h => h) (Or.inl ⟨by rfl, ?_⟩) hHeld ?_
          · (intro w' hSw; (try dsimp only at hSw); have g0 := (hSw.cell (p := ⟨N, 0, none⟩) Nlt.out (fun h => h)).trans cb0; have g1 := (hSw.cell (p := ⟨N, 1, none⟩) Nlt.out (fun h => h)).trans cb1; have g2 := (hSw.cell (p := ⟨N, 2, none⟩) Nlt.out (fun h => h)).trans cb2; have g3 := (hSw.cell (p := ⟨N, 3, none⟩) Nlt.out (fun h => h)).trans cb3; clear hSw; go_simp; (try with_reducible rfl))
          try simp only [Act.put, List.setIfInBounds_toArray, List.set_cons_zero, List.set_cons_succ]
          refine wpAnyH_ready (rs := [6]) (by kernel_rfl) (by simp) (AllReadyH.cons (o := ({ dst := some 17, op := Op.call { callee := Callee.value (Operand.func 33), args := #[Operand.tmp 16], argTypes := #[36] }, type := 4, pos := "region.go:140", after := #[{ on := 5, ground := Ground.data }, { on := 4, ground := Ground.chain }, { on := 4, ground := Ground.guard }], guard := some (4, false) } : Oper)) rfl (fun K hK => ?_) AllReadyH.nil)
          go_simp
          refine (HEm.out _).mono ?_
          rintro e w6 ⟨rfl, hm⟩
          have M6 := Lib.hid (hHeld.trans' (Gou.Mod.of_below hm (fun _ => False)))
          clear hm hHeld
          refine hK _ _ M6.out (fun hHeld => ?_)
          clear hK K
          try simp only [Act.put, List.setIfInBounds_toArray, List.set_cons_zero, List.set_cons_succ]
          refine wpAnyH_take (i := 7) (oi := ({ dst := some 18, op := Op.pick (Operand.tmp 15) (Operand.const (Value.bool true)) (Operand.tmp 17), type := 4, pos := "region.go:140", after := #[{ on := 4, ground := Ground.data }, { on := 6, ground := Ground.data }], guard := none } : Oper)) (v := .bool false) rfl (by kernel_rfl) (by kernel_rfl) (by kernel_rfl) (fun _ _ _ h => h) (Or.inl ⟨by rfl, ?_⟩) hHeld ?_
          · (intro w' hSw; (try dsimp only at hSw); clear hSw; go_simp; (try with_reducible rfl))
          try simp only [Act.put, List.setIfInBounds_toArray, List.set_cons_zero, List.set_cons_succ]
          refine wpAnyH_done (by kernel_rfl) ?_ _
          clear hHeld
          have Hend := Lib.hid (Hm3.out.trans' M6.out)
          have Hs2 := Lib.hid (Hst.out ⟨of_decide_eq_true Hq.out.1.symm, of_decide_eq_true Hq.out.2.symm⟩)
          go_wp2_with fail
          go_roundw
          case rel => exact ⟨i + 1, by go_num, by have := Hin.out; omega, Hs2.out, Hend.out⟩
          case measure => have := Hin.out; simp [intOf, wi]; omega
        | false =>
          go_wp2_with fail
          refine wp_region_held_drew (S := fun w' => Gou.Mod (fun _ => False) W3 w') (by kernel_rfl) (Gou.Mod.drew _ _) (fun hHeld => ?_)
          refine wpAnyH_take (i := 0) (oi := ({ dst := some 11, op := Op.load 36 (Operand.tmp 4), type := 36, pos := "region.go:140", after := #[], guard := none } : Oper)) (v := .agg #[.int .i64 a, .int .i64 b, .int .i64 c', .int .i64 d]) rfl (by kernel_rfl) (by kernel_rfl) (by kernel_rfl) (fun _ _ _ h => h) (Or.inl ⟨by rfl, ?_⟩) hHeld ?_
          · (intro w' hSw; (try dsimp only at hSw); have g0 := (hSw.cell (p := ⟨N, 0, none⟩) Nlt.out (fun h => h)).trans cb0; have g1 := (hSw.cell (p := ⟨N, 1, none⟩) Nlt.out (fun h => h)).trans cb1; have g2 := (hSw.cell (p := ⟨N, 2, none⟩) Nlt.out (fun h => h)).trans cb2; have g3 := (hSw.cell (p := ⟨N, 3, none⟩) Nlt.out (fun h => h)).trans cb3; clear hSw; go_simp; (try with_reducible rfl))
          try simp only [Act.put, List.setIfInBounds_toArray, List.set_cons_zero, List.set_cons_succ]
          refine wpAnyH_ready (rs := [1]) (by kernel_rfl) (by simp) (AllReadyH.cons (o := ({ dst := some 12, op := Op.call { callee := Callee.value (Operand.func 32), args := #[], argTypes := #[] }, type := 36, pos := "region.go:140", after := #[], guard := none } : Oper)) rfl (fun K hK => ?_) AllReadyH.nil)
          go_simp
          refine (all_any _).mono ?_
          rintro e w4 ⟨rfl, hm⟩
          have M4 := Lib.hid (hHeld.trans' (Gou.Mod.of_below hm (fun _ => False)))
          clear hm hHeld
          refine hK _ _ M4.out (fun hHeld => ?_)
          clear hK K
          try simp only [Act.put, List.setIfInBounds_toArray, List.set_cons_zero, List.set_cons_succ]
          refine wpAnyH_ready (rs := [2]) (by kernel_rfl) (by simp) (AllReadyH.cons (o := ({ dst := some 13, op := Op.call { callee := Callee.value (Operand.func 31), args := #[Operand.tmp 11, Operand.tmp 12], argTypes := #[36, 36] }, type := 4, pos := "region.go:140", after := #[{ on := 0, ground := Ground.data }, { on := 1, ground := Ground.data }, { on := 1, ground := Ground.chain }], guard := none } : Oper)) rfl (fun K hK => ?_) AllReadyH.nil)
          go_simp
          refine (HWi.out _).mono ?_
          rintro e w5 ⟨rfl, hm⟩
          have M5 := Lib.hid (hHeld.trans' hm)
          clear hm hHeld
          refine hK _ _ M5.out (fun hHeld => ?_)
          clear hK K
          try simp only [Act.put, List.setIfInBounds_toArray, List.set_cons_zero, List.set_cons_succ]
          refine wpAnyH_take (i := 3) (oi := ({ dst := some 14, op := Op.unOp UnOp.not 4 (Operand.tmp 13), type := 4, pos := "region.go:140", after := #[{ on := 2, ground := Ground.data }], guard := none } : Oper)) (v := .bool true) rfl (by kernel_rfl) (by kernel_rfl) (by kernel_rfl) (fun _ _ _ h => h) (Or.inl ⟨by rfl, ?_⟩) hHeld ?_
          · (intro w' hSw; (try dsimp only at hSw); clear hSw; go_simp; (try with_reducible rfl))
          try simp only [Act.put, List.setIfInBounds_toArray, List.set_cons_zero, List.set_cons_succ]
          refine wpAnyH_take (i := 4) (oi := ({ dst := some 15, op := Op.move (Operand.tmp 14), type := 4, pos := "region.go:140", after := #[{ on := 3, ground := Ground.data }, { on := 2, ground := Ground.chain }], guard := none } : Oper)) (v := .bool true) rfl (by kernel_rfl) (by kernel_rfl) (by kernel_rfl) (fun _ _ _ h => h) (Or.inl ⟨by rfl, ?_⟩) hHeld ?_
          · (intro w' hSw; (try dsimp only at hSw); clear hSw; go_simp; (try with_reducible rfl))
          try simp only [Act.put, List.setIfInBounds_toArray, List.set_cons_zero, List.set_cons_succ]
          refine wpAnyH_take (i := 5) (oi := ({ dst := some 16, op := Op.load 36 (Operand.tmp 4), type := 36, pos := "region.go:140", after := #[{ on := 4, ground := Ground.guard }], guard := some (4, false) } : Oper)) (v := undef) rfl (by kernel_rfl) (by kernel_rfl) (by kernel_rfl) (fun _ _ _ h => h) (Or.inr ⟨by rfl, rfl⟩) hHeld ?_
          try simp only [Act.put, List.setIfInBounds_toArray, List.set_cons_zero, List.set_cons_succ]
          refine wpAnyH_take (i := 6) (oi := ({ dst := some 17, op := Op.call { callee := Callee.value (Operand.func 33), args := #[Operand.tmp 16], argTypes := #[36] }, type := 4, pos := "region.go:140", after := #[{ on := 5, ground := Ground.data }, { on := 4, ground := Ground.chain }, { on := 4, ground := Ground.guard }], guard := some (4, false) } : Oper)) (v := undef) rfl (by kernel_rfl) (by kernel_rfl) (by kernel_rfl) (fun _ _ _ h => h) (Or.inr ⟨by rfl, rfl⟩) hHeld ?_
          try simp only [Act.put, List.setIfInBounds_toArray, List.set_cons_zero, List.set_cons_succ]
          refine wpAnyH_take (i := 7) (oi := ({ dst := some 18, op := Op.pick (Operand.tmp 15) (Operand.const (Value.bool true)) (Operand.tmp 17), type := 4, pos := "region.go:140", after := #[{ on := 4, ground := Ground.data }, { on := 6, ground := Ground.data }], guard := none } : Oper)) (v := .bool true) rfl (by kernel_rfl) (by kernel_rfl) (by kernel_rfl) (fun _ _ _ h => h) (Or.inl ⟨by rfl, ?_⟩) hHeld ?_
          · (intro w' hSw; (try dsimp only at hSw); clear hSw; go_simp; (try with_reducible rfl))
          try simp only [Act.put, List.setIfInBounds_toArray, List.set_cons_zero, List.set_cons_succ]
          refine wpAnyH_done (by kernel_rfl) ?_ _
          clear hHeld
          have Hend := Lib.hid (Hm3.out.trans' M5.out)
          have Hno := Lib.hid (Hbad.out (fun h => (of_decide_eq_false Hq.out.2.symm) h.2))
          go_wp2_with fail
          go_ret
          exact ⟨Hend.out, false, rfl, ⟨fun h => (by cases h), fun h => (Hno.out h).elim⟩⟩
      | false =>
        go_wp2_with fail
        refine wp_region_held_drew (S := fun w' => Gou.Mod (fun _ => False) W3 w') (by kernel_rfl) (Gou.Mod.drew _ _) (fun hHeld => ?_)
        refine wpAnyH_take (i := 0) (oi := ({ dst := some 11, op := Op.load 36 (Operand.tmp 4), type := 36, pos := "region.go:140", after := #[], guard := none } : Oper)) (v := .agg #[.int .i64 a, .int .i64 b, .int .i64 c', .int .i64 d]) rfl (by kernel_rfl) (by kernel_rfl) (by kernel_rfl) (fun _ _ _ h => h) (Or.inl ⟨by rfl, ?_⟩) hHeld ?_
        · (intro w' hSw; (try dsimp only at hSw); have g0 := (hSw.cell (p := ⟨N, 0, none⟩) Nlt.out (fun h => h)).trans cb0; have g1 := (hSw.cell (p := ⟨N, 1, none⟩) Nlt.out (fun h => h)).trans cb1; have g2 := (hSw.cell (p := ⟨N, 2, none⟩) Nlt.out (fun h => h)).trans cb2; have g3 := (hSw.cell (p := ⟨N, 3, none⟩) Nlt.out (fun h => h)).trans cb3; clear hSw; go_simp; (try with_reducible rfl))
        try simp only [Act.put, List.setIfInBounds_toArray, List.set_cons_zero, List.set_cons_succ]
        refine wpAnyH_ready (rs := [1]) (by kernel_rfl) (by simp) (AllReadyH.cons (o := ({ dst := some 12, op := Op.call { callee := Callee.value (Operand.func 32), args := #[], argTypes := #[] }, type := 36, pos := "region.go:140", after := #[], guard := none } : Oper)) rfl (fun K hK => ?_) AllReadyH.nil)
        go_simp
        refine (all_any _).mono ?_
        rintro e w4 ⟨rfl, hm⟩
        have M4 := Lib.hid (hHeld.trans' (Gou.Mod.of_below hm (fun _ => False)))
        clear hm hHeld
        refine hK _ _ M4.out (fun hHeld => ?_)
        clear hK K
        try simp only [Act.put, List.setIfInBounds_toArray, List.set_cons_zero, List.set_cons_succ]
        refine wpAnyH_ready (rs := [2]) (by kernel_rfl) (by simp) (AllReadyH.cons (o := ({ dst := some 13, op := Op.call { callee := Callee.value (Operand.func 31), args := #[Operand.tmp 11, Operand.tmp 12], argTypes := #[36, 36] }, type := 4, pos := "region.go:140", after := #[{ on := 0, ground := Ground.data }, { on := 1, ground := Ground.data }, { on := 1, ground := Ground.chain }], guard := none } : Oper)) rfl (fun K hK => ?_) AllReadyH.nil)
        go_simp
        refine (HWi.out _).mono ?_
        rintro e w5 ⟨rfl, hm⟩
        have M5 := Lib.hid (hHeld.trans' hm)
        clear hm hHeld
        refine hK _ _ M5.out (fun hHeld => ?_)
        clear hK K
        try simp only [Act.put, List.setIfInBounds_toArray, List.set_cons_zero, List.set_cons_succ]
        refine wpAnyH_take (i := 3) (oi := ({ dst := some 14, op := Op.unOp UnOp.not 4 (Operand.tmp 13), type := 4, pos := "region.go:140", after := #[{ on := 2, ground := Ground.data }], guard := none } : Oper)) (v := .bool false) rfl (by kernel_rfl) (by kernel_rfl) (by kernel_rfl) (fun _ _ _ h => h) (Or.inl ⟨by rfl, ?_⟩) hHeld ?_
        · (intro w' hSw; (try dsimp only at hSw); clear hSw; go_simp; (try with_reducible rfl))
        try simp only [Act.put, List.setIfInBounds_toArray, List.set_cons_zero, List.set_cons_succ]
        refine wpAnyH_take (i := 4) (oi := ({ dst := some 15, op := Op.move (Operand.tmp 14), type := 4, pos := "region.go:140", after := #[{ on := 3, ground := Ground.data }, { on := 2, ground := Ground.chain }], guard := none } : Oper)) (v := .bool false) rfl (by kernel_rfl) (by kernel_rfl) (by kernel_rfl) (fun _ _ _ h => h) (Or.inl ⟨by rfl, ?_⟩) hHeld ?_
        · (intro w' hSw; (try dsimp only at hSw); clear hSw; go_simp; (try with_reducible rfl))
        try simp only [Act.put, List.setIfInBounds_toArray, List.set_cons_zero, List.set_cons_succ]
        refine wpAnyH_take (i := 5) (oi := ({ dst := some 16, op := Op.load 36 (Operand.tmp 4), type := 36, pos := "region.go:140", after := #[{ on := 4, ground := Ground.guard }], guard := some (4, false) } : Oper)) (v := .agg #[.int .i64 a, .int .i64 b, .int .i64 c', .int .i64 d]) rfl (by kernel_rfl) (by kernel_rfl) (by kernel_rfl) (fun _ _ _ h => h) (Or.inl ⟨by rfl, ?_⟩) hHeld ?_
        · (intro w' hSw; (try dsimp only at hSw); have g0 := (hSw.cell (p := ⟨N, 0, none⟩) Nlt.out (fun h => h)).trans cb0; have g1 := (hSw.cell (p := ⟨N, 1, none⟩) Nlt.out (fun h => h)).trans cb1; have g2 := (hSw.cell (p := ⟨N, 2, none⟩) Nlt.out (fun h => h)).trans cb2; have g3 := (hSw.cell (p := ⟨N, 3, none⟩) Nlt.out (fun h => h)).trans cb3; clear hSw; go_simp; (try with_reducible rfl))
        try simp only [Act.put, List.setIfInBounds_toArray, List.set_cons_zero, List.set_cons_succ]
        refine wpAnyH_ready (rs := [6]) (by kernel_rfl) (by simp) (AllReadyH.cons (o := ({ dst := some 17, op := Op.call { callee := Callee.value (Operand.func 33), args := #[Operand.tmp 16], argTypes := #[36] }, type := 4, pos := "region.go:140", after := #[{ on := 5, ground := Ground.data }, { on := 4, ground := Ground.chain }, { on := 4, ground := Ground.guard }], guard := some (4, false) } : Oper)) rfl (fun K hK => ?_) AllReadyH.nil)
        go_simp
        refine (HEm.out _).mono ?_
        rintro e w6 ⟨rfl, hm⟩
        have M6 := Lib.hid (hHeld.trans' (Gou.Mod.of_below hm (fun _ => False)))
        clear hm hHeld
        refine hK _ _ M6.out (fun hHeld => ?_)
        clear hK K
        try simp only [Act.put, List.setIfInBounds_toArray, List.set_cons_zero, List.set_cons_succ]
        refine wpAnyH_take (i := 7) (oi := ({ dst := some 18, op := Op.pick (Operand.tmp 15) (Operand.const (Value.bool true)) (Operand.tmp 17), type := 4, pos := "region.go:140", after := #[{ on := 4, ground := Ground.data }, { on := 6, ground := Ground.data }], guard := none } : Oper)) (v := .bool true) rfl (by kernel_rfl) (by kernel_rfl) (by kernel_rfl) (fun _ _ _ h => h) (Or.inl ⟨by rfl, ?_⟩) hHeld ?_
        · (intro w' hSw; (try dsimp only at hSw); clear hSw; go_simp; (try with_reducible rfl))
        try simp only [Act.put, List.setIfInBounds_toArray, List.set_cons_zero, List.set_cons_succ]
        refine wpAnyH_done (by kernel_rfl) ?_ _
        clear hHeld
        have Hend := Lib.hid (Hm3.out.trans' M6.out)
        have Hno := Lib.hid (Hbad.out (fun h => (of_decide_eq_false Hq.out.1.symm) h.1))
        go_wp2_with fail
        go_ret
        exact ⟨Hend.out, false, rfl, ⟨fun h => (by cases h), fun h => (Hno.out h).elim⟩⟩
    · have hil' : i = l.length := by omega
      have e1 : decide ((i : Int) < (l.length : Int)) = false := decide_eq_false (by omega)
      rw [hil', List.take_length] at Hall
      go_wp2_with fail
      refine (regOf_any _ p c l (HL.out.under Hm.out) (fun r hr => (Hall.out r hr).2.1) Hn.out).mono ?_
      rintro e w2 ⟨hm2, v, out, rfl, hown, hr, hlen⟩
      have Hm2 := Lib.hid (Hm.out.trans' hm2)
      have Hr := Lib.hid hr
      have HO := Lib.hid (RowG.own_of hown (G := fun _ => True) (fun _ _ _ => trivial))
      have Hlen := Lib.hid hlen
      obtain ⟨p1, c1, rfl⟩ := Gou.ownsRow_form hown
      clear hm2 hown hr hlen
      go_wp2_with fail
      refine (eqRt_any w2 _ _ p p1 c c1 l out (HL.out.under Hm2.out) HO.out (by have := Hn.out; omega) (by
        have h1 := Hlen.out
        have h2 : 2 * (l.length + ([] : List Rt).length) * (2 * (l.length + ([] : List Rt).length)) ≤ 200000 * 200000 := Nat.mul_le_mul (by have := Hn.out; simp; omega) (by have := Hn.out; simp; omega)
        omega)).mono ?_
      rintro e w3 ⟨rfl, hm3⟩
      have Hm3 := Lib.hid (Hm2.out.trans' hm3)
      have Hq : Hid (decide (l = out) = true ↔ IsRight l) := Lib.hid (by
        rw [decide_eq_true_eq, Hr.out.eq_iff]
        exact ⟨fun h => ⟨Hall.out, h⟩, fun h => h.2⟩)
      clear hm3
      generalize decide (l = out) = q at *
      go_wp2_with fail
      go_ret
      exact ⟨Hm3.out, q, rfl, Hq.out⟩

end Go.Proofs.Ytapeafokcailkaa
