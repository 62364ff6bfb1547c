/- Texts of the scenes' proofs, laid together: SdK, SdL. -/
import Derived.Test.YtpbmfalokongfaaZaj
import Derived.Test.YtpbmfalokongfaaZab
set_option linter.unusedSimpArgs false
set_option linter.unusedVariables false
set_option linter.unusedSectionVars false
set_option linter.constructorNameAsVariable false

/- Scenes: the code's reparent. -/
namespace Go.Proofs.Ytpbmfalokongfaa
open Go.RowKit Go.Gou
set_option maxRecDepth 100000
set_option linter.constructorNameAsVariable false

/-- What reparent leaves. -/
def ReparentP (base : Nat) (a : Ar) (F : List Nat) (op : Opr) (vp vf vb : Value) (k T2 x : Ly) (σ : List Nat) (w : World) (D : Nat) (e : Ending) (w' : World) : Prop := Gou.Mod (fun x => x = D ∨ x ∈ F) w w' ∧
  (k.pathOf op.to ≠ none → e = .returned (.int .i64 5)) ∧
  (k.pathOf op.to = none → ((op.at_ < 0 ∨ (x.kids.length : Int) < op.at_ ∨ 64 < σ.length + 1 + k.height) → e = .returned (.int .i64 3)) ∧
    (∀ n : Nat, op.at_ = n → n ≤ x.kids.length → σ.length + 1 + k.height ≤ 64 → e = .returned (.int .i64 0) ∧ ∃ vg vl cur F3, DoerL base w' D a (T2.put σ (.mk x.id x.look (x.kids.take n ++ k :: x.kids.drop n))) F3 op vg vl vp vf vb cur))

set_option maxHeartbeats 8000000 in
theorem reparent_any (base : Nat) (w : World) (D : Nat) (a : Ar) (T : Ly) (F : List Nat) (op : Opr) (vg vl vp vf vb : Value) (cur : Array Value) (hD : DoerL base w D a T F op vg vl vp vf vb cur) (ρ π σ : List Nat) (i : Nat) (s k x T2 : Ly) (hT2 : T.put π (.mk s.id s.look (s.kids.eraseIdx i)) = T2)
    (hρ : T.pathOf op.id = some ρ) (hρk : T.get? ρ = some k) (hp : T.parPath op.id = some (π, i)) (hs : T.get? π = some s) (hk : s.kids[i]? = some k) (hn : s.kids.length ≤ 1000000) (hh : T.height ≤ 1000) (hkh : k.height ≤ 1000) (hh2 : T2.height ≤ 1000) (hft : TFit k)
    (hσ : k.pathOf op.to = none → T2.pathOf op.to = some σ ∧ T2.get? σ = some x ∧ x.kids.length ≤ 1000000 ∧ σ.length ≤ 1000) :
    Calls Try.prog 30 #[.pointer (some ⟨D, 0, none⟩)] w (ReparentP base a F op vp vf vb k T2 x σ w D) := by
  have HD := Lib.hid hD
  have Hρ := Lib.hid hρ
  have Hρk := Lib.hid hρk
  have Hp := Lib.hid hp
  have Hs := Lib.hid hs
  have Hk := Lib.hid hk
  have Hn := Lib.hid hn
  have Hh := Lib.hid hh
  have Hkh := Lib.hid hkh
  have Hh2 := Lib.hid hh2
  have Hft := Lib.hid hft
  have Hσ := Lib.hid hσ
  have HT2 := Lib.hid hT2
  have HDlt := Lib.hid (Blk.lt hD.blk)
  have HDF : Hid (D ∉ F) := Lib.hid hD.tree.out
  clear hD hρ hρk hp hs hk hn hh hkh hh2 hft hσ hT2
  go_enter Try.func30, Try.ntmps30
  go_wp2_with fail
  have HIr : Hid (w.rangeAt D 34 [.int .i64 op.id.1, .int .i64 op.id.2]) := Lib.hid (fun j v hv => by
    obtain ⟨_, _, _, c34, c35, _⟩ := HD.out.cell
    match j, hv with
    | 0, hv => simp at hv; rw [← hv]; exact c34
    | 1, hv => simp at hv; rw [← hv]; exact c35)
  refine wp_region_held_drew (S := fun w' => Gou.Mod (fun _ => False) w w') (by kernel_rfl) (Gou.Mod.drew _ _) (fun hHeld => ?_)
  refine wpAnyH_take (i := 0) (oi := ({ dst := some 11, op := Op.move (Operand.tmp 0), type := 64, pos := "scene.go:171", after := #[], guard := none } : Oper)) (v := .pointer (some ⟨D, 0, none⟩)) rfl (by kernel_rfl) (by kernel_rfl) (by kernel_rfl) (fun _ _ _ h => h) (Or.inl ⟨by rfl, ?_⟩) hHeld ?_
  · (intro w' hSw; (try dsimp only at hSw); clear hSw hHeld; go_simp; (try with_reducible rfl))
  try simp only [Act.put, List.setIfInBounds_toArray, List.set_cons_zero, List.set_cons_succ]
  refine wpAnyH_take (i := 1) (oi := ({ dst := some 12, op := Op.nilCheck (Operand.tmp 11), type := 0, pos := "scene.go:171", after := #[{ on := 0, ground := Ground.data }], guard := none } : Oper)) (v := .pointer (some ⟨D, 0, none⟩)) rfl (by kernel_rfl) (by kernel_rfl) (by kernel_rfl) (fun _ _ _ h => h) (Or.inl ⟨by rfl, ?_⟩) hHeld ?_
  · (intro w' hSw; (try dsimp only at hSw); clear hSw hHeld; go_simp; (try with_reducible rfl))
  try simp only [Act.put, List.setIfInBounds_toArray, List.set_cons_zero, List.set_cons_succ]
  refine wpAnyH_take (i := 2) (oi := ({ dst := some 13, op := Op.fieldAddr 67 (Operand.tmp 12) 0, type := 0, pos := "scene.go:171", after := #[{ on := 1, ground := Ground.data }], guard := none } : Oper)) (v := .pointer (some ⟨D, 0, none⟩)) rfl (by kernel_rfl) (by kernel_rfl) (by kernel_rfl) (fun _ _ _ h => h) (Or.inl ⟨by rfl, ?_⟩) hHeld ?_
  · (intro w' hSw; (try dsimp only at hSw); clear hSw hHeld; go_simp; (try with_reducible rfl))
  try simp only [Act.put, List.setIfInBounds_toArray, List.set_cons_zero, List.set_cons_succ]
  refine wpAnyH_take (i := 3) (oi := ({ dst := some 14, op := Op.fieldAddr 47 (Operand.tmp 13) 1, type := 0, pos := "scene.go:171", after := #[{ on := 2, ground := Ground.data }], guard := none } : Oper)) (v := .pointer (some ⟨D, 2, none⟩)) rfl (by kernel_rfl) (by kernel_rfl) (by kernel_rfl) (fun _ _ _ h => h) (Or.inl ⟨by rfl, ?_⟩) hHeld ?_
  · (intro w' hSw; (try dsimp only at hSw); clear hSw hHeld; go_simp; (try with_reducible rfl))
  try simp only [Act.put, List.setIfInBounds_toArray, List.set_cons_zero, List.set_cons_succ]
  refine wpAnyH_take (i := 4) (oi := ({ dst := some 15, op := Op.move (Operand.tmp 0), type := 64, pos := "scene.go:171", after := #[], guard := none } : Oper)) (v := .pointer (some ⟨D, 0, none⟩)) rfl (by kernel_rfl) (by kernel_rfl) (by kernel_rfl) (fun _ _ _ h => h) (Or.inl ⟨by rfl, ?_⟩) hHeld ?_
  · (intro w' hSw; (try dsimp only at hSw); clear hSw hHeld; go_simp; (try with_reducible rfl))
  try simp only [Act.put, List.setIfInBounds_toArray, List.set_cons_zero, List.set_cons_succ]
  refine wpAnyH_take (i := 5) (oi := ({ dst := some 16, op := Op.nilCheck (Operand.tmp 15), type := 0, pos := "scene.go:171", after := #[{ on := 4, ground := Ground.data }], guard := none } : Oper)) (v := .pointer (some ⟨D, 0, none⟩)) rfl (by kernel_rfl) (by kernel_rfl) (by kernel_rfl) (fun _ _ _ h => h) (Or.inl ⟨by rfl, ?_⟩) hHeld ?_
  · (intro w' hSw; (try dsimp only at hSw); clear hSw hHeld; go_simp; (try with_reducible rfl))
  try simp only [Act.put, List.setIfInBounds_toArray, List.set_cons_zero, List.set_cons_succ]
  refine wpAnyH_take (i := 6) (oi := ({ dst := some 17, op := Op.fieldAddr 67 (Operand.tmp 16) 1, type := 0, pos := "scene.go:171", after := #[{ on := 5, ground := Ground.data }], guard := none } : Oper)) (v := .pointer (some ⟨D, 33, none⟩)) rfl (by kernel_rfl) (by kernel_rfl) (by kernel_rfl) (fun _ _ _ h => h) (Or.inl ⟨by rfl, ?_⟩) hHeld ?_
  · (intro w' hSw; (try dsimp only at hSw); clear hSw hHeld; go_simp; (try with_reducible rfl))
  try simp only [Act.put, List.setIfInBounds_toArray, List.set_cons_zero, List.set_cons_succ]
  refine wpAnyH_take (i := 7) (oi := ({ dst := some 18, op := Op.fieldAddr 53 (Operand.tmp 17) 1, type := 0, pos := "scene.go:171", after := #[{ on := 6, ground := Ground.data }], guard := none } : Oper)) (v := .pointer (some ⟨D, 34, none⟩)) rfl (by kernel_rfl) (by kernel_rfl) (by kernel_rfl) (fun _ _ _ h => h) (Or.inl ⟨by rfl, ?_⟩) hHeld ?_
  · (intro w' hSw; (try dsimp only at hSw); clear hSw hHeld; go_simp; (try with_reducible rfl))
  try simp only [Act.put, List.setIfInBounds_toArray, List.set_cons_zero, List.set_cons_succ]
  refine wpAnyH_take (i := 8) (oi := ({ dst := some 19, op := Op.load 30 (Operand.tmp 18), type := 30, pos := "scene.go:171", after := #[{ on := 7, ground := Ground.data }], guard := none } : Oper)) (v := .agg #[.int .i64 op.id.1, .int .i64 op.id.2]) rfl (by kernel_rfl) (by kernel_rfl) (by kernel_rfl) (fun _ _ _ h => h) (yieldsIf_load_mid (by rfl) 30 _ rfl D (34) rfl ([.int .i64 op.id.1, .int .i64 op.id.2]) _ (fun w' hSw => range_up HIr.out hSw (fun h => h)) Try.underlying30 rfl size_id) hHeld ?_
  try simp only [Act.put, List.setIfInBounds_toArray, List.set_cons_zero, List.set_cons_succ]
  refine wpAnyH_ready (rs := [9]) (by kernel_rfl) (by simp) (AllReadyH.cons (o := ({ dst := some 20, op := Op.call { callee := Callee.value (Operand.func 21), args := #[Operand.tmp 14, Operand.tmp 19, Operand.const (Value.int IntKind.i64 0)], argTypes := #[71, 30, 3] }, type := 72, pos := "scene.go:171", after := #[{ on := 3, ground := Ground.data }, { on := 8, ground := Ground.data }], guard := none } : Oper)) rfl (fun K hK => ?_) AllReadyH.nil)
  go_simp
  refine (find_any base op.id T _ D 2 F 0 (HD.out.up hHeld).tree (by have := Hh.out; omega)).mono ?_
  rintro e w4 ⟨hm4, _, hs4⟩
  obtain ⟨b', o', F', s', rfl, hz4⟩ := hs4 _ Hρ.out
  have hss : s' = k := by
    have := hz4.get
    rw [Hρk.out] at this
    exact (Option.some.inj this).symm
  subst hss
  have M := Lib.hid (hHeld.trans' hm4)
  have Hz4 := Lib.hid hz4
  obtain ⟨dd, hdd⟩ : ∃ dd, dd = 0 + ρ.length := ⟨_, rfl⟩
  rw [← hdd]
  clear hHeld hm4 hs4 hz4 hdd
  refine hK _ _ M.out (fun hHeld => ?_)
  clear hK K M
  try simp only [Act.put, List.setIfInBounds_toArray, List.set_cons_zero, List.set_cons_succ]
  refine wpAnyH_take (i := 10) (oi := ({ dst := some 10, op := Op.move (Operand.tmp 20), type := 72, pos := "scene.go:171", after := #[{ on := 9, ground := Ground.data }], guard := none } : Oper)) (v := .tuple #[.pointer (some ⟨b', o', none⟩), .int .i64 ((dd : Nat) : Int)]) rfl (by kernel_rfl) (by kernel_rfl) (by kernel_rfl) (fun _ _ _ h => h) (Or.inl ⟨by rfl, ?_⟩) hHeld ?_
  · (intro w' hSw; (try dsimp only at hSw); clear hSw hHeld; go_simp; (try with_reducible rfl))
  try simp only [Act.put, List.setIfInBounds_toArray, List.set_cons_zero, List.set_cons_succ]
  refine wpAnyH_take (i := 11) (oi := ({ dst := some 21, op := Op.extract (Operand.tmp 10) 0, type := 71, pos := "scene.go:171", after := #[{ on := 10, ground := Ground.data }], guard := none } : Oper)) (v := .pointer (some ⟨b', o', none⟩)) rfl (by kernel_rfl) (by kernel_rfl) (by kernel_rfl) (fun _ _ _ h => h) (Or.inl ⟨by rfl, ?_⟩) hHeld ?_
  · (intro w' hSw; (try dsimp only at hSw); clear hSw hHeld; go_simp; (try with_reducible rfl))
  try simp only [Act.put, List.setIfInBounds_toArray, List.set_cons_zero, List.set_cons_succ]
  refine wpAnyH_take (i := 12) (oi := ({ dst := some 22, op := Op.extract (Operand.tmp 10) 1, type := 3, pos := "scene.go:171", after := #[{ on := 10, ground := Ground.data }, { on := 13, ground := Ground.gcOnly Departure.lateStores }], guard := none } : Oper)) (v := .int .i64 ((dd : Nat) : Int)) rfl (by kernel_rfl) (by kernel_rfl) (by kernel_rfl) (fun _ _ _ h => h) (Or.inl ⟨by rfl, ?_⟩) hHeld ?_
  · (intro w' hSw; (try dsimp only at hSw); clear hSw hHeld; go_simp; (try with_reducible rfl))
  try simp only [Act.put, List.setIfInBounds_toArray, List.set_cons_zero, List.set_cons_succ]
  refine wpAnyH_take (i := 13) (oi := ({ dst := some 3, op := Op.assign (Operand.tmp 21), type := 71, pos := "scene.go:171", after := #[{ on := 11, ground := Ground.data }, { on := 9, ground := Ground.chain }, { on := 0, ground := Ground.phase }, { on := 1, ground := Ground.phase }, { on := 2, ground := Ground.phase }, { on := 3, ground := Ground.phase }, { on := 4, ground := Ground.phase }, { on := 5, ground := Ground.phase }, { on := 6, ground := Ground.phase }, { on := 7, ground := Ground.phase }, { on := 8, ground := Ground.phase }, { on := 9, ground := Ground.phase }, { on := 10, ground := Ground.phase }, { on := 11, ground := Ground.phase }, { on := 12, ground := Ground.textOnly Departure.lateStores }], guard := none } : Oper)) (v := .pointer (some ⟨b', o', none⟩)) rfl (by kernel_rfl) (by kernel_rfl) (by kernel_rfl) (fun _ _ _ h => h) (Or.inl ⟨by rfl, ?_⟩) hHeld ?_
  · (intro w' hSw; (try dsimp only at hSw); clear hSw hHeld; go_simp; (try with_reducible rfl))
  try simp only [Act.put, List.setIfInBounds_toArray, List.set_cons_zero, List.set_cons_succ]
  refine wpAnyH_take (i := 14) (oi := ({ dst := some 4, op := Op.assign (Operand.tmp 22), type := 3, pos := "scene.go:171", after := #[{ on := 12, ground := Ground.data }, { on := 13, ground := Ground.chain }, { on := 0, ground := Ground.phase }, { on := 1, ground := Ground.phase }, { on := 2, ground := Ground.phase }, { on := 3, ground := Ground.phase }, { on := 4, ground := Ground.phase }, { on := 5, ground := Ground.phase }, { on := 6, ground := Ground.phase }, { on := 7, ground := Ground.phase }, { on := 8, ground := Ground.phase }, { on := 9, ground := Ground.phase }, { on := 10, ground := Ground.phase }, { on := 11, ground := Ground.phase }, { on := 12, ground := Ground.phase }, { on := 13, ground := Ground.phase }], guard := none } : Oper)) (v := .int .i64 ((dd : Nat) : Int)) rfl (by kernel_rfl) (by kernel_rfl) (by kernel_rfl) (fun _ _ _ h => h) (Or.inl ⟨by rfl, ?_⟩) hHeld ?_
  · (intro w' hSw; (try dsimp only at hSw); clear hSw hHeld; go_simp; (try with_reducible rfl))
  try simp only [Act.put, List.setIfInBounds_toArray, List.set_cons_zero, List.set_cons_succ]
  have MS := Lib.hid hHeld
  refine wpAnyH_done (by kernel_rfl) ?_ _
  clear hHeld
  try simp only [Act.put]
  have HD4 := Lib.hid (HD.out.up MS.out)
  have HM4 := Lib.hid MS.out
  have HTr4 : Hid (w4.rangeAt D 36 [.int .i64 op.to.1, .int .i64 op.to.2]) := Lib.hid (fun j v hv => by
    obtain ⟨_, _, _, _, _, c36, c37, _⟩ := HD4.out.cell
    match j, hv with
    | 0, hv => simp at hv; rw [← hv]; exact c36
    | 1, hv => simp at hv; rw [← hv]; exact c37)
  clear MS HIr
  have c36 := HD4.out.cell.2.2.2.2.2.1
  have c37 := HD4.out.cell.2.2.2.2.2.2.1
  go_wp2_with fail
  refine (find_any base op.to s' _ b' o' F' 0 Hz4.out.sub (by have := Hkh.out; omega)).mono ?_
  rintro e w5 ⟨hm5, hno5, hs5⟩
  have HM5 := Lib.hid (HM4.out.trans' hm5)
  have HD5 := Lib.hid (HD4.out.up hm5)
  clear c36 c37 HTr4 hm5
  cases hto : s'.pathOf op.to with
  | some τ =>
    obtain ⟨b5, o5, F5, s5, rfl, hz5⟩ := hs5 τ hto
    have Hto := Lib.hid hto
    clear hs5 hno5 hz5 hto
    go_wp2_with fail
    go_ret
    exact ⟨HM5.out.imp (fun _ _ h => h.elim), fun _ => rfl, fun h => by rw [Hto.out] at h; cases h⟩
  | none =>
    obtain rfl := hno5 hto
    have Hno := Lib.hid hto
    clear hs5 hno5 hto
    have Hxl : Hid (x.kids.length ≤ 1000000) := Lib.hid (Hσ.out Hno.out).2.2.1
    have Hsl : Hid (σ.length ≤ 1000) := Lib.hid (Hσ.out Hno.out).2.2.2
    go_upto_region 5 with fail
    go_wp2_with fail
    refine (cut_any base _ D a T F op vg vl vp vf vb cur HD5.out π i s s' Hp.out Hs.out Hk.out Hn.out).mono ?_
    rintro e w9 ⟨kp, kf, kb, kk, f, F3, cur3, rfl, hd9, hk9, hx9, hy9, hm9, _⟩
    rw [HT2.out] at hd9
    have HM9 := Lib.hid ((HM5.out.imp (S' := fun x => x = D ∨ x ∈ F) (fun _ _ h => h.elim)).trans' hm9)
    have HD9 := Lib.hid hd9
    have HK9 := Lib.hid hk9
    have HX := Lib.hid hx9
    have HY := Lib.hid hy9
    have Hone := Lib.hid (LyO.one hk9)
    clear hd9 hk9 hx9 hy9 hm9 HD5 HD4 HM4 HM5 Hz4
    go_upto_region 6 with (first | ((with_reducible refine wpList_store_mid ?g1_2 45 ?x1_2 ?y1_2 ?o1_2 (w9.heap.size) (0) (lyA s'.id s'.look kp kf kb kk) ?h1_2 ?j1_2 ?t1_2 ?i1_2 ?s1_2 ?r1_2); (case g1_2 => exact rfl); (case o1_2 => exact rfl); (case h1_2 => exact rfl); (case j1_2 => exact rfl); (case t1_2 => exact (Blk.new w9 45 (List.toArray (Value.int .i64 0 :: Value.int .i64 0 :: Value.int .i64 0 :: Value.int .i64 0 :: Value.bool false :: Value.int .i64 0 :: Value.int .i64 0 :: Value.int .i64 0 :: Value.int .i64 0 :: Value.int .i64 0 :: Value.int .i64 0 :: Value.int .i64 0 :: Value.int .i64 0 :: Value.int .i64 0 :: Value.int .i64 0 :: Value.int .i64 0 :: Value.int .u8 0 :: Value.int .u8 0 :: Value.int .u8 0 :: Value.int .u8 0 :: Value.int .i64 0 :: Value.int .i64 0 :: Value.int .i64 0 :: Value.slice none 0 0 :: Value.bool false :: Value.slice none 0 0 :: Value.int .i64 0 :: Value.bool false :: Value.slice none 0 0 :: Value.int .i64 0 :: Value.slice none 0 0 :: []))).there 0 31 (by simp)); (case i1_2 => exact size_layer); (case s1_2 => exact all_one Hone.out)) | fail)
    have HB5 := Lib.hid ((Blk.new w9 45 (List.toArray (Value.int .i64 0 :: Value.int .i64 0 :: Value.int .i64 0 :: Value.int .i64 0 :: Value.bool false :: Value.int .i64 0 :: Value.int .i64 0 :: Value.int .i64 0 :: Value.int .i64 0 :: Value.int .i64 0 :: Value.int .i64 0 :: Value.int .i64 0 :: Value.int .i64 0 :: Value.int .i64 0 :: Value.int .i64 0 :: Value.int .i64 0 :: Value.int .u8 0 :: Value.int .u8 0 :: Value.int .u8 0 :: Value.int .u8 0 :: Value.int .i64 0 :: Value.int .i64 0 :: Value.int .i64 0 :: Value.slice none 0 0 :: Value.bool false :: Value.slice none 0 0 :: Value.int .i64 0 :: Value.bool false :: Value.slice none 0 0 :: Value.int .i64 0 :: Value.slice none 0 0 :: []))).setAll (lyA s'.id s'.look kp kf kb kk) rfl)
    have hm5 : Gou.Mod (fun _ => False) w9 ((w9.alloc (.cells (List.toArray (Value.int .i64 0 :: Value.int .i64 0 :: Value.int .i64 0 :: Value.int .i64 0 :: Value.bool false :: Value.int .i64 0 :: Value.int .i64 0 :: Value.int .i64 0 :: Value.int .i64 0 :: Value.int .i64 0 :: Value.int .i64 0 :: Value.int .i64 0 :: Value.int .i64 0 :: Value.int .i64 0 :: Value.int .i64 0 :: Value.int .i64 0 :: Value.int .u8 0 :: Value.int .u8 0 :: Value.int .u8 0 :: Value.int .u8 0 :: Value.int .i64 0 :: Value.int .i64 0 :: Value.int .i64 0 :: Value.slice none 0 0 :: Value.bool false :: Value.slice none 0 0 :: Value.int .i64 0 :: Value.bool false :: Value.slice none 0 0 :: Value.int .i64 0 :: Value.slice none 0 0 :: [])) 45)).setCells w9.heap.size 0 (lyA s'.id s'.look kp kf kb kk).toList) := Gou.Mod.allocSet _ _ _
    show Code.wp _ _ _ _ ((w9.alloc (.cells (List.toArray (Value.int .i64 0 :: Value.int .i64 0 :: Value.int .i64 0 :: Value.int .i64 0 :: Value.bool false :: Value.int .i64 0 :: Value.int .i64 0 :: Value.int .i64 0 :: Value.int .i64 0 :: Value.int .i64 0 :: Value.int .i64 0 :: Value.int .i64 0 :: Value.int .i64 0 :: Value.int .i64 0 :: Value.int .i64 0 :: Value.int .i64 0 :: Value.int .u8 0 :: Value.int .u8 0 :: Value.int .u8 0 :: Value.int .u8 0 :: Value.int .i64 0 :: Value.int .i64 0 :: Value.int .i64 0 :: Value.slice none 0 0 :: Value.bool false :: Value.slice none 0 0 :: Value.int .i64 0 :: Value.bool false :: Value.slice none 0 0 :: Value.int .i64 0 :: Value.slice none 0 0 :: [])) 45)).setCells w9.heap.size 0 (lyA s'.id s'.look kp kf kb kk).toList)
    have HM5 := Lib.hid (HM9.out.trans' (hm5.imp (fun _ _ h => h.elim)))
    have HD5 := Lib.hid (HD9.out.up hm5)
    have HK5 := Lib.hid (HK9.out.up hm5)
    clear hm5
    generalize (w9.alloc (.cells (List.toArray (Value.int .i64 0 :: Value.int .i64 0 :: Value.int .i64 0 :: Value.int .i64 0 :: Value.bool false :: Value.int .i64 0 :: Value.int .i64 0 :: Value.int .i64 0 :: Value.int .i64 0 :: Value.int .i64 0 :: Value.int .i64 0 :: Value.int .i64 0 :: Value.int .i64 0 :: Value.int .i64 0 :: Value.int .i64 0 :: Value.int .i64 0 :: Value.int .u8 0 :: Value.int .u8 0 :: Value.int .u8 0 :: Value.int .u8 0 :: Value.int .i64 0 :: Value.int .i64 0 :: Value.int .i64 0 :: Value.slice none 0 0 :: Value.bool false :: Value.slice none 0 0 :: Value.int .i64 0 :: Value.bool false :: Value.slice none 0 0 :: Value.int .i64 0 :: Value.slice none 0 0 :: [])) 45)).setCells w9.heap.size 0 (lyA s'.id s'.look kp kf kb kk).toList = W5 at *
    generalize w9.heap.size = N5 at *
    have HrgN0 : Hid (∀ wx, Gou.Mod (fun _ => False) W5 wx → wx.rangeAt N5 0 (lyA s'.id s'.look kp kf kb kk).toList) := Lib.hid (fun wx hx => Blk.range (pre := []) (mid := (lyA s'.id s'.look kp kf kb kk).toList) (post := []) (HB5.out.up hx) (by simp) rfl)
    have HTr : Hid (W5.rangeAt D 36 [.int .i64 op.to.1, .int .i64 op.to.2]) := Lib.hid (fun j v hv => by
      obtain ⟨_, _, _, _, _, c36, c37, _⟩ := HD5.out.cell
      match j, hv with
      | 0, hv => simp at hv; rw [← hv]; exact c36
      | 1, hv => simp at hv; rw [← hv]; exact c37)
    refine wp_region_held_drew (S := fun w' => Gou.Mod (fun _ => False) W5 w') (by kernel_rfl) (Gou.Mod.drew _ _) (fun hHeld => ?_)
    refine wpAnyH_take (i := 0) (oi := ({ dst := some 38, op := Op.move (Operand.tmp 0), type := 64, pos := "scene.go:176", after := #[], guard := none } : Oper)) (v := .pointer (some ⟨D, 0, none⟩)) rfl (by kernel_rfl) (by kernel_rfl) (by kernel_rfl) (fun _ _ _ h => h) (Or.inl ⟨by rfl, ?_⟩) hHeld ?_
    · (intro w' hSw; (try dsimp only at hSw); clear hSw hHeld; go_simp; (try with_reducible rfl))
    try simp only [Act.put, List.setIfInBounds_toArray, List.set_cons_zero, List.set_cons_succ]
    refine wpAnyH_take (i := 1) (oi := ({ dst := some 39, op := Op.nilCheck (Operand.tmp 38), type := 0, pos := "scene.go:176", after := #[{ on := 0, ground := Ground.data }], guard := none } : Oper)) (v := .pointer (some ⟨D, 0, none⟩)) rfl (by kernel_rfl) (by kernel_rfl) (by kernel_rfl) (fun _ _ _ h => h) (Or.inl ⟨by rfl, ?_⟩) hHeld ?_
    · (intro w' hSw; (try dsimp only at hSw); clear hSw hHeld; go_simp; (try with_reducible rfl))
    try simp only [Act.put, List.setIfInBounds_toArray, List.set_cons_zero, List.set_cons_succ]
    refine wpAnyH_take (i := 2) (oi := ({ dst := some 40, op := Op.fieldAddr 67 (Operand.tmp 39) 0, type := 0, pos := "scene.go:176", after := #[{ on := 1, ground := Ground.data }], guard := none } : Oper)) (v := .pointer (some ⟨D, 0, none⟩)) rfl (by kernel_rfl) (by kernel_rfl) (by kernel_rfl) (fun _ _ _ h => h) (Or.inl ⟨by rfl, ?_⟩) hHeld ?_
    · (intro w' hSw; (try dsimp only at hSw); clear hSw hHeld; go_simp; (try with_reducible rfl))
    try simp only [Act.put, List.setIfInBounds_toArray, List.set_cons_zero, List.set_cons_succ]
    refine wpAnyH_take (i := 3) (oi := ({ dst := some 41, op := Op.fieldAddr 47 (Operand.tmp 40) 1, type := 0, pos := "scene.go:176", after := #[{ on := 2, ground := Ground.data }], guard := none } : Oper)) (v := .pointer (some ⟨D, 2, none⟩)) rfl (by kernel_rfl) (by kernel_rfl) (by kernel_rfl) (fun _ _ _ h => h) (Or.inl ⟨by rfl, ?_⟩) hHeld ?_
    · (intro w' hSw; (try dsimp only at hSw); clear hSw hHeld; go_simp; (try with_reducible rfl))
    try simp only [Act.put, List.setIfInBounds_toArray, List.set_cons_zero, List.set_cons_succ]
    refine wpAnyH_take (i := 4) (oi := ({ dst := some 42, op := Op.move (Operand.tmp 0), type := 64, pos := "scene.go:176", after := #[], guard := none } : Oper)) (v := .pointer (some ⟨D, 0, none⟩)) rfl (by kernel_rfl) (by kernel_rfl) (by kernel_rfl) (fun _ _ _ h => h) (Or.inl ⟨by rfl, ?_⟩) hHeld ?_
    · (intro w' hSw; (try dsimp only at hSw); clear hSw hHeld; go_simp; (try with_reducible rfl))
    try simp only [Act.put, List.setIfInBounds_toArray, List.set_cons_zero, List.set_cons_succ]
    refine wpAnyH_take (i := 5) (oi := ({ dst := some 43, op := Op.nilCheck (Operand.tmp 42), type := 0, pos := "scene.go:176", after := #[{ on := 4, ground := Ground.data }], guard := none } : Oper)) (v := .pointer (some ⟨D, 0, none⟩)) rfl (by kernel_rfl) (by kernel_rfl) (by kernel_rfl) (fun _ _ _ h => h) (Or.inl ⟨by rfl, ?_⟩) hHeld ?_
    · (intro w' hSw; (try dsimp only at hSw); clear hSw hHeld; go_simp; (try with_reducible rfl))
    try simp only [Act.put, List.setIfInBounds_toArray, List.set_cons_zero, List.set_cons_succ]
    refine wpAnyH_take (i := 6) (oi := ({ dst := some 44, op := Op.fieldAddr 67 (Operand.tmp 43) 1, type := 0, pos := "scene.go:176", after := #[{ on := 5, ground := Ground.data }], guard := none } : Oper)) (v := .pointer (some ⟨D, 33, none⟩)) rfl (by kernel_rfl) (by kernel_rfl) (by kernel_rfl) (fun _ _ _ h => h) (Or.inl ⟨by rfl, ?_⟩) hHeld ?_
    · (intro w' hSw; (try dsimp only at hSw); clear hSw hHeld; go_simp; (try with_reducible rfl))
    try simp only [Act.put, List.setIfInBounds_toArray, List.set_cons_zero, List.set_cons_succ]
    refine wpAnyH_take (i := 7) (oi := ({ dst := some 45, op := Op.fieldAddr 53 (Operand.tmp 44) 2, type := 0, pos := "scene.go:176", after := #[{ on := 6, ground := Ground.data }], guard := none } : Oper)) (v := .pointer (some ⟨D, 36, none⟩)) rfl (by kernel_rfl) (by kernel_rfl) (by kernel_rfl) (fun _ _ _ h => h) (Or.inl ⟨by rfl, ?_⟩) hHeld ?_
    · (intro w' hSw; (try dsimp only at hSw); clear hSw hHeld; go_simp; (try with_reducible rfl))
    try simp only [Act.put, List.setIfInBounds_toArray, List.set_cons_zero, List.set_cons_succ]
    refine wpAnyH_take (i := 8) (oi := ({ dst := some 46, op := Op.load 30 (Operand.tmp 45), type := 30, pos := "scene.go:176", after := #[{ on := 7, ground := Ground.data }], guard := none } : Oper)) (v := .agg #[.int .i64 op.to.1, .int .i64 op.to.2]) rfl (by kernel_rfl) (by kernel_rfl) (by kernel_rfl) (fun _ _ _ h => h) (yieldsIf_load_mid (by rfl) 30 _ rfl D (36) rfl ([.int .i64 op.to.1, .int .i64 op.to.2]) _ (fun w' hSw => range_up HTr.out hSw (fun h => h)) Try.underlying30 rfl size_id) hHeld ?_
    try simp only [Act.put, List.setIfInBounds_toArray, List.set_cons_zero, List.set_cons_succ]
    refine wpAnyH_ready (rs := [9]) (by kernel_rfl) (by simp) (AllReadyH.cons (o := ({ dst := some 47, op := Op.call { callee := Callee.value (Operand.func 21), args := #[Operand.tmp 41, Operand.tmp 46, Operand.const (Value.int IntKind.i64 0)], argTypes := #[71, 30, 3] }, type := 72, pos := "scene.go:176", after := #[{ on := 3, ground := Ground.data }, { on := 8, ground := Ground.data }], guard := none } : Oper)) rfl (fun K hK => ?_) AllReadyH.nil)
    go_simp
    refine (find_any base op.to T2 _ D 2 _ 0 (HD5.out.up hHeld).tree (by have := Hh2.out; omega)).mono ?_
    rintro e w6 ⟨hm6, _, hs6⟩
    obtain ⟨b2, o2, F2', x', rfl, hz6⟩ := hs6 _ (Hσ.out Hno.out).1
    have hxx : x' = x := by
      have := hz6.get
      rw [(Hσ.out Hno.out).2.1] at this
      exact (Option.some.inj this).symm
    subst hxx
    have M := Lib.hid (hHeld.trans' hm6)
    have Hz6 := Lib.hid hz6
    obtain ⟨dd2, hdd2⟩ : ∃ dd, dd = 0 + σ.length := ⟨_, rfl⟩
    rw [← hdd2]
    have Hdd := Lib.hid hdd2
    clear hHeld hm6 hs6 hz6 hdd2
    refine hK _ _ M.out (fun hHeld => ?_)
    clear hK K M
    try simp only [Act.put, List.setIfInBounds_toArray, List.set_cons_zero, List.set_cons_succ]
    refine wpAnyH_take (i := 10) (oi := ({ dst := some 37, op := Op.move (Operand.tmp 47), type := 72, pos := "scene.go:176", after := #[{ on := 9, ground := Ground.data }], guard := none } : Oper)) (v := .tuple #[.pointer (some ⟨b2, o2, none⟩), .int .i64 ((dd2 : Nat) : Int)]) rfl (by kernel_rfl) (by kernel_rfl) (by kernel_rfl) (fun _ _ _ h => h) (Or.inl ⟨by rfl, ?_⟩) hHeld ?_
    · (intro w' hSw; (try dsimp only at hSw); clear hSw hHeld; go_simp; (try with_reducible rfl))
    try simp only [Act.put, List.setIfInBounds_toArray, List.set_cons_zero, List.set_cons_succ]
    refine wpAnyH_take (i := 11) (oi := ({ dst := some 48, op := Op.extract (Operand.tmp 37) 0, type := 71, pos := "scene.go:176", after := #[{ on := 10, ground := Ground.data }], guard := none } : Oper)) (v := .pointer (some ⟨b2, o2, none⟩)) rfl (by kernel_rfl) (by kernel_rfl) (by kernel_rfl) (fun _ _ _ h => h) (Or.inl ⟨by rfl, ?_⟩) hHeld ?_
    · (intro w' hSw; (try dsimp only at hSw); clear hSw hHeld; go_simp; (try with_reducible rfl))
    try simp only [Act.put, List.setIfInBounds_toArray, List.set_cons_zero, List.set_cons_succ]
    refine wpAnyH_take (i := 12) (oi := ({ dst := some 49, op := Op.extract (Operand.tmp 37) 1, type := 3, pos := "scene.go:176", after := #[{ on := 10, ground := Ground.data }, { on := 13, ground := Ground.gcOnly Departure.lateStores }], guard := none } : Oper)) (v := .int .i64 ((dd2 : Nat) : Int)) rfl (by kernel_rfl) (by kernel_rfl) (by kernel_rfl) (fun _ _ _ h => h) (Or.inl ⟨by rfl, ?_⟩) hHeld ?_
    · (intro w' hSw; (try dsimp only at hSw); clear hSw hHeld; go_simp; (try with_reducible rfl))
    try simp only [Act.put, List.setIfInBounds_toArray, List.set_cons_zero, List.set_cons_succ]
    refine wpAnyH_take (i := 13) (oi := ({ dst := some 8, op := Op.assign (Operand.tmp 48), type := 71, pos := "scene.go:176", after := #[{ on := 11, ground := Ground.data }, { on := 9, ground := Ground.chain }, { on := 0, ground := Ground.phase }, { on := 1, ground := Ground.phase }, { on := 2, ground := Ground.phase }, { on := 3, ground := Ground.phase }, { on := 4, ground := Ground.phase }, { on := 5, ground := Ground.phase }, { on := 6, ground := Ground.phase }, { on := 7, ground := Ground.phase }, { on := 8, ground := Ground.phase }, { on := 9, ground := Ground.phase }, { on := 10, ground := Ground.phase }, { on := 11, ground := Ground.phase }, { on := 12, ground := Ground.textOnly Departure.lateStores }], guard := none } : Oper)) (v := .pointer (some ⟨b2, o2, none⟩)) rfl (by kernel_rfl) (by kernel_rfl) (by kernel_rfl) (fun _ _ _ h => h) (Or.inl ⟨by rfl, ?_⟩) hHeld ?_
    · (intro w' hSw; (try dsimp only at hSw); clear hSw hHeld; go_simp; (try with_reducible rfl))
    try simp only [Act.put, List.setIfInBounds_toArray, List.set_cons_zero, List.set_cons_succ]
    refine wpAnyH_take (i := 14) (oi := ({ dst := some 9, op := Op.assign (Operand.tmp 49), type := 3, pos := "scene.go:176", after := #[{ on := 12, ground := Ground.data }, { on := 13, ground := Ground.chain }, { on := 0, ground := Ground.phase }, { on := 1, ground := Ground.phase }, { on := 2, ground := Ground.phase }, { on := 3, ground := Ground.phase }, { on := 4, ground := Ground.phase }, { on := 5, ground := Ground.phase }, { on := 6, ground := Ground.phase }, { on := 7, ground := Ground.phase }, { on := 8, ground := Ground.phase }, { on := 9, ground := Ground.phase }, { on := 10, ground := Ground.phase }, { on := 11, ground := Ground.phase }, { on := 12, ground := Ground.phase }, { on := 13, ground := Ground.phase }], guard := none } : Oper)) (v := .int .i64 ((dd2 : Nat) : Int)) rfl (by kernel_rfl) (by kernel_rfl) (by kernel_rfl) (fun _ _ _ h => h) (Or.inl ⟨by rfl, ?_⟩) hHeld ?_
    · (intro w' hSw; (try dsimp only at hSw); clear hSw hHeld; go_simp; (try with_reducible rfl))
    try simp only [Act.put, List.setIfInBounds_toArray, List.set_cons_zero, List.set_cons_succ]
    have MS := Lib.hid hHeld
    refine wpAnyH_done (by kernel_rfl) ?_ _
    clear hHeld
    try simp only [Act.put]
    have HD6 := Lib.hid (HD5.out.up MS.out)
    have HK6 := Lib.hid (HK5.out.up MS.out)
    have HM6 := Lib.hid (HM5.out.trans' (MS.out.imp (fun _ _ h => h.elim)))
    have HM56 := Lib.hid MS.out
    obtain ⟨p, cap, c30, _, _, hcap, hcap2, _⟩ := Hz6.out.sub.kids
    obtain ⟨_, _, _, _, _, _, _, c38⟩ := HD6.out.cell
    have HrgN := Lib.hid (HrgN0.out w6 MS.out)
    have HkR : Hid (LyR (fun _ => True) w6 (lyA s'.id s'.look kp kf kb kk).toList s') := Lib.hid (HK6.out.reads.imp (fun _ _ _ => trivial))
    clear MS hcap hcap2 HTr
    go_upto_region 7 with fail
    rcases Int.lt_or_le op.at_ 0 with hneg | hpos
    · have e1 : decide (op.at_ < 0) = true := decide_eq_true hneg
      go_quiet (fail)
      go_wp2_with fail
      go_ret
      exact ⟨HM6.out.trans' (Gou.Mod.drewN _ w6 nq), fun h => absurd Hno.out h, fun _ => ⟨fun _ => rfl, fun n e _ => by omega⟩⟩
    · have e1 : decide (op.at_ < 0) = false := decide_eq_false (by omega)
      rcases Int.lt_or_le (x'.kids.length : Int) op.at_ with hgt | hle
      · have e2 : decide ((x'.kids.length : Int) < op.at_) = true := decide_eq_true hgt
        go_quiet (fail)
        go_wp2_with fail
        go_ret
        exact ⟨HM6.out.trans' (Gou.Mod.drewN _ w6 nq), fun h => absurd Hno.out h, fun _ => ⟨fun _ => rfl, fun n e hn => by omega⟩⟩
      · have e2 : decide ((x'.kids.length : Int) < op.at_) = false := decide_eq_false (by omega)
        have hw1 : IntKind.i64.wrap ((dd2 : Int) + 1) = (dd2 : Int) + 1 := by rw [IntKind.wrap_i64]; have := Hdd.out; have := Hsl.out; omega
        have hw2 : IntKind.i64.wrap ((dd2 : Int) + 1 + (s'.height : Int)) = (dd2 : Int) + 1 + (s'.height : Int) := by rw [IntKind.wrap_i64]; have := Hdd.out; have := Hsl.out; have := Hkh.out; omega
        obtain ⟨q64, e3⟩ : ∃ q, decide ((64 : Int) < (dd2 : Int) + 1 + (s'.height : Int)) = q := ⟨_, rfl⟩
        refine wp_region_held_drew (S := fun w' => Gou.Mod (fun _ => False) w6 w') (by kernel_rfl) (Gou.Mod.drew _ _) (fun hHeld => ?_)
        refine wpAnyH_take (i := 0) (oi := ({ dst := some 50, op := Op.move (Operand.tmp 0), type := 64, pos := "scene.go:177", after := #[], guard := none } : Oper)) (v := .pointer (some ⟨D, 0, none⟩)) rfl (by kernel_rfl) (by kernel_rfl) (by kernel_rfl) (fun _ _ _ h => h) (Or.inl ⟨by rfl, ?_⟩) hHeld ?_
        · (intro w' hSw; (try dsimp only at hSw); clear hSw hHeld; go_simp; (try with_reducible rfl))
        try simp only [Act.put, List.setIfInBounds_toArray, List.set_cons_zero, List.set_cons_succ]
        refine wpAnyH_take (i := 1) (oi := ({ dst := some 51, op := Op.nilCheck (Operand.tmp 50), type := 0, pos := "scene.go:177", after := #[{ on := 0, ground := Ground.data }], guard := none } : Oper)) (v := .pointer (some ⟨D, 0, none⟩)) rfl (by kernel_rfl) (by kernel_rfl) (by kernel_rfl) (fun _ _ _ h => h) (Or.inl ⟨by rfl, ?_⟩) hHeld ?_
        · (intro w' hSw; (try dsimp only at hSw); clear hSw hHeld; go_simp; (try with_reducible rfl))
        try simp only [Act.put, List.setIfInBounds_toArray, List.set_cons_zero, List.set_cons_succ]
        refine wpAnyH_take (i := 2) (oi := ({ dst := some 52, op := Op.fieldAddr 67 (Operand.tmp 51) 1, type := 0, pos := "scene.go:177", after := #[{ on := 1, ground := Ground.data }], guard := none } : Oper)) (v := .pointer (some ⟨D, 33, none⟩)) rfl (by kernel_rfl) (by kernel_rfl) (by kernel_rfl) (fun _ _ _ h => h) (Or.inl ⟨by rfl, ?_⟩) hHeld ?_
        · (intro w' hSw; (try dsimp only at hSw); clear hSw hHeld; go_simp; (try with_reducible rfl))
        try simp only [Act.put, List.setIfInBounds_toArray, List.set_cons_zero, List.set_cons_succ]
        refine wpAnyH_take (i := 3) (oi := ({ dst := some 53, op := Op.fieldAddr 53 (Operand.tmp 52) 3, type := 0, pos := "scene.go:177", after := #[{ on := 2, ground := Ground.data }], guard := none } : Oper)) (v := .pointer (some ⟨D, 38, none⟩)) rfl (by kernel_rfl) (by kernel_rfl) (by kernel_rfl) (fun _ _ _ h => h) (Or.inl ⟨by rfl, ?_⟩) hHeld ?_
        · (intro w' hSw; (try dsimp only at hSw); clear hSw hHeld; go_simp; (try with_reducible rfl))
        try simp only [Act.put, List.setIfInBounds_toArray, List.set_cons_zero, List.set_cons_succ]
        refine wpAnyH_take (i := 4) (oi := ({ dst := some 54, op := Op.load 3 (Operand.tmp 53), type := 3, pos := "scene.go:177", after := #[{ on := 3, ground := Ground.data }], guard := none } : Oper)) (v := .int .i64 op.at_) rfl (by kernel_rfl) (by kernel_rfl) (by kernel_rfl) (fun _ _ _ h => h) (Or.inl ⟨by rfl, ?_⟩) hHeld ?_
        · (intro w' hSw; (try dsimp only at hSw); have g := (hSw.cell (p := ⟨D, 38, none⟩) (World.block_lt_of_cell? _ _ c38) (fun h => h)).trans c38; clear hSw hHeld; go_simp; (try with_reducible rfl))
        try simp only [Act.put, List.setIfInBounds_toArray, List.set_cons_zero, List.set_cons_succ]
        refine wpAnyH_take (i := 5) (oi := ({ dst := some 55, op := Op.binOp BinOp.lss 3 (Operand.tmp 54) (Operand.const (Value.int IntKind.i64 0)) 3, type := 4, pos := "scene.go:177", after := #[{ on := 4, ground := Ground.data }], guard := none } : Oper)) (v := .bool false) rfl (by kernel_rfl) (by kernel_rfl) (by kernel_rfl) (fun _ _ _ h => h) (Or.inl ⟨by rfl, ?_⟩) hHeld ?_
        · (intro w' hSw; (try dsimp only at hSw); clear hSw hHeld; go_simp; (try with_reducible rfl))
        try simp only [Act.put, List.setIfInBounds_toArray, List.set_cons_zero, List.set_cons_succ]
        refine wpAnyH_take (i := 6) (oi := ({ dst := some 56, op := Op.move (Operand.tmp 55), type := 4, pos := "scene.go:177", after := #[{ on := 5, ground := Ground.data }], guard := none } : Oper)) (v := .bool false) rfl (by kernel_rfl) (by kernel_rfl) (by kernel_rfl) (fun _ _ _ h => h) (Or.inl ⟨by rfl, ?_⟩) hHeld ?_
        · (intro w' hSw; (try dsimp only at hSw); clear hSw hHeld; go_simp; (try with_reducible rfl))
        try simp only [Act.put, List.setIfInBounds_toArray, List.set_cons_zero, List.set_cons_succ]
        refine wpAnyH_take (i := 7) (oi := ({ dst := some 57, op := Op.move (Operand.tmp 0), type := 64, pos := "scene.go:177", after := #[{ on := 6, ground := Ground.guard }], guard := some (6, false) } : Oper)) (v := .pointer (some ⟨D, 0, none⟩)) rfl (by kernel_rfl) (by kernel_rfl) (by kernel_rfl) (fun _ _ _ h => h) (Or.inl ⟨by rfl, ?_⟩) hHeld ?_
        · (intro w' hSw; (try dsimp only at hSw); clear hSw hHeld; go_simp; (try with_reducible rfl))
        try simp only [Act.put, List.setIfInBounds_toArray, List.set_cons_zero, List.set_cons_succ]
        refine wpAnyH_take (i := 8) (oi := ({ dst := some 58, op := Op.nilCheck (Operand.tmp 57), type := 0, pos := "scene.go:177", after := #[{ on := 7, ground := Ground.data }, { on := 6, ground := Ground.guard }], guard := some (6, false) } : Oper)) (v := .pointer (some ⟨D, 0, none⟩)) rfl (by kernel_rfl) (by kernel_rfl) (by kernel_rfl) (fun _ _ _ h => h) (Or.inl ⟨by rfl, ?_⟩) hHeld ?_
        · (intro w' hSw; (try dsimp only at hSw); clear hSw hHeld; go_simp; (try with_reducible rfl))
        try simp only [Act.put, List.setIfInBounds_toArray, List.set_cons_zero, List.set_cons_succ]
        refine wpAnyH_take (i := 9) (oi := ({ dst := some 59, op := Op.fieldAddr 67 (Operand.tmp 58) 1, type := 0, pos := "scene.go:177", after := #[{ on := 8, ground := Ground.data }, { on := 6, ground := Ground.guard }], guard := some (6, false) } : Oper)) (v := .pointer (some ⟨D, 33, none⟩)) rfl (by kernel_rfl) (by kernel_rfl) (by kernel_rfl) (fun _ _ _ h => h) (Or.inl ⟨by rfl, ?_⟩) hHeld ?_
        · (intro w' hSw; (try dsimp only at hSw); clear hSw hHeld; go_simp; (try with_reducible rfl))
        try simp only [Act.put, List.setIfInBounds_toArray, List.set_cons_zero, List.set_cons_succ]
        refine wpAnyH_take (i := 10) (oi := ({ dst := some 60, op := Op.fieldAddr 53 (Operand.tmp 59) 3, type := 0, pos := "scene.go:177", after := #[{ on := 9, ground := Ground.data }, { on := 6, ground := Ground.guard }], guard := some (6, false) } : Oper)) (v := .pointer (some ⟨D, 38, none⟩)) rfl (by kernel_rfl) (by kernel_rfl) (by kernel_rfl) (fun _ _ _ h => h) (Or.inl ⟨by rfl, ?_⟩) hHeld ?_
        · (intro w' hSw; (try dsimp only at hSw); clear hSw hHeld; go_simp; (try with_reducible rfl))
        try simp only [Act.put, List.setIfInBounds_toArray, List.set_cons_zero, List.set_cons_succ]
        refine wpAnyH_take (i := 11) (oi := ({ dst := some 61, op := Op.load 3 (Operand.tmp 60), type := 3, pos := "scene.go:177", after := #[{ on := 10, ground := Ground.data }, { on := 6, ground := Ground.guard }], guard := some (6, false) } : Oper)) (v := .int .i64 op.at_) rfl (by kernel_rfl) (by kernel_rfl) (by kernel_rfl) (fun _ _ _ h => h) (Or.inl ⟨by rfl, ?_⟩) hHeld ?_
        · (intro w' hSw; (try dsimp only at hSw); have g := (hSw.cell (p := ⟨D, 38, none⟩) (World.block_lt_of_cell? _ _ c38) (fun h => h)).trans c38; clear hSw hHeld; go_simp; (try with_reducible rfl))
        try simp only [Act.put, List.setIfInBounds_toArray, List.set_cons_zero, List.set_cons_succ]
        refine wpAnyH_take (i := 12) (oi := ({ dst := some 62, op := Op.move (Operand.tmp 8), type := 71, pos := "scene.go:177", after := #[{ on := 6, ground := Ground.guard }], guard := some (6, false) } : Oper)) (v := .pointer (some ⟨b2, o2, none⟩)) rfl (by kernel_rfl) (by kernel_rfl) (by kernel_rfl) (fun _ _ _ h => h) (Or.inl ⟨by rfl, ?_⟩) hHeld ?_
        · (intro w' hSw; (try dsimp only at hSw); clear hSw hHeld; go_simp; (try with_reducible rfl))
        try simp only [Act.put, List.setIfInBounds_toArray, List.set_cons_zero, List.set_cons_succ]
        refine wpAnyH_take (i := 13) (oi := ({ dst := some 63, op := Op.nilCheck (Operand.tmp 62), type := 0, pos := "scene.go:177", after := #[{ on := 12, ground := Ground.data }, { on := 6, ground := Ground.guard }], guard := some (6, false) } : Oper)) (v := .pointer (some ⟨b2, o2, none⟩)) rfl (by kernel_rfl) (by kernel_rfl) (by kernel_rfl) (fun _ _ _ h => h) (Or.inl ⟨by rfl, ?_⟩) hHeld ?_
        · (intro w' hSw; (try dsimp only at hSw); clear hSw hHeld; go_simp; (try with_reducible rfl))
        try simp only [Act.put, List.setIfInBounds_toArray, List.set_cons_zero, List.set_cons_succ]
        refine wpAnyH_take (i := 14) (oi := ({ dst := some 64, op := Op.fieldAddr 45 (Operand.tmp 63) 2, type := 0, pos := "scene.go:177", after := #[{ on := 13, ground := Ground.data }, { on := 6, ground := Ground.guard }], guard := some (6, false) } : Oper)) (v := .pointer (some ⟨b2, o2 + 30, none⟩)) rfl (by kernel_rfl) (by kernel_rfl) (by kernel_rfl) (fun _ _ _ h => h) (Or.inl ⟨by rfl, ?_⟩) hHeld ?_
        · (intro w' hSw; (try dsimp only at hSw); clear hSw hHeld; go_simp; (try with_reducible rfl))
        try simp only [Act.put, List.setIfInBounds_toArray, List.set_cons_zero, List.set_cons_succ]
        refine wpAnyH_take (i := 15) (oi := ({ dst := some 65, op := Op.load 43 (Operand.tmp 64), type := 43, pos := "scene.go:177", after := #[{ on := 14, ground := Ground.data }, { on := 6, ground := Ground.guard }], guard := some (6, false) } : Oper)) (v := .slice p x'.kids.length cap) rfl (by kernel_rfl) (by kernel_rfl) (by kernel_rfl) (fun _ _ _ h => h) (Or.inl ⟨by rfl, ?_⟩) hHeld ?_
        · (intro w' hSw; (try dsimp only at hSw); have g := (hSw.cell (p := ⟨b2, o2 + 30, none⟩) (World.block_lt_of_cell? _ _ c30) (fun h => h)).trans c30; clear hSw hHeld; go_simp; (try with_reducible rfl))
        try simp only [Act.put, List.setIfInBounds_toArray, List.set_cons_zero, List.set_cons_succ]
        refine wpAnyH_take (i := 16) (oi := ({ dst := some 66, op := Op.call { callee := Callee.builtin Builtin.len, args := #[Operand.tmp 65], argTypes := #[43] }, type := 3, pos := "scene.go:177", after := #[{ on := 15, ground := Ground.data }, { on := 6, ground := Ground.guard }], guard := some (6, false) } : Oper)) (v := .int .i64 ((x'.kids.length : Nat) : Int)) rfl (by kernel_rfl) (by kernel_rfl) (by kernel_rfl) (fun _ _ _ h => h) (Or.inl ⟨by rfl, ?_⟩) hHeld ?_
        · (intro w' hSw; (try dsimp only at hSw); clear hSw hHeld; go_simp; (try with_reducible rfl))
        try simp only [Act.put, List.setIfInBounds_toArray, List.set_cons_zero, List.set_cons_succ]
        refine wpAnyH_take (i := 17) (oi := ({ dst := some 67, op := Op.binOp BinOp.gtr 3 (Operand.tmp 61) (Operand.tmp 66) 3, type := 4, pos := "scene.go:177", after := #[{ on := 11, ground := Ground.data }, { on := 16, ground := Ground.data }, { on := 6, ground := Ground.guard }], guard := some (6, false) } : Oper)) (v := .bool false) rfl (by kernel_rfl) (by kernel_rfl) (by kernel_rfl) (fun _ _ _ h => h) (Or.inl ⟨by rfl, ?_⟩) hHeld ?_
        · (intro w' hSw; (try dsimp only at hSw); clear hSw hHeld; go_simp; (try with_reducible rfl))
        try simp only [Act.put, List.setIfInBounds_toArray, List.set_cons_zero, List.set_cons_succ]
        refine wpAnyH_take (i := 18) (oi := ({ dst := some 68, op := Op.pick (Operand.tmp 56) (Operand.const (Value.bool true)) (Operand.tmp 67), type := 4, pos := "scene.go:177", after := #[{ on := 6, ground := Ground.data }, { on := 17, ground := Ground.data }], guard := none } : Oper)) (v := .bool false) rfl (by kernel_rfl) (by kernel_rfl) (by kernel_rfl) (fun _ _ _ h => h) (Or.inl ⟨by rfl, ?_⟩) hHeld ?_
        · (intro w' hSw; (try dsimp only at hSw); clear hSw hHeld; go_simp; (try with_reducible rfl))
        try simp only [Act.put, List.setIfInBounds_toArray, List.set_cons_zero, List.set_cons_succ]
        refine wpAnyH_take (i := 19) (oi := ({ dst := some 69, op := Op.move (Operand.tmp 68), type := 4, pos := "scene.go:177", after := #[{ on := 18, ground := Ground.data }, { on := 6, ground := Ground.chain }], guard := none } : Oper)) (v := .bool false) rfl (by kernel_rfl) (by kernel_rfl) (by kernel_rfl) (fun _ _ _ h => h) (Or.inl ⟨by rfl, ?_⟩) hHeld ?_
        · (intro w' hSw; (try dsimp only at hSw); clear hSw hHeld; go_simp; (try with_reducible rfl))
        try simp only [Act.put, List.setIfInBounds_toArray, List.set_cons_zero, List.set_cons_succ]
        refine wpAnyH_take (i := 20) (oi := ({ dst := some 70, op := Op.move (Operand.tmp 9), type := 3, pos := "scene.go:177", after := #[{ on := 19, ground := Ground.guard }], guard := some (19, false) } : Oper)) (v := .int .i64 ((dd2 : Nat) : Int)) rfl (by kernel_rfl) (by kernel_rfl) (by kernel_rfl) (fun _ _ _ h => h) (Or.inl ⟨by rfl, ?_⟩) hHeld ?_
        · (intro w' hSw; (try dsimp only at hSw); clear hSw hHeld; go_simp; (try with_reducible rfl))
        try simp only [Act.put, List.setIfInBounds_toArray, List.set_cons_zero, List.set_cons_succ]
        refine wpAnyH_take (i := 21) (oi := ({ dst := some 71, op := Op.binOp BinOp.add 3 (Operand.tmp 70) (Operand.const (Value.int IntKind.i64 1)) 3, type := 3, pos := "scene.go:177", after := #[{ on := 20, ground := Ground.data }, { on := 19, ground := Ground.guard }], guard := some (19, false) } : Oper)) (v := .int .i64 ((dd2 : Int) + 1)) rfl (by kernel_rfl) (by kernel_rfl) (by kernel_rfl) (fun _ _ _ h => h) (Or.inl ⟨by rfl, ?_⟩) hHeld ?_
        · (intro w' hSw; (try dsimp only at hSw); clear hSw hHeld; go_simp; (try with_reducible rfl))
        try simp only [Act.put, List.setIfInBounds_toArray, List.set_cons_zero, List.set_cons_succ]
        refine wpAnyH_take (i := 22) (oi := ({ dst := some 72, op := Op.load 45 (Operand.tmp 7), type := 45, pos := "scene.go:177", after := #[{ on := 19, ground := Ground.guard }], guard := some (19, false) } : Oper)) (v := .agg (lyA s'.id s'.look kp kf kb kk)) rfl (by kernel_rfl) (by kernel_rfl) (by kernel_rfl) (fun _ _ _ h => h) (yieldsIf_load_mid (by rfl) 45 _ rfl N5 (0) rfl ((lyA s'.id s'.look kp kf kb kk).toList) _ (fun w' hSw => range_up HrgN.out hSw (fun h => h)) Try.underlying45 rfl size_layer) hHeld ?_
        try simp only [Act.put, List.setIfInBounds_toArray, List.set_cons_zero, List.set_cons_succ]
        refine wpAnyH_ready (rs := [23]) (by kernel_rfl) (by simp) (AllReadyH.cons (o := ({ dst := some 73, op := Op.call { callee := Callee.value (Operand.func 42), args := #[Operand.tmp 72], argTypes := #[45] }, type := 3, pos := "scene.go:177", after := #[{ on := 22, ground := Ground.data }, { on := 19, ground := Ground.chain }, { on := 19, ground := Ground.guard }], guard := some (19, false) } : Oper)) rfl (fun K hK => ?_) AllReadyH.nil)
        go_simp
        refine (height_any s' _ kp kf kb kk ((HkR.out.mod hHeld (fun _ _ _ h => h))) Hkh.out Hft.out).mono ?_
        rintro e w7 ⟨rfl, hm7⟩
        have M := Lib.hid (hHeld.trans' hm7)
        clear hHeld
        refine hK _ _ M.out (fun hHeld => ?_)
        clear hK K M
        try simp only [Act.put, List.setIfInBounds_toArray, List.set_cons_zero, List.set_cons_succ]
        refine wpAnyH_take (i := 24) (oi := ({ dst := some 74, op := Op.binOp BinOp.add 3 (Operand.tmp 71) (Operand.tmp 73) 3, type := 3, pos := "scene.go:177", after := #[{ on := 21, ground := Ground.data }, { on := 23, ground := Ground.data }, { on := 19, ground := Ground.guard }], guard := some (19, false) } : Oper)) (v := .int .i64 ((dd2 : Int) + 1 + (s'.height : Int))) rfl (by kernel_rfl) (by kernel_rfl) (by kernel_rfl) (fun _ _ _ h => h) (Or.inl ⟨by rfl, ?_⟩) hHeld ?_
        · (intro w' hSw; (try dsimp only at hSw); clear hSw hHeld; go_simp; (try with_reducible rfl))
        try simp only [Act.put, List.setIfInBounds_toArray, List.set_cons_zero, List.set_cons_succ]
        refine wpAnyH_take (i := 25) (oi := ({ dst := some 75, op := Op.binOp BinOp.gtr 3 (Operand.tmp 74) (Operand.const (Value.int IntKind.i64 64)) 3, type := 4, pos := "scene.go:177", after := #[{ on := 24, ground := Ground.data }, { on := 19, ground := Ground.guard }], guard := some (19, false) } : Oper)) (v := .bool q64) rfl (by kernel_rfl) (by kernel_rfl) (by kernel_rfl) (fun _ _ _ h => h) (Or.inl ⟨by rfl, ?_⟩) hHeld ?_
        · (intro w' hSw; (try dsimp only at hSw); clear hSw hHeld; go_simp; (try with_reducible rfl))
        try simp only [Act.put, List.setIfInBounds_toArray, List.set_cons_zero, List.set_cons_succ]
        refine wpAnyH_take (i := 26) (oi := ({ dst := some 76, op := Op.pick (Operand.tmp 69) (Operand.const (Value.bool true)) (Operand.tmp 75), type := 4, pos := "scene.go:177", after := #[{ on := 19, ground := Ground.data }, { on := 25, ground := Ground.data }], guard := none } : Oper)) (v := .bool q64) rfl (by kernel_rfl) (by kernel_rfl) (by kernel_rfl) (fun _ _ _ h => h) (Or.inl ⟨by rfl, ?_⟩) hHeld ?_
        · (intro w' hSw; (try dsimp only at hSw); clear hSw hHeld; go_simp; (try with_reducible rfl))
        try simp only [Act.put, List.setIfInBounds_toArray, List.set_cons_zero, List.set_cons_succ]
        have MS := Lib.hid hHeld
        refine wpAnyH_done (by kernel_rfl) ?_ _
        clear hHeld
        try simp only [Act.put]
        have HD8 := Lib.hid (HD6.out.up MS.out)
        have Hz8 := Lib.hid (Hz6.out.up MS.out)
        have HK8 := Lib.hid (HK6.out.up MS.out)
        have HM8 := Lib.hid (HM6.out.trans' (MS.out.imp (fun _ _ h => h.elim)))
        have HrgN8 := Lib.hid (HrgN0.out _ (HM56.out.trans' MS.out))
        obtain ⟨m, hm⟩ : ∃ m : Nat, op.at_ = m := ⟨op.at_.toNat, by omega⟩
        have Hm := Lib.hid hm
        have Hml : Hid (m ≤ x'.kids.length) := Lib.hid (by omega)
        have He3 := Lib.hid e3
        clear MS e1 e2 e3 hw1 hw2 hle hpos hm c38 c30 HD6 Hz6 HK6 HM6 HrgN HkR HM56 HrgN0
        cases q64
        · have c38 := HD8.out.cell.2.2.2.2.2.2.2
          rw [Hm.out] at c38
          have H64 : Hid (¬ (64 : Int) < (dd2 : Int) + 1 + (s'.height : Int)) := Lib.hid (of_decide_eq_false He3.out)
          go_upto_region 9 with fail
          have HD8q := Lib.hid (HD8.out.up (Gou.Mod.drew (fun _ => False) w7))
          have Hz8q := Lib.hid (Hz8.out.up (Gou.Mod.drew (fun _ => False) w7))
          have HK8q := Lib.hid (HK8.out.up (Gou.Mod.drew (fun _ => False) w7))
          have HrgD := Lib.hid (range_up HrgN8.out (Gou.Mod.drew (fun _ => False) w7) (fun h => h))
          clear c38
          refine wp_region_held_drew (S := fun w' => Gou.Mod (fun x => x = D ∨ x ∈ F3) w7 w') (by kernel_rfl) (Gou.Mod.drew _ _) (fun hHeld => ?_)
          refine wpAnyH_take (i := 0) (oi := ({ dst := some 77, op := Op.move (Operand.tmp 8), type := 71, pos := "scene.go:180", after := #[], guard := none } : Oper)) (v := .pointer (some ⟨b2, o2, none⟩)) rfl (by kernel_rfl) (by kernel_rfl) (by kernel_rfl) (fun _ _ _ h => h) (Or.inl ⟨by rfl, ?_⟩) hHeld ?_
          · (intro w' hSw; (try dsimp only at hSw); clear hSw hHeld; go_simp; (try with_reducible rfl))
          try simp only [Act.put, List.setIfInBounds_toArray, List.set_cons_zero, List.set_cons_succ]
          refine wpAnyH_take (i := 1) (oi := ({ dst := some 78, op := Op.move (Operand.tmp 0), type := 64, pos := "scene.go:180", after := #[], guard := none } : Oper)) (v := .pointer (some ⟨D, 0, none⟩)) rfl (by kernel_rfl) (by kernel_rfl) (by kernel_rfl) (fun _ _ _ h => h) (Or.inl ⟨by rfl, ?_⟩) hHeld ?_
          · (intro w' hSw; (try dsimp only at hSw); clear hSw hHeld; go_simp; (try with_reducible rfl))
          try simp only [Act.put, List.setIfInBounds_toArray, List.set_cons_zero, List.set_cons_succ]
          refine wpAnyH_take (i := 2) (oi := ({ dst := some 79, op := Op.nilCheck (Operand.tmp 78), type := 0, pos := "scene.go:180", after := #[{ on := 1, ground := Ground.data }], guard := none } : Oper)) (v := .pointer (some ⟨D, 0, none⟩)) rfl (by kernel_rfl) (by kernel_rfl) (by kernel_rfl) (fun _ _ _ h => h) (Or.inl ⟨by rfl, ?_⟩) hHeld ?_
          · (intro w' hSw; (try dsimp only at hSw); clear hSw hHeld; go_simp; (try with_reducible rfl))
          try simp only [Act.put, List.setIfInBounds_toArray, List.set_cons_zero, List.set_cons_succ]
          refine wpAnyH_take (i := 3) (oi := ({ dst := some 80, op := Op.fieldAddr 67 (Operand.tmp 79) 1, type := 0, pos := "scene.go:180", after := #[{ on := 2, ground := Ground.data }], guard := none } : Oper)) (v := .pointer (some ⟨D, 33, none⟩)) rfl (by kernel_rfl) (by kernel_rfl) (by kernel_rfl) (fun _ _ _ h => h) (Or.inl ⟨by rfl, ?_⟩) hHeld ?_
          · (intro w' hSw; (try dsimp only at hSw); clear hSw hHeld; go_simp; (try with_reducible rfl))
          try simp only [Act.put, List.setIfInBounds_toArray, List.set_cons_zero, List.set_cons_succ]
          refine wpAnyH_take (i := 4) (oi := ({ dst := some 81, op := Op.fieldAddr 53 (Operand.tmp 80) 3, type := 0, pos := "scene.go:180", after := #[{ on := 3, ground := Ground.data }], guard := none } : Oper)) (v := .pointer (some ⟨D, 38, none⟩)) rfl (by kernel_rfl) (by kernel_rfl) (by kernel_rfl) (fun _ _ _ h => h) (Or.inl ⟨by rfl, ?_⟩) hHeld ?_
          · (intro w' hSw; (try dsimp only at hSw); clear hSw hHeld; go_simp; (try with_reducible rfl))
          try simp only [Act.put, List.setIfInBounds_toArray, List.set_cons_zero, List.set_cons_succ]
          refine wpAnyH_ready (rs := [5, 6]) (by kernel_rfl) (by simp) (AllReadyH.cons (o := ({ dst := some 82, op := Op.load 3 (Operand.tmp 81), type := 3, pos := "scene.go:180", after := #[{ on := 4, ground := Ground.data }], guard := none } : Oper)) rfl (fun K11 hK => ?_) (AllReadyH.cons (o := ({ dst := some 83, op := Op.load 45 (Operand.tmp 7), type := 45, pos := "scene.go:180", after := #[], guard := none } : Oper)) rfl (fun K11 hK => ?_) AllReadyH.nil))
          · skip
            have g0 := HD8q.out.cell.2.2.2.2.2.2.2
            rw [Hm.out] at g0
            go_simp
            clear g0
            have M := Lib.hid hHeld
            clear hHeld
            refine hK _ _ M.out (fun hHeld => ?_)
            clear hK K11 M
            try simp only [Act.put, List.setIfInBounds_toArray, List.set_cons_zero, List.set_cons_succ]
            refine wpAnyH_ready (rs := [6]) (by kernel_rfl) (by simp) (AllReadyH.cons (o := ({ dst := some 83, op := Op.load 45 (Operand.tmp 7), type := 45, pos := "scene.go:180", after := #[], guard := none } : Oper)) rfl (fun K hK => ?_) AllReadyH.nil)
            rw [if_pos (by rfl)]
            refine wp_load_mid 45 _ rfl N5 (0) rfl ((lyA s'.id s'.look kp kf kb kk).toList) _ (HrgD.out) Try.underlying45 rfl size_layer ?_
            have M := Lib.hid hHeld
            clear hHeld
            refine hK _ _ M.out (fun hHeld => ?_)
            clear hK K M
            try simp only [Act.put, List.setIfInBounds_toArray, List.set_cons_zero, List.set_cons_succ]
            refine wpAnyH_ready (rs := [7]) (by kernel_rfl) (by simp) (AllReadyH.cons (o := ({ dst := some 84, op := Op.call { callee := Callee.value (Operand.func 34), args := #[Operand.tmp 77, Operand.tmp 82, Operand.tmp 83], argTypes := #[71, 3, 45] }, type := 0, pos := "scene.go:180", after := #[{ on := 0, ground := Ground.data }, { on := 5, ground := Ground.data }, { on := 6, ground := Ground.data }], guard := none } : Oper)) rfl (fun K hK => ?_) AllReadyH.nil)
            go_simp
            refine (doer_put base _ D a T2 F3 op vg vl vp vf vb cur3 HD8q.out Hz8q.out s' f kp kf kb kk HK8q.out (fun x hx => ⟨fun h => (HX.out x h).2 hx, fun e => HDF.out (e ▸ HY.out x hx)⟩) m Hml.out Hxl.out).mono ?_
            rintro e w10 ⟨rfl, ⟨F4, cur4, hd10⟩, hm10⟩
            have M := Lib.hid (hHeld.trans' hm10)
            have HDZ := Lib.hid hd10
            clear hHeld hd10 hm10
            refine hK _ _ M.out (fun hHeld => ?_)
            clear hK K M
            try simp only [Act.put, List.setIfInBounds_toArray, List.set_cons_zero, List.set_cons_succ]
            have MS := Lib.hid hHeld
            refine wpAnyH_done (by kernel_rfl) ?_ _
            clear hHeld
            try simp only [Act.put]
            go_wp2_with fail
            go_ret
            refine ⟨HM8.out.trans' (MS.out.imp (fun x _ hx => hx.imp id (fun h => (HX.out x h).1))), fun h => absurd Hno.out h, fun _ => ⟨fun h => ?_, fun n e hn _ => ?_⟩⟩
            · have := H64.out; have := Hm.out; have := Hml.out; have := Hdd.out; omega
            · obtain rfl : n = m := by have := Hm.out; omega
              exact ⟨rfl, _, _, _, _, HDZ.out⟩
          · skip
            rw [if_pos (by rfl)]
            refine wp_load_mid 45 _ rfl N5 (0) rfl ((lyA s'.id s'.look kp kf kb kk).toList) _ (HrgD.out) Try.underlying45 rfl size_layer ?_
            have M := Lib.hid hHeld
            clear hHeld
            refine hK _ _ M.out (fun hHeld => ?_)
            clear hK K11 M
            try simp only [Act.put, List.setIfInBounds_toArray, List.set_cons_zero, List.set_cons_succ]
            refine wpAnyH_ready (rs := [5]) (by kernel_rfl) (by simp) (AllReadyH.cons (o := ({ dst := some 82, op := Op.load 3 (Operand.tmp 81), type := 3, pos := "scene.go:180", after := #[{ on := 4, ground := Ground.data }], guard := none } : Oper)) rfl (fun K hK => ?_) AllReadyH.nil)
            have g0 := HD8q.out.cell.2.2.2.2.2.2.2
            rw [Hm.out] at g0
            go_simp
            clear g0
            have M := Lib.hid hHeld
            clear hHeld
            refine hK _ _ M.out (fun hHeld => ?_)
            clear hK K M
            try simp only [Act.put, List.setIfInBounds_toArray, List.set_cons_zero, List.set_cons_succ]
            refine wpAnyH_ready (rs := [7]) (by kernel_rfl) (by simp) (AllReadyH.cons (o := ({ dst := some 84, op := Op.call { callee := Callee.value (Operand.func 34), args := #[Operand.tmp 77, Operand.tmp 82, Operand.tmp 83], argTypes := #[71, 3, 45] }, type := 0, pos := "scene.go:180", after := #[{ on := 0, ground := Ground.data }, { on := 5, ground := Ground.data }, { on := 6, ground := Ground.data }], guard := none } : Oper)) rfl (fun K hK => ?_) AllReadyH.nil)
            go_simp
            refine (doer_put base _ D a T2 F3 op vg vl vp vf vb cur3 HD8q.out Hz8q.out s' f kp kf kb kk HK8q.out (fun x hx => ⟨fun h => (HX.out x h).2 hx, fun e => HDF.out (e ▸ HY.out x hx)⟩) m Hml.out Hxl.out).mono ?_
            rintro e w10 ⟨rfl, ⟨F4, cur4, hd10⟩, hm10⟩
            have M := Lib.hid (hHeld.trans' hm10)
            have HDZ := Lib.hid hd10
            clear hHeld hd10 hm10
            refine hK _ _ M.out (fun hHeld => ?_)
            clear hK K M
            try simp only [Act.put, List.setIfInBounds_toArray, List.set_cons_zero, List.set_cons_succ]
            have MS := Lib.hid hHeld
            refine wpAnyH_done (by kernel_rfl) ?_ _
            clear hHeld
            try simp only [Act.put]
            go_wp2_with fail
            go_ret
            refine ⟨HM8.out.trans' (MS.out.imp (fun x _ hx => hx.imp id (fun h => (HX.out x h).1))), fun h => absurd Hno.out h, fun _ => ⟨fun h => ?_, fun n e hn _ => ?_⟩⟩
            · have := H64.out; have := Hm.out; have := Hml.out; have := Hdd.out; omega
            · obtain rfl : n = m := by have := Hm.out; omega
              exact ⟨rfl, _, _, _, _, HDZ.out⟩
        · have H64 : Hid ((64 : Int) < (dd2 : Int) + 1 + (s'.height : Int)) := Lib.hid (of_decide_eq_true He3.out)
          go_wp2_with fail
          go_ret
          exact ⟨HM8.out, fun h => absurd Hno.out h, fun _ => ⟨fun _ => rfl, fun n e hn h => by have := H64.out; have := Hdd.out; omega⟩⟩

end Go.Proofs.Ytpbmfalokongfaa

/- Scenes: what an operation does, told by paths. -/
namespace Go.Gou
set_option linter.constructorNameAsVariable false
namespace Ly
theorem parentL_eq {x : Idt} : ∀ {ks : List Ly} (n : Nat), (∀ k ∈ ks, k.parent x = (k.parPath x).bind fun p => k.get? p.1) →
    ∀ l : Ly, (∀ i, l.kids[n + i]? = ks[i]?) → parentL x l ks = (parL x n ks).bind fun p => l.get? p.1
  | [], n, _, l, _ => by simp [parentL, parL]
  | k :: ks, n, h, l, hl => by
    have h0 := hl 0
    rw [parentL, parL]
    by_cases hk : k.id = x
    · rw [if_pos hk, if_pos hk]
      cases l
      rfl
    · rw [if_neg hk, if_neg hk, h k (by simp)]
      cases hq : k.parPath x with
      | none =>
        simp only [Option.bind_none]
        exact parentL_eq (n + 1) (fun k' hk' => h k' (by simp [hk'])) l (fun i => by have := hl (i + 1); rw [show n + 1 + i = n + (i + 1) by omega, this]; rfl)
      | some p =>
        obtain ⟨s, k', h1, h2, h3⟩ := parPath_get hq
        simp only [Option.bind_some, h1]
        rw [get?]
        simp only [Nat.add_zero] at h0
        simp only [h0, List.getElem?_cons_zero, h1]
theorem parent_eq {x : Idt} : ∀ l : Ly, l.parent x = (l.parPath x).bind fun p => l.get? p.1 := by
  intro l
  induction l using ind with
  | h i lk ks ih =>
    rw [parent, parPath]
    exact parentL_eq 0 ih _ (fun i => by simp [kids])
theorem findable {l : Ly} {x : Idt} (h : x ∈ l.ids) : ∃ π s, l.pathOf x = some π ∧ l.get? π = some s ∧ l.find x = some (s, π.length) ∧ s.id = x := by
  cases hf : l.find x with
  | none => exact absurd h (find_none.1 hf)
  | some p =>
    obtain ⟨s, d⟩ := p
    obtain ⟨π, h1, h2, rfl, h4⟩ := find_some hf
    exact ⟨π, s, h1, h2, rfl, h4⟩
theorem insAt_nat {n : Int} {m : Nat} (h : n = m) (k : Ly) (l : List Ly) (hm : m ≤ l.length) : insAt n k l = l.take m ++ k :: l.drop m := by
  subst h
  unfold insAt
  rw [if_pos (by omega)]
  rfl
end Ly
theorem stale_id {a : Ar} {o : Opr} (h : stale a o = false) (hk : o.kind ≠ 1) : a.has o.id = true := by
  unfold stale at h
  rw [if_neg hk] at h
  split at h
  · rw [Bool.or_eq_false_iff] at h
    simpa using h.1
  · simpa using h
theorem stale_to {a : Ar} {o : Opr} (h : stale a o = false) (hk : o.kind = 1 ∨ o.kind = 3) : a.has o.to = true := by
  unfold stale at h
  rcases hk with hk | hk
  · rw [if_pos hk] at h
    simpa using h
  · rw [if_neg (by omega), if_pos hk, Bool.or_eq_false_iff] at h
    simpa using h.2
theorem doP_bad (check : Gr → Int) (s : Sn) (o : Opr) (h : o.kind < 1 ∨ 11 < o.kind) : doP check s o = (s, (0, 0), 1) := by
  unfold doP
  rw [if_pos h]
theorem doP_stale (check : Gr → Int) (s : Sn) (o : Opr) (h1 : 1 ≤ o.kind) (h2 : o.kind ≤ 11) (h : stale s.arena o = true) : doP check s o = (s, (0, 0), 4) := by
  unfold doP
  rw [if_neg (by omega), if_pos h]
theorem doP_set {n : Nat} {s : Sn} (hI : Inv n s) (check : Gr → Int) (o : Opr) (h1 : 5 ≤ o.kind) (h2 : o.kind ≤ 11) (h : stale s.arena o = false) : ∃ π x, s.root.pathOf o.id = some π ∧ s.root.get? π = some x ∧
    doP check s o = if (lookP check x.look o).2 ≠ 0 then (s, (0, 0), (lookP check x.look o).2) else (⟨s.arena, s.root.put π (.mk x.id (lookP check x.look o).1 x.kids)⟩, (0, 0), 0) := by
  obtain ⟨π, x, p1, p2, p3, p4⟩ := Ly.findable ((hI.iff o.id).2 (stale_id h (by omega)))
  refine ⟨π, x, p1, p2, ?_⟩
  unfold doP
  rw [if_neg (by omega), if_neg (by rw [h]; simp), if_pos (by omega), p3]
  simp only
  rw [Ly.looks_put hI.nd p1 p2]
theorem doP_insert {n : Nat} {s : Sn} (hI : Inv n s) (check : Gr → Int) (o : Opr) (h1 : o.kind = 1) (h : stale s.arena o = false) : ∃ π x, s.root.pathOf o.to = some π ∧ s.root.get? π = some x ∧
    doP check s o = if o.at_ < 0 ∨ (x.kids.length : Int) < o.at_ ∨ 64 ≤ π.length then (s, (0, 0), 3) else match s.arena.take with
      | none => (s, (0, 0), (9 : Int))
      | some (a, y) => (⟨a, s.root.put π (.mk x.id x.look (Ly.insAt o.at_ (.mk y Lk.plain []) x.kids))⟩, y, (0 : Int)) := by
  obtain ⟨π, x, p1, p2, p3, p4⟩ := Ly.findable ((hI.iff o.to).2 (stale_to h (.inl h1)))
  refine ⟨π, x, p1, p2, ?_⟩
  unfold doP
  rw [if_neg (by omega), if_neg (by rw [h]; simp), if_neg (by omega), if_pos h1, p3]
  simp only
  split
  · rfl
  · cases s.arena.take with
    | none => rfl
    | some p =>
      simp only [Ly.with_]
      rw [Ly.updK_put hI.nd p1 p2]
theorem doP_root (check : Gr → Int) (s : Sn) (o : Opr) (h1 : 2 ≤ o.kind) (h2 : o.kind ≤ 4) (h : stale s.arena o = false) (hid : o.id = (0, 0)) : doP check s o = (s, (0, 0), 1) := by
  unfold doP
  rw [if_neg (by omega), if_neg (by rw [h]; simp), if_neg (by omega), if_neg (by omega), if_pos hid]
/-- What stands where, for a layer that is taken out. -/
structure OutAt (s : Sn) (o : Opr) (π : List Nat) (i : Nat) (q k T2 : Ly) : Prop where
  par : s.root.parPath o.id = some (π, i)
  get : s.root.get? π = some q
  kid : q.kids[i]? = some k
  id : k.id = o.id
  path : s.root.pathOf o.id = some (π ++ [i])
  geti : s.root.get? (π ++ [i]) = some k
  out : s.root.put π (.mk q.id q.look (q.kids.eraseIdx i)) = T2
  rest : s.root.without o.id = T2
  perm : s.root.ids.Perm (k.ids ++ T2.ids)
  nd : T2.ids.Nodup
  deep : T2.height ≤ 64
  kdeep : π.length + 1 + k.height ≤ 64
  found : s.root.find o.id = some (k, π.length + 1)
theorem outAt {n : Nat} {s : Sn} (hI : Inv n s) (o : Opr) (hk : o.kind ≠ 1) (h : stale s.arena o = false) (hid : o.id ≠ (0, 0)) : ∃ π i q k T2, OutAt s o π i q k T2 := by
  have hx := (hI.iff o.id).2 (stale_id h hk)
  obtain ⟨p, q, k, h1, h2, h3, h4, h5, h6, h7, h8, h9, h10⟩ := Ly.without_facts hI.nd hx (fun e => hid (by rw [← e, hI.root]))
  have hg := Ly.get_snoc h2 h3
  have hh := Ly.get_height hg
  have hd := hI.deep
  simp only [List.length_append, List.length_singleton] at hh
  refine ⟨p.1, p.2, q, k, _, h1, h2, h3, h4, Ly.get_path hI.nd hg h4, hg, rfl, h6, ?_, ?_, ?_, by omega, h5⟩
  · rw [← h6]; exact h7
  · have := h7.nodup_iff.1 hI.nd
    rw [← h6]
    exact (List.nodup_append.1 this).2.1
  · rw [← h6]; omega
theorem doP_remove {s : Sn} (check : Gr → Int) (o : Opr) {π : List Nat} {i : Nat} {q k T2 : Ly} (hO : OutAt s o π i q k T2) (hk : o.kind = 2) (h : stale s.arena o = false) (hid : o.id ≠ (0, 0)) :
    doP check s o = (⟨k.ids.foldl Ar.free s.arena, T2⟩, (0, 0), 0) := by
  unfold doP
  rw [if_neg (by omega), if_neg (by rw [h]; simp), if_neg (by omega), if_neg (by omega), if_neg hid, hO.found]
  simp only
  rw [if_pos hk, hO.rest]
theorem doP_reorder {n : Nat} {s : Sn} (hI : Inv n s) (check : Gr → Int) (o : Opr) {π : List Nat} {i : Nat} {q k T2 : Ly} (hO : OutAt s o π i q k T2) (hk : o.kind = 4) (h : stale s.arena o = false) (hid : o.id ≠ (0, 0)) :
    doP check s o = if o.at_ < 0 ∨ (q.kids.length : Int) ≤ o.at_ then (s, (0, 0), 3) else (⟨s.arena, T2.put π (.mk q.id q.look (Ly.insAt o.at_ k (q.kids.eraseIdx i)))⟩, (0, 0), 0) := by
  have hi := (List.getElem?_eq_some_iff.1 hO.kid).1
  have hg : T2.get? π = some (.mk q.id q.look (q.kids.eraseIdx i)) := by
    obtain ⟨p', q', k', g1, g2, g3, g4, g5, g6, g7, g8, g9, g10⟩ := Ly.without_facts hI.nd ((hI.iff o.id).2 (stale_id h (by omega))) (fun e => hid (by rw [← e, hI.root]))
    rw [hO.par] at g1
    cases g1
    rw [hO.get] at g2
    cases g2
    rw [hO.rest] at g10
    exact g10
  have hp := Ly.find_of_get (x := q.id) hO.nd hg rfl
  have hpp := Ly.get_path (x := q.id) hO.nd hg rfl
  have hlen : (q.kids.eraseIdx i).length = q.kids.length - 1 := by rw [List.length_eraseIdx, if_pos hi]
  unfold doP
  rw [if_neg (by omega), if_neg (by rw [h]; simp), if_neg (by omega), if_neg (by omega), if_neg hid, hO.found]
  simp only
  rw [if_neg (by omega), if_neg (by omega), Ly.parent_eq, hO.par]
  simp only [Option.bind_some, hO.get]
  rw [hO.rest, hp]
  simp only [Ly.kids_mk, hlen]
  have := hO.kdeep
  by_cases hb : o.at_ < 0 ∨ (q.kids.length : Int) ≤ o.at_
  · rw [if_pos hb, if_pos (by omega)]
  · rw [if_neg hb, if_neg (by omega)]
    simp only [Ly.with_]
    rw [Ly.updK_put hO.nd hpp hg]
    rfl
theorem doP_cycle {s : Sn} (check : Gr → Int) (o : Opr) {π : List Nat} {i : Nat} {q k T2 : Ly} (hO : OutAt s o π i q k T2) (hk : o.kind = 3) (h : stale s.arena o = false) (hid : o.id ≠ (0, 0)) (hto : k.pathOf o.to ≠ none) :
    doP check s o = (s, (0, 0), 5) := by
  have hf : (k.find o.to).isSome = true := by
    cases hf : k.find o.to with
    | none => exact absurd ((Ly.pathOf_none k).2 (Ly.find_none.1 hf)) hto
    | some _ => rfl
  unfold doP
  rw [if_neg (by omega), if_neg (by rw [h]; simp), if_neg (by omega), if_neg (by omega), if_neg hid, hO.found]
  simp only
  rw [if_neg (by omega), if_pos hk, if_pos hf]
theorem doP_reparent {n : Nat} {s : Sn} (hI : Inv n s) (check : Gr → Int) (o : Opr) {π : List Nat} {i : Nat} {q k T2 : Ly} (hO : OutAt s o π i q k T2) (hk : o.kind = 3) (h : stale s.arena o = false) (hid : o.id ≠ (0, 0)) (hto : k.pathOf o.to = none) :
    ∃ σ x, T2.pathOf o.to = some σ ∧ T2.get? σ = some x ∧ σ.length ≤ 64 ∧
    doP check s o = if o.at_ < 0 ∨ (x.kids.length : Int) < o.at_ ∨ 64 < σ.length + 1 + k.height then (s, (0, 0), 3) else (⟨s.arena, T2.put σ (.mk x.id x.look (Ly.insAt o.at_ k x.kids))⟩, (0, 0), 0) := by
  have hni : o.to ∉ k.ids := (Ly.pathOf_none k).1 hto
  have hf : (k.find o.to).isSome = false := by rw [Ly.find_none.2 hni]; rfl
  have hin := (hI.iff o.to).2 (stale_to h (.inr hk))
  have hin2 : o.to ∈ T2.ids := by
    rcases List.mem_append.1 (hO.perm.mem_iff.1 hin) with hh | hh
    · exact absurd hh hni
    · exact hh
  obtain ⟨σ, x, p1, p2, p3, p4⟩ := Ly.findable hin2
  have hl := Ly.get_height p2
  have hd := hO.deep
  refine ⟨σ, x, p1, p2, by omega, ?_⟩
  unfold doP
  rw [if_neg (by omega), if_neg (by rw [h]; simp), if_neg (by omega), if_neg (by omega), if_neg hid, hO.found]
  simp only
  rw [if_neg (by omega), if_pos hk, if_neg (by rw [hf]; simp), hO.rest, p3]
  simp only [Ly.with_]
  rw [Ly.updK_put hO.nd p1 p2]
end Go.Gou

