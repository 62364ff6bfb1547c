/- Texts of the scenes' proofs, laid together: ScZ, ScP, SdA, SdB, SdC. -/
import Derived.Test.YtpbmfalokongfaaZae
import Derived.Test.YtpbmfalokongfaaZaa
import Derived.Deep.Cut
set_option linter.unusedSimpArgs false
set_option linter.unusedVariables false
set_option linter.unusedSectionVars false
set_option linter.constructorNameAsVariable false

/- Scenes in memory: the doer. -/
namespace Go.Gou
open Go.RowKit
variable {TL TD TI TB : TypeId} {base : Nat}

/-- A doer's block: the arena, the topmost layer, the operation. -/
structure DoerR (TL TD TI TB : TypeId) (base : Nat) (w : World) (D : Nat) (a : Ar) (T : Ly) (F : List Nat) (o : Opr) (vg vl vp vf vb : Value) (cur : Array Value) : Prop where
  tree : TreeAt TL TD base w D 2 T F
  blk : Blk w D TD cur
  size : cur.size = 67
  c0 : cur[0]? = some vg
  c1 : cur[1]? = some vl
  ops : ∀ j, j < 34 → cur[33 + j]? = (oprC o vp vf vb)[j]?
  ar : ArO TI TB base w vg vl a
  look : LookR (fun b => b < base) w o.look vp vf vb

theorem TreeAt.else_ {w w2 : World} {b o : Nat} {T : Ly} {F : List Nat} (h : TreeAt TL TD base w b o T F) {S : Nat → Prop} (hm : Mod S w w2) (hF : ∀ k ∈ F, ¬ S k) (hS : ∀ k, base ≤ k → LookBlk TL TD w k → ¬ S k) {TT : TypeId} {cur cur2 : Array Value} (h1 : Blk w b TT cur) (h2 : Blk w2 b TT cur2) (hc : ∀ j, o ≤ j → j < o + 31 → cur2[j]? = cur[j]?) : TreeAt TL TD base w2 b o T F := by
  obtain ⟨⟨c, cur', TT', g1, g2, g3, g4⟩, g5, g6⟩ := h
  unfold Blk at h1 g2
  rw [h1] at g2
  simp only [Option.some.injEq, Obj.cells.injEq] at g2
  obtain ⟨rfl, rfl, -⟩ := g2
  exact ⟨⟨c, cur2, TT, g1.mod hm hF hS, h2, g3, fun j hj => by rw [hc _ (by omega) (by omega)]; exact g4 j hj⟩, g5, g6⟩

theorem DoerR.up {w w' : World} {D : Nat} {a : Ar} {T : Ly} {F : List Nat} {o : Opr} {vg vl vp vf vb : Value} {cur : Array Value} (h : DoerR TL TD TI TB base w D a T F o vg vl vp vf vb cur) (hm : Mod (fun _ => False) w w') : DoerR TL TD TI TB base w' D a T F o vg vl vp vf vb cur :=
  ⟨h.tree.up hm, h.blk.up hm, h.size, h.c0, h.c1, h.ops, h.ar.up hm, h.look.mod hm (fun _ _ _ h => h)⟩

theorem DoerR.mod {S : Nat → Prop} {w w' : World} {D : Nat} {a : Ar} {T : Ly} {F : List Nat} {o : Opr} {vg vl vp vf vb : Value} {cur : Array Value} (h : DoerR TL TD TI TB base w D a T F o vg vl vp vf vb cur) (hTI : TI ≠ TL ∧ TI ≠ TD ∧ RowTy TI) (hTB : TB ≠ TL ∧ TB ≠ TD ∧ RowTy TB) (hm : Mod S w w')
    (hD : ¬ S D) (hF : ∀ k ∈ F, ¬ S k) (hl : ∀ k, base ≤ k → LookBlk TL TD w k → ¬ S k) (hb : ∀ k, k < base → ¬ S k) : DoerR TL TD TI TB base w' D a T F o vg vl vp vf vb cur := by
  have hrow : ∀ {e : TypeId} {k n : Nat} {v : Value} {xs : List Value}, w.ownsRow base e k v n xs → e ≠ TL ∧ e ≠ TD ∧ RowTy e → ∀ x, v.ownBlock = some x → ¬ S x := fun hr he x hx hh => by
    obtain ⟨g1, _, cu, cp, g3, _⟩ := ownsRow_blk hr hx
    exact hl x g1 ⟨cu, _, g3, he.1, he.2⟩ hh
  exact ⟨h.tree.mod hm hD hF hl, h.blk.mod hm hD, h.size, h.c0, h.c1, h.ops, h.ar.mod hm (hrow h.ar.g hTI) (hrow h.ar.l hTB), h.look.mod hm (fun k _ hk => hb k hk)⟩

/-- A change at a layer's place, as the doer sees it. -/
theorem DoerR.step {w w2 : World} {D : Nat} {a : Ar} {T : Ly} {F : List Nat} {o : Opr} {vg vl vp vf vb : Value} {cur : Array Value} (h : DoerR TL TD TI TB base w D a T F o vg vl vp vf vb cur) (hTI : TI ≠ TL ∧ TI ≠ TD ∧ RowTy TI) (hTB : TB ≠ TL ∧ TB ≠ TD ∧ RowTy TB)
    {π : List Nat} {s s2 : Ly} {b' o' : Nat} {F' F2 : List Nat} (hz : Zoom TL TD base w D 2 T F π s b' o' F') (t2 : TreeAt TL TD base w2 b' o' s2 F2) (fr : Frm w w2 b' o' F' (fun _ => False)) (hF2 : ∀ x ∈ F2, x ∈ F' ∨ (x ∉ F ∧ x ≠ D)) :
    ∃ F3 cur2, DoerR TL TD TI TB base w2 D a (T.put π s2) F3 o vg vl vp vf vb cur2 ∧ ∀ x ∈ F3, x ∈ F2 ∨ (x ∈ F ∧ x ∉ F') := by
  obtain ⟨F3, h3, hF3⟩ := hz.put w2 s2 F2 _ t2 fr hF2 (fun x hx => hx.elim)
  have hDF : D ∉ F := h.tree.out
  -- what has turned is layers, and the doer
  have hty : ∀ x, (x = b' ∨ x ∈ F' ∨ False) → base ≤ x ∧ ¬ LookBlk TL TD w x := fun x hx => by
    rcases hx with rfl | hx | hx
    · exact ⟨hz.sub.ge, hz.sub.notLook⟩
    · obtain ⟨⟨c, _, _, g1, _⟩, _, _⟩ := hz.sub
      exact ⟨(g1.rows x hx).1, g1.notLook hx⟩
    · exact hx.elim
  have hrow : ∀ {e : TypeId} {k n : Nat} {v : Value} {xs : List Value}, w.ownsRow base e k v n xs → e ≠ TL ∧ e ≠ TD ∧ RowTy e → ∀ x, v.ownBlock = some x → ¬ (x = b' ∨ x ∈ F' ∨ False) := fun hr he x hx hh => by
    obtain ⟨_, _, cu, cp, g3, _⟩ := ownsRow_blk hr hx
    exact (hty x hh).2 ⟨cu, _, g3, he.1, he.2⟩
  have hblk : ∃ cur2, Blk w2 D TD cur2 ∧ cur2.size = cur.size ∧ ∀ j, (j < 2 ∨ 33 ≤ j) → cur2[j]? = cur[j]? := by
    by_cases hb : b' = D
    · have ho : o' = 2 := by
        rcases hz.blk with hh | hh
        · exact hh.2
        · exact absurd (hb ▸ hh) hDF
      obtain ⟨cA, cB, TT, v1, v2, v3, v4⟩ := fr.cells
      rw [hb] at v1 v2
      have hblk := h.blk
      unfold Blk at v1 hblk
      rw [hblk] at v1
      simp only [Option.some.injEq, Obj.cells.injEq] at v1
      obtain ⟨rfl, rfl, -⟩ := v1
      exact ⟨cB, v2, v3, fun j hj => v4 j (by omega)⟩
    · refine ⟨cur, h.blk.mod fr.mod ?_, rfl, fun _ _ => rfl⟩
      rintro (e | hh | hh)
      · exact hb e.symm
      · exact hDF (hz.rows D hh)
      · exact hh
  obtain ⟨cur2, r1, r2, r3⟩ := hblk
  exact ⟨F3, cur2, ⟨h3, r1, by rw [r2, h.size], by rw [r3 0 (by omega)]; exact h.c0, by rw [r3 1 (by omega)]; exact h.c1, fun j hj => by rw [r3 _ (by omega)]; exact h.ops j hj,
    h.ar.mod fr.mod (hrow h.ar.g hTI) (hrow h.ar.l hTB), h.look.mod fr.mod (fun k _ hk hh => by have := (hty k hh).1; omega)⟩, hF3⟩

/-- A layer's place, opened at one of its kids. -/
theorem TreeD.kidC {w : World} {b o : Nat} {T : Ly} {F : List Nat} {vp vf vb vk : Value} {css : List (List Value)} {fs : List (List Nat)} {cur : Array Value} {TT : TypeId} (h : TreeD TL TD base w b o T F vp vf vb vk css fs cur TT) {i : Nat} {k : Ly} (hk : T.kids[i]? = some k) :
    ∃ g cap kp kf kb kk, vk = .slice (some ⟨g, 0, none⟩) T.kids.length cap ∧ css[i]? = some (lyA k.id k.look kp kf kb kk).toList ∧ w.rangeAt g (i * 31) (lyA k.id k.look kp kf kb kk).toList ∧ g < w.heap.size ∧ g ∈ F ∧ w.cell? ⟨b, o + 30, none⟩ = some vk ∧
      (∀ d ∈ (lyA k.id k.look kp kf kb kk).toList, d.oneCell' = true) ∧ ∀ d ∈ css.flatten, d.oneCell' = true := by
  have h6 := h.h6
  have h7 := h.h7
  have hil := (List.getElem?_eq_some_iff.1 hk).1
  have h31 := LyO.lens h.h6 h.h7 h.h8
  have hci : css[i]? = some css[i] := List.getElem?_eq_getElem (by omega)
  have hly := h.h8 i _ k _ hci hk (List.getElem?_eq_getElem (by omega))
  obtain ⟨kp, kf, kb, kk, _, e, _⟩ := hly.reads.form
  have h5 := h.h5
  rcases h5.2 with ⟨_, h0⟩ | ⟨g, cap, cur', hv, hb, hh, hnc, _⟩
  · omega
  · subst hv
    rw [e] at hci hly
    refine ⟨g, cap, kp, kf, kb, kk, rfl, hci, fun r v hr => own_cell h5 ?_, Blk.lt hh, by rw [h.h9]; simp [Value.ownBlock], by rw [cell_of_row w b (o + 30) cur TT _ h.h1, h.h3 30 (by omega)]; rfl, LyO.one hly, fun d hd => ?_⟩
    · have hr' := (List.getElem?_eq_some_iff.1 hr).1
      rw [lyA_len] at hr'
      rw [flat_get h31 i r hr', hci]
      exact hr
    · obtain ⟨l, hl1, hl2⟩ := List.mem_flatten.1 hd
      obtain ⟨j, hj⟩ := List.mem_iff_getElem?.1 hl1
      have hj' := (List.getElem?_eq_some_iff.1 hj).1
      exact LyO.one (h.h8 j l _ _ hj (List.getElem?_eq_getElem (by omega)) (List.getElem?_eq_getElem (by omega))) d hl2

/-- Another arena is laid into the doer. -/
theorem DoerR.arena {w : World} {D : Nat} {a a2 : Ar} {T : Ly} {F : List Nat} {o : Opr} {vg vl vp vf vb vg2 vl2 : Value} {cur : Array Value} (h : DoerR TL TD TI TB base w D a T F o vg vl vp vf vb cur) (hTI : TI ≠ TD) (hTB : TB ≠ TD) (ha : ArO TI TB base w vg2 vl2 a2) :
    ∃ cur2, DoerR TL TD TI TB base (w.setCells D 0 [vg2, vl2]) D a2 T F o vg2 vl2 vp vf vb cur2 := by
  have hm := Blk.setMod w D 0 [vg2, vl2]
  have hD : ∀ k, base ≤ k → LookBlk TL TD w k → ¬ k = D := fun k _ hl e => h.tree.notLook (e ▸ hl)
  have hb2 := h.blk.sets 0 [vg2, vl2]
  have hsz := h.size
  have hge := h.tree.ge
  have hc : ∀ j, 2 ≤ j → (setMany cur 0 [vg2, vl2])[j]? = cur[j]? := fun j hj => by
    simp only [setMany]
    rw [Array.getElem?_setIfInBounds_ne (by omega), Array.getElem?_setIfInBounds_ne (by omega)]
  have hrow : ∀ {e : TypeId} {k n : Nat} {v : Value} {xs : List Value}, w.ownsRow base e k v n xs → e ≠ TD → ∀ x, v.ownBlock = some x → ¬ x = D := fun hr he x hx hh => by
    obtain ⟨_, _, cu, cp, g3, _⟩ := ownsRow_blk hr hx
    have hb := h.blk
    subst hh
    unfold Blk at g3 hb
    rw [hb] at g3
    simp only [Option.some.injEq, Obj.cells.injEq] at g3
    exact he g3.2.1.symm
  refine ⟨setMany cur 0 [vg2, vl2], h.tree.else_ hm (fun k hk e => h.tree.out (e ▸ hk)) hD h.blk hb2 (fun j h1 _ => hc j h1), hb2, by rw [setMany_size, hsz], ?_, ?_, fun j hj => by rw [hc _ (by omega)]; exact h.ops j hj, ha.mod hm (hrow ha.g hTI) (hrow ha.l hTB), h.look.mod hm (fun k _ hk e => by omega)⟩
  · simp only [setMany]
    rw [Array.getElem?_setIfInBounds_ne (by omega), Array.getElem?_setIfInBounds_self_of_lt (by omega)]
  · simp only [setMany]
    rw [Array.getElem?_setIfInBounds_self_of_lt (by simp; omega)]

theorem DoerR.cell {w : World} {D : Nat} {a : Ar} {T : Ly} {F : List Nat} {o : Opr} {vg vl vp vf vb : Value} {cur : Array Value} (h : DoerR TL TD TI TB base w D a T F o vg vl vp vf vb cur) :
    w.cell? ⟨D, 0, none⟩ = some vg ∧ w.cell? ⟨D, 1, none⟩ = some vl ∧ w.cell? ⟨D, 33, none⟩ = some (.int .i64 o.kind) ∧ w.cell? ⟨D, 34, none⟩ = some (.int .i64 o.id.1) ∧ w.cell? ⟨D, 35, none⟩ = some (.int .i64 o.id.2) ∧ w.cell? ⟨D, 36, none⟩ = some (.int .i64 o.to.1) ∧ w.cell? ⟨D, 37, none⟩ = some (.int .i64 o.to.2) ∧ w.cell? ⟨D, 38, none⟩ = some (.int .i64 o.at_) :=
  ⟨h.blk.cell 0 h.c0, h.blk.cell 1 h.c1, h.blk.cell 33 (by rw [h.ops 0 (by omega)]; rfl), h.blk.cell 34 (by rw [h.ops 1 (by omega)]; rfl), h.blk.cell 35 (by rw [h.ops 2 (by omega)]; rfl), h.blk.cell 36 (by rw [h.ops 3 (by omega)]; rfl), h.blk.cell 37 (by rw [h.ops 4 (by omega)]; rfl), h.blk.cell 38 (by rw [h.ops 5 (by omega)]; rfl)⟩

end Go.Gou

/- Scenes: the code's parent. -/
namespace Go.Gou
namespace Ly
theorem parL_hit {x : Idt} : ∀ {ks : List Ly} {n j : Nat} {k : Ly}, (∀ a ∈ ks.take j, a.id ≠ x ∧ a.parPath x = none) → ks[j]? = some k → k.id = x → parL x n ks = some ([], n + j)
  | [], n, j, k, _, h, _ => by simp at h
  | a :: ks, n, 0, k, _, h, hk => by
    simp at h
    subst h
    rw [parL, if_pos hk]
    rfl
  | a :: ks, n, j + 1, k, ha, h, hk => by
    have h0 := ha a (by simp)
    rw [parL, if_neg h0.1, h0.2]
    simp only
    rw [parL_hit (j := j) (fun b hb => ha b (by simp [hb])) h hk]
    congr 2
    omega
theorem parL_in {x : Idt} : ∀ {ks : List Ly} {n j : Nat} {k : Ly} {q : List Nat × Nat}, (∀ a ∈ ks.take j, a.id ≠ x ∧ a.parPath x = none) → ks[j]? = some k → k.id ≠ x → k.parPath x = some q → parL x n ks = some ((n + j) :: q.1, q.2)
  | [], n, j, k, q, _, h, _, _ => by simp at h
  | a :: ks, n, 0, k, q, _, h, hi, hk => by
    simp at h
    subst h
    rw [parL, if_neg hi, hk]
    rfl
  | a :: ks, n, j + 1, k, q, ha, h, hi, hk => by
    have h0 := ha a (by simp)
    rw [parL, if_neg h0.1, h0.2]
    simp only
    rw [parL_in (j := j) (fun b hb => ha b (by simp [hb])) h hi hk]
    congr 3
    omega
end Ly
end Go.Gou
namespace Go.Proofs.Ytpbmfalokongfaa
open Go.RowKit Go.Gou
set_option maxRecDepth 100000
/-- What parent answers. -/
def ParP (base : Nat) (T : Ly) (x : Idt) (w : World) (b o : Nat) (F : List Nat) (e : Ending) (w' : World) : Prop := Gou.Mod (fun _ => False) w w' ∧
  (T.parPath x = none → e = .returned (.tuple #[.pointer none, .int .i64 0])) ∧
  (∀ p, T.parPath x = some p → ∃ b' o' F' s, e = .returned (.tuple #[.pointer (some ⟨b', o', none⟩), .int .i64 ((p.2 : Nat) : Int)]) ∧ ZoomL base w' b o T F p.1 s b' o' F')

set_option maxHeartbeats 4000000 in
theorem parent_any (base : Nat) (x : Idt) : ∀ (T : Ly) (w : World) (b o : Nat) (F : List Nat), TreeL base w b o T F →
    Calls Try.prog 43 #[.pointer (some ⟨b, o, none⟩), .agg #[.int .i64 x.1, .int .i64 x.2]] w (ParP base T x w b o F) := by
  intro T
  induction T using Ly.ind with
  | h i lk ks ih =>
    intro w b o F hT
    obtain ⟨p, cap, c30, -, -, hcap, hcap2, hk⟩ := hT.kids
    simp only [Ly.id_mk, Ly.kids_mk] at c30 hk hcap
    have Hk := Lib.hid hk
    have HT := Lib.hid hT
    have Ih := Lib.hid ih
    clear hk hT ih
    have hlt := HT.out.lt
    have c30' := ((Gou.Mod.alloc (fun _ => False) w (.cells #[.int .i64 x.1, .int .i64 x.2] 30)).cell (p := ⟨b, o + 30, none⟩) hlt (fun h => h)).trans c30
    go_enter Try.func43, Try.ntmps43
    go_wp2_with fail
    generalize hW : w.alloc (.cells #[.int .i64 x.1, .int .i64 x.2] 30) = w1 at *
    have Hm2 : Hid (Gou.Mod (fun _ => False) w w1) := Lib.hid (hW ▸ Gou.Mod.alloc _ _ _)
    have hN : Hid (Blk w1 w.heap.size 30 #[.int .i64 x.1, .int .i64 x.2]) := Lib.hid (hW ▸ heap_alloc_new w _)
    clear hW c30'
    obtain ⟨N, hNN⟩ : ∃ N, N = w.heap.size := ⟨_, rfl⟩
    rw [← hNN] at hN
    rw [← hNN]
    clear hNN
    go_loopw [14] (fun v wr => ∃ j : Nat, v = .int .i64 j ∧ j ≤ ks.length ∧ (∀ a ∈ ks.take j, a.id ≠ x ∧ a.parPath x = none) ∧ Gou.Mod (fun _ => False) w wr ∧ Blk wr N 30 #[.int .i64 x.1, .int .i64 x.2]) (fun v _ => ks.length - (intOf v).toNat)
    case atStart => exact ⟨0, rfl, by omega, by simp, Hm2.out, hN.out⟩
    case round =>
      obtain ⟨j, rfl, hj, hall, hm, hb⟩ := hrel
      have Hall := Lib.hid hall
      have Hm := Lib.hid hm
      have HB := Lib.hid hb
      clear hall hm hb Hm2 hN
      have hlt' := HT.out.lt
      by_cases hil : j < ks.length
      · have e1 : decide ((j : Int) < (ks.length : Int)) = true := decide_eq_true (by omega)
        obtain ⟨g, f, rfl, hT', hgF, hfF, hzoom⟩ := Hk.out j ks[j] (List.getElem?_eq_getElem hil)
        have Hz := Lib.hid hzoom
        have HT' := Lib.hid (hT'.up Hm.out)
        obtain ⟨_, _, _, k0, k1, _⟩ := HT'.out.kids
        have c30' := (Hm.out.cell (p := ⟨b, o + 30, none⟩) hlt' (fun h => h)).trans c30
        have x0 := HB.out.cell 0 rfl
        have x1 := HB.out.cell 1 rfl
        clear hT' hzoom hgF hfF
        have Hkj : Hid (ks[j]? = some ks[j]) := Lib.hid (List.getElem?_eq_getElem hil)
        have Hstep : Hid (ks[j].id ≠ x → ks[j].parPath x = none → ∀ a ∈ ks.take (j + 1), a.id ≠ x ∧ a.parPath x = none) := Lib.hid (fun h h2 a ha => by
          rw [List.take_succ_eq_append_getElem hil, List.mem_append, List.mem_singleton] at ha
          rcases ha with ha | rfl
          · exact Hall.out a ha
          · exact ⟨h, h2⟩)
        have Hik : Hid (∀ w', Gou.Mod (fun _ => False) wr w' → Calls Try.prog 43 #[.pointer (some ⟨g, j * 31, none⟩), .agg #[.int .i64 x.1, .int .i64 x.2]] w' (ParP base ks[j] x w' g (j * 31) f)) :=
          Lib.hid (fun w' hw' => Ih.out ks[j] (List.getElem_mem hil) w' g (j * 31) f (HT'.out.up hw'))
        have Hjl := Lib.hid hil
        generalize ks[j] = k at *
        have Hid0 := fun (w' : World) => id_op k.id x w'
        by_cases hx : k.id = x
        · have e1 : decide (k.id = x) = true := decide_eq_true hx
          rw [e1] at Hid0
          have Hx := Lib.hid hx
          clear hx e1
          go_upto_region 4 with fail
          go_quiet (fail)
          go_wp2_with fail
          have Hmq := Lib.hid (Hm.out.trans' (Gou.Mod.drewN (fun _ => False) wr nq))
          refine bodyPost_ret (v := .tuple #[.pointer (some ⟨b, o, none⟩), .int .i64 ((j : Nat) : Int)]) (by simp [results, Try.results43, go_sem]) rfl ?_
          have hpp : Ly.parPath x (.mk i lk ks) = some ([], j) := by
            rw [Ly.parPath, Ly.parL_hit Hall.out Hkj.out Hx.out, Nat.zero_add]
          refine ⟨Hmq.out, fun h => ?_, fun π h => ?_⟩
          · rw [hpp] at h
            cases h
          · rw [hpp] at h
            cases h
            exact ⟨b, o, F, _, rfl, Zoom.here (HT.out.up Hmq.out)⟩
        · have e1 : decide (k.id = x) = false := decide_eq_false hx
          rw [e1] at Hid0
          have Hx := Lib.hid hx
          clear hx e1
          cases hp : k.parPath x with
          | none =>
            have Hp := Lib.hid hp
            clear hp
            go_upto_region 4 with fail
            go_quiet (fail)
            have Hmq := Lib.hid (Gou.Mod.drewN (fun _ => False) wr nq)
            have HBq := Lib.hid (HB.out.mod Hmq.out (fun h => h))
            have c30q := (Hmq.out.cell (p := ⟨b, o + 30, none⟩) (World.block_lt_of_cell? _ _ c30') (fun h => h)).trans c30'
            have x0q := HBq.out.cell 0 rfl
            have x1q := HBq.out.cell 1 rfl
            have Hiq := Lib.hid (fun w' (h : Gou.Mod (fun _ => False) (wr.drewN nq) w') => Hik.out w' (Hmq.out.trans' h))
            clear c30' x0 x1 k0 k1 Hid0
            generalize wr.drewN nq = wq at *
            go_upto_region 6 with fail
            go_region_held3 (fun w' => (Gou.Mod (fun _ => False) wq w' ∧ w'.cell? ⟨b, o + 30, none⟩ = some (.slice (some ⟨g, 0, none⟩) ks.length cap) ∧ w'.cell? ⟨N, 0, none⟩ = some (.int .i64 x.1) ∧ w'.cell? ⟨N, 1, none⟩ = some (.int .i64 x.2)))
              (first | exact ⟨Gou.Mod.drew _ _, c30q, x0q, x1q⟩ | (obtain ⟨g0, g1, g2, g3⟩ := ‹Gou.Mod (fun _ => False) wq _ ∧ _›; exact ⟨g0.trans' hm4.out, (hm4.out.cell (p := ⟨b, o + 30, none⟩) (World.block_lt_of_cell? _ _ g1) (fun h => h)).trans g1, (hm4.out.cell (p := ⟨N, 0, none⟩) (World.block_lt_of_cell? _ _ g2) (fun h => h)).trans g2, (hm4.out.cell (p := ⟨N, 1, none⟩) (World.block_lt_of_cell? _ _ g3) (fun h => h)).trans g3⟩))
              (first | (go_at_call 43; refine (Hiq.out _ (by first | exact (‹Gou.Mod (fun _ => False) wq _ ∧ _›).1 | exact Gou.Mod.drew _ _)).mono ?_; rintro e w4 ⟨hm4', hn4, hs4⟩; obtain rfl := hn4 Hp.out; have hm4 := Lib.hid hm4'; clear hn4 hs4 hm4' ))
            have Hm4 := Lib.hid ((Hm.out.trans' Hmq.out).trans' (‹Gou.Mod (fun _ => False) wq w4 ∧ _›).1)
            have hB4 := Lib.hid (HBq.out.mod (‹Gou.Mod (fun _ => False) wq w4 ∧ _›).1 (fun h => h))
            have hwj : wrap64 ((j : Int) + 1) = ((j + 1 : Nat) : Int) := by have := Hjl.out; unfold maxLen at hcap2; unfold wrap64; omega
            go_wp2_with fail
            go_roundw
            case rel => exact ⟨j + 1, by rw [← hwj], by have := Hjl.out; omega, Hstep.out Hx.out Hp.out, Hm4.out, hB4.out⟩
            case measure => rw [hwj]; have := Hjl.out; simp only [intOf]; omega
          | some q =>
            have Hp := Lib.hid hp
            clear hp
            go_upto_region 4 with fail
            go_quiet (fail)
            have Hmq := Lib.hid (Gou.Mod.drewN (fun _ => False) wr nq)
            have HBq := Lib.hid (HB.out.mod Hmq.out (fun h => h))
            have c30q := (Hmq.out.cell (p := ⟨b, o + 30, none⟩) (World.block_lt_of_cell? _ _ c30') (fun h => h)).trans c30'
            have x0q := HBq.out.cell 0 rfl
            have x1q := HBq.out.cell 1 rfl
            have Hiq := Lib.hid (fun w' (h : Gou.Mod (fun _ => False) (wr.drewN nq) w') => Hik.out w' (Hmq.out.trans' h))
            clear c30' x0 x1 k0 k1 Hid0
            generalize wr.drewN nq = wq at *
            go_upto_region 6 with fail
            go_region_held3 (fun w' => (Gou.Mod (fun _ => False) wq w' ∧ w'.cell? ⟨b, o + 30, none⟩ = some (.slice (some ⟨g, 0, none⟩) ks.length cap) ∧ w'.cell? ⟨N, 0, none⟩ = some (.int .i64 x.1) ∧ w'.cell? ⟨N, 1, none⟩ = some (.int .i64 x.2)))
              (first | exact ⟨Gou.Mod.drew _ _, c30q, x0q, x1q⟩ | (obtain ⟨g0, g1, g2, g3⟩ := ‹Gou.Mod (fun _ => False) wq _ ∧ _›; exact ⟨g0.trans' hm4.out, (hm4.out.cell (p := ⟨b, o + 30, none⟩) (World.block_lt_of_cell? _ _ g1) (fun h => h)).trans g1, (hm4.out.cell (p := ⟨N, 0, none⟩) (World.block_lt_of_cell? _ _ g2) (fun h => h)).trans g2, (hm4.out.cell (p := ⟨N, 1, none⟩) (World.block_lt_of_cell? _ _ g3) (fun h => h)).trans g3⟩))
              (first | (go_at_call 43; refine (Hiq.out _ (by first | exact (‹Gou.Mod (fun _ => False) wq _ ∧ _›).1 | exact Gou.Mod.drew _ _)).mono ?_; rintro e w4 ⟨hm4', hn4, hs4⟩; obtain ⟨b', o', F', s, rfl, hz4⟩ := hs4 q Hp.out; have Hz4 := Lib.hid hz4; have hm4 := Lib.hid hm4'; clear hn4 hs4 hm4' hz4))
            have Hm4 := Lib.hid ((Hm.out.trans' Hmq.out).trans' (‹Gou.Mod (fun _ => False) wq w4 ∧ _›).1)
            have hB4 := Lib.hid (HBq.out.mod (‹Gou.Mod (fun _ => False) wq w4 ∧ _›).1 (fun h => h))
            have hwj : wrap64 ((j : Int) + 1) = ((j + 1 : Nat) : Int) := by have := Hjl.out; unfold maxLen at hcap2; unfold wrap64; omega
            go_wp2_with fail
            refine bodyPost_ret (v := .tuple #[.pointer (some ⟨b', o', none⟩), .int .i64 ((q.2 : Nat) : Int)]) (by simp [results, Try.results43, go_sem]) rfl ?_
            have hpp : Ly.parPath x (.mk i lk ks) = some (j :: q.1, q.2) := by
              rw [Ly.parPath, Ly.parL_in Hall.out Hkj.out Hx.out Hp.out, Nat.zero_add]
            refine ⟨Hm4.out, fun h => ?_, fun π h => ?_⟩
            · rw [hpp] at h
              cases h
            · rw [hpp] at h
              cases h
              exact ⟨b', o', F', s, rfl, Hz.out _ Hm4.out _ _ _ _ _ Hz4.out⟩
      · have hil' : j = ks.length := by omega
        have e1 : decide ((j : Int) < (ks.length : Int)) = false := decide_eq_false (by omega)
        go_wp2_with fail
        refine bodyPost_ret (v := .tuple #[.pointer none, .int .i64 0]) (by simp [results, Try.results43, go_sem]) rfl ?_
        rw [hil', List.take_length] at Hall
        have hp : Ly.parPath x (.mk i lk ks) = none := by
          rw [Ly.parPath, Ly.parL_none]
          exact Hall.out
        refine ⟨Hm.out, fun _ => rfl, fun π h => ?_⟩
        rw [hp] at h
        cases h
end Go.Proofs.Ytpbmfalokongfaa

/- Scenes: the code's cut. -/
namespace Go.Proofs.Ytpbmfalokongfaa
open Go.RowKit Go.Gou
set_option maxRecDepth 100000
abbrev DoerL (base : Nat) (w : World) (D : Nat) (a : Ar) (T : Ly) (F : List Nat) (o : Opr) (vg vl vp vf vb : Value) (cur : Array Value) : Prop := DoerR 45 67 3 4 base w D a T F o vg vl vp vf vb cur
theorem tI : 3 ≠ 45 ∧ 3 ≠ 67 ∧ RowTy 3 := by decide
theorem tB : 4 ≠ 45 ∧ 4 ≠ 67 ∧ RowTy 4 := by decide

/-- What cut leaves. -/
def CutP (base : Nat) (a : Ar) (T : Ly) (F : List Nat) (op : Opr) (vg vl vp vf vb : Value) (s k : Ly) (π : List Nat) (i : Nat) (w : World) (D : Nat) (e : Ending) (w' : World) : Prop :=
  ∃ kp kf kb kk f F3 cur3, e = .returned (.agg (lyA k.id k.look kp kf kb kk)) ∧ DoerL base w' D a (T.put π (.mk s.id s.look (s.kids.eraseIdx i))) F3 op vg vl vp vf vb cur3 ∧ LyO 45 67 base w' (lyA k.id k.look kp kf kb kk).toList k f ∧
    (∀ x ∈ F3, x ∈ F ∧ x ∉ f) ∧ (∀ x ∈ f, x ∈ F) ∧ Gou.Mod (fun x => x = D ∨ x ∈ F) w w' ∧ ∀ b1 o1, At w D 2 π b1 o1 → At w' D 2 π b1 o1

set_option maxHeartbeats 8000000 in
theorem cut_any (base : Nat) (w : World) (D : Nat) (a : Ar) (T : Ly) (F : List Nat) (op : Opr) (vg vl vp vf vb : Value) (cur : Array Value) (hD : DoerL base w D a T F op vg vl vp vf vb cur) (π : List Nat) (i : Nat) (s k : Ly) (hp : T.parPath op.id = some (π, i)) (hs : T.get? π = some s) (hk : s.kids[i]? = some k) (hn : s.kids.length ≤ 1000000) :
    Calls Try.prog 39 #[.pointer (some ⟨D, 0, none⟩)] w (CutP base a T F op vg vl vp vf vb s k π i w D) := by
  have HD := Lib.hid hD
  have Hp := Lib.hid hp
  have Hs := Lib.hid hs
  have Hk := Lib.hid hk
  have Hn := Lib.hid hn
  have HDlt := Lib.hid (Blk.lt hD.blk)
  clear hD hp hs hk hn
  have HB2 := Lib.hid (Blk.new w 45 (List.toArray (Value.int .i64 0 :: Value.int .i64 0 :: Value.int .i64 0 :: Value.int .i64 0 :: Value.bool false :: Value.int .i64 0 :: Value.int .i64 0 :: Value.int .i64 0 :: Value.int .i64 0 :: Value.int .i64 0 :: Value.int .i64 0 :: Value.int .i64 0 :: Value.int .i64 0 :: Value.int .i64 0 :: Value.int .i64 0 :: Value.int .i64 0 :: Value.int .u8 0 :: Value.int .u8 0 :: Value.int .u8 0 :: Value.int .u8 0 :: Value.int .i64 0 :: Value.int .i64 0 :: Value.int .i64 0 :: Value.slice none 0 0 :: Value.bool false :: Value.slice none 0 0 :: Value.int .i64 0 :: Value.bool false :: Value.slice none 0 0 :: Value.int .i64 0 :: Value.slice none 0 0 :: [])))
  have HMa := Lib.hid (Gou.Mod.alloc0 w (.cells (List.toArray (Value.int .i64 0 :: Value.int .i64 0 :: Value.int .i64 0 :: Value.int .i64 0 :: Value.bool false :: Value.int .i64 0 :: Value.int .i64 0 :: Value.int .i64 0 :: Value.int .i64 0 :: Value.int .i64 0 :: Value.int .i64 0 :: Value.int .i64 0 :: Value.int .i64 0 :: Value.int .i64 0 :: Value.int .i64 0 :: Value.int .i64 0 :: Value.int .u8 0 :: Value.int .u8 0 :: Value.int .u8 0 :: Value.int .u8 0 :: Value.int .i64 0 :: Value.int .i64 0 :: Value.int .i64 0 :: Value.slice none 0 0 :: Value.bool false :: Value.slice none 0 0 :: Value.int .i64 0 :: Value.bool false :: Value.slice none 0 0 :: Value.int .i64 0 :: Value.slice none 0 0 :: [])) 45))
  go_enter Try.func39, Try.ntmps39
  go_wp2_with fail
  generalize w.alloc (.cells (List.toArray (Value.int .i64 0 :: Value.int .i64 0 :: Value.int .i64 0 :: Value.int .i64 0 :: Value.bool false :: Value.int .i64 0 :: Value.int .i64 0 :: Value.int .i64 0 :: Value.int .i64 0 :: Value.int .i64 0 :: Value.int .i64 0 :: Value.int .i64 0 :: Value.int .i64 0 :: Value.int .i64 0 :: Value.int .i64 0 :: Value.int .i64 0 :: Value.int .u8 0 :: Value.int .u8 0 :: Value.int .u8 0 :: Value.int .u8 0 :: Value.int .i64 0 :: Value.int .i64 0 :: Value.int .i64 0 :: Value.slice none 0 0 :: Value.bool false :: Value.slice none 0 0 :: Value.int .i64 0 :: Value.bool false :: Value.slice none 0 0 :: Value.int .i64 0 :: Value.slice none 0 0 :: [])) 45) = W1 at *
  have HD1 := Lib.hid (HD.out.up HMa.out)
  have HIr : Hid (W1.rangeAt D 34 [.int .i64 op.id.1, .int .i64 op.id.2]) := Lib.hid (fun j v hv => by
    obtain ⟨_, _, _, c34, c35, _⟩ := HD1.out.cell
    match j, hv with
    | 0, hv => simp at hv; rw [← hv]; exact c34
    | 1, hv => simp at hv; rw [← hv]; exact c35)
  refine wp_region_held_drew (S := fun w' => Gou.Mod (fun _ => False) W1 w') (by kernel_rfl) (Gou.Mod.drew _ _) (fun hHeld => ?_)
  refine wpAnyH_take (i := 0) (oi := ({ dst := some 7, op := Op.move (Operand.tmp 0), type := 64, pos := "scene.go:157", after := #[], guard := none } : Oper)) (v := .pointer (some ⟨D, 0, none⟩)) rfl (by kernel_rfl) (by kernel_rfl) (by kernel_rfl) (fun _ _ _ h => h) (Or.inl ⟨by rfl, ?_⟩) hHeld ?_
  · (intro w' hSw; (try dsimp only at hSw); clear hSw hHeld; go_simp; (try with_reducible rfl))
  try simp only [Act.put, List.setIfInBounds_toArray, List.set_cons_zero, List.set_cons_succ]
  refine wpAnyH_take (i := 1) (oi := ({ dst := some 8, op := Op.nilCheck (Operand.tmp 7), type := 0, pos := "scene.go:157", after := #[{ on := 0, ground := Ground.data }], guard := none } : Oper)) (v := .pointer (some ⟨D, 0, none⟩)) rfl (by kernel_rfl) (by kernel_rfl) (by kernel_rfl) (fun _ _ _ h => h) (Or.inl ⟨by rfl, ?_⟩) hHeld ?_
  · (intro w' hSw; (try dsimp only at hSw); clear hSw hHeld; go_simp; (try with_reducible rfl))
  try simp only [Act.put, List.setIfInBounds_toArray, List.set_cons_zero, List.set_cons_succ]
  refine wpAnyH_take (i := 2) (oi := ({ dst := some 9, op := Op.fieldAddr 67 (Operand.tmp 8) 0, type := 0, pos := "scene.go:157", after := #[{ on := 1, ground := Ground.data }], guard := none } : Oper)) (v := .pointer (some ⟨D, 0, none⟩)) rfl (by kernel_rfl) (by kernel_rfl) (by kernel_rfl) (fun _ _ _ h => h) (Or.inl ⟨by rfl, ?_⟩) hHeld ?_
  · (intro w' hSw; (try dsimp only at hSw); clear hSw hHeld; go_simp; (try with_reducible rfl))
  try simp only [Act.put, List.setIfInBounds_toArray, List.set_cons_zero, List.set_cons_succ]
  refine wpAnyH_take (i := 3) (oi := ({ dst := some 10, op := Op.fieldAddr 47 (Operand.tmp 9) 1, type := 0, pos := "scene.go:157", after := #[{ on := 2, ground := Ground.data }], guard := none } : Oper)) (v := .pointer (some ⟨D, 2, none⟩)) rfl (by kernel_rfl) (by kernel_rfl) (by kernel_rfl) (fun _ _ _ h => h) (Or.inl ⟨by rfl, ?_⟩) hHeld ?_
  · (intro w' hSw; (try dsimp only at hSw); clear hSw hHeld; go_simp; (try with_reducible rfl))
  try simp only [Act.put, List.setIfInBounds_toArray, List.set_cons_zero, List.set_cons_succ]
  refine wpAnyH_take (i := 4) (oi := ({ dst := some 11, op := Op.move (Operand.tmp 0), type := 64, pos := "scene.go:157", after := #[], guard := none } : Oper)) (v := .pointer (some ⟨D, 0, none⟩)) rfl (by kernel_rfl) (by kernel_rfl) (by kernel_rfl) (fun _ _ _ h => h) (Or.inl ⟨by rfl, ?_⟩) hHeld ?_
  · (intro w' hSw; (try dsimp only at hSw); clear hSw hHeld; go_simp; (try with_reducible rfl))
  try simp only [Act.put, List.setIfInBounds_toArray, List.set_cons_zero, List.set_cons_succ]
  refine wpAnyH_take (i := 5) (oi := ({ dst := some 12, op := Op.nilCheck (Operand.tmp 11), type := 0, pos := "scene.go:157", after := #[{ on := 4, ground := Ground.data }], guard := none } : Oper)) (v := .pointer (some ⟨D, 0, none⟩)) rfl (by kernel_rfl) (by kernel_rfl) (by kernel_rfl) (fun _ _ _ h => h) (Or.inl ⟨by rfl, ?_⟩) hHeld ?_
  · (intro w' hSw; (try dsimp only at hSw); clear hSw hHeld; go_simp; (try with_reducible rfl))
  try simp only [Act.put, List.setIfInBounds_toArray, List.set_cons_zero, List.set_cons_succ]
  refine wpAnyH_take (i := 6) (oi := ({ dst := some 13, op := Op.fieldAddr 67 (Operand.tmp 12) 1, type := 0, pos := "scene.go:157", after := #[{ on := 5, ground := Ground.data }], guard := none } : Oper)) (v := .pointer (some ⟨D, 33, none⟩)) rfl (by kernel_rfl) (by kernel_rfl) (by kernel_rfl) (fun _ _ _ h => h) (Or.inl ⟨by rfl, ?_⟩) hHeld ?_
  · (intro w' hSw; (try dsimp only at hSw); clear hSw hHeld; go_simp; (try with_reducible rfl))
  try simp only [Act.put, List.setIfInBounds_toArray, List.set_cons_zero, List.set_cons_succ]
  refine wpAnyH_take (i := 7) (oi := ({ dst := some 14, op := Op.fieldAddr 53 (Operand.tmp 13) 1, type := 0, pos := "scene.go:157", after := #[{ on := 6, ground := Ground.data }], guard := none } : Oper)) (v := .pointer (some ⟨D, 34, none⟩)) rfl (by kernel_rfl) (by kernel_rfl) (by kernel_rfl) (fun _ _ _ h => h) (Or.inl ⟨by rfl, ?_⟩) hHeld ?_
  · (intro w' hSw; (try dsimp only at hSw); clear hSw hHeld; go_simp; (try with_reducible rfl))
  try simp only [Act.put, List.setIfInBounds_toArray, List.set_cons_zero, List.set_cons_succ]
  refine wpAnyH_take (i := 8) (oi := ({ dst := some 15, op := Op.load 30 (Operand.tmp 14), type := 30, pos := "scene.go:157", after := #[{ on := 7, ground := Ground.data }], guard := none } : Oper)) (v := .agg #[.int .i64 op.id.1, .int .i64 op.id.2]) rfl (by kernel_rfl) (by kernel_rfl) (by kernel_rfl) (fun _ _ _ h => h) (yieldsIf_load_mid (by rfl) 30 _ rfl D (34) rfl ([.int .i64 op.id.1, .int .i64 op.id.2]) _ (fun w' hSw => range_up HIr.out hSw (fun h => h)) Try.underlying30 rfl size_id) hHeld ?_
  try simp only [Act.put, List.setIfInBounds_toArray, List.set_cons_zero, List.set_cons_succ]
  refine wpAnyH_ready (rs := [9]) (by kernel_rfl) (by simp) (AllReadyH.cons (o := ({ dst := some 16, op := Op.call { callee := Callee.value (Operand.func 43), args := #[Operand.tmp 10, Operand.tmp 15], argTypes := #[71, 30] }, type := 72, pos := "scene.go:157", after := #[{ on := 3, ground := Ground.data }, { on := 8, ground := Ground.data }], guard := none } : Oper)) rfl (fun K hK => ?_) AllReadyH.nil)
  go_simp
  refine (parent_any base op.id T _ D 2 F (HD1.out.up hHeld).tree).mono ?_
  rintro e w4 ⟨hm4, _, hs4⟩
  obtain ⟨b', o', F', s', rfl, hz4⟩ := hs4 _ Hp.out
  have hss : s' = s := by
    have := hz4.get
    rw [Hs.out] at this
    exact (Option.some.inj this).symm
  subst hss
  have M := Lib.hid (hHeld.trans' hm4)
  have Hz4 := Lib.hid hz4
  clear hHeld hm4 hs4 hz4
  refine hK _ _ M.out (fun hHeld => ?_)
  clear hK K M
  try simp only [Act.put, List.setIfInBounds_toArray, List.set_cons_zero, List.set_cons_succ]
  refine wpAnyH_take (i := 10) (oi := ({ dst := some 6, op := Op.move (Operand.tmp 16), type := 72, pos := "scene.go:157", after := #[{ on := 9, ground := Ground.data }], guard := none } : Oper)) (v := .tuple #[.pointer (some ⟨b', o', none⟩), .int .i64 ((i : Nat) : Int)]) rfl (by kernel_rfl) (by kernel_rfl) (by kernel_rfl) (fun _ _ _ h => h) (Or.inl ⟨by rfl, ?_⟩) hHeld ?_
  · (intro w' hSw; (try dsimp only at hSw); clear hSw hHeld; go_simp; (try with_reducible rfl))
  try simp only [Act.put, List.setIfInBounds_toArray, List.set_cons_zero, List.set_cons_succ]
  refine wpAnyH_take (i := 11) (oi := ({ dst := some 17, op := Op.extract (Operand.tmp 6) 0, type := 71, pos := "scene.go:157", after := #[{ on := 10, ground := Ground.data }], guard := none } : Oper)) (v := .pointer (some ⟨b', o', none⟩)) rfl (by kernel_rfl) (by kernel_rfl) (by kernel_rfl) (fun _ _ _ h => h) (Or.inl ⟨by rfl, ?_⟩) hHeld ?_
  · (intro w' hSw; (try dsimp only at hSw); clear hSw hHeld; go_simp; (try with_reducible rfl))
  try simp only [Act.put, List.setIfInBounds_toArray, List.set_cons_zero, List.set_cons_succ]
  refine wpAnyH_take (i := 12) (oi := ({ dst := some 18, op := Op.extract (Operand.tmp 6) 1, type := 3, pos := "scene.go:157", after := #[{ on := 10, ground := Ground.data }, { on := 13, ground := Ground.gcOnly Departure.lateStores }], guard := none } : Oper)) (v := .int .i64 ((i : Nat) : Int)) rfl (by kernel_rfl) (by kernel_rfl) (by kernel_rfl) (fun _ _ _ h => h) (Or.inl ⟨by rfl, ?_⟩) hHeld ?_
  · (intro w' hSw; (try dsimp only at hSw); clear hSw hHeld; go_simp; (try with_reducible rfl))
  try simp only [Act.put, List.setIfInBounds_toArray, List.set_cons_zero, List.set_cons_succ]
  refine wpAnyH_take (i := 13) (oi := ({ dst := some 3, op := Op.assign (Operand.tmp 17), type := 71, pos := "scene.go:157", after := #[{ on := 11, ground := Ground.data }, { on := 9, ground := Ground.chain }, { on := 0, ground := Ground.phase }, { on := 1, ground := Ground.phase }, { on := 2, ground := Ground.phase }, { on := 3, ground := Ground.phase }, { on := 4, ground := Ground.phase }, { on := 5, ground := Ground.phase }, { on := 6, ground := Ground.phase }, { on := 7, ground := Ground.phase }, { on := 8, ground := Ground.phase }, { on := 9, ground := Ground.phase }, { on := 10, ground := Ground.phase }, { on := 11, ground := Ground.phase }, { on := 12, ground := Ground.textOnly Departure.lateStores }], guard := none } : Oper)) (v := .pointer (some ⟨b', o', none⟩)) rfl (by kernel_rfl) (by kernel_rfl) (by kernel_rfl) (fun _ _ _ h => h) (Or.inl ⟨by rfl, ?_⟩) hHeld ?_
  · (intro w' hSw; (try dsimp only at hSw); clear hSw hHeld; go_simp; (try with_reducible rfl))
  try simp only [Act.put, List.setIfInBounds_toArray, List.set_cons_zero, List.set_cons_succ]
  refine wpAnyH_take (i := 14) (oi := ({ dst := some 4, op := Op.assign (Operand.tmp 18), type := 3, pos := "scene.go:157", after := #[{ on := 12, ground := Ground.data }, { on := 13, ground := Ground.chain }, { on := 0, ground := Ground.phase }, { on := 1, ground := Ground.phase }, { on := 2, ground := Ground.phase }, { on := 3, ground := Ground.phase }, { on := 4, ground := Ground.phase }, { on := 5, ground := Ground.phase }, { on := 6, ground := Ground.phase }, { on := 7, ground := Ground.phase }, { on := 8, ground := Ground.phase }, { on := 9, ground := Ground.phase }, { on := 10, ground := Ground.phase }, { on := 11, ground := Ground.phase }, { on := 12, ground := Ground.phase }, { on := 13, ground := Ground.phase }], guard := none } : Oper)) (v := .int .i64 ((i : Nat) : Int)) rfl (by kernel_rfl) (by kernel_rfl) (by kernel_rfl) (fun _ _ _ h => h) (Or.inl ⟨by rfl, ?_⟩) hHeld ?_
  · (intro w' hSw; (try dsimp only at hSw); clear hSw hHeld; go_simp; (try with_reducible rfl))
  try simp only [Act.put, List.setIfInBounds_toArray, List.set_cons_zero, List.set_cons_succ]
  have MS := Lib.hid hHeld
  refine wpAnyH_done (by kernel_rfl) ?_ _
  clear hHeld
  try simp only [Act.put]
  have HD4 := Lib.hid (HD1.out.up MS.out)
  have HB24 := Lib.hid (HB2.out.up MS.out)
  have HM4 := Lib.hid (HMa.out.trans' MS.out)
  obtain ⟨vp2, vf2, vb2, vk2, css, fs, cur2, TT, hd⟩ := Hz4.out.sub.open
  obtain ⟨g, cap, kp, kf, kb, kk, rfl, hci, hrg, hglt, hgF, c30, hone, hones⟩ := hd.kidC Hk.out
  have Hd := Lib.hid hd
  have Hci := Lib.hid hci
  have Hrg := Lib.hid hrg
  have Hglt := Lib.hid hglt
  have HgF := Lib.hid hgF
  have Hc30 := Lib.hid c30
  have Hone := Lib.hid hone
  have Hones := Lib.hid hones
  have Hi : Hid (i < s'.kids.length) := Lib.hid (List.getElem?_eq_some_iff.1 Hk.out).1
  have hil := Hi.out
  have Hblt := Lib.hid (Blk.lt hd.h1)
  clear hd hci hrg hglt hgF hone hones HD1 HIr HMa HB2 MS
  go_upto_region 3 with (first | ((with_reducible refine wpList_load_mid ?g1_1 45 ?x1_1 ?o1_1 (g) (i * 31) ?h1_1 ((lyA k.id k.look kp kf kb kk).toList) ?d1_1 ?c1_1 ?u1_1 ?e1_1 ?i1_1 ?r1_1); (case g1_1 => exact rfl); (case o1_1 => exact rfl); (case h1_1 => exact rfl); (case c1_1 => exact Hrg.out); (case u1_1 => exact Try.underlying45); (case e1_1 => exact rfl); (case i1_1 => exact size_layer)) | ((with_reducible refine wpList_store_mid ?g1_2 45 ?x1_2 ?y1_2 ?o1_2 (w4.heap.size) (0) (lyA k.id k.look kp kf kb kk) ?h1_2 ?j1_2 ?t1_2 ?i1_2 ?s1_2 ?r1_2); (case g1_2 => exact rfl); (case o1_2 => exact rfl); (case h1_2 => exact rfl); (case j1_2 => exact rfl); (case t1_2 => exact (Blk.new w4 45 (List.toArray (Value.int .i64 0 :: Value.int .i64 0 :: Value.int .i64 0 :: Value.int .i64 0 :: Value.bool false :: Value.int .i64 0 :: Value.int .i64 0 :: Value.int .i64 0 :: Value.int .i64 0 :: Value.int .i64 0 :: Value.int .i64 0 :: Value.int .i64 0 :: Value.int .i64 0 :: Value.int .i64 0 :: Value.int .i64 0 :: Value.int .i64 0 :: Value.int .u8 0 :: Value.int .u8 0 :: Value.int .u8 0 :: Value.int .u8 0 :: Value.int .i64 0 :: Value.int .i64 0 :: Value.int .i64 0 :: Value.slice none 0 0 :: Value.bool false :: Value.slice none 0 0 :: Value.int .i64 0 :: Value.bool false :: Value.slice none 0 0 :: Value.int .i64 0 :: Value.slice none 0 0 :: []))).there 0 31 (by simp)); (case i1_2 => exact size_layer); (case s1_2 => exact all_one Hone.out)) | fail)
  have HB5 := Lib.hid ((Blk.new w4 45 (List.toArray (Value.int .i64 0 :: Value.int .i64 0 :: Value.int .i64 0 :: Value.int .i64 0 :: Value.bool false :: Value.int .i64 0 :: Value.int .i64 0 :: Value.int .i64 0 :: Value.int .i64 0 :: Value.int .i64 0 :: Value.int .i64 0 :: Value.int .i64 0 :: Value.int .i64 0 :: Value.int .i64 0 :: Value.int .i64 0 :: Value.int .i64 0 :: Value.int .u8 0 :: Value.int .u8 0 :: Value.int .u8 0 :: Value.int .u8 0 :: Value.int .i64 0 :: Value.int .i64 0 :: Value.int .i64 0 :: Value.slice none 0 0 :: Value.bool false :: Value.slice none 0 0 :: Value.int .i64 0 :: Value.bool false :: Value.slice none 0 0 :: Value.int .i64 0 :: Value.slice none 0 0 :: []))).setAll (lyA k.id k.look kp kf kb kk) rfl)
  have HM5 : Hid (Gou.Mod (fun _ => False) w4 ((w4.alloc (.cells (List.toArray (Value.int .i64 0 :: Value.int .i64 0 :: Value.int .i64 0 :: Value.int .i64 0 :: Value.bool false :: Value.int .i64 0 :: Value.int .i64 0 :: Value.int .i64 0 :: Value.int .i64 0 :: Value.int .i64 0 :: Value.int .i64 0 :: Value.int .i64 0 :: Value.int .i64 0 :: Value.int .i64 0 :: Value.int .i64 0 :: Value.int .i64 0 :: Value.int .u8 0 :: Value.int .u8 0 :: Value.int .u8 0 :: Value.int .u8 0 :: Value.int .i64 0 :: Value.int .i64 0 :: Value.int .i64 0 :: Value.slice none 0 0 :: Value.bool false :: Value.slice none 0 0 :: Value.int .i64 0 :: Value.bool false :: Value.slice none 0 0 :: Value.int .i64 0 :: Value.slice none 0 0 :: [])) 45)).setCells w4.heap.size 0 (lyA k.id k.look kp kf kb kk).toList)) := Lib.hid (Gou.Mod.allocSet _ _ _)
  have HN5 : Hid (w4.heap.size = w4.heap.size) := Lib.hid rfl
  generalize (w4.alloc (.cells (List.toArray (Value.int .i64 0 :: Value.int .i64 0 :: Value.int .i64 0 :: Value.int .i64 0 :: Value.bool false :: Value.int .i64 0 :: Value.int .i64 0 :: Value.int .i64 0 :: Value.int .i64 0 :: Value.int .i64 0 :: Value.int .i64 0 :: Value.int .i64 0 :: Value.int .i64 0 :: Value.int .i64 0 :: Value.int .i64 0 :: Value.int .i64 0 :: Value.int .u8 0 :: Value.int .u8 0 :: Value.int .u8 0 :: Value.int .u8 0 :: Value.int .i64 0 :: Value.int .i64 0 :: Value.int .i64 0 :: Value.slice none 0 0 :: Value.bool false :: Value.slice none 0 0 :: Value.int .i64 0 :: Value.bool false :: Value.slice none 0 0 :: Value.int .i64 0 :: Value.slice none 0 0 :: [])) 45)).setCells w4.heap.size 0 (lyA k.id k.look kp kf kb kk).toList = w5 at *
  obtain ⟨N5, hN5⟩ : ∃ N, N = w4.heap.size := ⟨_, rfl⟩
  rw [← hN5] at HB5
  try rw [← hN5]
  have HNN := Lib.hid hN5
  clear hN5 HN5 c30
  have hwi : IntKind.i64.wrap ((i : Int) + 1) = (i : Int) + 1 := by rw [IntKind.wrap_i64]; have := Hn.out; omega
  have c30 := (HM5.out.cell (p := ⟨b', o' + 30, none⟩) Hblt.out (fun h => h)).trans Hc30.out
  go_wp2_with fail
  refine (delete_any w5 base g s'.kids.length cap i css.flatten (own_up Hd.out.h5 HM5.out) Hones.out Hi.out).mono ?_
  rintro e w7 ⟨rfl, ho7, hm7⟩
  have Ho7 := Lib.hid ho7
  have HM7 := Lib.hid hm7
  have HB7 := Lib.hid (Blk.mod (Hd.out.up HM5.out).h1 hm7 (fun e => Hd.out.out (by rw [e]; exact HgF.out)))
  obtain ⟨u7, o7⟩ : ∃ u, w7.cell? ⟨b', o' + 30, none⟩ = some u := ⟨_, HB7.out.cell (o' + 30) (by rw [Hd.out.h3 30 (by omega)]; rfl)⟩
  have f7 := HB7.out.frozen (o' + 30)
  clear ho7 hm7 c30 hwi
  go_upto_region 4 with fail
  obtain ⟨c, f, F2, hc1, hc2, hT2, hF2, hx2, hy2⟩ := Hd.out.delete HM5.out Hk.out Ho7.out HM7.out
  rw [Hci.out] at hc1
  cases hc1
  obtain ⟨F3, cur3, hD3, hF3⟩ := HD4.out.step tI tB Hz4.out hT2 hF2 (fun x hx => .inl (hx2 x hx).1)
  have HK8 := Lib.hid hc2
  have HD8 := Lib.hid hD3
  have HX8 : Hid (∀ x ∈ F3, x ∈ F ∧ x ∉ f) := Lib.hid (fun x hx => by
    rcases hF3 x hx with hx | hx
    · exact ⟨Hz4.out.rows x (hx2 x hx).1, (hx2 x hx).2⟩
    · exact ⟨hx.1, fun hh => hx.2 (hy2 x hh)⟩)
  have HY8 : Hid (∀ x ∈ f, x ∈ F) := Lib.hid (fun x hx => Hz4.out.rows x (hy2 x hx))
  have HF8 := Lib.hid hF2
  have hbF : b' = D ∨ b' ∈ F := Hz4.out.blk.imp (fun h => h.1) id
  have HM8 := Lib.hid (HM4.out.imp (S' := fun x => x = D ∨ x ∈ F) (fun _ _ h => h.elim) |>.trans' (hF2.mod.imp (fun x _ hx => by
    rcases hx with rfl | hx | hx
    · exact hbF
    · exact .inr (Hz4.out.rows x hx)
    · exact hx.elim)))
  have hmS : Gou.Mod (fun x => x = g ∨ x = b') w5 (w7.setCell ⟨b', o' + 30, none⟩ (.slice (some ⟨g, 0, none⟩) (s'.kids.length - 1) cap)) := (HM7.out.imp (fun _ _ h => .inl h)).trans' ((Gou.Mod.set1 w7 b' (o' + 30) (.slice (some ⟨g, 0, none⟩) (s'.kids.length - 1) cap)).imp (fun _ _ h => .inr h))
  have HN8 := Lib.hid (Blk.mod HB5.out hmS (by have h1 := HNN.out; have h2 := Hglt.out; have h3 := Hblt.out; rw [h1]; omega))
  have HFlt : Hid (∀ x ∈ F, x < w.heap.size) := Lib.hid (fun x hx => by
    obtain ⟨⟨c, _, _, g1, _⟩, _, _⟩ := HD.out.tree
    exact (g1.rows x hx).2.1)
  have hN2 : ¬ (w.heap.size = g ∨ w.heap.size = b') := by
    rintro (e | e)
    · exact absurd (HFlt.out _ (Hz4.out.rows g HgF.out)) (by omega)
    · rcases hbF with h | h
      · have := HDlt.out; omega
      · exact absurd (HFlt.out _ h) (by omega)
  have HB8 := Lib.hid (Blk.mod (HB24.out.up HM5.out) hmS hN2)
  clear hc2 hD3 hF3 hT2 hF2 hx2 hy2 hbF hmS hN2 o7 f7 Ho7 HM7 HB7 HB5 HB24 Hd Hci Hrg Hc30 Hones
  generalize w7.setCell ⟨b', o' + 30, none⟩ (.slice (some ⟨g, 0, none⟩) (s'.kids.length - 1) cap) = w8 at *
  have Hrg := Lib.hid (Blk.range (pre := []) (mid := (lyA k.id k.look kp kf kb kk).toList) (post := []) HN8.out (by simp) rfl)
  go_wp2_with (first | ((with_reducible refine wpList_load_mid ?g1_3 45 ?x1_3 ?o1_3 (N5) (0) ?h1_3 ((lyA k.id k.look kp kf kb kk).toList) ?d1_3 ?c1_3 ?u1_3 ?e1_3 ?i1_3 ?r1_3); (case g1_3 => exact rfl); (case o1_3 => exact rfl); (case h1_3 => exact rfl); (case c1_3 => exact Hrg.out); (case u1_3 => exact Try.underlying45); (case e1_3 => exact rfl); (case i1_3 => exact size_layer)) | ((with_reducible refine wpList_store_mid ?g1_4 45 ?x1_4 ?y1_4 ?o1_4 (w.heap.size) (0) (lyA k.id k.look kp kf kb kk) ?h1_4 ?j1_4 ?t1_4 ?i1_4 ?s1_4 ?r1_4); (case g1_4 => exact rfl); (case o1_4 => exact rfl); (case h1_4 => exact rfl); (case j1_4 => exact rfl); (case t1_4 => exact HB8.out.there 0 31 (by simp)); (case i1_4 => exact size_layer); (case s1_4 => exact all_one Hone.out)) | fail)
  have HS := Lib.hid (Blk.setMod w8 w.heap.size 0 (lyA k.id k.look kp kf kb kk).toList)
  have HB9 := Lib.hid (HB8.out.setAll (lyA k.id k.look kp kf kb kk) rfl)
  have hl9 : ∀ x, base ≤ x → LookBlk 45 67 w8 x → ¬ x = w.heap.size := fun x _ hl e => by
    obtain ⟨cu, T', g1, g2, _⟩ := hl
    have hb := HB8.out
    subst e
    unfold Blk at hb
    rw [hb] at g1
    simp only [Option.some.injEq, Obj.cells.injEq] at g1
    exact g2 g1.2.1.symm
  have hge := HD.out.tree.ge
  have HD9 := Lib.hid (HD8.out.mod tI tB HS.out (by have := HDlt.out; omega) (fun x hx e => by have := HFlt.out x (HX8.out x hx).1; omega) hl9 (fun x hx e => by have := HDlt.out; omega))
  have HK9 := Lib.hid (HK8.out.mod HS.out (fun x hx e => by have := HFlt.out x (HY8.out x hx); omega) hl9)
  have HM9 := Lib.hid (HM8.out.trans HS.out (fun x hx e => by omega))
  have HAT : Hid (∀ b1 o1, At w D 2 π b1 o1 → At (w8.setCells w.heap.size 0 (lyA k.id k.look kp kf kb kk).toList) D 2 π b1 o1) := Lib.hid (fun b1 o1 h => by
    obtain ⟨e1, e2⟩ := (Hz4.out.at_).one (h.up HM4.out)
    subst e1
    subst e2
    have hbn : b' ≠ w.heap.size := by
      rcases Hz4.out.blk.imp (fun h => h.1) id with e | e
      · have := HDlt.out; omega
      · have := HFlt.out _ e; omega
    obtain ⟨cA, cB, TT', v1, v2, v3, v4⟩ := HF8.out.cells
    exact Hz4.out.at2 _ (fun x => x = w.heap.size) ⟨(HF8.out.mod.imp (fun x _ hx => by
        rcases hx with hx | hx | hx
        · exact .inl hx
        · exact .inr (.inl hx)
        · exact hx.elim)).trans' (HS.out.imp (fun x _ hx => .inr (.inr hx))), cA, cB, TT', v1, v2.mod HS.out hbn, v3, v4⟩ (fun x hx => ⟨fun hf => by have := HFlt.out x hf; omega, by have := HDlt.out; omega⟩))
  generalize w8.setCells w.heap.size 0 (lyA k.id k.look kp kf kb kk).toList = w9 at *
  refine bodyPost_ret (results_cell_row rfl _ _ (w.heap.size) 45 (lyA k.id k.look kp kf kb kk) (0, 0) _ rfl HB9.out Try.underlying45 rfl size_layer) rfl ?_
  exact ⟨kp, kf, kb, kk, f, F3, cur3, rfl, HD9.out, HK9.out, HX8.out, HY8.out, HM9.out, HAT.out⟩

end Go.Proofs.Ytpbmfalokongfaa

/- Scenes: the code's remove. -/
namespace Go.Proofs.Ytpbmfalokongfaa
open Go.RowKit Go.Gou
set_option maxRecDepth 100000
/-- What an arena is bounded by. -/
structure ArFit (a : Ar) : Prop where
  len : a.gens.length = a.live.length
  small : a.live.length ≤ 1024
  gen : ∀ g ∈ a.gens, 0 ≤ g ∧ g ≤ 1000000000000

/-- What the closure leaves. -/
def FreedP (base : Nat) (a : Ar) (T : Ly) (F : List Nat) (op : Opr) (vp vf vb : Value) (x : Idt) (w : World) (D : Nat) (e : Ending) (w' : World) : Prop := e = .returned (.tuple #[]) ∧
  (∃ vg vl cur, DoerL base w' D (a.free x) T F op vg vl vp vf vb cur) ∧ Gou.Mod (fun k => k = D) w w'

set_option maxHeartbeats 8000000 in
theorem removeC_any (base : Nat) (w : World) (D M : Nat) (a : Ar) (T : Ly) (F : List Nat) (op : Opr) (vg vl vp vf vb : Value) (cur : Array Value) (x : Idt) (hD : DoerL base w D a T F op vg vl vp vf vb cur) (hM : w.cell? ⟨M, 0, none⟩ = some (.pointer (some ⟨D, 0, none⟩))) (hMD : M ≠ D) (ha : ArFit a) :
    Calls Try.prog 40 #[.agg #[.int .i64 x.1, .int .i64 x.2], .pointer (some ⟨M, 0, none⟩)] w (FreedP base a T F op vp vf vb x w D) := by
  obtain ⟨⟨pg, cg, rfl⟩, ⟨pl, cl, rfl⟩⟩ := hD.ar.forms
  have HD := Lib.hid hD
  have HMD := Lib.hid hMD
  have HA := Lib.hid ha
  have HDlt := Lib.hid (Blk.lt hD.blk)
  have HM := Lib.hid hM
  have HMlt := Lib.hid (World.block_lt_of_cell? _ _ hM)
  clear hD hMD ha hM
  have HX := Lib.hid (Blk.new w 30 #[.int .i64 x.1, .int .i64 x.2])
  have HMa := Lib.hid (Gou.Mod.alloc0 w (.cells #[.int .i64 x.1, .int .i64 x.2] 30))
  go_enter Try.func40, Try.ntmps40
  go_upto_region 1 with fail
  generalize w.alloc (.cells #[.int .i64 x.1, .int .i64 x.2] 30) = W1 at *
  have HD1 := Lib.hid (HD.out.up HMa.out)
  have m0 := (HMa.out.cell (p := ⟨M, 0, none⟩) HMlt.out (fun h => h)).trans HM.out
  have HIr : Hid (W1.rangeAt w.heap.size 0 [.int .i64 x.1, .int .i64 x.2]) := Lib.hid (Blk.range (pre := []) (post := []) HX.out (by simp) rfl)
  have HNe : Hid (w.heap.size ≠ D) := Lib.hid (by have := HDlt.out; omega)
  have HAr : Hid (W1.drew.rangeAt D 0 [.slice pg a.gens.length cg, .slice pl a.live.length cl]) := Lib.hid (fun j v hv => by
    obtain ⟨c0, c1, _⟩ := (HD1.out.up (Gou.Mod.drew (fun _ => False) W1)).cell
    match j, hv with
    | 0, hv => simp at hv; rw [← hv]; exact c0
    | 1, hv => simp at hv; rw [← hv]; exact c1)
  refine wp_region_held_drew (S := fun w' => Gou.Mod (fun k => k = D) W1 w') (by kernel_rfl) (Gou.Mod.drew _ _) (fun hHeld => ?_)
  refine wpAnyH_take (i := 0) (oi := ({ dst := some 4, op := Op.load 64 (Operand.tmp 1), type := 64, pos := "scene.go:165", after := #[], guard := none } : Oper)) (v := .pointer (some ⟨D, 0, none⟩)) rfl (by kernel_rfl) (by kernel_rfl) (by kernel_rfl) (fun _ _ _ h => h) (Or.inl ⟨by rfl, ?_⟩) hHeld ?_
  · (intro w' hSw; (try dsimp only at hSw); have g := (hSw.cell (p := ⟨M, 0, none⟩) (World.block_lt_of_cell? _ _ m0) HMD.out).trans m0; clear hSw hHeld; go_simp; (try with_reducible rfl))
  try simp only [Act.put, List.setIfInBounds_toArray, List.set_cons_zero, List.set_cons_succ]
  refine wpAnyH_take (i := 1) (oi := ({ dst := some 5, op := Op.load 64 (Operand.tmp 1), type := 64, pos := "scene.go:165", after := #[], guard := none } : Oper)) (v := .pointer (some ⟨D, 0, none⟩)) rfl (by kernel_rfl) (by kernel_rfl) (by kernel_rfl) (fun _ _ _ h => h) (Or.inl ⟨by rfl, ?_⟩) hHeld ?_
  · (intro w' hSw; (try dsimp only at hSw); have g := (hSw.cell (p := ⟨M, 0, none⟩) (World.block_lt_of_cell? _ _ m0) HMD.out).trans m0; clear hSw hHeld; go_simp; (try with_reducible rfl))
  try simp only [Act.put, List.setIfInBounds_toArray, List.set_cons_zero, List.set_cons_succ]
  refine wpAnyH_take (i := 2) (oi := ({ dst := some 6, op := Op.nilCheck (Operand.tmp 5), type := 0, pos := "scene.go:165", after := #[{ on := 1, ground := Ground.data }], guard := none } : Oper)) (v := .pointer (some ⟨D, 0, none⟩)) rfl (by kernel_rfl) (by kernel_rfl) (by kernel_rfl) (fun _ _ _ h => h) (Or.inl ⟨by rfl, ?_⟩) hHeld ?_
  · (intro w' hSw; (try dsimp only at hSw); clear hSw hHeld; go_simp; (try with_reducible rfl))
  try simp only [Act.put, List.setIfInBounds_toArray, List.set_cons_zero, List.set_cons_succ]
  refine wpAnyH_take (i := 3) (oi := ({ dst := some 7, op := Op.fieldAddr 67 (Operand.tmp 6) 0, type := 0, pos := "scene.go:165", after := #[{ on := 2, ground := Ground.data }], guard := none } : Oper)) (v := .pointer (some ⟨D, 0, none⟩)) rfl (by kernel_rfl) (by kernel_rfl) (by kernel_rfl) (fun _ _ _ h => h) (Or.inl ⟨by rfl, ?_⟩) hHeld ?_
  · (intro w' hSw; (try dsimp only at hSw); clear hSw hHeld; go_simp; (try with_reducible rfl))
  try simp only [Act.put, List.setIfInBounds_toArray, List.set_cons_zero, List.set_cons_succ]
  refine wpAnyH_take (i := 4) (oi := ({ dst := some 8, op := Op.fieldAddr 47 (Operand.tmp 7) 0, type := 0, pos := "scene.go:165", after := #[{ on := 3, ground := Ground.data }], guard := none } : Oper)) (v := .pointer (some ⟨D, 0, none⟩)) rfl (by kernel_rfl) (by kernel_rfl) (by kernel_rfl) (fun _ _ _ h => h) (Or.inl ⟨by rfl, ?_⟩) hHeld ?_
  · (intro w' hSw; (try dsimp only at hSw); clear hSw hHeld; go_simp; (try with_reducible rfl))
  try simp only [Act.put, List.setIfInBounds_toArray, List.set_cons_zero, List.set_cons_succ]
  refine wpAnyH_take (i := 6) (oi := ({ dst := some 10, op := Op.load 30 (Operand.tmp 2), type := 30, pos := "scene.go:165", after := #[], guard := none } : Oper)) (v := .agg #[.int .i64 x.1, .int .i64 x.2]) rfl (by kernel_rfl) (by kernel_rfl) (by kernel_rfl) (fun _ _ _ h => h) (yieldsIf_load_mid (by rfl) 30 _ rfl w.heap.size (0) rfl ([.int .i64 x.1, .int .i64 x.2]) _ (fun w' hSw => range_up HIr.out hSw HNe.out) Try.underlying30 rfl size_id) hHeld ?_
  try simp only [Act.put, List.setIfInBounds_toArray, List.set_cons_zero, List.set_cons_succ]
  refine wpAnyH_ready (rs := [5]) (by kernel_rfl) (by simp) (AllReadyH.cons (o := ({ dst := some 9, op := Op.load 28 (Operand.tmp 8), type := 28, pos := "scene.go:165", after := #[{ on := 4, ground := Ground.data }], guard := none } : Oper)) rfl (fun K hK => ?_) AllReadyH.nil)
  rw [if_pos (by rfl)]
  refine wp_load_mid 28 _ rfl D (0) rfl ([.slice pg a.gens.length cg, .slice pl a.live.length cl]) _ (HAr.out) Try.underlying28 rfl size_arena ?_
  have M := Lib.hid hHeld
  clear hHeld
  refine hK _ _ M.out (fun hHeld => ?_)
  clear hK K M
  try simp only [Act.put, List.setIfInBounds_toArray, List.set_cons_zero, List.set_cons_succ]
  refine wpAnyH_ready (rs := [7]) (by kernel_rfl) (by simp) (AllReadyH.cons (o := ({ dst := some 11, op := Op.call { callee := Callee.value (Operand.func 41), args := #[Operand.tmp 9, Operand.tmp 10], argTypes := #[28, 30] }, type := 91, pos := "scene.go:165", after := #[{ on := 5, ground := Ground.data }, { on := 6, ground := Ground.data }], guard := none } : Oper)) rfl (fun K hK => ?_) AllReadyH.nil)
  go_simp
  refine (arFree_any _ _ _ a x ((HD1.out.up (Gou.Mod.drew (fun _ => False) W1)).ar.reads) HA.out.len HA.out.small HA.out.gen).mono ?_
  rintro e w4 ⟨hm4, vg4, vl4, q4, rfl, ha4⟩
  have M := Lib.hid (hHeld.trans' (hm4.imp (fun _ _ h => h.elim)))
  have HD4 := Lib.hid (HD1.out.up ((Gou.Mod.drew (fun _ => False) W1).trans' hm4))
  have HA4 := Lib.hid ha4
  have HM4 := Lib.hid ((HMa.out.trans' (Gou.Mod.drew (fun _ => False) W1)).trans' hm4)
  obtain ⟨⟨pg4, cg4, rfl⟩, ⟨pl4, cl4, rfl⟩⟩ := ha4.forms
  clear hm4 ha4
  clear hHeld
  refine hK _ _ M.out (fun hHeld => ?_)
  clear hK K M
  try simp only [Act.put, List.setIfInBounds_toArray, List.set_cons_zero, List.set_cons_succ]
  refine wpAnyH_take (i := 8) (oi := ({ dst := some 3, op := Op.move (Operand.tmp 11), type := 91, pos := "scene.go:165", after := #[{ on := 7, ground := Ground.data }], guard := none } : Oper)) (v := .tuple #[.agg #[.slice pg4 (a.free x).gens.length cg4, .slice pl4 (a.free x).live.length cl4], .bool q4]) rfl (by kernel_rfl) (by kernel_rfl) (by kernel_rfl) (fun _ _ _ h => h) (Or.inl ⟨by rfl, ?_⟩) hHeld ?_
  · (intro w' hSw; (try dsimp only at hSw); clear hSw hHeld; go_simp; (try with_reducible rfl))
  try simp only [Act.put, List.setIfInBounds_toArray, List.set_cons_zero, List.set_cons_succ]
  refine wpAnyH_take (i := 9) (oi := ({ dst := some 12, op := Op.extract (Operand.tmp 3) 0, type := 28, pos := "scene.go:165", after := #[{ on := 8, ground := Ground.data }], guard := none } : Oper)) (v := .agg #[.slice pg4 (a.free x).gens.length cg4, .slice pl4 (a.free x).live.length cl4]) rfl (by kernel_rfl) (by kernel_rfl) (by kernel_rfl) (fun _ _ _ h => h) (Or.inl ⟨by rfl, ?_⟩) hHeld ?_
  · (intro w' hSw; (try dsimp only at hSw); clear hSw hHeld; go_simp; (try with_reducible rfl))
  try simp only [Act.put, List.setIfInBounds_toArray, List.set_cons_zero, List.set_cons_succ]
  refine wpAnyH_take (i := 10) (oi := ({ dst := some 13, op := Op.extract (Operand.tmp 3) 1, type := 4, pos := "scene.go:165", after := #[{ on := 8, ground := Ground.data }, { on := 14, ground := Ground.gcOnly Departure.lateStores }], guard := none } : Oper)) (v := .bool q4) rfl (by kernel_rfl) (by kernel_rfl) (by kernel_rfl) (fun _ _ _ h => h) (Or.inl ⟨by rfl, ?_⟩) hHeld ?_
  · (intro w' hSw; (try dsimp only at hSw); clear hSw hHeld; go_simp; (try with_reducible rfl))
  try simp only [Act.put, List.setIfInBounds_toArray, List.set_cons_zero, List.set_cons_succ]
  refine wpAnyH_take (i := 11) (oi := ({ dst := some 14, op := Op.nilCheck (Operand.tmp 4), type := 0, pos := "scene.go:165", after := #[{ on := 0, ground := Ground.data }, { on := 0, ground := Ground.phase }, { on := 1, ground := Ground.phase }, { on := 2, ground := Ground.phase }, { on := 3, ground := Ground.phase }, { on := 4, ground := Ground.phase }, { on := 5, ground := Ground.phase }, { on := 6, ground := Ground.phase }, { on := 7, ground := Ground.phase }, { on := 8, ground := Ground.phase }, { on := 9, ground := Ground.phase }, { on := 10, ground := Ground.textOnly Departure.lateStores }], guard := none } : Oper)) (v := .pointer (some ⟨D, 0, none⟩)) rfl (by kernel_rfl) (by kernel_rfl) (by kernel_rfl) (fun _ _ _ h => h) (Or.inl ⟨by rfl, ?_⟩) hHeld ?_
  · (intro w' hSw; (try dsimp only at hSw); clear hSw hHeld; go_simp; (try with_reducible rfl))
  try simp only [Act.put, List.setIfInBounds_toArray, List.set_cons_zero, List.set_cons_succ]
  refine wpAnyH_take (i := 12) (oi := ({ dst := some 15, op := Op.fieldAddr 67 (Operand.tmp 14) 0, type := 0, pos := "scene.go:165", after := #[{ on := 11, ground := Ground.data }, { on := 0, ground := Ground.phase }, { on := 1, ground := Ground.phase }, { on := 2, ground := Ground.phase }, { on := 3, ground := Ground.phase }, { on := 4, ground := Ground.phase }, { on := 5, ground := Ground.phase }, { on := 6, ground := Ground.phase }, { on := 7, ground := Ground.phase }, { on := 8, ground := Ground.phase }, { on := 9, ground := Ground.phase }, { on := 10, ground := Ground.textOnly Departure.lateStores }], guard := none } : Oper)) (v := .pointer (some ⟨D, 0, none⟩)) rfl (by kernel_rfl) (by kernel_rfl) (by kernel_rfl) (fun _ _ _ h => h) (Or.inl ⟨by rfl, ?_⟩) hHeld ?_
  · (intro w' hSw; (try dsimp only at hSw); clear hSw hHeld; go_simp; (try with_reducible rfl))
  try simp only [Act.put, List.setIfInBounds_toArray, List.set_cons_zero, List.set_cons_succ]
  refine wpAnyH_take (i := 13) (oi := ({ dst := some 16, op := Op.fieldAddr 47 (Operand.tmp 15) 0, type := 0, pos := "scene.go:165", after := #[{ on := 12, ground := Ground.data }, { on := 0, ground := Ground.phase }, { on := 1, ground := Ground.phase }, { on := 2, ground := Ground.phase }, { on := 3, ground := Ground.phase }, { on := 4, ground := Ground.phase }, { on := 5, ground := Ground.phase }, { on := 6, ground := Ground.phase }, { on := 7, ground := Ground.phase }, { on := 8, ground := Ground.phase }, { on := 9, ground := Ground.phase }, { on := 10, ground := Ground.textOnly Departure.lateStores }], guard := none } : Oper)) (v := .pointer (some ⟨D, 0, none⟩)) rfl (by kernel_rfl) (by kernel_rfl) (by kernel_rfl) (fun _ _ _ h => h) (Or.inl ⟨by rfl, ?_⟩) hHeld ?_
  · (intro w' hSw; (try dsimp only at hSw); clear hSw hHeld; go_simp; (try with_reducible rfl))
  try simp only [Act.put, List.setIfInBounds_toArray, List.set_cons_zero, List.set_cons_succ]
  refine wpAnyH_ready (rs := [14]) (by kernel_rfl) (by simp) (AllReadyH.cons (o := ({ dst := none, op := Op.store 28 (Operand.tmp 16) (Operand.tmp 12), type := 0, pos := "scene.go:165", after := #[{ on := 13, ground := Ground.data }, { on := 9, ground := Ground.data }, { on := 7, ground := Ground.chain }, { on := 0, ground := Ground.phase }, { on := 1, ground := Ground.phase }, { on := 2, ground := Ground.phase }, { on := 3, ground := Ground.phase }, { on := 4, ground := Ground.phase }, { on := 5, ground := Ground.phase }, { on := 6, ground := Ground.phase }, { on := 7, ground := Ground.phase }, { on := 8, ground := Ground.phase }, { on := 9, ground := Ground.phase }, { on := 10, ground := Ground.textOnly Departure.lateStores }], guard := none } : Oper)) rfl (fun K hK => ?_) AllReadyH.nil)
  rw [if_pos (by rfl)]
  refine wp_store_mid 28 _ _ rfl D 0 #[.slice pg4 (a.free x).gens.length cg4, .slice pl4 (a.free x).live.length cl4] rfl rfl (HD4.out.blk.there 0 2 (by rw [HD4.out.size]; decide)) size_arena (by simp [Value.oneCell']) ?_
  have HS := Lib.hid (Blk.setMod w4 D 0 (#[.slice pg4 (a.free x).gens.length cg4, .slice pl4 (a.free x).live.length cl4] : Array Value).toList)
  have M' := Lib.hid (hHeld.trans' HS.out)
  have M := M'
  clear hHeld M'
  refine hK _ _ M.out (fun hHeld => ?_)
  clear hK K M
  try simp only [Act.put, List.setIfInBounds_toArray, List.set_cons_zero, List.set_cons_succ]
  have MS := Lib.hid hHeld
  refine wpAnyH_done (by kernel_rfl) ?_ _
  clear hHeld
  try simp only [Act.put]
  obtain ⟨cur2, h2⟩ := HD4.out.arena tI.2.1 tB.2.1 (a2 := a.free x) ⟨ownsRow_base HA4.out.g (Nat.le_trans HD.out.tree.ge (Nat.le_of_lt (Nat.lt_of_lt_of_le HDlt.out HMa.out.size))), ownsRow_base HA4.out.l (Nat.le_trans HD.out.tree.ge (Nat.le_of_lt (Nat.lt_of_lt_of_le HDlt.out HMa.out.size)))⟩
  have H2 := Lib.hid h2
  have HM5 := Lib.hid ((HM4.out.imp (S' := fun k => k = D) (fun _ _ h => h.elim)).trans' HS.out)
  clear h2 MS
  go_wp2_with fail
  go_end0
  exact ⟨rfl, ⟨_, _, cur2, H2.out⟩, HM5.out⟩

/-- An arena's bounds, after some frees. -/
structure ArN (a : Ar) (n : Nat) : Prop where
  len : a.gens.length = a.live.length
  small : a.live.length ≤ 1024
  gen : ∀ g ∈ a.gens, 0 ≤ g ∧ g ≤ n
theorem ArN.fit {a : Ar} {n : Nat} (h : ArN a n) (hn : n ≤ 1000000000000) : ArFit a := ⟨h.len, h.small, fun g hg => ⟨(h.gen g hg).1, by have := (h.gen g hg).2; omega⟩⟩
theorem ArN.free {a : Ar} {n : Nat} (h : ArN a n) (x : Idt) : ArN (a.free x) (n + 1) := by
  unfold Ar.free
  split
  · rename_i hx
    obtain ⟨i, h1, h2, h3⟩ := Ar.has_iff.1 hx.1
    refine ⟨by simp [h.len], by simpa using h.small, fun g hg => ?_⟩
    rcases List.mem_or_eq_of_mem_set hg with hg | rfl
    · have := h.gen g hg; omega
    · have := h.gen x.2 (List.mem_of_getElem? h3); omega
  · exact ⟨h.len, h.small, fun g hg => by have := h.gen g hg; omega⟩
theorem ArN.frees {L : List Idt} : ∀ {a : Ar} {n : Nat}, ArN a n → ArN (L.foldl Ar.free a) (n + L.length) := by
  induction L with
  | nil => intro a n h; exact h
  | cons x L ih =>
    intro a n h
    have := ih (h.free x)
    rw [List.length_cons, show n + (L.length + 1) = n + 1 + L.length by omega]
    exact this
theorem idsL_take {ks : List Ly} {j : Nat} (h : j < ks.length) : Ly.idsL (ks.take (j + 1)) = Ly.idsL (ks.take j) ++ ks[j].ids := by
  rw [Ly.idsL_eq, Ly.idsL_eq, List.take_succ_eq_append_getElem h, List.flatMap_append]
  simp
theorem idsL_take_le (ks : List Ly) (m : Nat) : (Ly.idsL (ks.take m)).length ≤ (Ly.idsL ks).length := by
  have e : Ly.idsL ks = Ly.idsL (ks.take m) ++ Ly.idsL (ks.drop m) := by
    rw [Ly.idsL_eq, Ly.idsL_eq, Ly.idsL_eq, ← List.flatMap_append, List.take_append_drop]
  rw [e, List.length_append]
  omega

/-- What each leaves. -/
def EachP (base : Nat) (a : Ar) (L : List Idt) (T0 : Ly) (F : List Nat) (op : Opr) (vp vf vb : Value) (w : World) (D : Nat) (e : Ending) (w' : World) : Prop := e = .returned (.tuple #[]) ∧
  (∃ vg vl cur, DoerL base w' D (L.foldl Ar.free a) T0 F op vg vl vp vf vb cur) ∧ Gou.Mod (fun k => k = D) w w'

set_option maxHeartbeats 8000000 in
theorem each_any (base D M : Nat) (T0 : Ly) (F : List Nat) (op : Opr) (vp vf vb : Value) : ∀ (T : Ly) (n : Nat) (w : World) (a : Ar) (vg vl : Value) (cur : Array Value) (kp kf kb kk : Value), LyR (fun b => b ≠ D) w (lyA T.id T.look kp kf kb kk).toList T →
    DoerL base w D a T0 F op vg vl vp vf vb cur → w.cell? ⟨M, 0, none⟩ = some (.pointer (some ⟨D, 0, none⟩)) → M ≠ D → TFit T → ArN a n → n + T.ids.length ≤ 1000000000000 →
    Calls Try.prog 38 #[.agg (lyA T.id T.look kp kf kb kk), .func (.func 40) #[] #[.pointer (some ⟨M, 0, none⟩)]] w (EachP base a T.ids T0 F op vp vf vb w D) := by
  intro T
  induction T using Ly.ind with
  | h i lk ks ih =>
    intro n w a vg vl cur vp1 vf1 vb1 vk hr hD hM hMD hft hA hn
    obtain ⟨hl, css, hrow, hcl, hk⟩ := hr.parts
    simp only [Ly.id_mk, Ly.look_mk, Ly.kids_mk, Ly.ids_mk] at hl hrow hcl hk hn ⊢
    obtain ⟨pk, ck, rfl⟩ := RowG.slice hrow
    have hlen := hft.len
    rw [Ly.kids_mk] at hlen
    rw [List.length_cons] at hn
    have Hrow := Lib.hid hrow
    have Hcl := Lib.hid hcl
    have Hk := Lib.hid hk
    have Hft := Lib.hid hft
    have Ih := Lib.hid ih
    have Hlen := Lib.hid hlen
    have HD := Lib.hid hD
    have HM := Lib.hid hM
    have HMlt := Lib.hid (World.block_lt_of_cell? _ _ hM)
    have HMD := Lib.hid hMD
    have HA := Lib.hid hA
    have Hn := Lib.hid hn
    have HDlt := Lib.hid (Blk.lt hD.blk)
    clear hl hrow hcl hk hr hft ih hlen hD hM hMD hA hn
    have HB := Lib.hid (Blk.new w 45 (lyA i lk vp1 vf1 vb1 (.slice pk ks.length ck)))
    have HMa := Lib.hid (Gou.Mod.alloc0 w (.cells (lyA i lk vp1 vf1 vb1 (.slice pk ks.length ck)) 45))
    have c0 : (w.alloc (.cells (lyA i lk vp1 vf1 vb1 (.slice pk ks.length ck)) 45)).cell? ⟨w.heap.size, 0, none⟩ = some (.int .i64 i.1) := HB.out.cell 0 rfl
    have c1 : (w.alloc (.cells (lyA i lk vp1 vf1 vb1 (.slice pk ks.length ck)) 45)).cell? ⟨w.heap.size, 1, none⟩ = some (.int .i64 i.2) := HB.out.cell 1 rfl
    go_enter Try.func38, Try.ntmps38
    go_wp2_with fail
    generalize w.alloc (.cells (lyA i lk vp1 vf1 vb1 (.slice pk ks.length ck)) 45) = W1 at *
    refine (removeC_any base W1 D M a T0 F op vg vl vp vf vb cur i (HD.out.up HMa.out) ((HMa.out.cell (p := ⟨M, 0, none⟩) HMlt.out (fun h => h)).trans HM.out) HMD.out (HA.out.fit (by have := Hn.out; omega))).mono ?_
    rintro e w2 ⟨rfl, ⟨vg2, vl2, cur2, hD2⟩, hm2⟩
    have HD2 := Lib.hid hD2
    have Hm2 := Lib.hid (HMa.out.imp (S' := fun k => k = D) (fun _ _ h => h.elim) |>.trans' hm2)
    have c30 : w2.cell? ⟨w.heap.size, 30, none⟩ = some (.slice pk ks.length ck) := (HB.out.mod hm2 (by have := HDlt.out; omega)).cell 30 rfl
    clear hD2 hm2 c0 c1 HB HMa
    go_wp2_with fail
    go_loopw [13] (fun vi wr => ∃ j : Nat, vi = .int .i64 j ∧ j ≤ ks.length ∧ (∃ vg vl cur, DoerL base wr D ((i :: Ly.idsL (ks.take j)).foldl Ar.free a) T0 F op vg vl vp vf vb cur) ∧ Gou.Mod (fun k => k = D) w wr) (fun vi _ => ks.length - (intOf vi).toNat)
    case atStart => exact ⟨0, rfl, Nat.zero_le _, ⟨_, _, _, HD2.out⟩, Hm2.out⟩
    case round =>
      obtain ⟨j, rfl, hj, ⟨vg3, vl3, cur3, hd3⟩, hm⟩ := hrel
      have Hm := Lib.hid hm
      have HD3 := Lib.hid hd3
      clear hm hd3 c30 HD2 Hm2
      by_cases hil : j < ks.length
      · obtain ⟨b, o, kp, kf, kb, kk, rfl, hbl, hbD, hrg, hkr⟩ := LyR.kidR Hrow.out Hcl.out rfl Hk.out hil
        have Hrg := Lib.hid (range_up hrg Hm.out hbD)
        have Hst : Hid ((i :: Ly.idsL (ks.take (j + 1))).foldl Ar.free a = ks[j].ids.foldl Ar.free ((i :: Ly.idsL (ks.take j)).foldl Ar.free a)) := Lib.hid (by rw [idsL_take hil, ← List.cons_append, List.foldl_append])
        have HNj : Hid (n + (i :: Ly.idsL (ks.take j)).length + ks[j].ids.length ≤ 1000000000000) := Lib.hid (by
          have h1 := idsL_take_le ks (j + 1)
          rw [idsL_take hil, List.length_append] at h1
          rw [List.length_cons]
          have := Hn.out
          omega)
        have HAj := Lib.hid (ArN.frees (L := i :: Ly.idsL (ks.take j)) HA.out)
        have Hkr := Lib.hid (hkr.mod Hm.out (fun k _ hk e => hk e))
        have Hfk := Lib.hid (Hft.out.kids ks[j] (by rw [Ly.kids_mk]; exact List.getElem_mem hil))
        have Hik := Lib.hid (Ih.out ks[j] (List.getElem_mem hil))
        have Hil := Lib.hid hil
        clear hrg hkr hbl hbD
        generalize ks[j] = kd at *
        generalize (i :: Ly.idsL (ks.take j)).length = nj at *
        generalize (i :: Ly.idsL (ks.take j)).foldl Ar.free a = aj at *
        go_upto_region 5 with (first | ((with_reducible refine wpList_load_mid ?g1_1 45 ?x1_1 ?o1_1 (b) (o + j * 31) ?h1_1 ((lyA kd.id kd.look kp kf kb kk).toList) ?d1_1 ?c1_1 ?u1_1 ?e1_1 ?i1_1 ?r1_1); (case g1_1 => exact rfl); (case o1_1 => exact rfl); (case h1_1 => exact rfl); (case c1_1 => exact Hrg.out); (case u1_1 => exact Try.underlying45); (case e1_1 => exact rfl); (case i1_1 => exact size_layer)) | ((with_reducible refine wpList_store_mid ?g1_2 45 ?x1_2 ?y1_2 ?o1_2 (wr.heap.size) (0) (lyA kd.id kd.look kp kf kb kk) ?h1_2 ?j1_2 ?t1_2 ?i1_2 ?s1_2 ?r1_2); (case g1_2 => exact rfl); (case o1_2 => exact rfl); (case h1_2 => exact rfl); (case j1_2 => exact rfl); (case t1_2 => exact (Blk.new wr 45 (List.toArray (Value.int .i64 0 :: Value.int .i64 0 :: Value.int .i64 0 :: Value.int .i64 0 :: Value.bool false :: Value.int .i64 0 :: Value.int .i64 0 :: Value.int .i64 0 :: Value.int .i64 0 :: Value.int .i64 0 :: Value.int .i64 0 :: Value.int .i64 0 :: Value.int .i64 0 :: Value.int .i64 0 :: Value.int .i64 0 :: Value.int .i64 0 :: Value.int .u8 0 :: Value.int .u8 0 :: Value.int .u8 0 :: Value.int .u8 0 :: Value.int .i64 0 :: Value.int .i64 0 :: Value.int .i64 0 :: Value.slice none 0 0 :: Value.bool false :: Value.slice none 0 0 :: Value.int .i64 0 :: Value.bool false :: Value.slice none 0 0 :: Value.int .i64 0 :: Value.slice none 0 0 :: []))).there 0 31 (by simp)); (case i1_2 => exact size_layer); (case s1_2 => exact all_one (LyR.one Hkr.out))) | fail)
        have HB5 := Lib.hid ((Blk.new wr 45 (List.toArray (Value.int .i64 0 :: Value.int .i64 0 :: Value.int .i64 0 :: Value.int .i64 0 :: Value.bool false :: Value.int .i64 0 :: Value.int .i64 0 :: Value.int .i64 0 :: Value.int .i64 0 :: Value.int .i64 0 :: Value.int .i64 0 :: Value.int .i64 0 :: Value.int .i64 0 :: Value.int .i64 0 :: Value.int .i64 0 :: Value.int .i64 0 :: Value.int .u8 0 :: Value.int .u8 0 :: Value.int .u8 0 :: Value.int .u8 0 :: Value.int .i64 0 :: Value.int .i64 0 :: Value.int .i64 0 :: Value.slice none 0 0 :: Value.bool false :: Value.slice none 0 0 :: Value.int .i64 0 :: Value.bool false :: Value.slice none 0 0 :: Value.int .i64 0 :: Value.slice none 0 0 :: []))).setAll (lyA kd.id kd.look kp kf kb kk) rfl)
        have HM3 : Hid (Gou.Mod (fun _ => False) wr ((wr.alloc (.cells (List.toArray (Value.int .i64 0 :: Value.int .i64 0 :: Value.int .i64 0 :: Value.int .i64 0 :: Value.bool false :: Value.int .i64 0 :: Value.int .i64 0 :: Value.int .i64 0 :: Value.int .i64 0 :: Value.int .i64 0 :: Value.int .i64 0 :: Value.int .i64 0 :: Value.int .i64 0 :: Value.int .i64 0 :: Value.int .i64 0 :: Value.int .i64 0 :: Value.int .u8 0 :: Value.int .u8 0 :: Value.int .u8 0 :: Value.int .u8 0 :: Value.int .i64 0 :: Value.int .i64 0 :: Value.int .i64 0 :: Value.slice none 0 0 :: Value.bool false :: Value.slice none 0 0 :: Value.int .i64 0 :: Value.bool false :: Value.slice none 0 0 :: Value.int .i64 0 :: Value.slice none 0 0 :: [])) 45)).setCells wr.heap.size 0 (lyA kd.id kd.look kp kf kb kk).toList)) := Lib.hid (Gou.Mod.allocSet _ _ _)
        generalize (wr.alloc (.cells (List.toArray (Value.int .i64 0 :: Value.int .i64 0 :: Value.int .i64 0 :: Value.int .i64 0 :: Value.bool false :: Value.int .i64 0 :: Value.int .i64 0 :: Value.int .i64 0 :: Value.int .i64 0 :: Value.int .i64 0 :: Value.int .i64 0 :: Value.int .i64 0 :: Value.int .i64 0 :: Value.int .i64 0 :: Value.int .i64 0 :: Value.int .i64 0 :: Value.int .u8 0 :: Value.int .u8 0 :: Value.int .u8 0 :: Value.int .u8 0 :: Value.int .i64 0 :: Value.int .i64 0 :: Value.int .i64 0 :: Value.slice none 0 0 :: Value.bool false :: Value.slice none 0 0 :: Value.int .i64 0 :: Value.bool false :: Value.slice none 0 0 :: Value.int .i64 0 :: Value.slice none 0 0 :: [])) 45)).setCells wr.heap.size 0 (lyA kd.id kd.look kp kf kb kk).toList = W3 at *
        have HB5w := Lib.hid HB5.out.whole
        go_wp2_with (first | ((with_reducible refine wpList_load_mid ?g1_3 45 ?x1_3 ?o1_3 (wr.heap.size) (0) ?h1_3 ((lyA kd.id kd.look kp kf kb kk).toList) ?d1_3 ?c1_3 ?u1_3 ?e1_3 ?i1_3 ?r1_3); (case g1_3 => exact rfl); (case o1_3 => exact rfl); (case h1_3 => exact rfl); (case c1_3 => exact HB5w.out); (case u1_3 => exact Try.underlying45); (case e1_3 => exact rfl); (case i1_3 => exact size_layer)) | fail)
        refine (Hik.out (n + nj) W3 aj vg3 vl3 cur3 kp kf kb kk (Hkr.out.up HM3.out) (HD3.out.up HM3.out) ((((Hm.out.trans' (HM3.out.imp (fun _ _ h => h.elim))).cell (p := ⟨M, 0, none⟩) HMlt.out HMD.out)).trans HM.out) HMD.out Hfk.out HAj.out HNj.out).mono ?_
        rintro e w4 ⟨rfl, ⟨vg4, vl4, cur4, hD4⟩, hm4⟩
        have HD4 := Lib.hid hD4
        have HM4 := Lib.hid ((Hm.out.trans' (HM3.out.imp (fun _ _ h => h.elim))).trans' hm4)
        clear hm4 hD4 HB5w HB5 HM3
        have hwi : wrap64 ((j : Int) + 1) = ((j + 1 : Nat) : Int) := by have := Hil.out; have := Hlen.out; unfold wrap64; omega
        go_wp2_with fail
        go_roundw
        case rel => exact ⟨j + 1, by rw [← hwi], by have := Hil.out; omega, ⟨vg4, vl4, cur4, by rw [Hst.out]; exact HD4.out⟩, HM4.out⟩
        case measure => rw [hwi]; have := Hil.out; simp only [intOf]; omega
      · have hil' : j = ks.length := by omega
        subst hil'
        rw [List.take_length] at HD3
        go_wp2_with fail
        go_end0
        exact ⟨rfl, ⟨vg3, vl3, cur3, HD3.out⟩, Hm.out⟩

theorem LyO.readsG {TL TD : TypeId} {base : Nat} {G : Nat → Prop} {w : World} {c : List Value} {T : Ly} {F : List Nat} (h : LyO TL TD base w c T F) (h1 : ∀ b ∈ F, G b) (h2 : ∀ b, LookG TL TD base w b → G b) : LyR G w c T := by
  induction h with
  | mk i lk ks vp vf vb vk css fs hl hr hn hf hk hd ih =>
    refine .mk i lk ks vp vf vb vk css (hl.imp (fun k _ hk => h2 k hk)) (RowG.own_of hr (fun b hb _ => h1 b (by rw [hb]; simp))) hn (fun j c k a1 a2 => ?_)
    have hj := (List.getElem?_eq_some_iff.1 a1).1
    have hfj : fs[j]? = some fs[j] := List.getElem?_eq_getElem (by omega)
    exact ih j c k fs[j] a1 a2 hfj (fun b hb => h1 b (List.mem_append_right _ (List.mem_flatten.2 ⟨_, List.mem_of_getElem? hfj, hb⟩)))

/-- What remove leaves. -/
def RemoveP (base : Nat) (a : Ar) (T : Ly) (F : List Nat) (op : Opr) (vp vf vb : Value) (s k : Ly) (π : List Nat) (i : Nat) (w : World) (D : Nat) (e : Ending) (w' : World) : Prop := e = .returned (.int .i64 0) ∧
  (∃ vg vl cur F3, DoerL base w' D (k.ids.foldl Ar.free a) (T.put π (.mk s.id s.look (s.kids.eraseIdx i))) F3 op vg vl vp vf vb cur) ∧ Gou.Mod (fun x => x = D ∨ x ∈ F) w w'

set_option maxHeartbeats 8000000 in
theorem remove_any (base : Nat) (w : World) (D : Nat) (a : Ar) (T : Ly) (F : List Nat) (op : Opr) (vg vl vp vf vb : Value) (cur : Array Value) (hD : DoerL base w D a T F op vg vl vp vf vb cur) (π : List Nat) (i : Nat) (s k : Ly) (hp : T.parPath op.id = some (π, i)) (hs : T.get? π = some s) (hk : s.kids[i]? = some k) (hn : s.kids.length ≤ 1000000)
    (hft : TFit k) (n : Nat) (hA : ArN a n) (hids : n + k.ids.length ≤ 1000000000000) :
    Calls Try.prog 29 #[.pointer (some ⟨D, 0, none⟩)] w (RemoveP base a T F op vp vf vb s k π i w D) := by
  have HD := Lib.hid hD
  have Hp := Lib.hid hp
  have Hs := Lib.hid hs
  have Hk := Lib.hid hk
  have Hn := Lib.hid hn
  have Hft := Lib.hid hft
  have HA := Lib.hid hA
  have HI := Lib.hid hids
  have HDlt := Lib.hid (Blk.lt hD.blk)
  have HFlt : Hid (∀ x ∈ F, x < w.heap.size) := Lib.hid (fun x hx => by
    obtain ⟨⟨c, _, _, g1, _⟩, _, _⟩ := hD.tree
    exact (g1.rows x hx).2.1)
  clear hD hp hs hk hn hft hA hids
  have HB := Lib.hid (Blk.new w 64 #[.pointer (some ⟨D, 0, none⟩)])
  have HMa := Lib.hid (Gou.Mod.alloc0 w (.cells #[.pointer (some ⟨D, 0, none⟩)] 64))
  have c0 : (w.alloc (.cells #[.pointer (some ⟨D, 0, none⟩)] 64)).cell? ⟨w.heap.size, 0, none⟩ = some (.pointer (some ⟨D, 0, none⟩)) := HB.out.cell 0 rfl
  go_enter Try.func29, Try.ntmps29
  go_wp2_with fail
  generalize w.alloc (.cells #[.pointer (some ⟨D, 0, none⟩)] 64) = W1 at *
  refine (cut_any base W1 D a T F op vg vl vp vf vb cur (HD.out.up HMa.out) π i s k Hp.out Hs.out Hk.out Hn.out).mono ?_
  rintro e w2 ⟨kp, kf, kb, kk, f, F3, cur3, rfl, hd2, hk2, hx2, hy2, hm2, _⟩
  have HD2 := Lib.hid hd2
  have HK2 := Lib.hid (LyO.readsG (G := fun b => b ≠ D) hk2 (fun b hb e => HD.out.tree.out (e ▸ hy2 b hb)) (fun b hb e => hd2.tree.notLook (e ▸ hb.2)))
  have HM2 := Lib.hid (HMa.out.imp (S' := fun x => x = D ∨ x ∈ F) (fun _ _ h => h.elim) |>.trans' hm2)
  have m2 := Lib.hid ((HB.out.mod hm2 (by rintro (e | e); exact absurd HDlt.out (by omega); exact absurd (HFlt.out _ e) (by omega))).cell 0 rfl)
  have HMD : Hid (w.heap.size ≠ D) := Lib.hid (by have := HDlt.out; omega)
  clear hd2 hk2 hx2 hy2 hm2 c0 HB HMa
  go_wp2_with fail
  refine (each_any base D w.heap.size _ F3 op vp vf vb k n w2 a vg vl cur3 kp kf kb kk HK2.out HD2.out m2.out HMD.out Hft.out HA.out HI.out).mono ?_
  rintro e w3 ⟨rfl, ⟨vg3, vl3, cur4, hd3⟩, hm3⟩
  have HD3 := Lib.hid hd3
  have HM3 := Lib.hid (HM2.out.trans' (hm3.imp (fun _ _ h => .inl h)))
  clear hd3 hm3 HK2 HD2 m2
  go_wp2_with fail
  go_ret
  exact ⟨rfl, ⟨vg3, vl3, cur4, F3, HD3.out⟩, HM3.out⟩

end Go.Proofs.Ytpbmfalokongfaa

/- Scenes: the code's reorder. -/
namespace Go.Gou
theorem Ly.get_put : ∀ {π : List Nat} {T s s2 : Ly}, T.get? π = some s → (T.put π s2).get? π = some s2
  | [], T, s, s2, _ => by rw [Ly.put, Ly.get?]
  | i :: π, T, s, s2, h => by
    rw [Ly.get?] at h
    cases hk : T.kids[i]? with
    | none => rw [hk] at h; cases h
    | some k =>
      rw [hk] at h
      have hi := (List.getElem?_eq_some_iff.1 hk).1
      rw [Ly.put, hk]
      simp only
      rw [Ly.get?, Ly.kids_mk, List.getElem?_set_self hi]
      exact Ly.get_put h
end Go.Gou
namespace Go.Proofs.Ytpbmfalokongfaa
open Go.RowKit Go.Gou
set_option maxRecDepth 100000

/-- put, as the doer sees it. -/
theorem doer_put (base : Nat) (w : World) (D : Nat) (a : Ar) (T : Ly) (F : List Nat) (op : Opr) (vg vl vp vf vb : Value) (cur : Array Value) (hD : DoerL base w D a T F op vg vl vp vf vb cur) {π : List Nat} {s : Ly} {b' o' : Nat} {F' : List Nat} (hz : ZoomL base w D 2 T F π s b' o' F') (k : Ly) (f : List Nat) (kp kf kb kk : Value)
    (hk : LyO 45 67 base w (lyA k.id k.look kp kf kb kk).toList k f) (hf : ∀ x ∈ f, x ∉ F ∧ x ≠ D) (i : Nat) (hi : i ≤ s.kids.length) (hn : s.kids.length ≤ 1000000) :
    Calls Try.prog 34 #[.pointer (some ⟨b', o', none⟩), .int .i64 i, .agg (lyA k.id k.look kp kf kb kk)] w fun e w' => e = .returned (.tuple #[]) ∧
      (∃ F3 cur3, DoerL base w' D a (T.put π (.mk s.id s.look (s.kids.take i ++ k :: s.kids.drop i))) F3 op vg vl vp vf vb cur3) ∧ Gou.Mod (fun x => x = D ∨ x ∈ F) w w' := by
  have hb : b' = D ∨ b' ∈ F := hz.blk.imp (fun h => h.1) id
  refine (put_any base w b' o' i s F' k f kp kf kb kk hz.sub hk (fun x hx => ⟨fun h => (hf x hx).1 (hz.rows x h), fun e => ?_⟩) hi hn).mono ?_
  · rcases hb with h | h
    · exact (hf x hx).2 (e.trans h)
    · exact (hf x hx).1 (e ▸ h)
  · rintro e w' ⟨rfl, F2, h2, fr, hx2⟩
    obtain ⟨F3, cur3, h3, _⟩ := hD.step tI tB hz h2 fr (fun x hx => by
      rcases hx2 x hx with h | h | h
      · exact .inl h
      · exact .inr ⟨(hf x h).1, (hf x h).2⟩
      · refine .inr ⟨fun hh => ?_, fun e => ?_⟩
        · obtain ⟨⟨c, _, _, g1, _⟩, _, _⟩ := hD.tree
          have := (g1.rows x hh).2.1
          omega
        · have := Blk.lt hD.blk
          omega)
    exact ⟨rfl, ⟨F3, cur3, h3⟩, fr.mod.imp (fun x _ hx => by
      rcases hx with rfl | hx | hx
      · exact hb
      · exact .inr (hz.rows x hx)
      · exact hx.elim)⟩

/-- What reorder leaves. -/
def ReorderP (base : Nat) (a : Ar) (T : Ly) (F : List Nat) (op : Opr) (vp vf vb : Value) (s k : Ly) (π : List Nat) (i : Nat) (w : World) (D : Nat) (e : Ending) (w' : World) : Prop := Gou.Mod (fun x => x = D ∨ x ∈ F) w w' ∧
  ((op.at_ < 0 ∨ (s.kids.length : Int) ≤ op.at_) → e = .returned (.int .i64 3)) ∧
  (∀ n : Nat, op.at_ = n → n < s.kids.length → e = .returned (.int .i64 0) ∧ ∃ vg vl cur F3, DoerL base w' D a ((T.put π (.mk s.id s.look (s.kids.eraseIdx i))).put π (.mk s.id s.look ((s.kids.eraseIdx i).take n ++ k :: (s.kids.eraseIdx i).drop n))) F3 op vg vl vp vf vb cur)

set_option maxHeartbeats 8000000 in
theorem reorder_any (base : Nat) (w : World) (D : Nat) (a : Ar) (T : Ly) (F : List Nat) (op : Opr) (vg vl vp vf vb : Value) (cur : Array Value) (hD : DoerL base w D a T F op vg vl vp vf vb cur) (π : List Nat) (i : Nat) (s k : Ly) (hp : T.parPath op.id = some (π, i)) (hs : T.get? π = some s) (hk : s.kids[i]? = some k) (hn : s.kids.length ≤ 1000000) :
    Calls Try.prog 31 #[.pointer (some ⟨D, 0, none⟩)] w (ReorderP base a T F op vp vf vb s k π i w D) := by
  have HD := Lib.hid hD
  have Hp := Lib.hid hp
  have Hs := Lib.hid hs
  have Hk := Lib.hid hk
  have Hn := Lib.hid hn
  have HDlt := Lib.hid (Blk.lt hD.blk)
  clear hD hp hs hk hn
  go_enter Try.func31, Try.ntmps31
  go_wp2_with fail
  have HIr : Hid (w.rangeAt D 34 [.int .i64 op.id.1, .int .i64 op.id.2]) := Lib.hid (fun j v hv => by
    obtain ⟨_, _, _, c34, c35, _⟩ := HD.out.cell
    match j, hv with
    | 0, hv => simp at hv; rw [← hv]; exact c34
    | 1, hv => simp at hv; rw [← hv]; exact c35)
  refine wp_region_held_drew (S := fun w' => Gou.Mod (fun _ => False) w w') (by kernel_rfl) (Gou.Mod.drew _ _) (fun hHeld => ?_)
  refine wpAnyH_take (i := 0) (oi := ({ dst := some 6, op := Op.move (Operand.tmp 0), type := 64, pos := "scene.go:186", after := #[], guard := none } : Oper)) (v := .pointer (some ⟨D, 0, none⟩)) rfl (by kernel_rfl) (by kernel_rfl) (by kernel_rfl) (fun _ _ _ h => h) (Or.inl ⟨by rfl, ?_⟩) hHeld ?_
  · (intro w' hSw; (try dsimp only at hSw); clear hSw hHeld; go_simp; (try with_reducible rfl))
  try simp only [Act.put, List.setIfInBounds_toArray, List.set_cons_zero, List.set_cons_succ]
  refine wpAnyH_take (i := 1) (oi := ({ dst := some 7, op := Op.nilCheck (Operand.tmp 6), type := 0, pos := "scene.go:186", after := #[{ on := 0, ground := Ground.data }], guard := none } : Oper)) (v := .pointer (some ⟨D, 0, none⟩)) rfl (by kernel_rfl) (by kernel_rfl) (by kernel_rfl) (fun _ _ _ h => h) (Or.inl ⟨by rfl, ?_⟩) hHeld ?_
  · (intro w' hSw; (try dsimp only at hSw); clear hSw hHeld; go_simp; (try with_reducible rfl))
  try simp only [Act.put, List.setIfInBounds_toArray, List.set_cons_zero, List.set_cons_succ]
  refine wpAnyH_take (i := 2) (oi := ({ dst := some 8, op := Op.fieldAddr 67 (Operand.tmp 7) 0, type := 0, pos := "scene.go:186", after := #[{ on := 1, ground := Ground.data }], guard := none } : Oper)) (v := .pointer (some ⟨D, 0, none⟩)) rfl (by kernel_rfl) (by kernel_rfl) (by kernel_rfl) (fun _ _ _ h => h) (Or.inl ⟨by rfl, ?_⟩) hHeld ?_
  · (intro w' hSw; (try dsimp only at hSw); clear hSw hHeld; go_simp; (try with_reducible rfl))
  try simp only [Act.put, List.setIfInBounds_toArray, List.set_cons_zero, List.set_cons_succ]
  refine wpAnyH_take (i := 3) (oi := ({ dst := some 9, op := Op.fieldAddr 47 (Operand.tmp 8) 1, type := 0, pos := "scene.go:186", after := #[{ on := 2, ground := Ground.data }], guard := none } : Oper)) (v := .pointer (some ⟨D, 2, none⟩)) rfl (by kernel_rfl) (by kernel_rfl) (by kernel_rfl) (fun _ _ _ h => h) (Or.inl ⟨by rfl, ?_⟩) hHeld ?_
  · (intro w' hSw; (try dsimp only at hSw); clear hSw hHeld; go_simp; (try with_reducible rfl))
  try simp only [Act.put, List.setIfInBounds_toArray, List.set_cons_zero, List.set_cons_succ]
  refine wpAnyH_take (i := 4) (oi := ({ dst := some 10, op := Op.move (Operand.tmp 0), type := 64, pos := "scene.go:186", after := #[], guard := none } : Oper)) (v := .pointer (some ⟨D, 0, none⟩)) rfl (by kernel_rfl) (by kernel_rfl) (by kernel_rfl) (fun _ _ _ h => h) (Or.inl ⟨by rfl, ?_⟩) hHeld ?_
  · (intro w' hSw; (try dsimp only at hSw); clear hSw hHeld; go_simp; (try with_reducible rfl))
  try simp only [Act.put, List.setIfInBounds_toArray, List.set_cons_zero, List.set_cons_succ]
  refine wpAnyH_take (i := 5) (oi := ({ dst := some 11, op := Op.nilCheck (Operand.tmp 10), type := 0, pos := "scene.go:186", after := #[{ on := 4, ground := Ground.data }], guard := none } : Oper)) (v := .pointer (some ⟨D, 0, none⟩)) rfl (by kernel_rfl) (by kernel_rfl) (by kernel_rfl) (fun _ _ _ h => h) (Or.inl ⟨by rfl, ?_⟩) hHeld ?_
  · (intro w' hSw; (try dsimp only at hSw); clear hSw hHeld; go_simp; (try with_reducible rfl))
  try simp only [Act.put, List.setIfInBounds_toArray, List.set_cons_zero, List.set_cons_succ]
  refine wpAnyH_take (i := 6) (oi := ({ dst := some 12, op := Op.fieldAddr 67 (Operand.tmp 11) 1, type := 0, pos := "scene.go:186", after := #[{ on := 5, ground := Ground.data }], guard := none } : Oper)) (v := .pointer (some ⟨D, 33, none⟩)) rfl (by kernel_rfl) (by kernel_rfl) (by kernel_rfl) (fun _ _ _ h => h) (Or.inl ⟨by rfl, ?_⟩) hHeld ?_
  · (intro w' hSw; (try dsimp only at hSw); clear hSw hHeld; go_simp; (try with_reducible rfl))
  try simp only [Act.put, List.setIfInBounds_toArray, List.set_cons_zero, List.set_cons_succ]
  refine wpAnyH_take (i := 7) (oi := ({ dst := some 13, op := Op.fieldAddr 53 (Operand.tmp 12) 1, type := 0, pos := "scene.go:186", after := #[{ on := 6, ground := Ground.data }], guard := none } : Oper)) (v := .pointer (some ⟨D, 34, none⟩)) rfl (by kernel_rfl) (by kernel_rfl) (by kernel_rfl) (fun _ _ _ h => h) (Or.inl ⟨by rfl, ?_⟩) hHeld ?_
  · (intro w' hSw; (try dsimp only at hSw); clear hSw hHeld; go_simp; (try with_reducible rfl))
  try simp only [Act.put, List.setIfInBounds_toArray, List.set_cons_zero, List.set_cons_succ]
  refine wpAnyH_take (i := 8) (oi := ({ dst := some 14, op := Op.load 30 (Operand.tmp 13), type := 30, pos := "scene.go:186", after := #[{ on := 7, ground := Ground.data }], guard := none } : Oper)) (v := .agg #[.int .i64 op.id.1, .int .i64 op.id.2]) rfl (by kernel_rfl) (by kernel_rfl) (by kernel_rfl) (fun _ _ _ h => h) (yieldsIf_load_mid (by rfl) 30 _ rfl D (34) rfl ([.int .i64 op.id.1, .int .i64 op.id.2]) _ (fun w' hSw => range_up HIr.out hSw (fun h => h)) Try.underlying30 rfl size_id) hHeld ?_
  try simp only [Act.put, List.setIfInBounds_toArray, List.set_cons_zero, List.set_cons_succ]
  refine wpAnyH_ready (rs := [9]) (by kernel_rfl) (by simp) (AllReadyH.cons (o := ({ dst := some 15, op := Op.call { callee := Callee.value (Operand.func 43), args := #[Operand.tmp 9, Operand.tmp 14], argTypes := #[71, 30] }, type := 72, pos := "scene.go:186", after := #[{ on := 3, ground := Ground.data }, { on := 8, ground := Ground.data }], guard := none } : Oper)) rfl (fun K hK => ?_) AllReadyH.nil)
  go_simp
  refine (parent_any base op.id T _ D 2 F (HD.out.up hHeld).tree).mono ?_
  rintro e w4 ⟨hm4, _, hs4⟩
  obtain ⟨b', o', F', s', rfl, hz4⟩ := hs4 _ Hp.out
  have hss : s' = s := by
    have := hz4.get
    rw [Hs.out] at this
    exact (Option.some.inj this).symm
  subst hss
  have M := Lib.hid (hHeld.trans' hm4)
  have Hz4 := Lib.hid hz4
  clear hHeld hm4 hs4 hz4
  refine hK _ _ M.out (fun hHeld => ?_)
  clear hK K M
  try simp only [Act.put, List.setIfInBounds_toArray, List.set_cons_zero, List.set_cons_succ]
  refine wpAnyH_take (i := 10) (oi := ({ dst := some 5, op := Op.move (Operand.tmp 15), type := 72, pos := "scene.go:186", after := #[{ on := 9, ground := Ground.data }], guard := none } : Oper)) (v := .tuple #[.pointer (some ⟨b', o', none⟩), .int .i64 ((i : Nat) : Int)]) rfl (by kernel_rfl) (by kernel_rfl) (by kernel_rfl) (fun _ _ _ h => h) (Or.inl ⟨by rfl, ?_⟩) hHeld ?_
  · (intro w' hSw; (try dsimp only at hSw); clear hSw hHeld; go_simp; (try with_reducible rfl))
  try simp only [Act.put, List.setIfInBounds_toArray, List.set_cons_zero, List.set_cons_succ]
  refine wpAnyH_take (i := 11) (oi := ({ dst := some 16, op := Op.extract (Operand.tmp 5) 0, type := 71, pos := "scene.go:186", after := #[{ on := 10, ground := Ground.data }], guard := none } : Oper)) (v := .pointer (some ⟨b', o', none⟩)) rfl (by kernel_rfl) (by kernel_rfl) (by kernel_rfl) (fun _ _ _ h => h) (Or.inl ⟨by rfl, ?_⟩) hHeld ?_
  · (intro w' hSw; (try dsimp only at hSw); clear hSw hHeld; go_simp; (try with_reducible rfl))
  try simp only [Act.put, List.setIfInBounds_toArray, List.set_cons_zero, List.set_cons_succ]
  refine wpAnyH_take (i := 12) (oi := ({ dst := some 17, op := Op.extract (Operand.tmp 5) 1, type := 3, pos := "scene.go:186", after := #[{ on := 10, ground := Ground.data }, { on := 13, ground := Ground.gcOnly Departure.lateStores }], guard := none } : Oper)) (v := .int .i64 ((i : Nat) : Int)) rfl (by kernel_rfl) (by kernel_rfl) (by kernel_rfl) (fun _ _ _ h => h) (Or.inl ⟨by rfl, ?_⟩) hHeld ?_
  · (intro w' hSw; (try dsimp only at hSw); clear hSw hHeld; go_simp; (try with_reducible rfl))
  try simp only [Act.put, List.setIfInBounds_toArray, List.set_cons_zero, List.set_cons_succ]
  refine wpAnyH_take (i := 13) (oi := ({ dst := some 3, op := Op.assign (Operand.tmp 16), type := 71, pos := "scene.go:186", after := #[{ on := 11, ground := Ground.data }, { on := 9, ground := Ground.chain }, { on := 0, ground := Ground.phase }, { on := 1, ground := Ground.phase }, { on := 2, ground := Ground.phase }, { on := 3, ground := Ground.phase }, { on := 4, ground := Ground.phase }, { on := 5, ground := Ground.phase }, { on := 6, ground := Ground.phase }, { on := 7, ground := Ground.phase }, { on := 8, ground := Ground.phase }, { on := 9, ground := Ground.phase }, { on := 10, ground := Ground.phase }, { on := 11, ground := Ground.phase }, { on := 12, ground := Ground.textOnly Departure.lateStores }], guard := none } : Oper)) (v := .pointer (some ⟨b', o', none⟩)) rfl (by kernel_rfl) (by kernel_rfl) (by kernel_rfl) (fun _ _ _ h => h) (Or.inl ⟨by rfl, ?_⟩) hHeld ?_
  · (intro w' hSw; (try dsimp only at hSw); clear hSw hHeld; go_simp; (try with_reducible rfl))
  try simp only [Act.put, List.setIfInBounds_toArray, List.set_cons_zero, List.set_cons_succ]
  refine wpAnyH_take (i := 14) (oi := ({ dst := some 4, op := Op.assign (Operand.tmp 17), type := 3, pos := "scene.go:186", after := #[{ on := 12, ground := Ground.data }, { on := 13, ground := Ground.chain }, { on := 0, ground := Ground.phase }, { on := 1, ground := Ground.phase }, { on := 2, ground := Ground.phase }, { on := 3, ground := Ground.phase }, { on := 4, ground := Ground.phase }, { on := 5, ground := Ground.phase }, { on := 6, ground := Ground.phase }, { on := 7, ground := Ground.phase }, { on := 8, ground := Ground.phase }, { on := 9, ground := Ground.phase }, { on := 10, ground := Ground.phase }, { on := 11, ground := Ground.phase }, { on := 12, ground := Ground.phase }, { on := 13, ground := Ground.phase }], guard := none } : Oper)) (v := .int .i64 ((i : Nat) : Int)) rfl (by kernel_rfl) (by kernel_rfl) (by kernel_rfl) (fun _ _ _ h => h) (Or.inl ⟨by rfl, ?_⟩) hHeld ?_
  · (intro w' hSw; (try dsimp only at hSw); clear hSw hHeld; go_simp; (try with_reducible rfl))
  try simp only [Act.put, List.setIfInBounds_toArray, List.set_cons_zero, List.set_cons_succ]
  have MS := Lib.hid hHeld
  refine wpAnyH_done (by kernel_rfl) ?_ _
  clear hHeld
  try simp only [Act.put]
  have HD4 := Lib.hid (HD.out.up MS.out)
  obtain ⟨p, cap, c30, _, _, hcap, hcap2, _⟩ := Hz4.out.sub.kids
  obtain ⟨_, _, _, _, _, _, _, c38⟩ := HD4.out.cell
  have HM4 := Lib.hid MS.out
  have Hc30 := Lib.hid c30
  clear MS hcap hcap2 HIr
  go_upto_region 2 with fail
  rcases Int.lt_or_le op.at_ 0 with hneg | hpos
  · have e1 : decide (op.at_ < 0) = true := decide_eq_true hneg
    go_quiet (fail)
    go_wp2_with fail
    go_ret
    have Hmq := HM4.out.trans' (Gou.Mod.drewN (fun _ => False) w4 nq)
    exact ⟨Hmq.imp (fun _ _ h => h.elim), fun _ => rfl, fun n e _ => by omega⟩
  · have e1 : decide (op.at_ < 0) = false := decide_eq_false (by omega)
    rcases Int.lt_or_le op.at_ s'.kids.length with hlt | hge
    · obtain ⟨m, hm⟩ : ∃ m : Nat, op.at_ = m := ⟨op.at_.toNat, by omega⟩
      have e2 : decide ((s'.kids.length : Int) ≤ op.at_) = false := decide_eq_false (by omega)
      go_quiet (fail)
      go_upto_region 4 with fail
      have HD5 := Lib.hid (HD4.out.up (Gou.Mod.drewN (fun _ => False) w4 nq))
      have HAt := Lib.hid (Hz4.out.at_.up (Gou.Mod.drewN (fun _ => False) w4 nq))
      have HM5 := Lib.hid (HM4.out.trans' (Gou.Mod.drewN (fun _ => False) w4 nq))
      have Hlt := Lib.hid hlt
      have Hm := Lib.hid hm
      clear c30 c38 e1 e2 hlt hpos HD4 Hz4 HM4 Hc30
      generalize w4.drewN nq = W5 at *
      have HDq := Lib.hid (HD5.out.up (Gou.Mod.drew (fun _ => False) W5))
      refine wp_region_held_drew (S := fun w' => Gou.Mod (fun x => x = D ∨ x ∈ F) W5 w') (by kernel_rfl) (Gou.Mod.drew _ _) (fun hHeld => ?_)
      refine wpAnyH_take (i := 0) (oi := ({ dst := some 37, op := Op.move (Operand.tmp 3), type := 71, pos := "scene.go:190", after := #[], guard := none } : Oper)) (v := .pointer (some ⟨b', o', none⟩)) rfl (by kernel_rfl) (by kernel_rfl) (by kernel_rfl) (fun _ _ _ h => h) (Or.inl ⟨by rfl, ?_⟩) hHeld ?_
      · (intro w' hSw; (try dsimp only at hSw); clear hSw hHeld; go_simp; (try with_reducible rfl))
      try simp only [Act.put, List.setIfInBounds_toArray, List.set_cons_zero, List.set_cons_succ]
      refine wpAnyH_take (i := 1) (oi := ({ dst := some 38, op := Op.move (Operand.tmp 0), type := 64, pos := "scene.go:190", after := #[], guard := none } : Oper)) (v := .pointer (some ⟨D, 0, none⟩)) rfl (by kernel_rfl) (by kernel_rfl) (by kernel_rfl) (fun _ _ _ h => h) (Or.inl ⟨by rfl, ?_⟩) hHeld ?_
      · (intro w' hSw; (try dsimp only at hSw); clear hSw hHeld; go_simp; (try with_reducible rfl))
      try simp only [Act.put, List.setIfInBounds_toArray, List.set_cons_zero, List.set_cons_succ]
      refine wpAnyH_take (i := 2) (oi := ({ dst := some 39, op := Op.nilCheck (Operand.tmp 38), type := 0, pos := "scene.go:190", after := #[{ on := 1, ground := Ground.data }], guard := none } : Oper)) (v := .pointer (some ⟨D, 0, none⟩)) rfl (by kernel_rfl) (by kernel_rfl) (by kernel_rfl) (fun _ _ _ h => h) (Or.inl ⟨by rfl, ?_⟩) hHeld ?_
      · (intro w' hSw; (try dsimp only at hSw); clear hSw hHeld; go_simp; (try with_reducible rfl))
      try simp only [Act.put, List.setIfInBounds_toArray, List.set_cons_zero, List.set_cons_succ]
      refine wpAnyH_take (i := 3) (oi := ({ dst := some 40, op := Op.fieldAddr 67 (Operand.tmp 39) 1, type := 0, pos := "scene.go:190", after := #[{ on := 2, ground := Ground.data }], guard := none } : Oper)) (v := .pointer (some ⟨D, 33, none⟩)) rfl (by kernel_rfl) (by kernel_rfl) (by kernel_rfl) (fun _ _ _ h => h) (Or.inl ⟨by rfl, ?_⟩) hHeld ?_
      · (intro w' hSw; (try dsimp only at hSw); clear hSw hHeld; go_simp; (try with_reducible rfl))
      try simp only [Act.put, List.setIfInBounds_toArray, List.set_cons_zero, List.set_cons_succ]
      refine wpAnyH_take (i := 4) (oi := ({ dst := some 41, op := Op.fieldAddr 53 (Operand.tmp 40) 3, type := 0, pos := "scene.go:190", after := #[{ on := 3, ground := Ground.data }], guard := none } : Oper)) (v := .pointer (some ⟨D, 38, none⟩)) rfl (by kernel_rfl) (by kernel_rfl) (by kernel_rfl) (fun _ _ _ h => h) (Or.inl ⟨by rfl, ?_⟩) hHeld ?_
      · (intro w' hSw; (try dsimp only at hSw); clear hSw hHeld; go_simp; (try with_reducible rfl))
      try simp only [Act.put, List.setIfInBounds_toArray, List.set_cons_zero, List.set_cons_succ]
      refine wpAnyH_take (i := 6) (oi := ({ dst := some 43, op := Op.move (Operand.tmp 0), type := 64, pos := "scene.go:190", after := #[], guard := none } : Oper)) (v := .pointer (some ⟨D, 0, none⟩)) rfl (by kernel_rfl) (by kernel_rfl) (by kernel_rfl) (fun _ _ _ h => h) (Or.inl ⟨by rfl, ?_⟩) hHeld ?_
      · (intro w' hSw; (try dsimp only at hSw); clear hSw hHeld; go_simp; (try with_reducible rfl))
      try simp only [Act.put, List.setIfInBounds_toArray, List.set_cons_zero, List.set_cons_succ]
      refine wpAnyH_ready (rs := [5, 7]) (by kernel_rfl) (by simp) (AllReadyH.cons (o := ({ dst := some 42, op := Op.load 3 (Operand.tmp 41), type := 3, pos := "scene.go:190", after := #[{ on := 4, ground := Ground.data }], guard := none } : Oper)) rfl (fun K11 hK => ?_) (AllReadyH.cons (o := ({ dst := some 44, op := Op.call { callee := Callee.value (Operand.func 39), args := #[Operand.tmp 43], argTypes := #[64] }, type := 45, pos := "scene.go:190", after := #[{ on := 6, ground := Ground.data }], guard := none } : Oper)) rfl (fun K11 hK => ?_) AllReadyH.nil))
      · skip
        have g0 := HDq.out.cell.2.2.2.2.2.2.2
        rw [Hm.out] at g0
        go_simp
        clear g0
        have M := Lib.hid hHeld
        clear hHeld
        refine hK _ _ M.out (fun hHeld => ?_)
        clear hK K11 M
        try simp only [Act.put, List.setIfInBounds_toArray, List.set_cons_zero, List.set_cons_succ]
        refine wpAnyH_ready (rs := [7]) (by kernel_rfl) (by simp) (AllReadyH.cons (o := ({ dst := some 44, op := Op.call { callee := Callee.value (Operand.func 39), args := #[Operand.tmp 43], argTypes := #[64] }, type := 45, pos := "scene.go:190", after := #[{ on := 6, ground := Ground.data }], guard := none } : Oper)) rfl (fun K hK => ?_) AllReadyH.nil)
        go_simp
        refine (cut_any base _ D a T F op vg vl vp vf vb cur HDq.out π i s' k Hp.out Hs.out Hk.out Hn.out).mono ?_
        rintro e w7 ⟨kp, kf, kb, kk, f, F3, cur3, rfl, hd7, hk7, hx7, hy7, hm7, hat7⟩
        have M := Lib.hid (hHeld.trans' hm7)
        replace HDq := Lib.hid hd7
        have HK7 := Lib.hid hk7
        have HX7 := Lib.hid hx7
        have HY7 := Lib.hid hy7
        have HAT7 := Lib.hid (hat7 _ _ (HAt.out.up (Gou.Mod.drew (fun _ => False) W5)))
        clear hHeld hd7 hk7 hx7 hy7 hm7 hat7
        refine hK _ _ M.out (fun hHeld => ?_)
        clear hK K M
        try simp only [Act.put, List.setIfInBounds_toArray, List.set_cons_zero, List.set_cons_succ]
        refine wpAnyH_ready (rs := [8]) (by kernel_rfl) (by simp) (AllReadyH.cons (o := ({ dst := some 45, op := Op.call { callee := Callee.value (Operand.func 34), args := #[Operand.tmp 37, Operand.tmp 42, Operand.tmp 44], argTypes := #[71, 3, 45] }, type := 0, pos := "scene.go:190", after := #[{ on := 0, ground := Ground.data }, { on := 5, ground := Ground.data }, { on := 7, ground := Ground.data }, { on := 7, ground := Ground.chain }], guard := none } : Oper)) rfl (fun K hK => ?_) AllReadyH.nil)
        go_simp
        obtain ⟨b2, o2, F2', hz7⟩ := Zoom.ex HDq.out.tree (Ly.get_put Hs.out)
        obtain ⟨e1, e2⟩ := (hz7.at_).one HAT7.out
        rw [e1, e2] at hz7
        clear e1 e2
        have hle : (s'.kids.eraseIdx i).length = s'.kids.length - 1 := by rw [List.length_eraseIdx, if_pos (List.getElem?_eq_some_iff.1 Hk.out).1]
        refine (doer_put base w7 D a _ F3 op vg vl vp vf vb cur3 HDq.out hz7 k f kp kf kb kk HK7.out (fun x hx => ⟨fun h => (HX7.out x h).2 hx, fun e => HD5.out.tree.out (e ▸ HY7.out x hx)⟩) m (by rw [Ly.kids_mk, hle]; have := Hlt.out; have := Hm.out; omega) (by rw [Ly.kids_mk, hle]; have := Hn.out; omega)).mono ?_
        rintro e w8 ⟨rfl, ⟨F4, cur4, hd8⟩, hm8⟩
        have M := Lib.hid (hHeld.trans' (hm8.imp (fun x _ hx => hx.imp id (fun h => (HX7.out x h).1))))
        have HD8 := Lib.hid hd8
        clear hHeld hd8 hm8 hz7 hle
        refine hK _ _ M.out (fun hHeld => ?_)
        clear hK K M
        try simp only [Act.put, List.setIfInBounds_toArray, List.set_cons_zero, List.set_cons_succ]
        have MS := Lib.hid hHeld
        refine wpAnyH_done (by kernel_rfl) ?_ _
        clear hHeld
        try simp only [Act.put]
        go_wp2_with fail
        go_ret
        refine ⟨(HM5.out.imp (fun _ _ h => h.elim)).trans' MS.out, fun h => ?_, fun n e hn => ⟨rfl, ?_⟩⟩
        · have := Hlt.out
          have := Hm.out
          omega
        · obtain rfl : n = m := by have := Hm.out; omega
          exact ⟨_, _, _, _, HD8.out⟩
      · skip
        go_simp
        refine (cut_any base _ D a T F op vg vl vp vf vb cur HDq.out π i s' k Hp.out Hs.out Hk.out Hn.out).mono ?_
        rintro e w7 ⟨kp, kf, kb, kk, f, F3, cur3, rfl, hd7, hk7, hx7, hy7, hm7, hat7⟩
        have M := Lib.hid (hHeld.trans' hm7)
        replace HDq := Lib.hid hd7
        have HK7 := Lib.hid hk7
        have HX7 := Lib.hid hx7
        have HY7 := Lib.hid hy7
        have HAT7 := Lib.hid (hat7 _ _ (HAt.out.up (Gou.Mod.drew (fun _ => False) W5)))
        clear hHeld hd7 hk7 hx7 hy7 hm7 hat7
        refine hK _ _ M.out (fun hHeld => ?_)
        clear hK K11 M
        try simp only [Act.put, List.setIfInBounds_toArray, List.set_cons_zero, List.set_cons_succ]
        refine wpAnyH_ready (rs := [5]) (by kernel_rfl) (by simp) (AllReadyH.cons (o := ({ dst := some 42, op := Op.load 3 (Operand.tmp 41), type := 3, pos := "scene.go:190", after := #[{ on := 4, ground := Ground.data }], guard := none } : Oper)) rfl (fun K hK => ?_) AllReadyH.nil)
        have g0 := HDq.out.cell.2.2.2.2.2.2.2
        rw [Hm.out] at g0
        go_simp
        clear g0
        have M := Lib.hid hHeld
        clear hHeld
        refine hK _ _ M.out (fun hHeld => ?_)
        clear hK K M
        try simp only [Act.put, List.setIfInBounds_toArray, List.set_cons_zero, List.set_cons_succ]
        refine wpAnyH_ready (rs := [8]) (by kernel_rfl) (by simp) (AllReadyH.cons (o := ({ dst := some 45, op := Op.call { callee := Callee.value (Operand.func 34), args := #[Operand.tmp 37, Operand.tmp 42, Operand.tmp 44], argTypes := #[71, 3, 45] }, type := 0, pos := "scene.go:190", after := #[{ on := 0, ground := Ground.data }, { on := 5, ground := Ground.data }, { on := 7, ground := Ground.data }, { on := 7, ground := Ground.chain }], guard := none } : Oper)) rfl (fun K hK => ?_) AllReadyH.nil)
        go_simp
        obtain ⟨b2, o2, F2', hz7⟩ := Zoom.ex HDq.out.tree (Ly.get_put Hs.out)
        obtain ⟨e1, e2⟩ := (hz7.at_).one HAT7.out
        rw [e1, e2] at hz7
        clear e1 e2
        have hle : (s'.kids.eraseIdx i).length = s'.kids.length - 1 := by rw [List.length_eraseIdx, if_pos (List.getElem?_eq_some_iff.1 Hk.out).1]
        refine (doer_put base w7 D a _ F3 op vg vl vp vf vb cur3 HDq.out hz7 k f kp kf kb kk HK7.out (fun x hx => ⟨fun h => (HX7.out x h).2 hx, fun e => HD5.out.tree.out (e ▸ HY7.out x hx)⟩) m (by rw [Ly.kids_mk, hle]; have := Hlt.out; have := Hm.out; omega) (by rw [Ly.kids_mk, hle]; have := Hn.out; omega)).mono ?_
        rintro e w8 ⟨rfl, ⟨F4, cur4, hd8⟩, hm8⟩
        have M := Lib.hid (hHeld.trans' (hm8.imp (fun x _ hx => hx.imp id (fun h => (HX7.out x h).1))))
        have HD8 := Lib.hid hd8
        clear hHeld hd8 hm8 hz7 hle
        refine hK _ _ M.out (fun hHeld => ?_)
        clear hK K M
        try simp only [Act.put, List.setIfInBounds_toArray, List.set_cons_zero, List.set_cons_succ]
        have MS := Lib.hid hHeld
        refine wpAnyH_done (by kernel_rfl) ?_ _
        clear hHeld
        try simp only [Act.put]
        go_wp2_with fail
        go_ret
        refine ⟨(HM5.out.imp (fun _ _ h => h.elim)).trans' MS.out, fun h => ?_, fun n e hn => ⟨rfl, ?_⟩⟩
        · have := Hlt.out
          have := Hm.out
          omega
        · obtain rfl : n = m := by have := Hm.out; omega
          exact ⟨_, _, _, _, HD8.out⟩
    · have e2 : decide ((s'.kids.length : Int) ≤ op.at_) = true := decide_eq_true (by omega)
      go_quiet (fail)
      go_wp2_with fail
      go_ret
      have Hmq := HM4.out.trans' (Gou.Mod.drewN (fun _ => False) w4 nq)
      exact ⟨Hmq.imp (fun _ _ h => h.elim), fun _ => rfl, fun n e hn => by omega⟩

end Go.Proofs.Ytpbmfalokongfaa

