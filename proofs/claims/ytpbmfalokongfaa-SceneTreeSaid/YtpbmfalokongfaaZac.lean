/- Texts of the scenes' proofs, laid together: ScK, ScJ, ScR. -/
import Derived.Test.YtpbmfalokongfaaZab
set_option linter.unusedSimpArgs false
set_option linter.unusedVariables false
set_option linter.unusedSectionVars false
set_option linter.constructorNameAsVariable false

/- Scenes in memory: rows of layers that are being built. -/
namespace Go.Gou
open Go.RowKit
variable {TL TD : TypeId} {base : Nat}

/-- A row of layers of the call's own, n of them made. -/
structure KidsO (TL TD : TypeId) (base : Nat) (w : World) (vs : Value) (n : Nat) (css : List (List Value)) (fs : List (List Nat)) (ks : List Ly) : Prop where
  own : w.ownsRow base TL 31 vs n css.flatten
  lc : css.length = n
  lf : fs.length = n
  ln : n ≤ ks.length
  kids : ∀ (j : Nat) (c : List Value) (k : Ly) (f : List Nat), css[j]? = some c → ks[j]? = some k → fs[j]? = some f → LyO TL TD base w c k f
  nd : (vs.ownBlock.toList ++ fs.flatten).Nodup
theorem KidsO.start (w : World) (ks : List Ly) : KidsO TL TD base w (.slice none 0 0) 0 [] [] ks :=
  ⟨World.ownsRow_nil _ _ _ _, rfl, rfl, Nat.zero_le _, fun j c k f h => by simp at h, by simp [Value.ownBlock]⟩
theorem KidsO.rows {w : World} {vs : Value} {n : Nat} {css : List (List Value)} {fs : List (List Nat)} {ks : List Ly} (h : KidsO TL TD base w vs n css fs ks) : (∀ k, vs.ownBlock = some k → base ≤ k ∧ k < w.heap.size ∧ ¬ LookBlk TL TD w k) ∧ ∀ k ∈ fs.flatten, base ≤ k ∧ k < w.heap.size := by
  refine ⟨fun k hk => ?_, fun k hk => ?_⟩
  · obtain ⟨h1, h2, cur, cap, h3, _⟩ := ownsRow_blk h.own hk
    refine ⟨h1, h2, ?_⟩
    rintro ⟨cur', T', g1, g2, g3⟩
    unfold Blk at h3
    rw [h3] at g1
    simp only [Option.some.injEq, Obj.cells.injEq] at g1
    exact g2 g1.2.1.symm
  · obtain ⟨f, h1, h2⟩ := List.mem_flatten.1 hk
    obtain ⟨j, hj⟩ := List.mem_iff_getElem?.1 h1
    have hj' := (List.getElem?_eq_some_iff.1 hj).1
    have h3 := h.lc; have h4 := h.lf; have h5 := h.ln
    obtain ⟨g1, g2, _⟩ := (h.kids j _ _ f (List.getElem?_eq_getElem (by omega)) (List.getElem?_eq_getElem (by omega)) hj).rows k h2
    exact ⟨g1, g2⟩
theorem KidsO.mod {S : Nat → Prop} {w w' : World} {vs : Value} {n : Nat} {css : List (List Value)} {fs : List (List Nat)} {ks : List Ly} (h : KidsO TL TD base w vs n css fs ks) (hm : Mod S w w') (hS : ∀ k, base ≤ k → k < w.heap.size → ¬ S k) : KidsO TL TD base w' vs n css fs ks := by
  refine ⟨ownsRow_mod h.own hm (fun k hk => hS k (h.rows.1 k hk).1 (h.rows.1 k hk).2.1), h.lc, h.lf, h.ln, fun j c k f h1 h2 h3 => (h.kids j c k f h1 h2 h3).mod hm (fun b hb => ?_) (fun b hb hl => ?_), h.nd⟩
  · obtain ⟨g1, g2, _⟩ := (h.kids j c k f h1 h2 h3).rows b hb
    exact hS b g1 g2
  · obtain ⟨cur, T, g1, _⟩ := hl
    exact hS b hb (Blk.lt g1)
theorem KidsO.up {w w' : World} {vs : Value} {n : Nat} {css : List (List Value)} {fs : List (List Nat)} {ks : List Ly} (h : KidsO TL TD base w vs n css fs ks) (hm : Mod (fun _ => False) w w') : KidsO TL TD base w' vs n css fs ks := h.mod hm (fun _ _ _ h => h)
/-- One more. -/
theorem KidsO.grow {w w5 w7 : World} {vs v7 : Value} {n z : Nat} {css : List (List Value)} {fs : List (List Nat)} {ks : List Ly} {c : List Value} {f : List Nat} {k : Ly} (h : KidsO TL TD base w vs n css fs ks) (hm : Mod (fun _ => False) w w5)
    (hz : w.heap.size ≤ z) (hzb : base ≤ z) (hk : ks[n]? = some k) (hc : LyO TL TD z w5 c k f) (hg : Grown w5 base TL 31 vs (n + 1) (css.flatten ++ c) v7 w7) : KidsO TL TD base w7 v7 (n + 1) (css ++ [c]) (fs ++ [f]) ks := by
  have h5 := h.up hm
  have hrows := h.rows
  have hS : ∀ b, vs.ownBlock = some b → b < w.heap.size := fun b hb => (hrows.1 b hb).2.1
  have hlook : ∀ b, base ≤ b → LookBlk TL TD w5 b → ¬ (vs.ownBlock = some b) := fun b _ hl hb => (h5.rows.1 b hb).2.2 hl
  have hlt := (List.getElem?_eq_some_iff.1 hk).1
  have h1 := h.lc; have h2 := h.lf
  refine ⟨?_, by simp [h1], by simp [h2], by omega, ?_, ?_⟩
  · have := hg.own
    rw [List.flatten_append, List.flatten_cons, List.flatten_nil, List.append_nil]
    exact this
  · intro j c' k' f' hc' hk' hf'
    by_cases hj : j < n
    · rw [List.getElem?_append_left (by omega)] at hc' hf'
      refine (h5.kids j c' k' f' hc' hk' hf').mod hg.mod (fun b hb hb' => ?_) hlook
      have hnd := h.nd
      rw [List.nodup_append] at hnd
      exact hnd.2.2 b (by rw [hb']; simp) b (List.mem_flatten.2 ⟨f', List.mem_of_getElem? hf', hb⟩) rfl
    · have hjn := (List.getElem?_eq_some_iff.1 hc').1
      simp at hjn
      obtain rfl : j = n := by omega
      rw [List.getElem?_append_right (by omega)] at hc' hf'
      rw [h1, Nat.sub_self] at hc'
      rw [h2, Nat.sub_self] at hf'
      simp at hc' hf'
      subst hc' hf'
      rw [hk] at hk'
      cases hk'
      refine (hc.mod hg.mod (fun b hb hb' => ?_) (fun b hb hl hb' => ?_)).low hzb
      · have := (hc.rows b hb).1
        have := hS b hb'
        omega
      · have := hS b hb'
        omega
  · rw [List.nodup_append]
    have hnd := h.nd
    rw [List.nodup_append] at hnd
    have hfl : (fs ++ [f]).flatten = fs.flatten ++ f := by simp
    rw [hfl]
    refine ⟨by cases v7.ownBlock <;> simp, ?_, fun b hb x hx e => ?_⟩
    · rw [List.nodup_append]
      refine ⟨hnd.2.1, hc.nodup, fun b hb x hx e => ?_⟩
      subst e
      have := (hrows.2 b hb).2
      have := (hc.rows b hx).1
      omega
    · subst e
      have hb' : v7.ownBlock = some b := by
        cases ho : v7.ownBlock with
        | none => rw [ho] at hb; simp at hb
        | some g => rw [ho] at hb; simp at hb; rw [hb]
      rw [List.mem_append] at hx
      rcases hg.blk b hb' with ho | ho
      · rcases hx with hx | hx
        · exact hnd.2.2 b (by rw [ho]; simp) b hx rfl
        · have := (hc.rows b hx).1
          have := hS b ho
          omega
      · rcases hx with hx | hx
        · have := (hrows.2 b hx).2
          have := hm.size
          omega
        · have := (hc.rows b hx).2.1
          omega
theorem KidsO.low {w : World} {vs : Value} {n base' : Nat} {css : List (List Value)} {fs : List (List Nat)} {ks : List Ly} (h : KidsO TL TD base w vs n css fs ks) (hb : base' ≤ base) : KidsO TL TD base' w vs n css fs ks :=
  ⟨ownsRow_base h.own hb, h.lc, h.lf, h.ln, fun j c k f h1 h2 h3 => (h.kids j c k f h1 h2 h3).low hb, h.nd⟩
/-- All of them: the layer. -/
theorem KidsO.whole {w : World} {vs : Value} {css : List (List Value)} {fs : List (List Nat)} {ks : List Ly} (h : KidsO TL TD base w vs ks.length css fs ks) (i : Idt) (lk : Lk) {vp vf vb : Value} (hl : LookR (LookG TL TD base w) w lk vp vf vb) :
    LyO TL TD base w (lyA i lk vp vf vb vs).toList (.mk i lk ks) (vs.ownBlock.toList ++ fs.flatten) :=
  .mk i lk ks vp vf vb vs css fs hl h.own h.lc h.lf h.kids h.nd
theorem Mod.allocSet (w : World) (o : Obj) (vs : List Value) : Mod (fun _ => False) w ((w.alloc o).setCells w.heap.size 0 vs) :=
  (Mod.alloc (fun _ => False) w o).trans (Blk.setMod (w.alloc o) w.heap.size 0 vs) (fun k hk e => absurd hk (by rw [e]; exact Nat.lt_irrefl _))
theorem slice_one (p : Option Addr) (n c : Nat) : (Value.slice p n c).oneCell' = true := by simp [Value.oneCell']
/-- A layer's cells are one cell each. -/
theorem LyR.one {G : Nat → Prop} {w : World} {vp vf vb vk : Value} {T : Ly} (h : LyR G w (lyA T.id T.look vp vf vb vk).toList T) : ∀ d ∈ (lyA T.id T.look vp vf vb vk).toList, d.oneCell' = true := by
  obtain ⟨h1, css, h2, _⟩ := h.parts
  obtain ⟨⟨p1, c1, rfl⟩, ⟨p2, c2, rfl⟩, ⟨p3, c3, rfl⟩⟩ := h1.forms
  obtain ⟨p4, c4, rfl⟩ := RowG.slice h2
  intro d hd
  simp only [lyA, List.mem_cons, List.not_mem_nil, or_false] at hd
  rcases hd with rfl | rfl | rfl | rfl | rfl | rfl | rfl | rfl | rfl | rfl | rfl | rfl | rfl | rfl | rfl | rfl | rfl | rfl | rfl | rfl | rfl | rfl | rfl | rfl | rfl | rfl | rfl | rfl | rfl | rfl | rfl <;> simp [Value.oneCell']
theorem all_one {cs : Array Value} (h : ∀ d ∈ cs.toList, d.oneCell' = true) : cs.all (·.oneCell') = true := by
  rw [Array.all_eq_true]
  intro i hi
  exact h _ (by simp)
/-- A tree whose looks, and rows, are bounded. -/
inductive TFit : Ly → Prop
  | mk (i : Idt) (lk : Lk) (ks : List Ly) (hl : LkFit lk) (hn : ks.length ≤ 1000000) (hk : ∀ k ∈ ks, TFit k) : TFit (.mk i lk ks)
theorem TFit.look {T : Ly} (h : TFit T) : LkFit T.look := by cases h; assumption
theorem TFit.len {T : Ly} (h : TFit T) : T.kids.length ≤ 1000000 := by cases h; assumption
theorem TFit.kids {T : Ly} (h : TFit T) : ∀ k ∈ T.kids, TFit k := by cases h; assumption

theorem wp_buildOne {P : Program} {o : Oper} {a : Act} {w : World} {K : Act → World → Prop} {Q : Exit → Act → World → Prop} (t e : TypeId) (x : Operand) (ho : o.op = .buildSlice t 1 #[(0, x)])
    (cs : Array Value) (hx : a.eval x = .agg cs) (ie : TypeInfo) (z : Value) (hu : P.underlying t = some (.slice e)) (hie : P.info? e = some ie) (hz : ie.zero = some z) (hs : ie.size = cs.size) (hzs : z.cells.size = cs.size) (h0 : 0 < cs.size) (hsm : cs.size ≤ 2 ^ 24)
    (h : K (a.put o.dst (.slice (some ⟨w.heap.size, 0, none⟩) 1 1)) (w.alloc (.cells cs e))) : o.wp P a w K Q := by
  refine wp_buildSlice t e 1 _ ho cs ie z hu hie hz (by omega) (by omega) ?_ h
  have := Great.fill_whole (s := cs.size) h0 [.agg cs] ((Array.range (1 * cs.size)).map (z.cells[· % z.cells.size]!)) (fun v hv => by
    simp only [List.mem_cons, List.not_mem_nil, or_false] at hv
    subst hv
    rfl) (by simp)
  rw [hs]
  simpa [hx, Value.cells] using this
/-- A row of one element is made, of a type that is known. -/
theorem wp_buildRow {P : Program} {t e : TypeId} {k bytes : Nat} {z : Value} (T : RowT P t e k bytes z) {o : Oper} {a : Act} {w : World} {K : Act → World → Prop} {Q : Exit → Act → World → Prop} (x : Operand) (ho : o.op = .buildSlice t 1 #[(0, x)])
    (cs : Array Value) (hx : a.eval x = .agg cs) (hs : cs.size = k) (hk : k ≤ 2 ^ 24) (h : K (a.put o.dst (.slice (some ⟨w.heap.size, 0, none⟩) 1 1)) (w.alloc (.cells cs e))) : o.wp P a w K Q := by
  obtain ⟨i0, hi0, hz0, hz1, hz2⟩ := info_parts T.info
  have := T.pos
  exact wp_buildOne t e x ho cs hx i0 z T.und hi0 hz0 (by rw [hz1, hs]) (by rw [T.zc, hs]) (by omega) (by omega) h
end Go.Gou

/- Scenes: the code's copies of layers, with all within. -/
namespace Go.Gou
open Go.RowKit
theorem LyR.kidR {G : Nat → Prop} {w : World} {p : Option Addr} {n cap : Nat} {css : List (List Value)} {ks : List Ly} (hr : RowG G w 31 (.slice p n cap) n css.flatten) (hc : css.length = ks.length) (hn : n = ks.length)
    (hk : ∀ (j : Nat) (c : List Value) (k : Ly), css[j]? = some c → ks[j]? = some k → LyR G w c k) {j : Nat} (hj : j < ks.length) :
    ∃ b o vp vf vb vk, p = some ⟨b, o, none⟩ ∧ b < w.heap.size ∧ G b ∧ w.rangeAt b (o + j * 31) (lyA ks[j].id ks[j].look vp vf vb vk).toList ∧ LyR G w (lyA ks[j].id ks[j].look vp vf vb vk).toList ks[j] := by
  have hcj : css[j]? = some css[j] := List.getElem?_eq_getElem (by omega)
  have h := hk j css[j] ks[j] hcj (List.getElem?_eq_getElem hj)
  obtain ⟨b, o, e, hb, hG, hcell⟩ := RowG.kid hr (LyR.lens hc hk) (by omega) hcj
  obtain ⟨vp, vf, vb, vk, _, e2, _⟩ := h.form
  rw [e2] at h hcell
  exact ⟨b, o, vp, vf, vb, vk, e, hb, hG, hcell, h⟩
theorem LookR.mono_look {TL TD : TypeId} {base base' : Nat} {w : World} {l : Lk} {vp vf vb : Value} (h : LookR (LookG TL TD base w) w l vp vf vb) (hb : base' ≤ base) : LookR (LookG TL TD base' w) w l vp vf vb := h.imp (fun k _ hk => ⟨Nat.le_trans hb hk.1, hk.2⟩)
end Go.Gou
namespace Go.Proofs.Ytpbmfalokongfaa
open Go.RowKit Go.Gou
set_option maxRecDepth 100000

/-- What copies a layer: new memory. -/
def CopyP (w : World) (T : Ly) (e : Ending) (w' : World) : Prop := ∃ vp vf vb vk F, e = .returned (.agg (lyA T.id T.look vp vf vb vk)) ∧ LyO 45 67 w.heap.size w' (lyA T.id T.look vp vf vb vk).toList T F ∧ Gou.Mod (fun _ => False) w w'

set_option maxHeartbeats 16000000 in
theorem copied_any : ∀ (T : Ly) (w : World) (vp vf vb vk : Value), LyR (fun _ => True) w (lyA T.id T.look vp vf vb vk).toList T → TFit T →
    Calls Try.prog 23 #[.agg (lyA T.id T.look vp vf vb vk)] w (CopyP w T) := by
  intro T
  induction T using Ly.ind with
  | h i lk ks ih =>
    intro w vp vf vb vk hr hft
    obtain ⟨hl, css, hrow, hcl, hk⟩ := hr.parts
    simp only [Ly.id_mk, Ly.look_mk, Ly.kids_mk] at hl hrow hcl hk ⊢
    obtain ⟨pk, ck, rfl⟩ := RowG.slice hrow
    have Hl := Lib.hid hl
    have Hrow := Lib.hid hrow
    have Hcl := Lib.hid hcl
    have Hk := Lib.hid hk
    have Hft := Lib.hid hft
    have Ih := Lib.hid ih
    have hlen := hft.len
    rw [Ly.kids_mk] at hlen
    have Hlen := Lib.hid hlen
    clear hl hrow hcl hk hr hft ih hlen
    go_enter Try.func23, Try.ntmps23
    go_wp2_with fail
    rename_i K hK
    have HK := Lib.hid hK
    clear hK
    obtain ⟨b0, b1, bm⟩ := two_new w 45 45 (lyA i lk vp vf vb (.slice pk ks.length ck)) (List.toArray (Value.int .i64 0 :: Value.int .i64 0 :: Value.int .i64 0 :: Value.int .i64 0 :: Value.bool false :: Value.int .i64 0 :: Value.int .i64 0 :: Value.int .i64 0 :: Value.int .i64 0 :: Value.int .i64 0 :: Value.int .i64 0 :: Value.int .i64 0 :: Value.int .i64 0 :: Value.int .i64 0 :: Value.int .i64 0 :: Value.int .i64 0 :: Value.int .u8 0 :: Value.int .u8 0 :: Value.int .u8 0 :: Value.int .u8 0 :: Value.int .i64 0 :: Value.int .i64 0 :: Value.int .i64 0 :: Value.slice none 0 0 :: Value.bool false :: Value.slice none 0 0 :: Value.int .i64 0 :: Value.bool false :: Value.slice none 0 0 :: Value.int .i64 0 :: Value.slice none 0 0 :: []))
    generalize (w.alloc (.cells (lyA i lk vp vf vb (.slice pk ks.length ck)) 45)).alloc (.cells (List.toArray (Value.int .i64 0 :: Value.int .i64 0 :: Value.int .i64 0 :: Value.int .i64 0 :: Value.bool false :: Value.int .i64 0 :: Value.int .i64 0 :: Value.int .i64 0 :: Value.int .i64 0 :: Value.int .i64 0 :: Value.int .i64 0 :: Value.int .i64 0 :: Value.int .i64 0 :: Value.int .i64 0 :: Value.int .i64 0 :: Value.int .i64 0 :: Value.int .u8 0 :: Value.int .u8 0 :: Value.int .u8 0 :: Value.int .u8 0 :: Value.int .i64 0 :: Value.int .i64 0 :: Value.int .i64 0 :: Value.slice none 0 0 :: Value.bool false :: Value.slice none 0 0 :: Value.int .i64 0 :: Value.bool false :: Value.slice none 0 0 :: Value.int .i64 0 :: Value.slice none 0 0 :: [])) 45) = W1 at *
    have Hb0 := Lib.hid b0
    have Hb1 := Lib.hid b1
    have Hbm := Lib.hid bm
    clear b0 b1 bm
    have HR0 : Hid (W1.rangeAt w.heap.size 0 [.int .i64 i.1, .int .i64 i.2]) := Lib.hid (Blk.range (pre := []) (post := (lyA i lk vp vf vb (.slice pk ks.length ck)).toList.drop 2) Hb0.out rfl rfl)
    have HR2 : Hid (W1.rangeAt w.heap.size 2 (lookC lk vp vf vb).toList) := Lib.hid (Blk.range (pre := [.int .i64 i.1, .int .i64 i.2]) (post := [.slice pk ks.length ck]) Hb0.out rfl rfl)
    have tail : Hid (∀ (N : Nat) (w9 : World) (vp4 vf4 vb4 : Value), Blk w9 N 45 (lyA i lk vp4 vf4 vb4 (.slice none 0 0)) → w.heap.size + 1 < N → Gou.Mod (fun _ => False) W1 w9 → LookR (LookG 45 67 w.heap.size w9) w9 lk vp4 vf4 vb4 → K (Act.mk #[.agg (lyA i lk vp vf vb (.slice pk ks.length ck)), .pointer (some ⟨w.heap.size, 0, none⟩), .pointer (some ⟨w.heap.size + 1, 0, none⟩), .pointer (some ⟨N, 0, none⟩), undef, undef, .pointer (some ⟨w.heap.size, 0, none⟩), .agg #[.int .i64 i.1, .int .i64 i.2], .pointer (some ⟨w.heap.size, 2, none⟩), .agg (lookC lk vp vf vb), .agg (lookC lk vp4 vf4 vb4), .agg (lyA i lk vp4 vf4 vb4 (.slice none 0 0)), undef, undef, undef, undef, undef, undef, undef, undef, undef, undef, undef, undef, undef, undef, undef, undef] []) w9) := by
      refine Lib.hid (fun N w9 vp4 vf4 vb4 hN hne hM hL => ?_)
      have HN := Lib.hid hN
      have Hne := Lib.hid hne
      have HM := Lib.hid hM
      have HL := Lib.hid hL
      clear hN hne hM hL
      refine HK.out _ _ ?_
      clear HK
      have HM0 := Lib.hid (Hbm.out.trans' HM.out)
      have HP9 := Lib.hid (Hb0.out.up HM.out)
      have HR9 := Lib.hid (Hb1.out.up HM.out)
      have hNlt := Lib.hid (Blk.lt HN.out)
      have hRlt := Lib.hid (Blk.lt HR9.out)
      have c30 : w9.cell? ⟨w.heap.size, 30, none⟩ = some (.slice pk ks.length ck) := HP9.out.cell 30 rfl
      have HK0 : Hid (KidsO 45 67 w9.heap.size w9 (.slice none 0 0) 0 [] [] ks) := Lib.hid (KidsO.start _ _)
      go_wp2_with fail
      go_loopw [15] (fun vi wr => ∃ j : Nat, vi = .int .i64 j ∧ j ≤ ks.length ∧ ∃ vs cs fs, KidsO 45 67 w9.heap.size wr vs j cs fs ks ∧ Blk wr N 45 (lyA i lk vp4 vf4 vb4 vs) ∧ LookR (LookG 45 67 w.heap.size wr) wr lk vp4 vf4 vb4 ∧ Blk wr (w.heap.size + 1) 45 (List.toArray (Value.int .i64 0 :: Value.int .i64 0 :: Value.int .i64 0 :: Value.int .i64 0 :: Value.bool false :: Value.int .i64 0 :: Value.int .i64 0 :: Value.int .i64 0 :: Value.int .i64 0 :: Value.int .i64 0 :: Value.int .i64 0 :: Value.int .i64 0 :: Value.int .i64 0 :: Value.int .i64 0 :: Value.int .i64 0 :: Value.int .i64 0 :: Value.int .u8 0 :: Value.int .u8 0 :: Value.int .u8 0 :: Value.int .u8 0 :: Value.int .i64 0 :: Value.int .i64 0 :: Value.int .i64 0 :: Value.slice none 0 0 :: Value.bool false :: Value.slice none 0 0 :: Value.int .i64 0 :: Value.bool false :: Value.slice none 0 0 :: Value.int .i64 0 :: Value.slice none 0 0 :: [])) ∧ Gou.Mod (fun k => k = N) w9 wr) (fun vi _ => ks.length - (intOf vi).toNat)
      case atStart => exact ⟨0, rfl, Nat.zero_le _, _, [], [], HK0.out, HN.out, HL.out, HR9.out, Gou.Mod.refl _ _⟩
      case round =>
        obtain ⟨j, rfl, hj, vs, cs, fs, hks, hbo, hlk, hbr, hm⟩ := hrel
        obtain ⟨ps, cp, rfl⟩ := Gou.ownsRow_form hks.own
        have Hks := Lib.hid hks
        have Hbo := Lib.hid hbo
        have Hlk := Lib.hid hlk
        have Hbr := Lib.hid hbr
        have Hm := Lib.hid hm
        have HMw := Lib.hid (HM0.out.trans hm (fun k hk e => by have := Hne.out; omega))
        clear hks hbo hlk hbr hm HK0 HN HL HR9 HP9 c30
        by_cases hil : j < ks.length
        · obtain ⟨b, o, kp, kf, kb, kk, rfl, hbl, _, hrg, hkr⟩ := LyR.kidR Hrow.out Hcl.out rfl Hk.out hil
          have Hrg := Lib.hid (range_up hrg HMw.out (fun h => h))
          have Hkr := Lib.hid (hkr.up HMw.out)
          have Hkj : Hid (ks[j]? = some ks[j]) := Lib.hid (List.getElem?_eq_getElem hil)
          have Hik : Hid (∀ w', Gou.Mod (fun _ => False) wr w' → Calls Try.prog 23 #[.agg (lyA ks[j].id ks[j].look kp kf kb kk)] w' (CopyP w' ks[j])) := Lib.hid (fun w' hw' => Ih.out ks[j] (List.getElem_mem hil) w' kp kf kb kk (hkr.up (HMw.out.trans' hw')) (Hft.out.kids ks[j] (by rw [Ly.kids_mk]; exact List.getElem_mem hil)))
          have Hil := Lib.hid hil
          clear hrg hkr hbl
          generalize ks[j] = kd at *
          go_wp2_with (first | ((with_reducible refine wpList_load_mid ?g1_1 45 ?x1_1 ?o1_1 (b) (o + j * 31) ?h1_1 ((lyA kd.id kd.look kp kf kb kk).toList) ?d1_1 ?c1_1 ?u1_1 ?e1_1 ?i1_1 ?r1_1); (case g1_1 => exact rfl); (case o1_1 => exact rfl); (case h1_1 => exact rfl); (case c1_1 => exact Hrg.out); (case u1_1 => exact Try.underlying45); (case e1_1 => exact rfl); (case i1_1 => exact size_layer)) | ((with_reducible refine wpList_store_mid ?g1_2 45 ?x1_2 ?y1_2 ?o1_2 (wr.heap.size) (0) (lyA kd.id kd.look kp kf kb kk) ?h1_2 ?j1_2 ?t1_2 ?i1_2 ?s1_2 ?r1_2); (case g1_2 => exact rfl); (case o1_2 => exact rfl); (case h1_2 => exact rfl); (case j1_2 => exact rfl); (case t1_2 => exact (Blk.new wr 45 (List.toArray (Value.int .i64 0 :: Value.int .i64 0 :: Value.int .i64 0 :: Value.int .i64 0 :: Value.bool false :: Value.int .i64 0 :: Value.int .i64 0 :: Value.int .i64 0 :: Value.int .i64 0 :: Value.int .i64 0 :: Value.int .i64 0 :: Value.int .i64 0 :: Value.int .i64 0 :: Value.int .i64 0 :: Value.int .i64 0 :: Value.int .i64 0 :: Value.int .u8 0 :: Value.int .u8 0 :: Value.int .u8 0 :: Value.int .u8 0 :: Value.int .i64 0 :: Value.int .i64 0 :: Value.int .i64 0 :: Value.slice none 0 0 :: Value.bool false :: Value.slice none 0 0 :: Value.int .i64 0 :: Value.bool false :: Value.slice none 0 0 :: Value.int .i64 0 :: Value.slice none 0 0 :: []))).there 0 31 (by simp)); (case i1_2 => exact size_layer); (case s1_2 => exact all_one (LyR.one Hkr.out))) | fail)
          have HB5 := Lib.hid ((Blk.new wr 45 (List.toArray (Value.int .i64 0 :: Value.int .i64 0 :: Value.int .i64 0 :: Value.int .i64 0 :: Value.bool false :: Value.int .i64 0 :: Value.int .i64 0 :: Value.int .i64 0 :: Value.int .i64 0 :: Value.int .i64 0 :: Value.int .i64 0 :: Value.int .i64 0 :: Value.int .i64 0 :: Value.int .i64 0 :: Value.int .i64 0 :: Value.int .i64 0 :: Value.int .u8 0 :: Value.int .u8 0 :: Value.int .u8 0 :: Value.int .u8 0 :: Value.int .i64 0 :: Value.int .i64 0 :: Value.int .i64 0 :: Value.slice none 0 0 :: Value.bool false :: Value.slice none 0 0 :: Value.int .i64 0 :: Value.bool false :: Value.slice none 0 0 :: Value.int .i64 0 :: Value.slice none 0 0 :: []))).setAll (lyA kd.id kd.look kp kf kb kk) rfl)
          have HM3 : Hid (Gou.Mod (fun _ => False) wr ((wr.alloc (.cells (List.toArray (Value.int .i64 0 :: Value.int .i64 0 :: Value.int .i64 0 :: Value.int .i64 0 :: Value.bool false :: Value.int .i64 0 :: Value.int .i64 0 :: Value.int .i64 0 :: Value.int .i64 0 :: Value.int .i64 0 :: Value.int .i64 0 :: Value.int .i64 0 :: Value.int .i64 0 :: Value.int .i64 0 :: Value.int .i64 0 :: Value.int .i64 0 :: Value.int .u8 0 :: Value.int .u8 0 :: Value.int .u8 0 :: Value.int .u8 0 :: Value.int .i64 0 :: Value.int .i64 0 :: Value.int .i64 0 :: Value.slice none 0 0 :: Value.bool false :: Value.slice none 0 0 :: Value.int .i64 0 :: Value.bool false :: Value.slice none 0 0 :: Value.int .i64 0 :: Value.slice none 0 0 :: [])) 45)).setCells wr.heap.size 0 (lyA kd.id kd.look kp kf kb kk).toList)) := Lib.hid (Gou.Mod.allocSet _ _ _)
          generalize (wr.alloc (.cells (List.toArray (Value.int .i64 0 :: Value.int .i64 0 :: Value.int .i64 0 :: Value.int .i64 0 :: Value.bool false :: Value.int .i64 0 :: Value.int .i64 0 :: Value.int .i64 0 :: Value.int .i64 0 :: Value.int .i64 0 :: Value.int .i64 0 :: Value.int .i64 0 :: Value.int .i64 0 :: Value.int .i64 0 :: Value.int .i64 0 :: Value.int .i64 0 :: Value.int .u8 0 :: Value.int .u8 0 :: Value.int .u8 0 :: Value.int .u8 0 :: Value.int .i64 0 :: Value.int .i64 0 :: Value.int .i64 0 :: Value.slice none 0 0 :: Value.bool false :: Value.slice none 0 0 :: Value.int .i64 0 :: Value.bool false :: Value.slice none 0 0 :: Value.int .i64 0 :: Value.slice none 0 0 :: [])) 45)).setCells wr.heap.size 0 (lyA kd.id kd.look kp kf kb kk).toList = W3 at *
          have Hks3 := Lib.hid (Hks.out.up HM3.out)
          have hown := Lib.hid (fun k (hk : (Value.slice ps j cp).ownBlock = some k) => (Hks.out.rows.1 k hk))
          have o30 : W3.cell? ⟨N, 30, none⟩ = some (.slice ps j cp) := (Hbo.out.up HM3.out).cell 30 rfl
          refine wp_region_defer (S := fun w' => Gou.Mod (fun k => (Value.slice ps j cp).ownBlock = some k) W3 w') 7 ({ dst := none, op := Op.store 43 (Operand.tmp 25) (Operand.tmp 24), type := 0, pos := "scene.go:41", after := #[{ on := 6, ground := Ground.data }, { on := 5, ground := Ground.data }, { on := 5, ground := Ground.chain }, { on := 0, ground := Ground.phase }, { on := 1, ground := Ground.phase }, { on := 2, ground := Ground.phase }, { on := 3, ground := Ground.phase }, { on := 4, ground := Ground.phase }, { on := 5, ground := Ground.phase }], guard := none } : Oper) rfl (by kernel_rfl) rfl rfl (by kernel_rfl) (by kernel_rfl) (Gou.Mod.drew _ _) (fun hHeld => ?_)
          refine wpAnyH_take (i := 0) (oi := ({ dst := some 19, op := Op.fieldAddr 45 (Operand.tmp 3) 2, type := 0, pos := "scene.go:41", after := #[], guard := none } : Oper)) (v := .pointer (some ⟨N, 30, none⟩)) rfl (by kernel_rfl) (by kernel_rfl) (by kernel_rfl) (fun _ _ _ h => h) (Or.inl ⟨by rfl, ?_⟩) hHeld ?_
          · (intro w' hSw; (try dsimp only at hSw); clear hSw hHeld; go_simp; (try with_reducible rfl))
          try simp only [Act.put, List.setIfInBounds_toArray, List.set_cons_zero, List.set_cons_succ]
          refine wpAnyH_take (i := 1) (oi := ({ dst := some 20, op := Op.load 43 (Operand.tmp 19), type := 43, pos := "scene.go:41", after := #[{ on := 0, ground := Ground.data }], guard := none } : Oper)) (v := .slice ps j cp) rfl (by kernel_rfl) (by kernel_rfl) (by kernel_rfl) (fun _ _ _ h => h) (Or.inl ⟨by rfl, ?_⟩) hHeld ?_
          · (intro w' hSw; (try dsimp only at hSw); have g := (hSw.cell (p := ⟨N, 30, none⟩) (World.block_lt_of_cell? _ _ o30) (fun h => absurd (Nat.lt_of_lt_of_le hNlt.out (hown.out _ h).1) (Nat.lt_irrefl _))).trans o30; clear hSw hHeld; go_simp; (try with_reducible rfl))
          try simp only [Act.put, List.setIfInBounds_toArray, List.set_cons_zero, List.set_cons_succ]
          refine wpAnyH_take (i := 2) (oi := ({ dst := some 21, op := Op.load 45 (Operand.tmp 5), type := 45, pos := "scene.go:41", after := #[], guard := none } : Oper)) (v := .agg (lyA kd.id kd.look kp kf kb kk)) rfl (by kernel_rfl) (by kernel_rfl) (by kernel_rfl) (fun _ _ _ h => h) (yieldsIf_load_mid (by rfl) 45 _ rfl wr.heap.size (0) rfl ((lyA kd.id kd.look kp kf kb kk).toList) _ (fun w' hSw => range_up HB5.out.whole hSw (fun h => absurd (hown.out _ h).2.1 (Nat.lt_irrefl _))) Try.underlying45 rfl size_layer) hHeld ?_
          try simp only [Act.put, List.setIfInBounds_toArray, List.set_cons_zero, List.set_cons_succ]
          refine wpAnyH_ready (rs := [3]) (by kernel_rfl) (by simp) (AllReadyH.cons (o := ({ dst := some 22, op := Op.call { callee := Callee.value (Operand.func 23), args := #[Operand.tmp 21], argTypes := #[45] }, type := 45, pos := "scene.go:41", after := #[{ on := 2, ground := Ground.data }], guard := none } : Oper)) rfl (fun K hK => ?_) AllReadyH.nil)
          go_simp
          refine (Hik.out _ (HM3.out.trans' (Gou.Mod.drew _ _))).mono ?_
          rintro e w4 ⟨vp5, vf5, vb5, vk5, F5, rfl, ho5, hm5⟩
          have M := Lib.hid (hHeld.trans' (hm5.imp (fun _ _ h => h.elim)))
          have HO5 := Lib.hid ho5
          have HM5 := Lib.hid ((Gou.Mod.drew (fun _ => False) W3).trans' hm5)
          clear hHeld ho5 hm5
          refine hK _ _ M.out (fun hHeld => ?_)
          clear hK K M
          try simp only [Act.put, List.setIfInBounds_toArray, List.set_cons_zero, List.set_cons_succ]
          refine wpAnyH_ready (rs := [4]) (by kernel_rfl) (by simp) (AllReadyH.cons (o := ({ dst := some 23, op := Op.buildSlice 43 1 #[(0, Operand.tmp 22)], type := 43, pos := "scene.go:41", after := #[{ on := 3, ground := Ground.data }], guard := none } : Oper)) rfl (fun K hK => ?_) AllReadyH.nil)
          rw [if_pos (by rfl)]
          refine wp_buildRow T_ly _ rfl (lyA kd.id kd.look vp5 vf5 vb5 vk5) rfl rfl (by decide) ?_
          have M := Lib.hid (hHeld.trans' (Gou.Mod.alloc (fun k => (Value.slice ps j cp).ownBlock = some k) w4 (.cells (lyA kd.id kd.look vp5 vf5 vb5 vk5) 45)))
          have HM6 := Lib.hid (HM5.out.trans' (Gou.Mod.alloc0 w4 (.cells (lyA kd.id kd.look vp5 vf5 vb5 vk5) 45)))
          have HO6 := Lib.hid (HO5.out.up (Gou.Mod.alloc0 w4 (.cells (lyA kd.id kd.look vp5 vf5 vb5 vk5) 45)))
          have HB6 := Lib.hid (Blk.new w4 45 (lyA kd.id kd.look vp5 vf5 vb5 vk5))
          clear hHeld HO5 HM5
          refine hK _ _ M.out (fun hHeld => ?_)
          clear hK K M
          try simp only [Act.put, List.setIfInBounds_toArray, List.set_cons_zero, List.set_cons_succ]
          refine wpAnyH_ready (rs := [5]) (by kernel_rfl) (by simp) (AllReadyH.cons (o := ({ dst := some 24, op := Op.call { callee := Callee.builtin Builtin.append, args := #[Operand.tmp 20, Operand.tmp 23], argTypes := #[43, 43] }, type := 43, pos := "scene.go:41", after := #[{ on := 1, ground := Ground.data }, { on := 4, ground := Ground.data }, { on := 3, ground := Ground.chain }], guard := none } : Oper)) rfl (fun K hK => ?_) AllReadyH.nil)
          rw [if_pos (by rfl)]
          generalize w4.alloc (.cells (lyA kd.id kd.look vp5 vf5 vb5 vk5) 45) = w6 at *
          generalize w4.heap.size = N6 at *
          refine wp_append_row T_ly _ _ rfl (w9.heap.size) (.slice ps j cp) j cs.flatten (fun _ => True) (.slice (some ⟨N6, 0, none⟩) 1 1) 1 (lyA kd.id kd.look vp5 vf5 vb5 vk5).toList rfl rfl (Nat.le_trans Hm.out.size (HM3.out.trans' HM6.out).size) (Hks3.out.up HM6.out).own (RowG.of_blk HB6.out 31 1 rfl _ trivial) (LyR.one HO6.out.reads) (by have := Hil.out; have := Hlen.out; unfold maxLen; omega) (by have := Hil.out; have := Hlen.out; omega) ?_
          intro v7 w7 G7
          obtain ⟨p7, c7, rfl⟩ := Gou.ownsRow_form G7.own
          have M := Lib.hid (hHeld.trans' G7.mod)
          clear hHeld
          refine hK _ _ M.out (fun hHeld => ?_)
          clear hK K M
          try simp only [Act.put, List.setIfInBounds_toArray, List.set_cons_zero, List.set_cons_succ]
          refine wpAnyH_take (i := 6) (oi := ({ dst := some 25, op := Op.fieldAddr 45 (Operand.tmp 3) 2, type := 0, pos := "scene.go:41", after := #[{ on := 0, ground := Ground.phase }, { on := 1, ground := Ground.phase }, { on := 2, ground := Ground.phase }, { on := 3, ground := Ground.phase }, { on := 4, ground := Ground.phase }, { on := 5, ground := Ground.phase }], guard := none } : Oper)) (v := .pointer (some ⟨N, 30, none⟩)) rfl (by kernel_rfl) (by kernel_rfl) (by kernel_rfl) (fun _ _ _ h => h) (Or.inl ⟨by rfl, ?_⟩) hHeld ?_
          · (intro w' hSw; (try dsimp only at hSw); clear hSw hHeld; go_simp; (try with_reducible rfl))
          try simp only [Act.put, List.setIfInBounds_toArray, List.set_cons_zero, List.set_cons_succ]
          refine wpAnyH_take (i := 7) (oi := ({ dst := none, op := Op.assign (Operand.const (Value.bool true)), type := 0, pos := "scene.go:41", after := #[{ on := 6, ground := Ground.data }, { on := 5, ground := Ground.data }, { on := 5, ground := Ground.chain }, { on := 0, ground := Ground.phase }, { on := 1, ground := Ground.phase }, { on := 2, ground := Ground.phase }, { on := 3, ground := Ground.phase }, { on := 4, ground := Ground.phase }, { on := 5, ground := Ground.phase }], guard := none } : Oper)) (v := .bool true) rfl (by kernel_rfl) (by kernel_rfl) (by kernel_rfl) (fun _ _ _ h => h) (Or.inl ⟨by rfl, ?_⟩) hHeld ?_
          · (intro w' hSw; clear hSw hHeld; go_simp; (try with_reducible rfl))
          try simp only [Act.put, List.setIfInBounds_toArray, List.set_cons_zero, List.set_cons_succ]
          have MS := Lib.hid hHeld
          refine wpAnyH_done (by kernel_rfl) ?_ _
          clear hHeld
          show Oper.wp _ _ _ _ _ _
          have HK7 := Lib.hid (Hks3.out.grow HM6.out (Nat.le_refl _) (Nat.le_trans Hm.out.size HM3.out.size) Hkj.out HO6.out G7)
          have hnl : ∀ k, LookBlk 45 67 W3 k → ¬ ((Value.slice ps j cp).ownBlock = some k) := fun k hl hb => (Hks3.out.rows.1 k hb).2.2 hl
          have HS7 := Lib.hid MS.out
          have hNo : Hid (¬ ((Value.slice ps j cp).ownBlock = some N)) := Lib.hid (fun h => by have := (hown.out _ h).1; have := hNlt.out; omega)
          have hRo : Hid (¬ ((Value.slice ps j cp).ownBlock = some (w.heap.size + 1))) := Lib.hid (fun h => by have := (hown.out _ h).1; have := hRlt.out; omega)
          have HB7 := Lib.hid ((Hbo.out.up HM3.out).mod HS7.out hNo.out)
          have HR7 := Lib.hid ((Hbr.out.up HM3.out).mod HS7.out hRo.out)
          have HL7 := Lib.hid ((Hlk.out.look_mod HM3.out (fun _ _ _ h => h)).look_mod HS7.out (fun k _ hl => hnl k hl))
          have HM7 := Lib.hid ((Hm.out.trans' (HM3.out.imp (S' := fun k => k = N) (fun _ _ h => h.elim))).trans HS7.out (fun k hk h => by have := (hown.out _ h).1; omega))
          clear hnl MS HS7 hNo hRo o30 hown Hks3 HO6 HB6 HB5 HM6 G7 Hbo Hbr Hlk Hks HM3
          have o7 : w7.cell? ⟨N, 30, none⟩ = some (.slice ps j cp) := HB7.out.cell 30 rfl
          have f7 := HB7.out.frozen 30
          go_simp
          have hwi : wrap64 ((j : Int) + 1) = ((j + 1 : Nat) : Int) := by have := Hil.out; have := Hlen.out; unfold wrap64; omega
          have HS8 := Lib.hid (Gou.Mod.set1 w7 N 30 (.slice p7 (j + 1) c7))
          have HB8 : Hid (Blk (w7.setCell ⟨N, 30, none⟩ (.slice p7 (j + 1) c7)) N 45 (lyA i lk vp4 vf4 vb4 (.slice p7 (j + 1) c7))) := Lib.hid (HB7.out.set 30 _)
          have HR8 := Lib.hid (HR7.out.mod HS8.out (by have := Hne.out; omega))
          have HL8 := Lib.hid (HL7.out.look_mod HS8.out (fun k _ hl e => by obtain ⟨cur, T', h1, h2, _⟩ := hl; rw [e] at h1; have h3 := HB7.out; unfold Blk at h3; rw [h3] at h1; simp only [Option.some.injEq, Obj.cells.injEq] at h1; exact h2 h1.2.1.symm))
          have HK8 := Lib.hid (HK7.out.mod HS8.out (fun k hk _ e => by have := hNlt.out; omega))
          have HM8 := Lib.hid (HM7.out.trans' HS8.out)
          clear HB7 HR7 HL7 HK7 HM7 HS8 o7 f7
          go_wp2_with fail
          go_roundw
          case rel => exact ⟨j + 1, by rw [← hwi], by have := Hil.out; omega, _, _, _, HK8.out, HB8.out, HL8.out, HR8.out, HM8.out⟩
          case measure => rw [hwi]; have := Hil.out; simp only [intOf]; omega
        · have hil' : j = ks.length := by omega
          subst hil'
          clear hj
          have HW := Lib.hid ((Hks.out.low (Nat.le_trans HM0.out.size (Nat.le_refl _))).whole i lk Hlk.out)
          have HBN := Lib.hid Hbo.out.whole
          have HTh := Lib.hid (Hbr.out.there 0 31 (by simp))
          have Hone := Lib.hid (all_one (LyR.one (T := .mk i lk ks) HW.out.reads))
          go_wp2_with (first | ((with_reducible refine wpList_load_mid ?g1_3 45 ?x1_3 ?o1_3 (N) (0) ?h1_3 ((lyA i lk vp4 vf4 vb4 (.slice ps ks.length cp)).toList) ?d1_3 ?c1_3 ?u1_3 ?e1_3 ?i1_3 ?r1_3); (case g1_3 => exact rfl); (case o1_3 => exact rfl); (case h1_3 => exact rfl); (case c1_3 => exact HBN.out); (case u1_3 => exact Try.underlying45); (case e1_3 => exact rfl); (case i1_3 => exact size_layer)) | ((with_reducible refine wpList_store_mid ?g1_4 45 ?x1_4 ?y1_4 ?o1_4 (w.heap.size + 1) (0) (lyA i lk vp4 vf4 vb4 (.slice ps ks.length cp)) ?h1_4 ?j1_4 ?t1_4 ?i1_4 ?s1_4 ?r1_4); (case g1_4 => exact rfl); (case o1_4 => exact rfl); (case h1_4 => exact rfl); (case j1_4 => exact rfl); (case t1_4 => exact HTh.out); (case i1_4 => exact size_layer); (case s1_4 => exact Hone.out)) | fail)
          have HS := Lib.hid (Blk.setMod wr (w.heap.size + 1) 0 (lyA i lk vp4 vf4 vb4 (.slice ps ks.length cp)).toList)
          have HR := Hbr.out.setAll (lyA i lk vp4 vf4 vb4 (.slice ps ks.length cp)) rfl
          refine bodyPost_ret (results_cell_row rfl _ _ (w.heap.size + 1) 45 (lyA i lk vp4 vf4 vb4 (.slice ps ks.length cp)) (0, 0) _ rfl HR Try.underlying45 rfl size_layer) rfl ?_
          refine ⟨vp4, vf4, vb4, _, _, rfl, HW.out.mod HS.out (fun k hk e => ?_) (fun k hk hl e => ?_), HMw.out.trans HS.out (fun k hk e => by omega)⟩
          · have h1 := Hks.out.rows
            have h2 := hRlt.out
            have h3 : w9.heap.size ≤ k := by
              rw [List.mem_append] at hk
              rcases hk with hk | hk
              · cases ho : (Value.slice ps ks.length cp).ownBlock with
                | none => rw [ho] at hk; simp at hk
                | some g => rw [ho] at hk; simp at hk; rw [hk]; exact (h1.1 g ho).1
              · exact (h1.2 k hk).1
            omega
          · obtain ⟨cur, T', g1, g2, _⟩ := hl
            rw [e] at g1
            have h3 := Hbr.out
            unfold Blk at h3
            rw [h3] at g1
            simp only [Option.some.injEq, Obj.cells.injEq] at g1
            exact g2 g1.2.1.symm

    refine wp_region_defer (S := fun w' => Gou.Mod (fun _ => False) W1 w') 7 ({ dst := none, op := Op.store 45 (Operand.tmp 3) (Operand.tmp 11), type := 0, pos := "scene.go:39", after := #[{ on := 6, ground := Ground.data }, { on := 5, ground := Ground.data }, { on := 4, ground := Ground.chain }, { on := 0, ground := Ground.phase }, { on := 1, ground := Ground.phase }, { on := 2, ground := Ground.phase }, { on := 3, ground := Ground.phase }, { on := 4, ground := Ground.phase }, { on := 5, ground := Ground.phase }, { on := 6, ground := Ground.phase }], guard := none } : Oper) rfl (by kernel_rfl) rfl rfl (by kernel_rfl) (by kernel_rfl) (Gou.Mod.drew _ _) (fun hHeld => ?_)
    refine wpAnyH_take (i := 0) (oi := ({ dst := some 6, op := Op.fieldAddr 45 (Operand.tmp 1) 0, type := 0, pos := "scene.go:39", after := #[], guard := none } : Oper)) (v := .pointer (some ⟨w.heap.size, 0, none⟩)) rfl (by kernel_rfl) (by kernel_rfl) (by kernel_rfl) (fun _ _ _ h => h) (Or.inl ⟨by rfl, ?_⟩) hHeld ?_
    · (intro w' hSw; (try dsimp only at hSw); clear hSw hHeld; go_simp; (try with_reducible rfl))
    try simp only [Act.put, List.setIfInBounds_toArray, List.set_cons_zero, List.set_cons_succ]
    refine wpAnyH_take (i := 1) (oi := ({ dst := some 7, op := Op.load 30 (Operand.tmp 6), type := 30, pos := "scene.go:39", after := #[{ on := 0, ground := Ground.data }], guard := none } : Oper)) (v := .agg #[.int .i64 i.1, .int .i64 i.2]) rfl (by kernel_rfl) (by kernel_rfl) (by kernel_rfl) (fun _ _ _ h => h) (yieldsIf_load_mid (by rfl) 30 _ rfl w.heap.size (0) rfl ([.int .i64 i.1, .int .i64 i.2]) _ (fun w' hSw => range_up HR0.out hSw (fun h => h)) Try.underlying30 rfl size_id) hHeld ?_
    try simp only [Act.put, List.setIfInBounds_toArray, List.set_cons_zero, List.set_cons_succ]
    refine wpAnyH_take (i := 2) (oi := ({ dst := some 8, op := Op.fieldAddr 45 (Operand.tmp 1) 1, type := 0, pos := "scene.go:39", after := #[], guard := none } : Oper)) (v := .pointer (some ⟨w.heap.size, 2, none⟩)) rfl (by kernel_rfl) (by kernel_rfl) (by kernel_rfl) (fun _ _ _ h => h) (Or.inl ⟨by rfl, ?_⟩) hHeld ?_
    · (intro w' hSw; (try dsimp only at hSw); clear hSw hHeld; go_simp; (try with_reducible rfl))
    try simp only [Act.put, List.setIfInBounds_toArray, List.set_cons_zero, List.set_cons_succ]
    refine wpAnyH_take (i := 3) (oi := ({ dst := some 9, op := Op.load 42 (Operand.tmp 8), type := 42, pos := "scene.go:39", after := #[{ on := 2, ground := Ground.data }], guard := none } : Oper)) (v := .agg (lookC lk vp vf vb)) rfl (by kernel_rfl) (by kernel_rfl) (by kernel_rfl) (fun _ _ _ h => h) (yieldsIf_load_mid (by rfl) 42 _ rfl w.heap.size (2) rfl ((lookC lk vp vf vb).toList) _ (fun w' hSw => range_up HR2.out hSw (fun h => h)) Try.underlying42 rfl size_look) hHeld ?_
    try simp only [Act.put, List.setIfInBounds_toArray, List.set_cons_zero, List.set_cons_succ]
    refine wpAnyH_ready (rs := [4, 6]) (by kernel_rfl) (by simp) (AllReadyH.cons (o := ({ dst := some 10, op := Op.call { callee := Callee.value (Operand.func 32), args := #[Operand.tmp 9], argTypes := #[42] }, type := 42, pos := "scene.go:39", after := #[{ on := 3, ground := Ground.data }], guard := none } : Oper)) rfl (fun K1 hK => ?_) (AllReadyH.cons (o := ({ dst := some 3, op := Op.alloc 45, type := 0, pos := "scene.go:39", after := #[], guard := none } : Oper)) rfl (fun K1 hK => ?_) AllReadyH.nil))
    · skip
      go_simp
      refine (look_any _ vp vf vb lk (LookR.mod Hl.out (Hbm.out.trans' hHeld) (fun _ _ _ h => h)) Hft.out.look).mono ?_
      rintro e w4 ⟨vp4, vf4, vb4, rfl, hl4, hm4⟩
      have M := Lib.hid (hHeld.trans' hm4)
      have HL4 := Lib.hid hl4
      have HM4 := Lib.hid hm4
      have HH4 := Lib.hid hHeld
      clear hHeld hl4 hm4
      refine hK _ _ M.out (fun hHeld => ?_)
      clear hK K1 M
      try simp only [Act.put, List.setIfInBounds_toArray, List.set_cons_zero, List.set_cons_succ]
      refine wpAnyH_take (i := 5) (oi := ({ dst := some 11, op := Op.build 45 #[(0, Operand.tmp 7), (1, Operand.tmp 10)], type := 45, pos := "scene.go:39", after := #[{ on := 1, ground := Ground.data }, { on := 4, ground := Ground.data }], guard := none } : Oper)) (v := .agg (lyA i lk vp4 vf4 vb4 (.slice none 0 0))) rfl (by kernel_rfl) (by kernel_rfl) (by kernel_rfl) (fun _ _ _ h => h) (Or.inl ⟨by rfl, fun w' hSw => by kernel_rfl⟩) hHeld ?_
      try simp only [Act.put, List.setIfInBounds_toArray, List.set_cons_zero, List.set_cons_succ]
      refine wpAnyH_ready (rs := [6]) (by kernel_rfl) (by simp) (AllReadyH.cons (o := ({ dst := some 3, op := Op.alloc 45, type := 0, pos := "scene.go:39", after := #[], guard := none } : Oper)) rfl (fun K1 hK => ?_) AllReadyH.nil)
      go_simp
      have M := Lib.hid (hHeld.trans' (Gou.Mod.alloc0 (w4) (.cells (List.toArray (Value.int .i64 0 :: Value.int .i64 0 :: Value.int .i64 0 :: Value.int .i64 0 :: Value.bool false :: Value.int .i64 0 :: Value.int .i64 0 :: Value.int .i64 0 :: Value.int .i64 0 :: Value.int .i64 0 :: Value.int .i64 0 :: Value.int .i64 0 :: Value.int .i64 0 :: Value.int .i64 0 :: Value.int .i64 0 :: Value.int .i64 0 :: Value.int .u8 0 :: Value.int .u8 0 :: Value.int .u8 0 :: Value.int .u8 0 :: Value.int .i64 0 :: Value.int .i64 0 :: Value.int .i64 0 :: Value.slice none 0 0 :: Value.bool false :: Value.slice none 0 0 :: Value.int .i64 0 :: Value.bool false :: Value.slice none 0 0 :: Value.int .i64 0 :: Value.slice none 0 0 :: [])) 45)))
      have HN6 := Lib.hid (Blk.new (w4) 45 (List.toArray (Value.int .i64 0 :: Value.int .i64 0 :: Value.int .i64 0 :: Value.int .i64 0 :: Value.bool false :: Value.int .i64 0 :: Value.int .i64 0 :: Value.int .i64 0 :: Value.int .i64 0 :: Value.int .i64 0 :: Value.int .i64 0 :: Value.int .i64 0 :: Value.int .i64 0 :: Value.int .i64 0 :: Value.int .i64 0 :: Value.int .i64 0 :: Value.int .u8 0 :: Value.int .u8 0 :: Value.int .u8 0 :: Value.int .u8 0 :: Value.int .i64 0 :: Value.int .i64 0 :: Value.int .i64 0 :: Value.slice none 0 0 :: Value.bool false :: Value.slice none 0 0 :: Value.int .i64 0 :: Value.bool false :: Value.slice none 0 0 :: Value.int .i64 0 :: Value.slice none 0 0 :: [])))
      have HA6 := Lib.hid (Gou.Mod.alloc0 (w4) (.cells (List.toArray (Value.int .i64 0 :: Value.int .i64 0 :: Value.int .i64 0 :: Value.int .i64 0 :: Value.bool false :: Value.int .i64 0 :: Value.int .i64 0 :: Value.int .i64 0 :: Value.int .i64 0 :: Value.int .i64 0 :: Value.int .i64 0 :: Value.int .i64 0 :: Value.int .i64 0 :: Value.int .i64 0 :: Value.int .i64 0 :: Value.int .i64 0 :: Value.int .u8 0 :: Value.int .u8 0 :: Value.int .u8 0 :: Value.int .u8 0 :: Value.int .i64 0 :: Value.int .i64 0 :: Value.int .i64 0 :: Value.slice none 0 0 :: Value.bool false :: Value.slice none 0 0 :: Value.int .i64 0 :: Value.bool false :: Value.slice none 0 0 :: Value.int .i64 0 :: Value.slice none 0 0 :: [])) 45))
      have HH6 := Lib.hid hHeld
      clear hHeld
      refine hK _ _ M.out (fun hHeld => ?_)
      clear hK K1 M
      try simp only [Act.put, List.setIfInBounds_toArray, List.set_cons_zero, List.set_cons_succ]
      refine wpAnyH_take (i := 7) (oi := ({ dst := none, op := Op.assign (Operand.const (Value.bool true)), type := 0, pos := "scene.go:39", after := #[{ on := 6, ground := Ground.data }, { on := 5, ground := Ground.data }, { on := 4, ground := Ground.chain }, { on := 0, ground := Ground.phase }, { on := 1, ground := Ground.phase }, { on := 2, ground := Ground.phase }, { on := 3, ground := Ground.phase }, { on := 4, ground := Ground.phase }, { on := 5, ground := Ground.phase }, { on := 6, ground := Ground.phase }], guard := none } : Oper)) (v := .bool true) rfl (by kernel_rfl) (by kernel_rfl) (by kernel_rfl) (fun _ _ _ h => h) (Or.inl ⟨by rfl, ?_⟩) hHeld ?_
      · (intro w' hSw; clear hSw hHeld; go_simp; (try with_reducible rfl))
      try simp only [Act.put, List.setIfInBounds_toArray, List.set_cons_zero, List.set_cons_succ]
      have MS := Lib.hid hHeld
      refine wpAnyH_done (by kernel_rfl) ?_ _
      clear hHeld
      show Oper.wp _ _ _ _ _ _
      refine wp_store_mid 45 _ _ rfl (w4.heap.size) 0 (lyA i lk vp4 vf4 vb4 (.slice none 0 0)) rfl rfl (HN6.out.there 0 31 (by simp)) size_layer (all_one (LyR.one (T := .mk i lk []) (vk := .slice none 0 0) (LyR.mk i lk [] vp4 vf4 vb4 (.slice none 0 0) [] HL4.out (RowG.nil _ _ _) rfl (fun j c k h => by simp at h)))) ?_
      have HS := Lib.hid (Blk.setMod (w4.alloc (.cells (List.toArray (Value.int .i64 0 :: Value.int .i64 0 :: Value.int .i64 0 :: Value.int .i64 0 :: Value.bool false :: Value.int .i64 0 :: Value.int .i64 0 :: Value.int .i64 0 :: Value.int .i64 0 :: Value.int .i64 0 :: Value.int .i64 0 :: Value.int .i64 0 :: Value.int .i64 0 :: Value.int .i64 0 :: Value.int .i64 0 :: Value.int .i64 0 :: Value.int .u8 0 :: Value.int .u8 0 :: Value.int .u8 0 :: Value.int .u8 0 :: Value.int .i64 0 :: Value.int .i64 0 :: Value.int .i64 0 :: Value.slice none 0 0 :: Value.bool false :: Value.slice none 0 0 :: Value.int .i64 0 :: Value.bool false :: Value.slice none 0 0 :: Value.int .i64 0 :: Value.slice none 0 0 :: [])) 45)) w4.heap.size 0 (lyA i lk vp4 vf4 vb4 (.slice none 0 0)).toList)
      have hlt := Nat.lt_of_lt_of_le (Blk.lt Hb1.out) (HH6.out.size)
      exact tail.out w4.heap.size _ vp4 vf4 vb4 (HN6.out.setAll _ rfl) (by omega) ((HH6.out.trans' HA6.out).trans HS.out (fun k hk e => by have := HH6.out.size; omega)) (LookR.mono_look (HL4.out.look_mod (HA6.out.imp (S' := fun k => k = w4.heap.size) (fun _ _ h => h.elim) |>.trans' HS.out) (fun k _ hl e => by obtain ⟨cur, T', h1, _⟩ := hl; have := Blk.lt h1; omega)) Hbm.out.size)
    · skip
      go_simp
      have M := Lib.hid (hHeld.trans' (Gou.Mod.alloc0 (W1.drew) (.cells (List.toArray (Value.int .i64 0 :: Value.int .i64 0 :: Value.int .i64 0 :: Value.int .i64 0 :: Value.bool false :: Value.int .i64 0 :: Value.int .i64 0 :: Value.int .i64 0 :: Value.int .i64 0 :: Value.int .i64 0 :: Value.int .i64 0 :: Value.int .i64 0 :: Value.int .i64 0 :: Value.int .i64 0 :: Value.int .i64 0 :: Value.int .i64 0 :: Value.int .u8 0 :: Value.int .u8 0 :: Value.int .u8 0 :: Value.int .u8 0 :: Value.int .i64 0 :: Value.int .i64 0 :: Value.int .i64 0 :: Value.slice none 0 0 :: Value.bool false :: Value.slice none 0 0 :: Value.int .i64 0 :: Value.bool false :: Value.slice none 0 0 :: Value.int .i64 0 :: Value.slice none 0 0 :: [])) 45)))
      have HN6 := Lib.hid (Blk.new (W1.drew) 45 (List.toArray (Value.int .i64 0 :: Value.int .i64 0 :: Value.int .i64 0 :: Value.int .i64 0 :: Value.bool false :: Value.int .i64 0 :: Value.int .i64 0 :: Value.int .i64 0 :: Value.int .i64 0 :: Value.int .i64 0 :: Value.int .i64 0 :: Value.int .i64 0 :: Value.int .i64 0 :: Value.int .i64 0 :: Value.int .i64 0 :: Value.int .i64 0 :: Value.int .u8 0 :: Value.int .u8 0 :: Value.int .u8 0 :: Value.int .u8 0 :: Value.int .i64 0 :: Value.int .i64 0 :: Value.int .i64 0 :: Value.slice none 0 0 :: Value.bool false :: Value.slice none 0 0 :: Value.int .i64 0 :: Value.bool false :: Value.slice none 0 0 :: Value.int .i64 0 :: Value.slice none 0 0 :: [])))
      have HA6 := Lib.hid (Gou.Mod.alloc0 (W1.drew) (.cells (List.toArray (Value.int .i64 0 :: Value.int .i64 0 :: Value.int .i64 0 :: Value.int .i64 0 :: Value.bool false :: Value.int .i64 0 :: Value.int .i64 0 :: Value.int .i64 0 :: Value.int .i64 0 :: Value.int .i64 0 :: Value.int .i64 0 :: Value.int .i64 0 :: Value.int .i64 0 :: Value.int .i64 0 :: Value.int .i64 0 :: Value.int .i64 0 :: Value.int .u8 0 :: Value.int .u8 0 :: Value.int .u8 0 :: Value.int .u8 0 :: Value.int .i64 0 :: Value.int .i64 0 :: Value.int .i64 0 :: Value.slice none 0 0 :: Value.bool false :: Value.slice none 0 0 :: Value.int .i64 0 :: Value.bool false :: Value.slice none 0 0 :: Value.int .i64 0 :: Value.slice none 0 0 :: [])) 45))
      have HH6 := Lib.hid hHeld
      clear hHeld
      refine hK _ _ M.out (fun hHeld => ?_)
      clear hK K1 M
      try simp only [Act.put, List.setIfInBounds_toArray, List.set_cons_zero, List.set_cons_succ]
      refine wpAnyH_ready (rs := [4]) (by kernel_rfl) (by simp) (AllReadyH.cons (o := ({ dst := some 10, op := Op.call { callee := Callee.value (Operand.func 32), args := #[Operand.tmp 9], argTypes := #[42] }, type := 42, pos := "scene.go:39", after := #[{ on := 3, ground := Ground.data }], guard := none } : Oper)) rfl (fun K1 hK => ?_) AllReadyH.nil)
      go_simp
      refine (look_any _ vp vf vb lk (LookR.mod Hl.out (Hbm.out.trans' hHeld) (fun _ _ _ h => h)) Hft.out.look).mono ?_
      rintro e w4 ⟨vp4, vf4, vb4, rfl, hl4, hm4⟩
      have M := Lib.hid (hHeld.trans' hm4)
      have HL4 := Lib.hid hl4
      have HM4 := Lib.hid hm4
      have HH4 := Lib.hid hHeld
      clear hHeld hl4 hm4
      refine hK _ _ M.out (fun hHeld => ?_)
      clear hK K1 M
      try simp only [Act.put, List.setIfInBounds_toArray, List.set_cons_zero, List.set_cons_succ]
      refine wpAnyH_take (i := 5) (oi := ({ dst := some 11, op := Op.build 45 #[(0, Operand.tmp 7), (1, Operand.tmp 10)], type := 45, pos := "scene.go:39", after := #[{ on := 1, ground := Ground.data }, { on := 4, ground := Ground.data }], guard := none } : Oper)) (v := .agg (lyA i lk vp4 vf4 vb4 (.slice none 0 0))) rfl (by kernel_rfl) (by kernel_rfl) (by kernel_rfl) (fun _ _ _ h => h) (Or.inl ⟨by rfl, fun w' hSw => by kernel_rfl⟩) hHeld ?_
      try simp only [Act.put, List.setIfInBounds_toArray, List.set_cons_zero, List.set_cons_succ]
      refine wpAnyH_take (i := 7) (oi := ({ dst := none, op := Op.assign (Operand.const (Value.bool true)), type := 0, pos := "scene.go:39", after := #[{ on := 6, ground := Ground.data }, { on := 5, ground := Ground.data }, { on := 4, ground := Ground.chain }, { on := 0, ground := Ground.phase }, { on := 1, ground := Ground.phase }, { on := 2, ground := Ground.phase }, { on := 3, ground := Ground.phase }, { on := 4, ground := Ground.phase }, { on := 5, ground := Ground.phase }, { on := 6, ground := Ground.phase }], guard := none } : Oper)) (v := .bool true) rfl (by kernel_rfl) (by kernel_rfl) (by kernel_rfl) (fun _ _ _ h => h) (Or.inl ⟨by rfl, ?_⟩) hHeld ?_
      · (intro w' hSw; clear hSw hHeld; go_simp; (try with_reducible rfl))
      try simp only [Act.put, List.setIfInBounds_toArray, List.set_cons_zero, List.set_cons_succ]
      have MS := Lib.hid hHeld
      refine wpAnyH_done (by kernel_rfl) ?_ _
      clear hHeld
      show Oper.wp _ _ _ _ _ _
      refine wp_store_mid 45 _ _ rfl (W1.drew.heap.size) 0 (lyA i lk vp4 vf4 vb4 (.slice none 0 0)) rfl rfl ((HN6.out.up HM4.out).there 0 31 (by simp)) size_layer (all_one (LyR.one (T := .mk i lk []) (vk := .slice none 0 0) (LyR.mk i lk [] vp4 vf4 vb4 (.slice none 0 0) [] HL4.out (RowG.nil _ _ _) rfl (fun j c k h => by simp at h)))) ?_
      have HS := Lib.hid (Blk.setMod w4 W1.drew.heap.size 0 (lyA i lk vp4 vf4 vb4 (.slice none 0 0)).toList)
      have hlt : w.heap.size + 1 < W1.drew.heap.size := Blk.lt Hb1.out
      exact tail.out W1.drew.heap.size _ vp4 vf4 vb4 ((HN6.out.up HM4.out).setAll _ rfl) (by omega) (((HH6.out.trans' HA6.out).trans' HM4.out).trans HS.out (fun k hk e => absurd hk (by rw [e]; exact Nat.lt_irrefl _))) (LookR.mono_look (HL4.out.look_mod HS.out (fun k hb _ e => absurd (Nat.lt_of_lt_of_le (Blk.lt HN6.out) (e ▸ hb)) (Nat.lt_irrefl _))) (Nat.le_trans Hbm.out.size HH4.out.size))

end Go.Proofs.Ytpbmfalokongfaa

/- Results that lie in boxes. -/
namespace Go.Gou
open Go.RowKit
/-- A box that a result lies in. -/
structure ResAt (P : Program) (tmps : Array Value) (w : World) (p : Tmp) (T : TypeId) (cs : Array Value) : Prop where
  run : ∃ a, tmps.getD p undef = .pointer (some a) ∧ (loadVar T a).run P w = .ok (.agg cs) w
theorem ResAt.of {P : Program} {tmps : Array Value} {w : World} {p : Tmp} {T t : TypeId} {cs : Array Value} {g : Nat} {d : TypeDesc} (hp : tmps.getD p undef = .pointer (some ⟨g, 0, none⟩)) (hg : Blk w g t cs)
    (hu : P.underlying T = some d) (hd : (match d with | .struct _ | .array _ _ => true | _ => false) = true) (hi : (P.info? T).map (·.size) = some cs.size) : ResAt P tmps w p T cs :=
  ⟨_, hp, run_loadVar_row w g t T cs (0, 0) d hg hu hd hi⟩
theorem results_cct {P : Program} {fn : Func} {p q u : Tmp} {T U : TypeId} (h : fn.results = #[.cell p T, .cell q U, .tmp u]) {tmps : Array Value} {w : World} {cs ds : Array Value} (h1 : ResAt P tmps w p T cs) (h2 : ResAt P tmps w q U ds) :
    (results fn tmps).run P w = .ok (.tuple #[.agg cs, .agg ds, tmps.getD u undef]) w := by
  obtain ⟨a, e1, e2⟩ := h1.run
  obtain ⟨b, e3, e4⟩ := h2.run
  have e1' : tmps[p]?.getD undef = .pointer (some a) := by simpa using e1
  have e3' : tmps[q]?.getD undef = .pointer (some b) := by simpa using e3
  simp [results, h, e1', e2, e3', e4, asAddr, Sem.run_bind]
theorem results_ct {P : Program} {fn : Func} {p u : Tmp} {T : TypeId} (h : fn.results = #[.cell p T, .tmp u]) {tmps : Array Value} {w : World} {cs : Array Value} (h1 : ResAt P tmps w p T cs) :
    (results fn tmps).run P w = .ok (.tuple #[.agg cs, tmps.getD u undef]) w := by
  obtain ⟨a, e1, e2⟩ := h1.run
  have e1' : tmps[p]?.getD undef = .pointer (some a) := by simpa using e1
  simp [results, h, e1', e2, asAddr, Sem.run_bind]
theorem results_cc {P : Program} {fn : Func} {p q : Tmp} {T U : TypeId} (h : fn.results = #[.cell p T, .cell q U]) {tmps : Array Value} {w : World} {cs ds : Array Value} (h1 : ResAt P tmps w p T cs) (h2 : ResAt P tmps w q U ds) :
    (results fn tmps).run P w = .ok (.tuple #[.agg cs, .agg ds]) w := by
  obtain ⟨a, e1, e2⟩ := h1.run
  obtain ⟨b, e3, e4⟩ := h2.run
  have e1' : tmps[p]?.getD undef = .pointer (some a) := by simpa using e1
  have e3' : tmps[q]?.getD undef = .pointer (some b) := by simpa using e3
  simp [results, h, e1', e2, e3', e4, asAddr, Sem.run_bind]
end Go.Gou

