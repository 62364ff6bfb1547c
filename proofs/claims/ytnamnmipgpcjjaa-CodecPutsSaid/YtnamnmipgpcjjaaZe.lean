/- Texts of the codec's proofs, laid together: WrD, WrE, WrF. -/
import Derived.Test.YtnamnmipgpcjjaaYWrC
set_option linter.unusedSimpArgs false
set_option linter.unusedVariables false
set_option linter.unusedSectionVars false
set_option linter.constructorNameAsVariable false

/- Acts as bytes: pixels are written. -/
namespace Go.Gou
open Go.RowKit

def pxBytes (ps : List Pxl) : List Nat := ps.flatMap fun p => [p.p0, p.p1, p.p2, p.p3]

theorem pxBytes_len (ps : List Pxl) : (pxBytes ps).length = 4 * ps.length := by
  induction ps with
  | nil => rfl
  | cons p r ih => simp only [pxBytes, List.flatMap_cons, List.length_append] at ih ⊢; rw [ih]; simp; omega

/-- Bytes are appended. -/
theorem WrAt.pushes {w w1 w2 : World} {W : Nat} {TW TB : TypeId} {bs ys : List Nat} {vs : Value} {gg cp t : Nat} (h : WrAt w W TW TB bs vs) (ht : t = bs.length + ys.length) (hm : Mod (fun _ => False) w w1)
    (hown : w2.ownsRow (W + 1) TB 1 (.slice (some ⟨gg, 0, none⟩) t cp) t (u8s bs ++ u8s ys)) (hgrow : w1.grownBy w2 vs.ownBlock) (hat : vs.ownBlock = some gg ∨ gg = w1.heap.size) :
    WrAt (w2.setCell ⟨W, 0, none⟩ (.slice (some ⟨gg, 0, none⟩) t cp)) W TW TB (bs ++ ys) (.slice (some ⟨gg, 0, none⟩) t cp) ∧ WTo W w vs (w2.setCell ⟨W, 0, none⟩ (.slice (some ⟨gg, 0, none⟩) t cp)) (.slice (some ⟨gg, 0, none⟩) t cp) := by
  subst ht
  have hlt : ∀ k, vs.ownBlock = some k → W + 1 ≤ k ∧ k < w.heap.size := fun k hk => h.own.lt k hk
  have hW := Blk.lt h.box
  have hs := hm.size
  have hm2 := Mod.of_grown hgrow
  have hb2 : Blk w2 W TW #[vs] := (h.box.mod hm (fun h => h)).mod hm2 (fun e => by have := hlt _ e; omega)
  have hggW : gg ≠ W := by
    rcases hat with hat | hat
    · have := hlt _ hat; omega
    · omega
  refine ⟨⟨hb2.set 0 _, ?_⟩, ⟨?_, ?_⟩⟩
  · have e : u8s (bs ++ ys) = u8s bs ++ u8s ys := by simp [u8s]
    rw [e]
    have h1 := ownsRow_mod (S := fun k => k = W) hown (Mod.setCell w2 ⟨W, 0, none⟩ (.slice (some ⟨gg, 0, none⟩) (bs.length + ys.length) cp)) (fun k hk => by simp only [Value.ownBlock, Option.some.injEq] at hk; subst hk; exact hggW)
    simpa using h1
  · exact (((hm.imp fun _ _ h => h.elim).trans' (hm2.imp fun _ _ h => .inr h)).trans' ((Mod.setCell w2 ⟨W, 0, none⟩ _).imp fun _ _ h => .inl h))
  · intro g hg
    simp only [Value.ownBlock, Option.some.injEq] at hg
    subst hg
    rcases hat with hat | hat
    · exact .inl hat
    · exact .inr (by omega)

theorem WrAt.mids {w w1 w2 : World} {W : Nat} {TW TB : TypeId} {bs : List Nat} {vs : Value} (h : WrAt w W TW TB bs vs) (hm : Mod (fun _ => False) w w1) (hgrow : w1.grownBy w2 vs.ownBlock) : w2.cell? ⟨W, 0, none⟩ = some vs ∧ w2.frozen? ⟨W, 0, none⟩ = false := by
  have hb2 : Blk w2 W TW #[vs] := (h.box.mod hm (fun h => h)).mod (Mod.of_grown hgrow) (fun e => by have := (h.own.lt _ e).1; omega)
  exact ⟨hb2.cell 0 rfl, hb2.frozen 0⟩

theorem pxs_get (ps : List Pxl) (i : Nat) (h : i < ps.length) : (pxs ps)[i * 4]? = some (.int .u8 (ps[i].p0 : Nat)) ∧ (pxs ps)[i * 4 + 1]? = some (.int .u8 (ps[i].p1 : Nat)) ∧ (pxs ps)[i * 4 + 2]? = some (.int .u8 (ps[i].p2 : Nat)) ∧ (pxs ps)[i * 4 + 3]? = some (.int .u8 (ps[i].p3 : Nat)) := by
  induction ps generalizing i with
  | nil => simp at h
  | cons p r ih =>
    have e : pxs (p :: r) = p.cells ++ pxs r := by simp [pxs]
    rw [e]
    have hl : p.cells.length = 4 := rfl
    cases i with
    | zero =>
      refine ⟨?_, ?_, ?_, ?_⟩ <;> (rw [List.getElem?_append_left (by omega)]; rfl)
    | succ i =>
      have := ih i (by simpa using h)
      obtain ⟨h0, h1, h2, h3⟩ := this
      have hk : ∀ j, (p.cells ++ pxs r)[(i + 1) * 4 + j]? = (pxs r)[i * 4 + j]? := fun j => by
        rw [List.getElem?_append_right (by omega), hl]
        congr 1
        omega
      refine ⟨?_, ?_, ?_, ?_⟩
      · rw [show (i + 1) * 4 = (i + 1) * 4 + 0 from rfl, hk]; exact h0
      · rw [hk]; exact h1
      · rw [hk]; exact h2
      · rw [hk]; exact h3

theorem PixR.cells {G : Nat → Prop} {w : World} {p : Option Addr} {c n : Nat} {ps : List Pxl} (h : PixR G w (.slice p n c) ps) (h0 : 0 < ps.length) :
    n = ps.length ∧ ∃ b o, p = some ⟨b, o, none⟩ ∧ b < w.heap.size ∧ G b ∧ ∀ i, (hi : i < ps.length) → w.cell? ⟨b, o + i * 4, none⟩ = some (.int .u8 (ps[i].p0 : Nat)) ∧ w.cell? ⟨b, o + i * 4 + 1, none⟩ = some (.int .u8 (ps[i].p1 : Nat)) ∧
      w.cell? ⟨b, o + i * 4 + 2, none⟩ = some (.int .u8 (ps[i].p2 : Nat)) ∧ w.cell? ⟨b, o + i * 4 + 3, none⟩ = some (.int .u8 (ps[i].p3 : Nat)) := by
  obtain ⟨hl, p', c', e, hcap, h⟩ := h
  simp only [Value.slice.injEq] at e
  obtain ⟨rfl, rfl, rfl⟩ := e
  rcases h with h | ⟨b, o, rfl, hb, hG, hc⟩
  · omega
  · refine ⟨rfl, b, o, rfl, hb, hG, fun i hi => ?_⟩
    obtain ⟨h0, h1, h2, h3⟩ := pxs_get ps i hi
    refine ⟨hc _ _ h0, ?_, ?_, ?_⟩
    · have := hc _ _ h1; rwa [← Nat.add_assoc] at this
    · have := hc _ _ h2; rwa [← Nat.add_assoc] at this
    · have := hc _ _ h3; rwa [← Nat.add_assoc] at this

end Go.Gou
namespace Go.Proofs.Ytnamnmipgpcjjaa
open Go.RowKit Go.Gou

set_option maxRecDepth 100000 in
set_option maxHeartbeats 2000000 in
theorem wpixels_any (w : World) (W : Nat) (bs : List Nat) (vs v : Value) (ps : List Pxl) (h : Wr w W bs vs) (hx : PixR (fun b => b ≠ W ∧ vs.ownBlock ≠ some b) w v ps) (hl : bs.length + 4 * ps.length ≤ 1000000000) :
    Calls Try.prog 58 #[.pointer (some ⟨W, 0, none⟩), v] w (WrP w W bs vs (some (pxBytes ps))) := by
  have H := Lib.hid h
  obtain ⟨i0, hi0, hz0, hz1, hz2⟩ := info_parts info_u8
  obtain ⟨p, c, rfl, hpc⟩ := RowG.form hx
  have Hx := Lib.hid hx
  have Hl := Lib.hid hl
  have hxl : ps.length ≤ 250000000 := by omega
  clear h hx hl hpc
  go_enter Try.func58, Try.ntmps58
  go_wp2_with fail
  go_loopw [8] (fun c wr => ∃ (i : Nat) (v1 : Value), c = .int .i64 i ∧ i ≤ ps.length ∧ Wr wr W (bs ++ pxBytes (ps.take i)) v1 ∧ WTo W w vs wr v1) (fun c _ => ps.length - (intOf c).toNat)
  case atStart => exact ⟨0, vs, rfl, by omega, by simpa [pxBytes] using H.out, WTo.refl _ _ _⟩
  case round =>
    obtain ⟨i, v1, rfl, hi, hw1, ht1⟩ := hrel
    obtain ⟨BS, hBS⟩ : ∃ BS, BS = bs ++ pxBytes (ps.take i) := ⟨_, rfl⟩
    rw [← hBS] at hw1
    have Hbl : Hid (BS.length + 4 ≤ 2000000000) := Lib.hid (by have := Hl.out; rw [hBS]; simp only [List.length_append, pxBytes_len, List.length_take]; omega)
    have HBS := Lib.hid hBS
    obtain ⟨pv, cv, rfl⟩ := ownsRow_form hw1.own
    have Hw1 := Lib.hid hw1
    have Ht1 := Lib.hid ht1
    have cW := hw1.box.cell 0 rfl
    have fW := hw1.box.frozen 0
    have hWlt := Blk.lt hw1.box
    clear hw1 ht1 hBS
    by_cases hil : i < ps.length
    · have e1 : decide ((i : Int) < (ps.length : Int)) = true := by simp; omega
      obtain ⟨-, b, o, rfl, hb, hG, hc⟩ := Hx.out.cells (by omega)
      obtain ⟨k0, k1, k2, k3⟩ := hc i hil
      have hmc : ∀ j, wr.cell? ⟨b, j, none⟩ = w.cell? ⟨b, j, none⟩ := fun j => Ht1.out.mod.cell (p := ⟨b, j, none⟩) hb (by rintro (e | e); exact hG.1 e; exact hG.2 e)
      rw [← hmc] at k0 k1 k2 k3
      have hiI : (i : Int) < (ps.length : Int) := by omega
      have hi0I : (0 : Int) ≤ (i : Int) := by omega
      have hpt : Hid (pxBytes (ps.take (i + 1)) = pxBytes (ps.take i) ++ [ps[i].p0, ps[i].p1, ps[i].p2, ps[i].p3]) := Lib.hid (by simp only [pxBytes, List.take_add_one, List.getElem?_eq_getElem hil, Option.toList_some, List.flatMap_append, List.flatMap_cons, List.flatMap_nil, List.append_nil])
      clear hc hG hmc
      generalize ps[i] = px at *
      obtain ⟨p0, p1, p2, p3⟩ := px
      simp only at k0 k1 k2 k3
      have Hown : Hid (((wr.alloc (.cells #[.int .u8 (p0 : Nat), .int .u8 (p1 : Nat), .int .u8 (p2 : Nat), .int .u8 (p3 : Nat)] 27)).drew).ownsRow (W + 1) 5 1 (.slice pv BS.length cv) BS.length (u8s BS)) :=
        Lib.hid (ownsRow_mod Hw1.out.own ((Gou.Mod.alloc (fun _ => False) _ _).trans' (Gou.Mod.drew _ _)) (fun _ _ h => h))
      have HM : Hid (Gou.Mod (fun _ => False) wr ((wr.alloc (.cells #[.int .u8 (p0 : Nat), .int .u8 (p1 : Nat), .int .u8 (p2 : Nat), .int .u8 (p3 : Nat)] 27)).drew)) := Lib.hid ((Gou.Mod.alloc (fun _ => False) _ _).trans' (Gou.Mod.drew _ _))
      go_wp2_with fail
      go_region_law (first | (refine step_append_lies _ (by rfl) _ _ _ (by rfl) (W + 1) 5 i0 (.int .u8 0) 1 1 Try.underlying44 hi0 hz0 hz1 hz2 rfl (by omega) (.slice pv BS.length cv) BS.length (u8s BS) (by rfl) Hown.out ⟨_, 0, none⟩ 4 _ [.int .u8 (p0 : Nat), .int .u8 (p1 : Nat), .int .u8 (p2 : Nat), .int .u8 (p3 : Nat)] (by rfl) (by rfl) (news_at (cs := #[.int .u8 (p0 : Nat), .int .u8 (p1 : Nat), .int .u8 (p2 : Nat), .int .u8 (p3 : Nat)]) (t := 27) (fr := (0, 0)) (by rw [heap_drew]; exact heap_at rfl) rfl) (by simp [Value.oneCell']) (by omega) (by have := Hbl.out; unfold maxLen; omega) (by have := Hbl.out; omega) (by simp; omega) _ rfl ?_; intro gg cp w4 hown4 hgrow4 hat4 hlt4; have hcf4 := Hw1.out.mids HM.out hgrow4; obtain ⟨c4, f4⟩ := hcf4) | fail)
      all_goals
        have hP := Hw1.out.pushes (ys := [p0, p1, p2, p3]) rfl HM.out hown4 hgrow4 hat4
        have HP := Lib.hid hP
        clear hP hown4 hgrow4 hat4 hlt4
        go_wp2_with fail
        go_roundw
        case rel => exact ⟨i + 1, _, by go_num, by omega, by
            rw [hpt.out, ← List.append_assoc, ← HBS.out]
            exact HP.out.1, Ht1.out.trans HP.out.2⟩
        case measure => simp [intOf]; omega
    · obtain rfl : i = ps.length := by omega
      have e1 : decide ((ps.length : Int) < (ps.length : Int)) = false := by simp
      go_wp2_with fail
      go_end0
      exact ⟨_, Ht1.out, rfl, by
        have := Hw1.out
        rw [HBS.out, List.take_length] at this
        rw [HBS.out, List.take_length]
        exact this⟩

end Go.Proofs.Ytnamnmipgpcjjaa

/- Acts as bytes: a filter is written. -/
namespace Go.Gou
open Go.RowKit

def encNode (n : GNode) : Option (List Nat) :=
  if n.ins.length ≤ 100 ∧ n.ps.length ≤ 100 then (encNums [n.op, (n.ins.length : Int)]).bind fun a => (encNums n.ins).bind fun b => (encNums [(n.ps.length : Int)]).bind fun c => (encNums n.ps).bind fun d => some (a ++ (b ++ (c ++ d)))
  else none
def encNodes : List GNode → Option (List Nat)
  | [] => some []
  | n :: r => (encNode n).bind fun a => (encNodes r).map (a ++ ·)
def encGraph (g : Gr) : Option (List Nat) :=
  if g.nodes.length ≤ 1000 then (encNums [g.out, (g.nodes.length : Int)]).bind fun a => (encNodes g.nodes).map (a ++ ·) else none

theorem encNode_len {n : GNode} {es : List Nat} (h : encNode n = some es) : es.length ≤ 1015 := by
  unfold encNode at h
  split at h
  · rename_i hc
    obtain ⟨a, ha, h⟩ := Option.bind_eq_some_iff.1 h
    obtain ⟨b, hb, h⟩ := Option.bind_eq_some_iff.1 h
    obtain ⟨c, hcc, h⟩ := Option.bind_eq_some_iff.1 h
    obtain ⟨d, hd, h⟩ := Option.bind_eq_some_iff.1 h
    have := encNums_len ha
    have := encNums_len hb
    have := encNums_len hcc
    have := encNums_len hd
    simp only [Option.some.injEq] at h
    subst h
    simp only [List.length_append, List.length_cons, List.length_nil] at *
    omega
  · cases h

theorem encNodes_drop {ns : List GNode} {i : Nat} {n : GNode} (h : ns[i]? = some n) : encNodes (ns.drop i) = (encNode n).bind fun a => (encNodes (ns.drop (i + 1))).map (a ++ ·) := by
  obtain ⟨hi, rfl⟩ := List.getElem?_eq_some_iff.1 h
  rw [List.drop_eq_getElem_cons hi, encNodes]

theorem WTo.far {W : Nat} {TW TB : TypeId} {bs : List Nat} {w w' : World} {vs vs' : Value} (t : WTo W w vs w' vs') (h : WrAt w W TW TB bs vs) : Mod (fun k => W ≤ k) w w' :=
  t.mod.imp fun k _ hk => by
    rcases hk with rfl | hk
    · exact Nat.le_refl _
    · have := (h.own.lt _ hk).1; omega

theorem IntsR.use {W : Nat} {TW TB : TypeId} {bs : List Nat} {w : World} {vs v : Value} {xs : List Int} (h : IntsR (fun b => b < W) w v xs) (hw : WrAt w W TW TB bs vs) : IntsR (fun b => b ≠ W ∧ vs.ownBlock ≠ some b) w v xs :=
  RowG.imp h fun k _ hG => ⟨by omega, fun e => by have := (hw.own.lt _ e).1; omega⟩

theorem PixR.use {W : Nat} {TW TB : TypeId} {bs : List Nat} {w : World} {vs v : Value} {xs : List Pxl} (h : PixR (fun b => b < W) w v xs) (hw : WrAt w W TW TB bs vs) : PixR (fun b => b ≠ W ∧ vs.ownBlock ≠ some b) w v xs :=
  RowG.imp h fun k _ hG => ⟨by omega, fun e => by have := (hw.own.lt _ e).1; omega⟩

theorem NodesR.cells {G : Nat → Prop} {w : World} {p : Option Addr} {c n : Nat} {ns : List GNode} (h : NodesR G w (.slice p n c) ns) (h0 : 0 < ns.length) :
    n = ns.length ∧ ∃ b o, p = some ⟨b, o, none⟩ ∧ b < w.heap.size ∧ G b ∧ ∀ i nd, ns[i]? = some nd → ∃ pi ci pp cp, w.cell? ⟨b, o + i * 3, none⟩ = some (.int .i64 nd.op) ∧ w.cell? ⟨b, o + i * 3 + 1, none⟩ = some (.slice pi nd.ins.length ci) ∧ w.cell? ⟨b, o + i * 3 + 2, none⟩ = some (.slice pp nd.ps.length cp) ∧
      IntsR G w (.slice pi nd.ins.length ci) nd.ins ∧ IntsR G w (.slice pp nd.ps.length cp) nd.ps := by
  obtain ⟨cs, ⟨hl, p', c', e, hcap, h⟩, hn⟩ := h
  simp only [Value.slice.injEq] at e
  obtain ⟨rfl, rfl, rfl⟩ := e
  rcases h with h | ⟨b, o, rfl, hb, hG, hc⟩
  · omega
  · refine ⟨rfl, b, o, rfl, hb, hG, fun i nd hi => ?_⟩
    obtain ⟨hlt, rfl⟩ := List.getElem?_eq_some_iff.1 hi
    obtain ⟨vi, vp, c0, c1, c2, h1, h2⟩ := hn.2 i hlt
    obtain ⟨pi, ci, rfl, _⟩ := RowG.form h1
    obtain ⟨pp, cp, rfl, _⟩ := RowG.form h2
    refine ⟨pi, ci, pp, cp, hc _ _ c0, ?_, ?_, h1, h2⟩
    · have := hc _ _ c1; rwa [← Nat.add_assoc] at this
    · have := hc _ _ c2; rwa [← Nat.add_assoc] at this

theorem graph_none {g : Gr} {e1 : List Nat} (hn : g.nodes.length ≤ 1000) (h1 : encNums [g.out, (g.nodes.length : Int)] = some e1) {i : Nat} {es : List Nat} {nd : GNode} (henc : encNodes g.nodes = (encNodes (g.nodes.drop i)).map (es ++ ·)) (hnd : g.nodes[i]? = some nd)
    (h : encNode nd = none) : encGraph g = none := by
  unfold encGraph
  rw [if_pos hn, h1, henc, encNodes_drop hnd, h]
  rfl

theorem graph_step {g : Gr} {i : Nat} {es e2 : List Nat} {nd : GNode} (henc : encNodes g.nodes = (encNodes (g.nodes.drop i)).map (es ++ ·)) (hnd : g.nodes[i]? = some nd) (h : encNode nd = some e2) : encNodes g.nodes = (encNodes (g.nodes.drop (i + 1))).map ((es ++ e2) ++ ·) := by
  rw [henc, encNodes_drop hnd, h]
  cases encNodes (g.nodes.drop (i + 1)) <;> simp

end Go.Gou
namespace Go.Proofs.Ytnamnmipgpcjjaa
open Go.RowKit Go.Gou

set_option linter.constructorNameAsVariable false
set_option maxRecDepth 100000

set_option maxHeartbeats 2000000 in
theorem wgraph_any (w : World) (W : Nat) (bs : List Nat) (vs : Value) (p : Option Addr) (c : Nat) (g : Gr) (h : Wr w W bs vs) (hx : NodesR (fun b => b < W) w (.slice p g.nodes.length c) g.nodes) (hl : bs.length ≤ 900000000) :
    Calls Try.prog 49 #[.pointer (some ⟨W, 0, none⟩), .agg #[.slice p g.nodes.length c, .int .i64 g.out]] w (WrP w W bs vs (encGraph g)) := by
  have H := Lib.hid h
  have HB0 : Hid (Blk ((w.alloc (.cells #[.slice p g.nodes.length c, .int .i64 g.out] 33))) w.heap.size 33 #[.slice p g.nodes.length c, .int .i64 g.out]) := Lib.hid (heap_alloc_new w _)
  have HW0 : Hid (Wr ((w.alloc (.cells #[.slice p g.nodes.length c, .int .i64 g.out] 33))) W bs vs) := Lib.hid (h.alloc _)
  have HT0 : Hid (WTo W w vs ((w.alloc (.cells #[.slice p g.nodes.length c, .int .i64 g.out] 33))) vs) := Lib.hid (WTo.other (Gou.Mod.alloc _ _ _) vs)
  have HN0 : Hid (NodesR (fun b => b < W) ((w.alloc (.cells #[.slice p g.nodes.length c, .int .i64 g.out] 33))) (.slice p g.nodes.length c) g.nodes) := Lib.hid (hx.mod (Gou.Mod.alloc (fun _ => False) _ _) (fun _ _ _ h => h))
  have hWlt := Blk.lt h.box
  clear h hx
  go_enter Try.func49, Try.ntmps49
  by_cases hn : g.nodes.length ≤ 1000
  · have e1 : decide ((g.nodes.length : Int) ≤ 1000) = true := by simp; omega
    have Hn := Lib.hid hn
    go_wp2_with fail
    generalize hW0 : ((w.alloc (.cells #[.slice p g.nodes.length c, .int .i64 g.out] 33))) = w0 at *
    clear hW0
    have b0 := HB0.out.cell 0 rfl
    have b1 := HB0.out.cell 1 rfl
    have hB0 := Blk.lt HB0.out
    refine (must_true _).mono ?_
    rintro e w' ⟨rfl, rfl⟩
    go_wp2_with fail
    refine (numbers_any _ W (bs) vs _ [g.out, (g.nodes.length : Int)] (HW0.out.alloc _) (HW0.out.lit [g.out, (g.nodes.length : Int)] _ rfl 2 rfl _ rfl) (by simp; omega)).mono ?_
    rintro e w1 ⟨v1, t1, h1⟩
    have T1 := Lib.hid ((HT0.out.trans (WTo.other (Gou.Mod.alloc _ _ _) vs)).trans t1)
    rcases hr1 : encNums [g.out, (g.nodes.length : Int)] with _ | es1
    · rw [hr1] at h1
      subst h1
      exact ⟨rfl, v1, T1.out, by unfold encGraph; rw [if_pos Hn.out, hr1]; rfl⟩
    rw [hr1] at h1
    obtain ⟨rfl, hw1⟩ := h1
    have Hr1 := Lib.hid hr1
    have Hw1 := Lib.hid hw1
    have Tk1 := Lib.hid t1
    have hE1 := encNums_len hr1
    clear hr1 hw1 t1
    have tf := Gou.Mod.trans' ((Gou.Mod.alloc (fun k => W ≤ k) w' (.cells #[.int .i64 (g.out), .int .i64 (g.nodes.length : Int)] 3))) (WTo.far Tk1.out (HW0.out.alloc _))
    have HN1 := Lib.hid (HN0.out.mod tf (fun k _ hG hk => by omega))
    have HB1 : Hid (Blk w1 w.heap.size 33 #[.slice p g.nodes.length c, .int .i64 g.out]) := Lib.hid ((HB0.out.mod (Gou.Mod.alloc (fun _ => False) _ _) (fun h => h)).mod Tk1.out.mod (fun e => by
      rcases e with e | e
      · omega
      · have := (H.out.own.lt _ e).2; omega))
    have d0 := HB1.out.cell 0 rfl
    clear tf b0 b1
    go_wp2_with fail
    clear d0
    go_loopw [22] (fun cv wr => ∃ (i : Nat) (es : List Nat) (v2 : Value), cv = .int .i64 i ∧ i ≤ g.nodes.length ∧ encNodes g.nodes = (encNodes (g.nodes.drop i)).map (es ++ ·) ∧ es.length ≤ 1015 * i ∧ Wr wr W (bs ++ es1 ++ es) v2 ∧ WTo W w vs wr v2 ∧ NodesR (fun b => b < W) wr (.slice p g.nodes.length c) g.nodes) (fun cv _ => g.nodes.length - (intOf cv).toNat)
    case atStart => exact ⟨0, [], v1, rfl, by omega, by simp, by simp, by simpa using Hw1.out, T1.out, HN1.out⟩
    case round =>
      obtain ⟨i, es, v2, rfl, hi, henc, hes, hw, tw, hnr⟩ := hrel
      obtain ⟨BS, hBS⟩ : ∃ BS, BS = bs ++ es1 ++ es := ⟨_, rfl⟩
      rw [← hBS] at hw
      have Hbl : Hid (BS.length ≤ 910000000) := Lib.hid (by have := Hn.out; simp only [List.length_cons, List.length_nil] at hE1; rw [hBS]; simp only [List.length_append]; omega)
      have HBS := Lib.hid hBS
      have Henc := Lib.hid henc
      have Hes := Lib.hid hes
      have Hw := Lib.hid hw
      have Tw := Lib.hid tw
      have HNr := Lib.hid hnr
      have hWr : W < wr.heap.size := Blk.lt hw.box
      clear henc hes hw tw hnr hBS
      by_cases hil : i < g.nodes.length
      · have e2 : decide ((i : Int) < (g.nodes.length : Int)) = true := by simp; omega
        obtain ⟨-, b, o, rfl, hb, hbW, hc⟩ := HNr.out.cells (by omega)
        obtain ⟨nd, hnd⟩ : ∃ nd, g.nodes[i]? = some nd := ⟨_, List.getElem?_eq_getElem hil⟩
        obtain ⟨pi, ci, pp, cp, k0, k1, k2, hI, hP⟩ := hc i nd hnd
        have hiI : (i : Int) < (g.nodes.length : Int) := by omega
        have hi0I : (0 : Int) ≤ (i : Int) := by omega
        have Hnd := Lib.hid hnd
        have HI : Hid (IntsR (fun b => b < W) (wr.alloc (.cells #[.int .i64 nd.op, .slice pi nd.ins.length ci, .slice pp nd.ps.length cp] 82)) (.slice pi nd.ins.length ci) nd.ins) := Lib.hid (RowG.mod hI (Gou.Mod.alloc (fun _ => False) _ _) (fun _ _ _ h => h))
        have HP : Hid (IntsR (fun b => b < W) (wr.alloc (.cells #[.int .i64 nd.op, .slice pi nd.ins.length ci, .slice pp nd.ps.length cp] 82)) (.slice pp nd.ps.length cp) nd.ps) := Lib.hid (RowG.mod hP (Gou.Mod.alloc (fun _ => False) _ _) (fun _ _ _ h => h))
        have HNa : Hid (NodesR (fun b => b < W) (wr.alloc (.cells #[.int .i64 nd.op, .slice pi nd.ins.length ci, .slice pp nd.ps.length cp] 82)) (.slice (some ⟨b, o, none⟩) g.nodes.length c) g.nodes) := Lib.hid (HNr.out.mod (Gou.Mod.alloc (fun _ => False) _ _) (fun _ _ _ h => h))
        have HBn : Hid (Blk (wr.alloc (.cells #[.int .i64 nd.op, .slice pi nd.ins.length ci, .slice pp nd.ps.length cp] 82)) wr.heap.size 82 #[.int .i64 nd.op, .slice pi nd.ins.length ci, .slice pp nd.ps.length cp]) := Lib.hid (heap_alloc_new wr _)
        have HwA : Hid (Wr (wr.alloc (.cells #[.int .i64 nd.op, .slice pi nd.ins.length ci, .slice pp nd.ps.length cp] 82)) W BS v2) := Lib.hid (Hw.out.alloc _)
        have Tw := Lib.hid (Tw.out.trans (WTo.other (Gou.Mod.alloc _ wr (.cells #[.int .i64 nd.op, .slice pi nd.ins.length ci, .slice pp nd.ps.length cp] 82)) v2))
        clear hc hnd hI hP hbW
        by_cases hci : nd.ins.length ≤ 100
        · have e3 : decide ((nd.ins.length : Int) ≤ 100) = true := by simp; omega
          by_cases hcp : nd.ps.length ≤ 100
          · have e4 : decide ((nd.ps.length : Int) ≤ 100) = true := by simp; omega
            have Hcc : Hid (nd.ins.length ≤ 100 ∧ nd.ps.length ≤ 100) := Lib.hid ⟨hci, hcp⟩
            go_wp2_with fail
            generalize hwa : (wr.alloc (.cells #[.int .i64 nd.op, .slice pi nd.ins.length ci, .slice pp nd.ps.length cp] 82)) = wa at *
            have hLa : wr.heap.size < wa.heap.size := Blk.lt HBn.out
            have n0_1 := HBn.out.cell 0 rfl
            have n1_1 := HBn.out.cell 1 rfl
            have n2_1 := HBn.out.cell 2 rfl
            refine (must_true _).mono ?_
            rintro e w' ⟨rfl, hww⟩
            obtain rfl : wa = w' := hww.symm
            clear hww
            go_wp2_with fail
            refine (numbers_any _ W (BS) v2 _ [nd.op, (nd.ins.length : Int)] (HwA.out.alloc _) (HwA.out.lit [nd.op, (nd.ins.length : Int)] _ rfl 2 rfl _ rfl) (by have := Hbl.out; simp only [List.length_append, List.length_cons, List.length_nil] at *; omega)).mono ?_
            rintro e w2 ⟨z2, t2, h2⟩
            have T2 := Lib.hid ((Tw.out.trans (WTo.other (Gou.Mod.alloc _ _ _) v2)).trans t2)
            rcases hr2 : encNums [nd.op, (nd.ins.length : Int)] with _ | es2
            · rw [hr2] at h2
              subst h2
              exact ⟨rfl, z2, T2.out, by rw [graph_none Hn.out Hr1.out Henc.out Hnd.out (by unfold encNode; rw [if_pos Hcc.out]; simp [hr2])]⟩
            rw [hr2] at h2
            obtain ⟨rfl, hw2⟩ := h2
            have Hr2 := Lib.hid hr2
            have Hw2 := Lib.hid hw2
            have Tk2 := Lib.hid t2
            have hE2 := encNums_len hr2
            clear hr2 hw2 t2
            have Ta2 := Lib.hid (((WTo.refl W wa v2).trans (WTo.other (Gou.Mod.alloc _ _ _) v2)).trans Tk2.out)
            have HBk2 : Hid (Blk w2 wr.heap.size 82 #[.int .i64 nd.op, .slice pi nd.ins.length ci, .slice pp nd.ps.length cp]) := Lib.hid (HBn.out.mod Ta2.out.mod (fun e => by
              rcases e with e | e
              · have := hWr; omega
              · have := (Hw.out.own.lt _ e).2; omega))
            have n0_2 := HBk2.out.cell 0 rfl
            have n1_2 := HBk2.out.cell 1 rfl
            have n2_2 := HBk2.out.cell 2 rfl
            clear n0_1 n1_1 n2_1
            go_wp2_with fail
            refine (numbers_any _ W (BS ++ es2) z2 _ nd.ins Hw2.out (IntsR.use (RowG.mod HI.out (WTo.far Ta2.out HwA.out) (fun k _ hG hk => by omega)) Hw2.out) (by have := Hbl.out; simp only [List.length_append, List.length_cons, List.length_nil] at *; omega)).mono ?_
            rintro e w3 ⟨z3, t3, h3⟩
            have T3 := Lib.hid (T2.out.trans t3)
            rcases hr3 : encNums nd.ins with _ | es3
            · rw [hr3] at h3
              subst h3
              exact ⟨rfl, z3, T3.out, by rw [graph_none Hn.out Hr1.out Henc.out Hnd.out (by unfold encNode; rw [if_pos Hcc.out]; have q2 := Hr2.out; simp [q2, hr3])]⟩
            rw [hr3] at h3
            obtain ⟨rfl, hw3⟩ := h3
            have Hr3 := Lib.hid hr3
            have Hw3 := Lib.hid hw3
            have Tk3 := Lib.hid t3
            have hE3 := encNums_len hr3
            clear hr3 hw3 t3
            have Ta3 := Lib.hid (Ta2.out.trans Tk3.out)
            have HBk3 : Hid (Blk w3 wr.heap.size 82 #[.int .i64 nd.op, .slice pi nd.ins.length ci, .slice pp nd.ps.length cp]) := Lib.hid (HBn.out.mod Ta3.out.mod (fun e => by
              rcases e with e | e
              · have := hWr; omega
              · have := (Hw.out.own.lt _ e).2; omega))
            have n0_3 := HBk3.out.cell 0 rfl
            have n1_3 := HBk3.out.cell 1 rfl
            have n2_3 := HBk3.out.cell 2 rfl
            clear n0_2 n1_2 n2_2
            go_wp2_with fail
            refine (numbers_any _ W (BS ++ es2 ++ es3) z3 _ [(nd.ps.length : Int)] (Hw3.out.alloc _) (Hw3.out.lit [(nd.ps.length : Int)] _ rfl 1 rfl _ rfl) (by have := Hbl.out; simp only [List.length_append, List.length_cons, List.length_nil] at *; omega)).mono ?_
            rintro e w4 ⟨z4, t4, h4⟩
            have T4 := Lib.hid ((T3.out.trans (WTo.other (Gou.Mod.alloc _ _ _) z3)).trans t4)
            rcases hr4 : encNums [(nd.ps.length : Int)] with _ | es4
            · rw [hr4] at h4
              subst h4
              exact ⟨rfl, z4, T4.out, by rw [graph_none Hn.out Hr1.out Henc.out Hnd.out (by unfold encNode; rw [if_pos Hcc.out]; have q2 := Hr2.out; have q3 := Hr3.out; simp [q2, q3, hr4])]⟩
            rw [hr4] at h4
            obtain ⟨rfl, hw4⟩ := h4
            have Hr4 := Lib.hid hr4
            have Hw4 := Lib.hid hw4
            have Tk4 := Lib.hid t4
            have hE4 := encNums_len hr4
            clear hr4 hw4 t4
            have Ta4 := Lib.hid ((Ta3.out.trans (WTo.other (Gou.Mod.alloc _ _ _) z3)).trans Tk4.out)
            have HBk4 : Hid (Blk w4 wr.heap.size 82 #[.int .i64 nd.op, .slice pi nd.ins.length ci, .slice pp nd.ps.length cp]) := Lib.hid (HBn.out.mod Ta4.out.mod (fun e => by
              rcases e with e | e
              · have := hWr; omega
              · have := (Hw.out.own.lt _ e).2; omega))
            have n0_4 := HBk4.out.cell 0 rfl
            have n1_4 := HBk4.out.cell 1 rfl
            have n2_4 := HBk4.out.cell 2 rfl
            clear n0_3 n1_3 n2_3
            go_wp2_with fail
            refine (numbers_any _ W (BS ++ es2 ++ es3 ++ es4) z4 _ nd.ps Hw4.out (IntsR.use (RowG.mod HP.out (WTo.far Ta4.out HwA.out) (fun k _ hG hk => by omega)) Hw4.out) (by have := Hbl.out; simp only [List.length_append, List.length_cons, List.length_nil] at *; omega)).mono ?_
            rintro e w5 ⟨z5, t5, h5⟩
            have T5 := Lib.hid (T4.out.trans t5)
            rcases hr5 : encNums nd.ps with _ | es5
            · rw [hr5] at h5
              subst h5
              exact ⟨rfl, z5, T5.out, by rw [graph_none Hn.out Hr1.out Henc.out Hnd.out (by unfold encNode; rw [if_pos Hcc.out]; have q2 := Hr2.out; have q3 := Hr3.out; have q4 := Hr4.out; simp [q2, q3, q4, hr5])]⟩
            rw [hr5] at h5
            obtain ⟨rfl, hw5⟩ := h5
            have Hr5 := Lib.hid hr5
            have Hw5 := Lib.hid hw5
            have Tk5 := Lib.hid t5
            have hE5 := encNums_len hr5
            clear hr5 hw5 t5
            have Ta5 := Lib.hid (Ta4.out.trans Tk5.out)
            have hnode : encNode nd = some (es2 ++ (es3 ++ (es4 ++ es5))) := by unfold encNode; rw [if_pos Hcc.out]; have q2 := Hr2.out; have q3 := Hr3.out; have q4 := Hr4.out; have q5 := Hr5.out; simp [q2, q3, q4, q5]
            have Hnode := Lib.hid hnode
            clear hnode n0_4 n1_4 n2_4
            go_wp2_with fail
            go_roundw
            case rel => exact ⟨i + 1, es ++ (es2 ++ (es3 ++ (es4 ++ es5))), _, by go_num, by omega, graph_step Henc.out Hnd.out Hnode.out, by
                have := encNode_len Hnode.out
                have := Hes.out
                simp only [List.length_append] at *
                omega, by
                have h1 := Hw5.out
                rw [HBS.out] at h1
                simpa using h1, T5.out, HNa.out.mod (WTo.far Ta5.out HwA.out) (fun k _ hG hk => by omega)⟩
            case measure => simp [intOf]; omega
          · have e4 : decide ((nd.ps.length : Int) ≤ 100) = false := by simp; omega
            have hno : Hid (encGraph g = none) := Lib.hid (graph_none Hn.out Hr1.out Henc.out Hnd.out (by unfold encNode; rw [if_neg (fun h => hcp h.2)]))
            go_wp2_with fail
            refine (must_false _).mono ?_
            rintro e w' ⟨rfl, rfl⟩
            exact ⟨rfl, _, Tw.out, by rw [hno.out]⟩
        · have e3 : decide ((nd.ins.length : Int) ≤ 100) = false := by simp; omega
          have hno : Hid (encGraph g = none) := Lib.hid (graph_none Hn.out Hr1.out Henc.out Hnd.out (by unfold encNode; rw [if_neg (fun h => hci h.1)]))
          go_wp2_with fail
          refine (must_false _).mono ?_
          rintro e w' ⟨rfl, rfl⟩
          exact ⟨rfl, _, Tw.out, by rw [hno.out]⟩
      · obtain rfl : i = g.nodes.length := by omega
        have e2 : decide ((g.nodes.length : Int) < (g.nodes.length : Int)) = false := by simp
        have hres : Hid (encGraph g = some (es1 ++ es)) := Lib.hid (by
          have h1 := Henc.out
          rw [List.drop_length, encNodes] at h1
          unfold encGraph
          rw [if_pos Hn.out, Hr1.out, h1]
          simp)
        go_wp2_with fail
        go_end0
        exact ⟨_, Tw.out, by rw [hres.out]; exact ⟨rfl, by have := Hw.out; rw [HBS.out] at this; simpa using this⟩⟩
  · have e1 : decide ((g.nodes.length : Int) ≤ 1000) = false := by simp; omega
    have hno : Hid (encGraph g = none) := Lib.hid (by unfold encGraph; rw [if_neg hn])
    go_wp2_with fail
    refine (must_false _).mono ?_
    rintro e w' ⟨rfl, rfl⟩
    exact ⟨rfl, vs, HT0.out, by rw [hno.out]⟩

end Go.Proofs.Ytnamnmipgpcjjaa

/- Acts as bytes: a content is written. -/
namespace Go.Gou
open Go.RowKit

def encContent (c : Ct) : Option (List Nat) := (encNums [c.kind]).bind fun a =>
  if c.kind = 1 then (encNums [c.box.x0, c.box.y0, c.box.x1, c.box.y1]).bind fun b => some (a ++ (b ++ pxBytes [c.px]))
  else if c.kind = 2 then (if c.pix.length = countOf c.w c.h then (encNums [c.box.x0, c.box.y0, c.w, c.h, c.turn]).bind fun b => some (a ++ (b ++ pxBytes c.pix)) else none)
  else some a

theorem PixR.lit {w : World} {W : Nat} {TW TB T : TypeId} {bs : List Nat} {vs : Value} (h : WrAt w W TW TB bs vs) (p : Pxl) (B : Nat) (hB : B = w.heap.size) :
    PixR (fun b => b ≠ W ∧ vs.ownBlock ≠ some b) (w.alloc (.cells #[.int .u8 (p.p0 : Nat), .int .u8 (p.p1 : Nat), .int .u8 (p.p2 : Nat), .int .u8 (p.p3 : Nat)] T)) (.slice (some ⟨B, 0, none⟩) 1 1) [p] := by
  subst hB
  have hW := Blk.lt h.box
  refine ⟨by simp [pxs, Pxl.cells], _, _, rfl, Nat.le_refl _, .inr ⟨w.heap.size, 0, rfl, by simp, ⟨by omega, fun e => by have := (h.own.lt _ e).2; omega⟩, fun j u hu => ?_⟩⟩
  rw [Nat.zero_add, cell_of_row _ w.heap.size j _ T (0, 0) (heap_alloc_new w _)]
  simpa [pxs, Pxl.cells] using hu

end Go.Gou
namespace Go.Proofs.Ytnamnmipgpcjjaa
open Go.RowKit Go.Gou

set_option linter.constructorNameAsVariable false
set_option maxRecDepth 100000

set_option maxHeartbeats 2000000 in
theorem wcontent_any (w : World) (W : Nat) (bs : List Nat) (vs : Value) (p : Option Addr) (cap : Nat) (c : Ct) (h : Wr w W bs vs) (hx : PixR (fun b => b < W) w (.slice p c.pix.length cap) c.pix) (hl : bs.length ≤ 800000000) :
    Calls Try.prog 48 #[.pointer (some ⟨W, 0, none⟩), .agg (contC c (.slice p c.pix.length cap))] w (WrP w W bs vs (encContent c)) := by
  have H := Lib.hid h
  have HB0 : Hid (Blk (w.alloc (.cells (contC c (.slice p c.pix.length cap)) 30)) w.heap.size 30 (contC c (.slice p c.pix.length cap))) := Lib.hid (heap_alloc_new w _)
  have HW0 : Hid (Wr (w.alloc (.cells (contC c (.slice p c.pix.length cap)) 30)) W bs vs) := Lib.hid (h.alloc _)
  have HT0 : Hid (WTo W w vs (w.alloc (.cells (contC c (.slice p c.pix.length cap)) 30)) vs) := Lib.hid (WTo.other (Gou.Mod.alloc _ _ _) vs)
  have HN0 : Hid (PixR (fun b => b < W) (w.alloc (.cells (contC c (.slice p c.pix.length cap)) 30)) (.slice p c.pix.length cap) c.pix) := Lib.hid (RowG.mod hx (Gou.Mod.alloc (fun _ => False) _ _) (fun _ _ _ h => h))
  have HS0 : Hid (((w.alloc (.cells (contC c (.slice p c.pix.length cap)) 30))).heap.size = w.heap.size + 1) := Lib.hid (by simp)
  have hWlt := Blk.lt h.box
  clear h hx
  obtain ⟨kind, ⟨x0, y0, x1, y1⟩, ⟨q0, q1, q2, q3⟩, cw, ch, turn, pix⟩ := c
  simp only [contC] at *
  go_enter Try.func48, Try.ntmps48
  go_wp2_with fail
  generalize hW0 : (w.alloc (.cells #[.int .i64 kind, .int .i64 x0, .int .i64 y0, .int .i64 x1, .int .i64 y1, .int .u8 (q0 : Nat), .int .u8 (q1 : Nat), .int .u8 (q2 : Nat), .int .u8 (q3 : Nat), .int .i64 cw, .int .i64 ch, .int .i64 turn, .slice p pix.length cap] 30)) = w0 at *
  clear hW0
  have a00 := HB0.out.cell 0 rfl
  have hB0 := Blk.lt HB0.out
  refine (numbers_any _ W bs vs _ [kind] (HW0.out.alloc _) (HW0.out.lit [kind] _ rfl 1 rfl _ HS0.out.symm) (by simp; omega)).mono ?_
  rintro e w1 ⟨v1, t1, h1⟩
  have T1 := Lib.hid ((HT0.out.trans (WTo.other (Gou.Mod.alloc _ _ _) vs)).trans t1)
  rcases hr1 : encNums [kind] with _ | es1
  · rw [hr1] at h1
    subst h1
    exact ⟨rfl, v1, T1.out, by simp [encContent, hr1]⟩
  rw [hr1] at h1
  obtain ⟨rfl, hw1⟩ := h1
  have Hr1 := Lib.hid hr1
  have Hw1 := Lib.hid hw1
  have Tk1 := Lib.hid t1
  clear hr1 hw1 t1
  have HB1 : Hid (Blk w1 w.heap.size 30 #[.int .i64 kind, .int .i64 x0, .int .i64 y0, .int .i64 x1, .int .i64 y1, .int .u8 (q0 : Nat), .int .u8 (q1 : Nat), .int .u8 (q2 : Nat), .int .u8 (q3 : Nat), .int .i64 cw, .int .i64 ch, .int .i64 turn, .slice p pix.length cap]) := Lib.hid ((HB0.out.mod (Gou.Mod.alloc (fun _ => False) _ _) (fun h => h)).mod Tk1.out.mod (fun e => by
    rcases e with e | e
    · omega
    · have := (H.out.own.lt _ e).2; omega))
  have hE1 := encNums_len Hr1.out
  by_cases hk1 : kind = 1
  · subst hk1
    have a0 := HB1.out.cell 0 rfl
    have a1 := HB1.out.cell 1 rfl
    have a2 := HB1.out.cell 2 rfl
    have a3 := HB1.out.cell 3 rfl
    have a4 := HB1.out.cell 4 rfl
    go_wp2_with fail
    refine (wbox_any _ W _ v1 x0 y0 x1 y1 Hw1.out (by simp only [List.length_append, List.length_cons, List.length_nil] at *; omega)).mono ?_
    rintro e w2 ⟨v2, t2, h2⟩
    have T2 := Lib.hid (T1.out.trans t2)
    rcases hr2 : encNums [x0, y0, x1, y1] with _ | es2
    · rw [hr2] at h2
      subst h2
      exact ⟨rfl, v2, T2.out, by simp [encContent, hr2, Hr1.out]⟩
    rw [hr2] at h2
    obtain ⟨rfl, hw2⟩ := h2
    have Hr2 := Lib.hid hr2
    have Hw2 := Lib.hid hw2
    have Tk2 := Lib.hid t2
    clear hr2 hw2 t2
    have HB2 : Hid (Blk w2 w.heap.size 30 #[.int .i64 1, .int .i64 x0, .int .i64 y0, .int .i64 x1, .int .i64 y1, .int .u8 (q0 : Nat), .int .u8 (q1 : Nat), .int .u8 (q2 : Nat), .int .u8 (q3 : Nat), .int .i64 cw, .int .i64 ch, .int .i64 turn, .slice p pix.length cap]) := Lib.hid (HB1.out.mod Tk2.out.mod (fun e => by
      rcases e with e | e
      · omega
      · rcases Tk1.out.fresh _ e with e | e
        · have := (H.out.own.lt _ e).2; omega
        · simp at e; omega))
    have hE2 := encNums_len Hr2.out
    have b5 := HB2.out.cell 5 rfl
    have b6 := HB2.out.cell 6 rfl
    have b7 := HB2.out.cell 7 rfl
    have b8 := HB2.out.cell 8 rfl
    clear a0 a1 a2 a3 a4
    go_wp2_with fail
    refine (wpixels_any _ W _ v2 _ [⟨q0, q1, q2, q3⟩] (Hw2.out.alloc _) (PixR.lit Hw2.out ⟨q0, q1, q2, q3⟩ _ rfl) (by simp only [List.length_append, List.length_cons, List.length_nil] at *; omega)).mono ?_
    rintro e w3 ⟨v3, t3, rfl, hw3⟩
    have T3 := Lib.hid ((T2.out.trans (WTo.other (Gou.Mod.alloc _ _ _) v2)).trans t3)
    have Hw3 := Lib.hid hw3
    clear t3 hw3 b5 b6 b7 b8
    go_wp2_with fail
    go_end0
    exact ⟨v3, T3.out, by
      have g1 := Hr1.out
      have g2 := Hr2.out
      simp only [encContent, g1, g2]
      exact ⟨trivial, by have := Hw3.out; simpa using this⟩⟩
  by_cases hk2 : kind = 2
  · subst hk2
    have a6 := HB1.out.cell 12 rfl
    have a0 := HB1.out.cell 0 rfl
    have a1 := HB1.out.cell 1 rfl
    have a2 := HB1.out.cell 2 rfl
    have a3 := HB1.out.cell 9 rfl
    have a4 := HB1.out.cell 10 rfl
    have a5 := HB1.out.cell 11 rfl
    obtain ⟨k, hk⟩ : ∃ k, k = countOf cw ch := ⟨_, rfl⟩
    have hcount : ∀ w : World, Calls Try.prog 59 #[.int .i64 cw, .int .i64 ch] w fun e w' => e = .returned (.int .i64 (k : Nat)) ∧ w' = w := fun w => by rw [hk]; exact count_any w cw ch
    have Hcount := Lib.hid hcount
    have Hk := Lib.hid hk
    have hkle : k ≤ 65536 := by rw [hk]; exact countOf_le cw ch
    clear hcount hk
    by_cases hlen : pix.length = k
    · have e5 : ((pix.length : Int) == (k : Int)) = true := by simp; omega
      have Hlen := Lib.hid hlen
      clear hlen
      go_wp2_with fail
      go_quiet (first | (go_at_call 59; exact Calls.quiet_of_same (Hcount.out _)) | (go_at_call 22; exact Calls.quiet_of_same (must_true _)))
      obtain ⟨nq1, rfl⟩ : ∃ q : Nat, q = nq := ⟨_, rfl⟩
      have HwD : Hid (Wr (w1.drewN nq1) W _ v1) := Lib.hid (Hw1.out.other (Gou.Mod.drewN (fun _ => False) w1 nq1) (fun h => h) (fun _ _ h => h))
      have HBD : Hid (Blk (w1.drewN nq1) w.heap.size 30 #[.int .i64 2, .int .i64 x0, .int .i64 y0, .int .i64 x1, .int .i64 y1, .int .u8 (q0 : Nat), .int .u8 (q1 : Nat), .int .u8 (q2 : Nat), .int .u8 (q3 : Nat), .int .i64 cw, .int .i64 ch, .int .i64 turn, .slice p pix.length cap]) := Lib.hid (HB1.out.mod (Gou.Mod.drewN (fun _ => False) w1 nq1) (fun h => h))
      go_wp2_with fail
      refine (numbers_any _ W _ v1 _ [x0, y0, cw, ch, turn] (HwD.out.alloc _) (HwD.out.lit [x0, y0, cw, ch, turn] _ rfl 5 rfl _ (by simp)) (by simp only [List.length_append, List.length_cons, List.length_nil] at *; omega)).mono ?_
      rintro e w2 ⟨v2, t2, h2⟩
      have T2 := Lib.hid ((T1.out.trans (WTo.other ((Gou.Mod.drewN (fun _ => False) w1 nq1).trans' (Gou.Mod.alloc _ _ _)) v1)).trans t2)
      rcases hr2 : encNums [x0, y0, cw, ch, turn] with _ | es2
      · rw [hr2] at h2
        subst h2
        exact ⟨rfl, v2, T2.out, by have g1 := Hr1.out; have gk := Hk.out; have gl := Hlen.out; simp [encContent, g1, ← gk, gl, hr2]⟩
      rw [hr2] at h2
      obtain ⟨rfl, hw2⟩ := h2
      have Hr2 := Lib.hid hr2
      have Hw2 := Lib.hid hw2
      have Tk2 := Lib.hid t2
      clear hr2 hw2 t2
      have HB2 : Hid (Blk w2 w.heap.size 30 #[.int .i64 2, .int .i64 x0, .int .i64 y0, .int .i64 x1, .int .i64 y1, .int .u8 (q0 : Nat), .int .u8 (q1 : Nat), .int .u8 (q2 : Nat), .int .u8 (q3 : Nat), .int .i64 cw, .int .i64 ch, .int .i64 turn, .slice p pix.length cap]) := Lib.hid ((HBD.out.mod (Gou.Mod.alloc (fun _ => False) _ _) (fun h => h)).mod Tk2.out.mod (fun e => by
        rcases e with e | e
        · omega
        · rcases Tk1.out.fresh _ e with e | e
          · have := (H.out.own.lt _ e).2; omega
          · have := HS0.out; simp at e; omega))
      have HN2 : Hid (PixR (fun b => b < W) w2 (.slice p pix.length cap) pix) := Lib.hid (RowG.mod HN0.out (((Gou.Mod.alloc (fun k => W ≤ k) _ _).trans' (WTo.far Tk1.out (HW0.out.alloc _))).trans' (((Gou.Mod.drewN _ _ _).trans' (Gou.Mod.alloc _ _ _)).trans' (WTo.far Tk2.out (HwD.out.alloc _)))) (fun k _ hG hk => by omega))
      have hE2 := encNums_len Hr2.out
      have b12 := HB2.out.cell 12 rfl
      clear a0 a1 a2 a3 a4 a5 a6
      go_wp2_with fail
      refine (wpixels_any _ W _ v2 _ pix Hw2.out (PixR.use HN2.out Hw2.out) (by have := Hlen.out; simp only [List.length_append, List.length_cons, List.length_nil] at *; omega)).mono ?_
      rintro e w3 ⟨v3, t3, rfl, hw3⟩
      have T3 := Lib.hid (T2.out.trans t3)
      have Hw3 := Lib.hid hw3
      clear t3 hw3 b12
      go_wp2_with fail
      go_end0
      exact ⟨v3, T3.out, by
        have g1 := Hr1.out
        have g2 := Hr2.out
        have gk := Hk.out
        have gl := Hlen.out
        simp only [encContent, g1, g2, Option.bind_some, ← gk, gl, if_true]
        exact ⟨trivial, by have := Hw3.out; simpa using this⟩⟩
    · have e5 : ((pix.length : Int) == (k : Int)) = false := beq_eq_false_iff_ne.2 (by omega)
      have hno : Hid (encContent ⟨2, ⟨x0, y0, x1, y1⟩, ⟨q0, q1, q2, q3⟩, cw, ch, turn, pix⟩ = none) := Lib.hid (by
        have g1 := Hr1.out
        have gk := Hk.out
        simp [encContent, g1, ← gk, hlen])
      clear hlen
      go_wp2_with fail
      go_still_tail 9, (by kernel_rfl)
      still_call (Hcount.out _)
      repeat still_step
      refine wpStill_nil ?_
      change wpList _ _ _ _ _ w1.drew
      have HTd := Lib.hid (T1.out.trans (WTo.other (Gou.Mod.drew (fun _ => False) w1) v1))
      generalize w1.drew = w2 at *
      clear a0 a1 a2 a3 a4 a5 a6
      go_wp2_with (first | (go_at_call 22; refine (must_false _).mono ?_; rintro e w' ⟨rfl, rfl⟩))
      exact ⟨rfl, v1, HTd.out, by rw [hno.out]⟩
  have e1 : (kind == 1) = false := beq_eq_false_iff_ne.2 hk1
  have e2 : (kind == 2) = false := beq_eq_false_iff_ne.2 hk2
  have a0 := HB1.out.cell 0 rfl
  have H1 := Lib.hid hk1
  have H2 := Lib.hid hk2
  clear hk1 hk2
  go_wp2_with fail
  go_end0
  exact ⟨v1, T1.out, by
    have g1 := Hr1.out
    simp only [encContent, g1, Option.bind_some, if_neg H1.out, if_neg H2.out]
    exact ⟨trivial, Hw1.out⟩⟩

end Go.Proofs.Ytnamnmipgpcjjaa

