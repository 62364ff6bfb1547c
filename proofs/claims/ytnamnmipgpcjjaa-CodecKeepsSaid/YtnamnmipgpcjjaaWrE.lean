/- Acts as bytes: a filter is written. -/
import Derived.Test.YtnamnmipgpcjjaaWrD
namespace Go.Gou
open Go.RowKit

def encNode (n : GNode) : Option (List Nat) :=
  if n.ins.length ≤ 100 ∧ n.ps.length ≤ 100 then (encNums [n.op, (n.ins.length : Int)]).bind fun a => (encNums n.ins).bind fun b => (encNums [(n.ps.length : Int)]).bind fun c => (encNums n.ps).bind fun d => some (a ++ (b ++ (c ++ d)))
  else none
def encNodes : List GNode → Option (List Nat)
  | [] => some []
  | n :: r => (encNode n).bind fun a => (encNodes r).map (a ++ ·)
def encGraph (g : Gr) : Option (List Nat) :=
  if g.nodes.length ≤ 1000 then (encNums [g.out, (g.nodes.length : Int)]).bind fun a => (encNodes g.nodes).map (a ++ ·) else none

theorem encNode_len {n : GNode} {es : List Nat} (h : encNode n = some es) : es.length ≤ 1015 := by
  unfold encNode at h
  split at h
  · rename_i hc
    obtain ⟨a, ha, h⟩ := Option.bind_eq_some_iff.1 h
    obtain ⟨b, hb, h⟩ := Option.bind_eq_some_iff.1 h
    obtain ⟨c, hcc, h⟩ := Option.bind_eq_some_iff.1 h
    obtain ⟨d, hd, h⟩ := Option.bind_eq_some_iff.1 h
    have := encNums_len ha
    have := encNums_len hb
    have := encNums_len hcc
    have := encNums_len hd
    simp only [Option.some.injEq] at h
    subst h
    simp only [List.length_append, List.length_cons, List.length_nil] at *
    omega
  · cases h

theorem encNodes_drop {ns : List GNode} {i : Nat} {n : GNode} (h : ns[i]? = some n) : encNodes (ns.drop i) = (encNode n).bind fun a => (encNodes (ns.drop (i + 1))).map (a ++ ·) := by
  obtain ⟨hi, rfl⟩ := List.getElem?_eq_some_iff.1 h
  rw [List.drop_eq_getElem_cons hi, encNodes]

theorem WTo.far {W : Nat} {TW TB : TypeId} {bs : List Nat} {w w' : World} {vs vs' : Value} (t : WTo W w vs w' vs') (h : WrAt w W TW TB bs vs) : Mod (fun k => W ≤ k) w w' :=
  t.mod.imp fun k _ hk => by
    rcases hk with rfl | hk
    · exact Nat.le_refl _
    · have := (h.own.lt _ hk).1; omega

theorem IntsR.use {W : Nat} {TW TB : TypeId} {bs : List Nat} {w : World} {vs v : Value} {xs : List Int} (h : IntsR (fun b => b < W) w v xs) (hw : WrAt w W TW TB bs vs) : IntsR (fun b => b ≠ W ∧ vs.ownBlock ≠ some b) w v xs :=
  RowG.imp h fun k _ hG => ⟨by omega, fun e => by have := (hw.own.lt _ e).1; omega⟩

theorem PixR.use {W : Nat} {TW TB : TypeId} {bs : List Nat} {w : World} {vs v : Value} {xs : List Pxl} (h : PixR (fun b => b < W) w v xs) (hw : WrAt w W TW TB bs vs) : PixR (fun b => b ≠ W ∧ vs.ownBlock ≠ some b) w v xs :=
  RowG.imp h fun k _ hG => ⟨by omega, fun e => by have := (hw.own.lt _ e).1; omega⟩

theorem NodesR.cells {G : Nat → Prop} {w : World} {p : Option Addr} {c n : Nat} {ns : List GNode} (h : NodesR G w (.slice p n c) ns) (h0 : 0 < ns.length) :
    n = ns.length ∧ ∃ b o, p = some ⟨b, o, none⟩ ∧ b < w.heap.size ∧ G b ∧ ∀ i nd, ns[i]? = some nd → ∃ pi ci pp cp, w.cell? ⟨b, o + i * 3, none⟩ = some (.int .i64 nd.op) ∧ w.cell? ⟨b, o + i * 3 + 1, none⟩ = some (.slice pi nd.ins.length ci) ∧ w.cell? ⟨b, o + i * 3 + 2, none⟩ = some (.slice pp nd.ps.length cp) ∧
      IntsR G w (.slice pi nd.ins.length ci) nd.ins ∧ IntsR G w (.slice pp nd.ps.length cp) nd.ps := by
  obtain ⟨cs, ⟨hl, p', c', e, hcap, h⟩, hn⟩ := h
  simp only [Value.slice.injEq] at e
  obtain ⟨rfl, rfl, rfl⟩ := e
  rcases h with h | ⟨b, o, rfl, hb, hG, hc⟩
  · omega
  · refine ⟨rfl, b, o, rfl, hb, hG, fun i nd hi => ?_⟩
    obtain ⟨hlt, rfl⟩ := List.getElem?_eq_some_iff.1 hi
    obtain ⟨vi, vp, c0, c1, c2, h1, h2⟩ := hn.2 i hlt
    obtain ⟨pi, ci, rfl, _⟩ := RowG.form h1
    obtain ⟨pp, cp, rfl, _⟩ := RowG.form h2
    refine ⟨pi, ci, pp, cp, hc _ _ c0, ?_, ?_, h1, h2⟩
    · have := hc _ _ c1; rwa [← Nat.add_assoc] at this
    · have := hc _ _ c2; rwa [← Nat.add_assoc] at this

theorem graph_none {g : Gr} {e1 : List Nat} (hn : g.nodes.length ≤ 1000) (h1 : encNums [g.out, (g.nodes.length : Int)] = some e1) {i : Nat} {es : List Nat} {nd : GNode} (henc : encNodes g.nodes = (encNodes (g.nodes.drop i)).map (es ++ ·)) (hnd : g.nodes[i]? = some nd)
    (h : encNode nd = none) : encGraph g = none := by
  unfold encGraph
  rw [if_pos hn, h1, henc, encNodes_drop hnd, h]
  rfl

theorem graph_step {g : Gr} {i : Nat} {es e2 : List Nat} {nd : GNode} (henc : encNodes g.nodes = (encNodes (g.nodes.drop i)).map (es ++ ·)) (hnd : g.nodes[i]? = some nd) (h : encNode nd = some e2) : encNodes g.nodes = (encNodes (g.nodes.drop (i + 1))).map ((es ++ e2) ++ ·) := by
  rw [henc, encNodes_drop hnd, h]
  cases encNodes (g.nodes.drop (i + 1)) <;> simp

end Go.Gou
namespace Go.Proofs.Ytnamnmipgpcjjaa
open Go.RowKit Go.Gou

set_option linter.constructorNameAsVariable false
set_option maxRecDepth 100000

set_option maxHeartbeats 2000000 in
theorem wgraph_any (w : World) (W : Nat) (bs : List Nat) (vs : Value) (p : Option Addr) (c : Nat) (g : Gr) (h : Wr w W bs vs) (hx : NodesR (fun b => b < W) w (.slice p g.nodes.length c) g.nodes) (hl : bs.length ≤ 900000000) :
    Calls Try.prog 49 #[.pointer (some ⟨W, 0, none⟩), .agg #[.slice p g.nodes.length c, .int .i64 g.out]] w (WrP w W bs vs (encGraph g)) := by
  have H := Lib.hid h
  have HB0 : Hid (Blk ((w.alloc (.cells #[.slice p g.nodes.length c, .int .i64 g.out] 33))) w.heap.size 33 #[.slice p g.nodes.length c, .int .i64 g.out]) := Lib.hid (heap_alloc_new w _)
  have HW0 : Hid (Wr ((w.alloc (.cells #[.slice p g.nodes.length c, .int .i64 g.out] 33))) W bs vs) := Lib.hid (h.alloc _)
  have HT0 : Hid (WTo W w vs ((w.alloc (.cells #[.slice p g.nodes.length c, .int .i64 g.out] 33))) vs) := Lib.hid (WTo.other (Gou.Mod.alloc _ _ _) vs)
  have HN0 : Hid (NodesR (fun b => b < W) ((w.alloc (.cells #[.slice p g.nodes.length c, .int .i64 g.out] 33))) (.slice p g.nodes.length c) g.nodes) := Lib.hid (hx.mod (Gou.Mod.alloc (fun _ => False) _ _) (fun _ _ _ h => h))
  have hWlt := Blk.lt h.box
  clear h hx
  go_enter Try.func49, Try.ntmps49
  by_cases hn : g.nodes.length ≤ 1000
  · have e1 : decide ((g.nodes.length : Int) ≤ 1000) = true := by simp; omega
    have Hn := Lib.hid hn
    go_wp2_with fail
    generalize hW0 : ((w.alloc (.cells #[.slice p g.nodes.length c, .int .i64 g.out] 33))) = w0 at *
    clear hW0
    have b0 := HB0.out.cell 0 rfl
    have b1 := HB0.out.cell 1 rfl
    have hB0 := Blk.lt HB0.out
    refine (must_true _).mono ?_
    rintro e w' ⟨rfl, rfl⟩
    go_wp2_with fail
    refine (numbers_any _ W (bs) vs _ [g.out, (g.nodes.length : Int)] (HW0.out.alloc _) (HW0.out.lit [g.out, (g.nodes.length : Int)] _ rfl 2 rfl _ rfl) (by simp; omega)).mono ?_
    rintro e w1 ⟨v1, t1, h1⟩
    have T1 := Lib.hid ((HT0.out.trans (WTo.other (Gou.Mod.alloc _ _ _) vs)).trans t1)
    rcases hr1 : encNums [g.out, (g.nodes.length : Int)] with _ | es1
    · rw [hr1] at h1
      subst h1
      exact ⟨rfl, v1, T1.out, by unfold encGraph; rw [if_pos Hn.out, hr1]; rfl⟩
    rw [hr1] at h1
    obtain ⟨rfl, hw1⟩ := h1
    have Hr1 := Lib.hid hr1
    have Hw1 := Lib.hid hw1
    have Tk1 := Lib.hid t1
    have hE1 := encNums_len hr1
    clear hr1 hw1 t1
    have tf := Gou.Mod.trans' ((Gou.Mod.alloc (fun k => W ≤ k) w' (.cells #[.int .i64 (g.out), .int .i64 (g.nodes.length : Int)] 3))) (WTo.far Tk1.out (HW0.out.alloc _))
    have HN1 := Lib.hid (HN0.out.mod tf (fun k _ hG hk => by omega))
    have HB1 : Hid (Blk w1 w.heap.size 33 #[.slice p g.nodes.length c, .int .i64 g.out]) := Lib.hid ((HB0.out.mod (Gou.Mod.alloc (fun _ => False) _ _) (fun h => h)).mod Tk1.out.mod (fun e => by
      rcases e with e | e
      · omega
      · have := (H.out.own.lt _ e).2; omega))
    have d0 := HB1.out.cell 0 rfl
    clear tf b0 b1
    go_wp2_with fail
    clear d0
    go_loopw [22] (fun cv wr => ∃ (i : Nat) (es : List Nat) (v2 : Value), cv = .int .i64 i ∧ i ≤ g.nodes.length ∧ encNodes g.nodes = (encNodes (g.nodes.drop i)).map (es ++ ·) ∧ es.length ≤ 1015 * i ∧ Wr wr W (bs ++ es1 ++ es) v2 ∧ WTo W w vs wr v2 ∧ NodesR (fun b => b < W) wr (.slice p g.nodes.length c) g.nodes) (fun cv _ => g.nodes.length - (intOf cv).toNat)
    case atStart => exact ⟨0, [], v1, rfl, by omega, by simp, by simp, by simpa using Hw1.out, T1.out, HN1.out⟩
    case round =>
      obtain ⟨i, es, v2, rfl, hi, henc, hes, hw, tw, hnr⟩ := hrel
      obtain ⟨BS, hBS⟩ : ∃ BS, BS = bs ++ es1 ++ es := ⟨_, rfl⟩
      rw [← hBS] at hw
      have Hbl : Hid (BS.length ≤ 910000000) := Lib.hid (by have := Hn.out; simp only [List.length_cons, List.length_nil] at hE1; rw [hBS]; simp only [List.length_append]; omega)
      have HBS := Lib.hid hBS
      have Henc := Lib.hid henc
      have Hes := Lib.hid hes
      have Hw := Lib.hid hw
      have Tw := Lib.hid tw
      have HNr := Lib.hid hnr
      have hWr : W < wr.heap.size := Blk.lt hw.box
      clear henc hes hw tw hnr hBS
      by_cases hil : i < g.nodes.length
      · have e2 : decide ((i : Int) < (g.nodes.length : Int)) = true := by simp; omega
        obtain ⟨-, b, o, rfl, hb, hbW, hc⟩ := HNr.out.cells (by omega)
        obtain ⟨nd, hnd⟩ : ∃ nd, g.nodes[i]? = some nd := ⟨_, List.getElem?_eq_getElem hil⟩
        obtain ⟨pi, ci, pp, cp, k0, k1, k2, hI, hP⟩ := hc i nd hnd
        have hiI : (i : Int) < (g.nodes.length : Int) := by omega
        have hi0I : (0 : Int) ≤ (i : Int) := by omega
        have Hnd := Lib.hid hnd
        have HI : Hid (IntsR (fun b => b < W) (wr.alloc (.cells #[.int .i64 nd.op, .slice pi nd.ins.length ci, .slice pp nd.ps.length cp] 82)) (.slice pi nd.ins.length ci) nd.ins) := Lib.hid (RowG.mod hI (Gou.Mod.alloc (fun _ => False) _ _) (fun _ _ _ h => h))
        have HP : Hid (IntsR (fun b => b < W) (wr.alloc (.cells #[.int .i64 nd.op, .slice pi nd.ins.length ci, .slice pp nd.ps.length cp] 82)) (.slice pp nd.ps.length cp) nd.ps) := Lib.hid (RowG.mod hP (Gou.Mod.alloc (fun _ => False) _ _) (fun _ _ _ h => h))
        have HNa : Hid (NodesR (fun b => b < W) (wr.alloc (.cells #[.int .i64 nd.op, .slice pi nd.ins.length ci, .slice pp nd.ps.length cp] 82)) (.slice (some ⟨b, o, none⟩) g.nodes.length c) g.nodes) := Lib.hid (HNr.out.mod (Gou.Mod.alloc (fun _ => False) _ _) (fun _ _ _ h => h))
        have HBn : Hid (Blk (wr.alloc (.cells #[.int .i64 nd.op, .slice pi nd.ins.length ci, .slice pp nd.ps.length cp] 82)) wr.heap.size 82 #[.int .i64 nd.op, .slice pi nd.ins.length ci, .slice pp nd.ps.length cp]) := Lib.hid (heap_alloc_new wr _)
        have HwA : Hid (Wr (wr.alloc (.cells #[.int .i64 nd.op, .slice pi nd.ins.length ci, .slice pp nd.ps.length cp] 82)) W BS v2) := Lib.hid (Hw.out.alloc _)
        have Tw := Lib.hid (Tw.out.trans (WTo.other (Gou.Mod.alloc _ wr (.cells #[.int .i64 nd.op, .slice pi nd.ins.length ci, .slice pp nd.ps.length cp] 82)) v2))
        clear hc hnd hI hP hbW
        by_cases hci : nd.ins.length ≤ 100
        · have e3 : decide ((nd.ins.length : Int) ≤ 100) = true := by simp; omega
          by_cases hcp : nd.ps.length ≤ 100
          · have e4 : decide ((nd.ps.length : Int) ≤ 100) = true := by simp; omega
            have Hcc : Hid (nd.ins.length ≤ 100 ∧ nd.ps.length ≤ 100) := Lib.hid ⟨hci, hcp⟩
            go_wp2_with fail
            generalize hwa : (wr.alloc (.cells #[.int .i64 nd.op, .slice pi nd.ins.length ci, .slice pp nd.ps.length cp] 82)) = wa at *
            have hLa : wr.heap.size < wa.heap.size := Blk.lt HBn.out
            have n0_1 := HBn.out.cell 0 rfl
            have n1_1 := HBn.out.cell 1 rfl
            have n2_1 := HBn.out.cell 2 rfl
            refine (must_true _).mono ?_
            rintro e w' ⟨rfl, hww⟩
            obtain rfl : wa = w' := hww.symm
            clear hww
            go_wp2_with fail
            refine (numbers_any _ W (BS) v2 _ [nd.op, (nd.ins.length : Int)] (HwA.out.alloc _) (HwA.out.lit [nd.op, (nd.ins.length : Int)] _ rfl 2 rfl _ rfl) (by have := Hbl.out; simp only [List.length_append, List.length_cons, List.length_nil] at *; omega)).mono ?_
            rintro e w2 ⟨z2, t2, h2⟩
            have T2 := Lib.hid ((Tw.out.trans (WTo.other (Gou.Mod.alloc _ _ _) v2)).trans t2)
            rcases hr2 : encNums [nd.op, (nd.ins.length : Int)] with _ | es2
            · rw [hr2] at h2
              subst h2
              exact ⟨rfl, z2, T2.out, by rw [graph_none Hn.out Hr1.out Henc.out Hnd.out (by unfold encNode; rw [if_pos Hcc.out]; simp [hr2])]⟩
            rw [hr2] at h2
            obtain ⟨rfl, hw2⟩ := h2
            have Hr2 := Lib.hid hr2
            have Hw2 := Lib.hid hw2
            have Tk2 := Lib.hid t2
            have hE2 := encNums_len hr2
            clear hr2 hw2 t2
            have Ta2 := Lib.hid (((WTo.refl W wa v2).trans (WTo.other (Gou.Mod.alloc _ _ _) v2)).trans Tk2.out)
            have HBk2 : Hid (Blk w2 wr.heap.size 82 #[.int .i64 nd.op, .slice pi nd.ins.length ci, .slice pp nd.ps.length cp]) := Lib.hid (HBn.out.mod Ta2.out.mod (fun e => by
              rcases e with e | e
              · have := hWr; omega
              · have := (Hw.out.own.lt _ e).2; omega))
            have n0_2 := HBk2.out.cell 0 rfl
            have n1_2 := HBk2.out.cell 1 rfl
            have n2_2 := HBk2.out.cell 2 rfl
            clear n0_1 n1_1 n2_1
            go_wp2_with fail
            refine (numbers_any _ W (BS ++ es2) z2 _ nd.ins Hw2.out (IntsR.use (RowG.mod HI.out (WTo.far Ta2.out HwA.out) (fun k _ hG hk => by omega)) Hw2.out) (by have := Hbl.out; simp only [List.length_append, List.length_cons, List.length_nil] at *; omega)).mono ?_
            rintro e w3 ⟨z3, t3, h3⟩
            have T3 := Lib.hid (T2.out.trans t3)
            rcases hr3 : encNums nd.ins with _ | es3
            · rw [hr3] at h3
              subst h3
              exact ⟨rfl, z3, T3.out, by rw [graph_none Hn.out Hr1.out Henc.out Hnd.out (by unfold encNode; rw [if_pos Hcc.out]; have q2 := Hr2.out; simp [q2, hr3])]⟩
            rw [hr3] at h3
            obtain ⟨rfl, hw3⟩ := h3
            have Hr3 := Lib.hid hr3
            have Hw3 := Lib.hid hw3
            have Tk3 := Lib.hid t3
            have hE3 := encNums_len hr3
            clear hr3 hw3 t3
            have Ta3 := Lib.hid (Ta2.out.trans Tk3.out)
            have HBk3 : Hid (Blk w3 wr.heap.size 82 #[.int .i64 nd.op, .slice pi nd.ins.length ci, .slice pp nd.ps.length cp]) := Lib.hid (HBn.out.mod Ta3.out.mod (fun e => by
              rcases e with e | e
              · have := hWr; omega
              · have := (Hw.out.own.lt _ e).2; omega))
            have n0_3 := HBk3.out.cell 0 rfl
            have n1_3 := HBk3.out.cell 1 rfl
            have n2_3 := HBk3.out.cell 2 rfl
            clear n0_2 n1_2 n2_2
            go_wp2_with fail
            refine (numbers_any _ W (BS ++ es2 ++ es3) z3 _ [(nd.ps.length : Int)] (Hw3.out.alloc _) (Hw3.out.lit [(nd.ps.length : Int)] _ rfl 1 rfl _ rfl) (by have := Hbl.out; simp only [List.length_append, List.length_cons, List.length_nil] at *; omega)).mono ?_
            rintro e w4 ⟨z4, t4, h4⟩
            have T4 := Lib.hid ((T3.out.trans (WTo.other (Gou.Mod.alloc _ _ _) z3)).trans t4)
            rcases hr4 : encNums [(nd.ps.length : Int)] with _ | es4
            · rw [hr4] at h4
              subst h4
              exact ⟨rfl, z4, T4.out, by rw [graph_none Hn.out Hr1.out Henc.out Hnd.out (by unfold encNode; rw [if_pos Hcc.out]; have q2 := Hr2.out; have q3 := Hr3.out; simp [q2, q3, hr4])]⟩
            rw [hr4] at h4
            obtain ⟨rfl, hw4⟩ := h4
            have Hr4 := Lib.hid hr4
            have Hw4 := Lib.hid hw4
            have Tk4 := Lib.hid t4
            have hE4 := encNums_len hr4
            clear hr4 hw4 t4
            have Ta4 := Lib.hid ((Ta3.out.trans (WTo.other (Gou.Mod.alloc _ _ _) z3)).trans Tk4.out)
            have HBk4 : Hid (Blk w4 wr.heap.size 82 #[.int .i64 nd.op, .slice pi nd.ins.length ci, .slice pp nd.ps.length cp]) := Lib.hid (HBn.out.mod Ta4.out.mod (fun e => by
              rcases e with e | e
              · have := hWr; omega
              · have := (Hw.out.own.lt _ e).2; omega))
            have n0_4 := HBk4.out.cell 0 rfl
            have n1_4 := HBk4.out.cell 1 rfl
            have n2_4 := HBk4.out.cell 2 rfl
            clear n0_3 n1_3 n2_3
            go_wp2_with fail
            refine (numbers_any _ W (BS ++ es2 ++ es3 ++ es4) z4 _ nd.ps Hw4.out (IntsR.use (RowG.mod HP.out (WTo.far Ta4.out HwA.out) (fun k _ hG hk => by omega)) Hw4.out) (by have := Hbl.out; simp only [List.length_append, List.length_cons, List.length_nil] at *; omega)).mono ?_
            rintro e w5 ⟨z5, t5, h5⟩
            have T5 := Lib.hid (T4.out.trans t5)
            rcases hr5 : encNums nd.ps with _ | es5
            · rw [hr5] at h5
              subst h5
              exact ⟨rfl, z5, T5.out, by rw [graph_none Hn.out Hr1.out Henc.out Hnd.out (by unfold encNode; rw [if_pos Hcc.out]; have q2 := Hr2.out; have q3 := Hr3.out; have q4 := Hr4.out; simp [q2, q3, q4, hr5])]⟩
            rw [hr5] at h5
            obtain ⟨rfl, hw5⟩ := h5
            have Hr5 := Lib.hid hr5
            have Hw5 := Lib.hid hw5
            have Tk5 := Lib.hid t5
            have hE5 := encNums_len hr5
            clear hr5 hw5 t5
            have Ta5 := Lib.hid (Ta4.out.trans Tk5.out)
            have hnode : encNode nd = some (es2 ++ (es3 ++ (es4 ++ es5))) := by unfold encNode; rw [if_pos Hcc.out]; have q2 := Hr2.out; have q3 := Hr3.out; have q4 := Hr4.out; have q5 := Hr5.out; simp [q2, q3, q4, q5]
            have Hnode := Lib.hid hnode
            clear hnode n0_4 n1_4 n2_4
            go_wp2_with fail
            go_roundw
            case rel => exact ⟨i + 1, es ++ (es2 ++ (es3 ++ (es4 ++ es5))), _, by go_num, by omega, graph_step Henc.out Hnd.out Hnode.out, by
                have := encNode_len Hnode.out
                have := Hes.out
                simp only [List.length_append] at *
                omega, by
                have h1 := Hw5.out
                rw [HBS.out] at h1
                simpa using h1, T5.out, HNa.out.mod (WTo.far Ta5.out HwA.out) (fun k _ hG hk => by omega)⟩
            case measure => simp [intOf]; omega
          · have e4 : decide ((nd.ps.length : Int) ≤ 100) = false := by simp; omega
            have hno : Hid (encGraph g = none) := Lib.hid (graph_none Hn.out Hr1.out Henc.out Hnd.out (by unfold encNode; rw [if_neg (fun h => hcp h.2)]))
            go_wp2_with fail
            refine (must_false _).mono ?_
            rintro e w' ⟨rfl, rfl⟩
            exact ⟨rfl, _, Tw.out, by rw [hno.out]⟩
        · have e3 : decide ((nd.ins.length : Int) ≤ 100) = false := by simp; omega
          have hno : Hid (encGraph g = none) := Lib.hid (graph_none Hn.out Hr1.out Henc.out Hnd.out (by unfold encNode; rw [if_neg (fun h => hci h.1)]))
          go_wp2_with fail
          refine (must_false _).mono ?_
          rintro e w' ⟨rfl, rfl⟩
          exact ⟨rfl, _, Tw.out, by rw [hno.out]⟩
      · obtain rfl : i = g.nodes.length := by omega
        have e2 : decide ((g.nodes.length : Int) < (g.nodes.length : Int)) = false := by simp
        have hres : Hid (encGraph g = some (es1 ++ es)) := Lib.hid (by
          have h1 := Henc.out
          rw [List.drop_length, encNodes] at h1
          unfold encGraph
          rw [if_pos Hn.out, Hr1.out, h1]
          simp)
        go_wp2_with fail
        go_end0
        exact ⟨_, Tw.out, by rw [hres.out]; exact ⟨rfl, by have := Hw.out; rw [HBS.out] at this; simpa using this⟩⟩
  · have e1 : decide ((g.nodes.length : Int) ≤ 1000) = false := by simp; omega
    have hno : Hid (encGraph g = none) := Lib.hid (by unfold encGraph; rw [if_neg hn])
    go_wp2_with fail
    refine (must_false _).mono ?_
    rintro e w' ⟨rfl, rfl⟩
    exact ⟨rfl, vs, HT0.out, by rw [hno.out]⟩

end Go.Proofs.Ytnamnmipgpcjjaa
