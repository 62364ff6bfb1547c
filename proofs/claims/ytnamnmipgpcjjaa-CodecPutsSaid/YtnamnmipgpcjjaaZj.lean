/- Texts of the codec's proofs, laid together: RfA, RfB, RfC. -/
import Derived.Test.YtnamnmipgpcjjaaZi
import Derived.BigQuiet
import Derived.Test.YtnamnmipgpcjjaaZh
set_option linter.unusedSimpArgs false
set_option linter.unusedVariables false
set_option linter.unusedSectionVars false
set_option linter.constructorNameAsVariable false

/- Acts as bytes: what is little. -/
namespace Go.Gou
open Go.RowKit

def LittleOk (ns : List GNode) : Prop := ∀ n ∈ ns, n.ins.length ≤ 200 ∧ n.ps.length ≤ 200

structure FewOk (a : Ac) : Prop where
  pix : a.op.look.content.pix.length ≤ 400
  filt : a.op.look.filt.nodes.length ≤ 1100
  back : a.op.look.back.nodes.length ≤ 1100
  filts : LittleOk a.op.look.filt.nodes
  backs : LittleOk a.op.look.back.nodes

theorem LittleOk.borne {ns : List GNode} (h : LittleOk ns) (hl : ns.length ≤ 1100) : NodesBorne ns := ⟨by omega, fun i n hn => by
  have := h n (List.mem_of_getElem? hn); omega⟩
theorem FewOk.borne {a : Ac} (h : FewOk a) : LookBorne a.op.look := ⟨by have := h.pix; omega, h.filts.borne h.filt, h.backs.borne h.back⟩

end Go.Gou
namespace Go.Proofs.Ytnamnmipgpcjjaa
open Go.RowKit Go.Gou

set_option linter.constructorNameAsVariable false
set_option maxRecDepth 100000

set_option maxHeartbeats 1000000 in
theorem little_any (w : World) (G : Nat → Prop) (p : Option Addr) (c : Nat) (g : Gr) (hx : NodesR G w (.slice p g.nodes.length c) g.nodes) (hl : g.nodes.length ≤ 1100) :
    Calls Try.prog 18 #[.agg #[.slice p g.nodes.length c, .int .i64 g.out]] w fun e w' => (∃ q : Bool, e = .returned (.bool q) ∧ (q = true → LittleOk g.nodes)) ∧ Gou.Mod (fun _ => False) w w' := by
  have HM : Hid (Gou.Mod (fun _ => False) w (w.alloc (.cells #[.slice p g.nodes.length c, .int .i64 g.out] 33))) := Lib.hid (Gou.Mod.alloc _ _ _)
  have Hx := Lib.hid (hx.mod HM.out (fun _ _ _ h => h))
  have HA : Hid (Blk (w.alloc (.cells #[.slice p g.nodes.length c, .int .i64 g.out] 33)) w.heap.size 33 #[.slice p g.nodes.length c, .int .i64 g.out]) := Lib.hid (heap_alloc_new w _)
  have hBl := Blk.lt HA.out
  clear hx
  go_enter Try.func18, Try.ntmps18
  go_wp2_with fail
  generalize hW0 : w.alloc (.cells #[.slice p g.nodes.length c, .int .i64 g.out] 33) = w0 at *
  clear hW0
  go_loopw [3, 4] (fun d e wr => ∃ (k i : Nat), d = .int .i64 k ∧ e = .int .i64 i ∧ i ≤ g.nodes.length ∧ k ≤ 5000 ∧ (∀ j n, j < i → g.nodes[j]? = some n → n.ins.length ≤ 200 ∧ n.ps.length ≤ 200) ∧ Gou.Mod (fun _ => False) w0 wr) (fun _ e _ => g.nodes.length - (intOf e).toNat)
  case atStart => exact ⟨0, 0, rfl, rfl, by omega, by omega, fun j n h => by omega, Gou.Mod.refl _ _⟩
  case round =>
    obtain ⟨k, i, rfl, rfl, hi, hk, hall, hm⟩ := hrel
    have Hall := Lib.hid hall
    have Hm := Lib.hid hm
    have hA := HA.out.mod hm (fun h => h)
    have a0 : wr.cell? ⟨w.heap.size, 0, none⟩ = some (.slice p g.nodes.length c) := hA.cell 0 rfl
    clear hall hm hA
    by_cases hil : i < g.nodes.length
    · have e2 : decide ((i : Int) < (g.nodes.length : Int)) = true := by simp; omega
      obtain ⟨-, b, o, rfl, hb, -, hc⟩ := Hx.out.cells (by omega)
      obtain ⟨pi, ci, pp, cp, -, k1, k2, -, -⟩ := hc i _ (List.getElem?_eq_getElem hil)
      rw [← Hm.out.cell (p := ⟨b, o + i * 3 + 1, none⟩) hb (fun h => h)] at k1
      rw [← Hm.out.cell (p := ⟨b, o + i * 3 + 2, none⟩) hb (fun h => h)] at k2
      have hiI : (i : Int) < (g.nodes.length : Int) := by omega
      have hi0I : (0 : Int) ≤ (i : Int) := by omega
      have Hnd := Lib.hid (List.getElem?_eq_getElem hil : g.nodes[i]? = some g.nodes[i])
      clear hc
      generalize g.nodes[i] = nd at *
      by_cases h1 : nd.ins.length ≤ 200
      case neg =>
        have q1 : decide ((200 : Int) < (nd.ins.length : Int)) = true := by simp; omega
        clear h1
        go_wp2_with fail
        go_ret
        exact ⟨⟨false, rfl, fun h => by cases h⟩, HM.out.trans' Hm.out⟩
      have q1 : decide ((200 : Int) < (nd.ins.length : Int)) = false := by simp; omega
      by_cases h2 : nd.ps.length ≤ 200
      case neg =>
        have q2 : decide ((200 : Int) < (nd.ps.length : Int)) = true := by simp; omega
        clear h2
        go_wp2_with fail
        go_ret
        exact ⟨⟨false, rfl, fun h => by cases h⟩, HM.out.trans' Hm.out⟩
      have q2 : decide ((200 : Int) < (nd.ps.length : Int)) = false := by simp; omega
      obtain ⟨ks, hks⟩ : ∃ ks, ks = k + nd.ins.length + nd.ps.length := ⟨_, rfl⟩
      have S1 : Hid (wrap64 ((k : Int) + (nd.ins.length : Int)) = (k : Int) + (nd.ins.length : Int)) := Lib.hid (IntWalk.wrap64_in _ (by omega))
      have S2 : Hid (wrap64 ((k : Int) + (nd.ins.length : Int) + (nd.ps.length : Int)) = (ks : Int)) := Lib.hid ((IntWalk.wrap64_in _ (by omega)).trans (by omega))
      by_cases h3 : ks ≤ 5000
      · have q3 : decide ((5000 : Int) < (ks : Int)) = false := decide_eq_false (by omega)
        have Hnext : Hid (∀ j n, j < i + 1 → g.nodes[j]? = some n → n.ins.length ≤ 200 ∧ n.ps.length ≤ 200) := Lib.hid (fun j n hj hn => by
          by_cases e : j = i
          · subst e
            rw [Hnd.out] at hn
            simp only [Option.some.injEq] at hn
            subst hn
            exact ⟨h1, h2⟩
          · exact Hall.out j n (by omega) hn)
        have s1 := S1.out
        have s2 := S2.out
        have H3 := Lib.hid h3
        clear h1 h2 hks h3
        go_wp2_with fail
        go_quiet (fail)
        go_wp2_with fail
        go_roundw
        case rel => exact ⟨ks, i + 1, congrArg (Value.int IntKind.i64) s2, by go_num, by omega, H3.out, Hnext.out, Hm.out.trans' (Gou.Mod.drewN _ _ _)⟩
        case measure => simp [intOf]; omega
      · have q3 : decide ((5000 : Int) < (ks : Int)) = true := decide_eq_true (by omega)
        have s1 := S1.out
        have s2 := S2.out
        clear h1 h2 h3 hks
        go_wp2_with fail
        go_quiet (fail)
        go_wp2_with fail
        go_ret
        exact ⟨⟨false, rfl, fun h => by cases h⟩, HM.out.trans' (Hm.out.trans' (Gou.Mod.drewN _ _ _))⟩
    · obtain rfl : i = g.nodes.length := by omega
      have e2 : decide ((g.nodes.length : Int) < (g.nodes.length : Int)) = false := by simp
      have Hend : Hid (LittleOk g.nodes) := Lib.hid (fun n hn => by
        obtain ⟨j, hj, rfl⟩ := List.getElem_of_mem hn
        exact Hall.out j _ hj (List.getElem?_eq_getElem hj))
      go_wp2_with fail
      go_ret
      exact ⟨⟨true, rfl, fun _ => Hend.out⟩, HM.out.trans' Hm.out⟩

end Go.Proofs.Ytnamnmipgpcjjaa

/- Acts as bytes: the document's sameness: numbers, filters. -/
namespace Go.Proofs.Ytnamnmipgpcjjaa
open Go.RowKit Go.Gou

set_option maxRecDepth 100000 in
set_option maxHeartbeats 1000000 in
theorem eqR_any (w : World) (G1 G2 : Nat → Prop) (p1 p2 : Option Addr) (c1 c2 : Nat) (xs ys : List Int) (hx : IntsR G1 w (.slice p1 xs.length c1) xs) (hy : IntsR G2 w (.slice p2 ys.length c2) ys) (hl : xs.length ≤ 1000000000) (hl2 : ys.length ≤ 1000000000) :
    Calls Try.prog 57 #[.slice p1 xs.length c1, .slice p2 ys.length c2] w fun e w' => e = .returned (.bool (decide (xs = ys))) ∧ ∃ m, w' = w.drewN m := by
  have Hx := Lib.hid hx
  have Hy := Lib.hid hy
  clear hx hy
  go_enter Try.func57, Try.ntmps57
  by_cases hlen : xs.length = ys.length
  · have e1 : ((xs.length : Int) != (ys.length : Int)) = false := by simp [hlen]
    have Hlen := Lib.hid hlen
    clear hlen
    go_wp2_with fail
    go_loopw [5] (fun c wr => ∃ i : Nat, c = .int .i64 i ∧ i ≤ xs.length ∧ xs.take i = ys.take i ∧ ∃ m, wr = w.drewN m) (fun c _ => xs.length - (intOf c).toNat)
    case atStart => exact ⟨0, rfl, by omega, by simp, 0, rfl⟩
    case round =>
      obtain ⟨i, rfl, hi, ht, hm⟩ := hrel
      have Ht := Lib.hid ht
      have Hm0 := Lib.hid hm
      have Hm : Hid (Gou.Mod (fun _ => False) w wr) := Lib.hid (by obtain ⟨m, rfl⟩ := hm; exact Gou.Mod.drewN _ _ _)
      clear ht hm
      by_cases hil : i < xs.length
      · have e2 : decide ((i : Int) < (xs.length : Int)) = true := by simp; omega
        have hil2 : i < ys.length := by have := Hlen.out; omega
        obtain ⟨-, b1, o1, rfl, hb1, -, hc1⟩ := Hx.out.cells (by omega)
        obtain ⟨-, b2, o2, rfl, hb2, -, hc2⟩ := Hy.out.cells (by omega)
        have k1 := hc1 i hil
        have k2 := hc2 i hil2
        rw [← Hm.out.cell (p := ⟨b1, o1 + i, none⟩) hb1 (fun h => h)] at k1
        rw [← Hm.out.cell (p := ⟨b2, o2 + i, none⟩) hb2 (fun h => h)] at k2
        have hx1 : xs.getD i 0 = xs[i] := by simp [List.getD, hil]
        have hy1 : ys.getD i 0 = ys[i] := by simp [List.getD, hil2]
        rw [hx1] at k1
        rw [hy1] at k2
        have hiI : (i : Int) < (xs.length : Int) := by omega
        have hiJ : (i : Int) < (ys.length : Int) := by omega
        have hi0I : (0 : Int) ≤ (i : Int) := by omega
        have Hne := Lib.hid (fun he => ne_of_get (i := i) hil hil2 he : xs[i] ≠ ys[i] → xs ≠ ys)
        have Heq := Lib.hid (fun he => take_eq_snoc hil hil2 Ht.out he : xs[i] = ys[i] → xs.take (i + 1) = ys.take (i + 1))
        clear hc1 hc2 hx1 hy1
        generalize xs[i] = x at *
        generalize ys[i] = y at *
        by_cases hxy : x = y
        · have e3 : (x != y) = false := by simp [hxy]
          have Hs := Lib.hid (Heq.out hxy)
          clear hxy
          go_wp2_with fail
          go_quiet (fail)
          go_wp2_with fail
          go_roundw
          case rel =>
            obtain ⟨m, rfl⟩ := Hm0.out
            exact ⟨i + 1, by go_num, by omega, Hs.out, _, by rw [World.drewN_drewN]⟩
          case measure => simp [intOf]; omega
        · have e3 : (x != y) = true := by simp [hxy]
          have Hs := Lib.hid (Hne.out hxy)
          clear hxy
          go_wp2_with fail
          go_quiet (fail)
          go_wp2_with fail
          go_ret
          obtain ⟨m, rfl⟩ := Hm0.out
          exact ⟨by simp [Hs.out], _, by rw [World.drewN_drewN]⟩
      · obtain rfl : i = xs.length := by omega
        have e2 : decide ((xs.length : Int) < (xs.length : Int)) = false := by simp
        have Hs : Hid (xs = ys) := Lib.hid (by
          have h1 := Ht.out
          rw [List.take_length, Hlen.out, List.take_length] at h1
          exact h1)
        go_wp2_with fail
        go_ret
        exact ⟨by simp [Hs.out], Hm0.out⟩
  · have e1 : ((xs.length : Int) != (ys.length : Int)) = true := by simp; omega
    have Hs : Hid (xs ≠ ys) := Lib.hid (fun h => hlen (by rw [h]))
    clear hlen
    go_wp2_with fail
    go_ret
    exact ⟨by simp [Hs.out], 0, rfl⟩

set_option maxRecDepth 100000 in
set_option maxHeartbeats 4000000 in
theorem grR_any (w : World) (G1 G2 : Nat → Prop) (p1 p2 : Option Addr) (c1 c2 : Nat) (g k : Gr) (hx : NodesR G1 w (.slice p1 g.nodes.length c1) g.nodes) (hy : NodesR G2 w (.slice p2 k.nodes.length c2) k.nodes) (bx : NodesBorne g.nodes) (by_ : NodesBorne k.nodes) :
    Calls Try.prog 44 #[.agg #[.slice p1 g.nodes.length c1, .int .i64 g.out], .agg #[.slice p2 k.nodes.length c2, .int .i64 k.out]] w fun e w' => e = .returned (.bool (decide (g = k))) ∧ Gou.Mod (fun _ => False) w w' := by
  have HM : Hid (Gou.Mod (fun _ => False) w ((w.alloc (.cells #[.slice p1 g.nodes.length c1, .int .i64 g.out] 33)).alloc (.cells #[.slice p2 k.nodes.length c2, .int .i64 k.out] 33))) := Lib.hid ((Gou.Mod.alloc _ _ _).trans' (Gou.Mod.alloc _ _ _))
  have Hx := Lib.hid (hx.mod HM.out (fun _ _ _ h => h))
  have Hy := Lib.hid (hy.mod HM.out (fun _ _ _ h => h))
  have Bx := Lib.hid bx
  have By := Lib.hid by_
  have HA : Hid (Blk ((w.alloc (.cells #[.slice p1 g.nodes.length c1, .int .i64 g.out] 33)).alloc (.cells #[.slice p2 k.nodes.length c2, .int .i64 k.out] 33)) w.heap.size 33 #[.slice p1 g.nodes.length c1, .int .i64 g.out]) := Lib.hid ((show Blk (w.alloc (.cells #[.slice p1 g.nodes.length c1, .int .i64 g.out] 33)) w.heap.size 33 _ from heap_alloc_new w _).mod (Gou.Mod.alloc (fun _ => False) _ _) (fun h => h))
  have HB : Hid (Blk ((w.alloc (.cells #[.slice p1 g.nodes.length c1, .int .i64 g.out] 33)).alloc (.cells #[.slice p2 k.nodes.length c2, .int .i64 k.out] 33)) (w.heap.size + 1) 33 #[.slice p2 k.nodes.length c2, .int .i64 k.out]) := Lib.hid (by
    have := heap_alloc_new (w.alloc (.cells #[.slice p1 g.nodes.length c1, .int .i64 g.out] 33)) (.cells #[.slice p2 k.nodes.length c2, .int .i64 k.out] 33)
    rw [World.size_alloc] at this
    exact this)
  clear hx hy bx by_
  go_enter Try.func44, Try.ntmps44
  by_cases ho : g.out = k.out
  case neg =>
    have e1 : (g.out != k.out) = true := by simp [ho]
    have Hq : Hid (decide (g = k) = false) := Lib.hid (by simp [gr_eq, ho])
    clear ho
    go_wp2_with fail
    go_ret
    exact ⟨by rw [Hq.out]; rfl, HM.out⟩
  have e1 : (g.out != k.out) = false := by simp [ho]
  have Ho := Lib.hid ho
  clear ho
  by_cases hlen : g.nodes.length = k.nodes.length
  case neg =>
    have e2 : ((g.nodes.length : Int) != (k.nodes.length : Int)) = true := by simp; omega
    have Hq : Hid (decide (g = k) = false) := Lib.hid (decide_eq_false fun h => hlen (by rw [h]))
    clear hlen
    go_wp2_with fail
    go_ret
    exact ⟨by rw [Hq.out]; rfl, HM.out⟩
  have e2 : ((g.nodes.length : Int) != (k.nodes.length : Int)) = false := by simp [hlen]
  have Hlen := Lib.hid hlen
  have hgl : g.nodes.length ≤ 1000000000 := Bx.out.1
  have Hgl := Lib.hid hgl
  clear hlen hgl
  go_wp2_with fail
  generalize hW0 : ((w.alloc (.cells #[.slice p1 g.nodes.length c1, .int .i64 g.out] 33)).alloc (.cells #[.slice p2 k.nodes.length c2, .int .i64 k.out] 33)) = w0 at *
  clear hW0
  go_loopw [5] (fun c wr => ∃ i : Nat, c = .int .i64 i ∧ i ≤ g.nodes.length ∧ g.nodes.take i = k.nodes.take i ∧ Gou.Mod (fun _ => False) w0 wr) (fun c _ => g.nodes.length - (intOf c).toNat)
  case atStart => exact ⟨0, rfl, by omega, by simp, Gou.Mod.refl _ _⟩
  case round =>
    obtain ⟨i, rfl, hi, ht, hm⟩ := hrel
    have Ht := Lib.hid ht
    have Hm := Lib.hid hm
    have hA := HA.out.mod hm (fun h => h)
    have hB := HB.out.mod hm (fun h => h)
    have a0 : wr.cell? ⟨w.heap.size, 0, none⟩ = some (.slice p1 g.nodes.length c1) := hA.cell 0 rfl
    have b0 : wr.cell? ⟨w.heap.size + 1, 0, none⟩ = some (.slice p2 k.nodes.length c2) := hB.cell 0 rfl
    clear ht hm hA hB
    by_cases hil : i < g.nodes.length
    · have e3 : decide ((i : Int) < (g.nodes.length : Int)) = true := by simp; omega
      have hil2 : i < k.nodes.length := by have := Hlen.out; omega
      obtain ⟨-, x1, o1, rfl, hx1, -, hc1⟩ := Hx.out.cells (by omega)
      obtain ⟨-, x2, o2, rfl, hx2, -, hc2⟩ := Hy.out.cells (by omega)
      obtain ⟨pi1, ci1, pp1, cp1, m0, m1, m2, hi1, hp1⟩ := hc1 i _ (List.getElem?_eq_getElem hil)
      obtain ⟨pi2, ci2, pp2, cp2, q0, q1, q2, hi2, hp2⟩ := hc2 i _ (List.getElem?_eq_getElem hil2)
      rw [← Hm.out.cell (p := ⟨x1, o1 + i * 3, none⟩) hx1 (fun h => h)] at m0
      rw [← Hm.out.cell (p := ⟨x1, o1 + i * 3 + 1, none⟩) hx1 (fun h => h)] at m1
      rw [← Hm.out.cell (p := ⟨x1, o1 + i * 3 + 2, none⟩) hx1 (fun h => h)] at m2
      rw [← Hm.out.cell (p := ⟨x2, o2 + i * 3, none⟩) hx2 (fun h => h)] at q0
      rw [← Hm.out.cell (p := ⟨x2, o2 + i * 3 + 1, none⟩) hx2 (fun h => h)] at q1
      rw [← Hm.out.cell (p := ⟨x2, o2 + i * 3 + 2, none⟩) hx2 (fun h => h)] at q2
      have hiI : (i : Int) < (g.nodes.length : Int) := by omega
      have hiJ : (i : Int) < (k.nodes.length : Int) := by omega
      have hi0I : (0 : Int) ≤ (i : Int) := by omega
      have L1 := Lib.hid (Bx.out.2 i _ (List.getElem?_eq_getElem hil))
      have L2 := Lib.hid (By.out.2 i _ (List.getElem?_eq_getElem hil2))
      have Hi1 := Lib.hid (RowG.mod hi1 Hm.out (fun _ _ _ h => h))
      have Hi2 := Lib.hid (RowG.mod hi2 Hm.out (fun _ _ _ h => h))
      have Hp1 := Lib.hid (RowG.mod hp1 Hm.out (fun _ _ _ h => h))
      have Hp2 := Lib.hid (RowG.mod hp2 Hm.out (fun _ _ _ h => h))
      have Hne := Lib.hid (fun he => ne_of_get (i := i) hil hil2 he : g.nodes[i] ≠ k.nodes[i] → g.nodes ≠ k.nodes)
      have Heq := Lib.hid (fun he => take_eq_snoc hil hil2 Ht.out he : g.nodes[i] = k.nodes[i] → g.nodes.take (i + 1) = k.nodes.take (i + 1))
      clear hc1 hc2 hi1 hi2 hp1 hp2
      generalize g.nodes[i] = nd at *
      generalize k.nodes[i] = md at *
      have Hq1 : Hid (∀ m x y, x = Value.slice pi1 nd.ins.length ci1 → y = Value.slice pi2 md.ins.length ci2 → Calls Try.prog 57 #[x, y] (wr.drewN m) fun e w2 => e = .returned (.bool (decide (nd.ins = md.ins))) ∧ ∃ q, w2 = (wr.drewN m).drewN q) := Lib.hid (fun m x y hx hy => by
        subst hx hy
        exact eqR_any _ _ _ _ _ _ _ _ _ (RowG.mod Hi1.out (Gou.Mod.drewN _ _ m) (fun _ _ _ h => h)) (RowG.mod Hi2.out (Gou.Mod.drewN _ _ m) (fun _ _ _ h => h)) L1.out.1 L2.out.1)
      have Hq2 : Hid (∀ m x y, x = Value.slice pp1 nd.ps.length cp1 → y = Value.slice pp2 md.ps.length cp2 → Calls Try.prog 57 #[x, y] (wr.drewN m) fun e w2 => e = .returned (.bool (decide (nd.ps = md.ps))) ∧ ∃ q, w2 = (wr.drewN m).drewN q) := Lib.hid (fun m x y hx hy => by
        subst hx hy
        exact eqR_any _ _ _ _ _ _ _ _ _ (RowG.mod Hp1.out (Gou.Mod.drewN _ _ m) (fun _ _ _ h => h)) (RowG.mod Hp2.out (Gou.Mod.drewN _ _ m) (fun _ _ _ h => h)) L1.out.2 L2.out.2)
      clear Hi1 Hi2 Hp1 Hp2 L1 L2
      by_cases hop : nd.op = md.op
      case neg =>
        have e4 : (nd.op != md.op) = true := by simp [hop]
        have Hs := Lib.hid (Hne.out fun h => hop (by rw [h]))
        clear hop
        go_wp2_with fail
        go_quiet (fail)
        go_wp2_with fail
        go_ret
        exact ⟨by simp [gr_eq, Hs.out], HM.out.trans' (Hm.out.trans' (Gou.Mod.drewN _ _ _))⟩
      have e4 : (nd.op != md.op) = false := by simp [hop]
      have Hop := Lib.hid hop
      clear hop
      by_cases hin : nd.ins = md.ins
      case neg =>
        have Hs := Lib.hid (Hne.out fun h => hin (by rw [h]))
        have hd : decide (nd.ins = md.ins) = false := by simp [hin]
        rw [hd] at Hq1
        clear hin hd
        go_wp2_with fail
        go_quiet (first | (go_at_call 57; exact Calls.quiet_of (Hq1.out _ _ _ rfl rfl)))
        go_wp2_with fail
        go_ret
        exact ⟨by simp [gr_eq, Hs.out], HM.out.trans' (Hm.out.trans' (Gou.Mod.drewN _ _ _))⟩
      have Hin := Lib.hid hin
      have hd : decide (nd.ins = md.ins) = true := by simp [hin]
      rw [hd] at Hq1
      clear hin hd
      by_cases hps : nd.ps = md.ps
      case neg =>
        have Hs := Lib.hid (Hne.out fun h => hps (by rw [h]))
        have hd : decide (nd.ps = md.ps) = false := by simp [hps]
        rw [hd] at Hq2
        clear hps hd
        go_wp2_with fail
        go_quiet (first | (go_at_call 57; first | exact Calls.quiet_of (Hq1.out _ _ _ rfl rfl) | exact Calls.quiet_of (Hq2.out _ _ _ rfl rfl)))
        go_wp2_with fail
        go_ret
        exact ⟨by simp [gr_eq, Hs.out], HM.out.trans' (Hm.out.trans' (Gou.Mod.drewN _ _ _))⟩
      have hd : decide (nd.ps = md.ps) = true := by simp [hps]
      have Hs := Lib.hid (Heq.out (node_eq nd md |>.2 ⟨Hop.out, Hin.out, hps⟩))
      rw [hd] at Hq2
      have hgl := Hgl.out
      clear hps hd
      go_wp2_with fail
      go_quiet (first | (go_at_call 57; first | exact Calls.quiet_of (Hq1.out _ _ _ rfl rfl) | exact Calls.quiet_of (Hq2.out _ _ _ rfl rfl)))
      go_wp2_with fail
      go_roundw
      case rel => exact ⟨i + 1, by go_num, by omega, Hs.out, Hm.out.trans' (Gou.Mod.drewN _ _ _)⟩
      case measure => simp [intOf]; omega
    · obtain rfl : i = g.nodes.length := by omega
      have e3 : decide ((g.nodes.length : Int) < (g.nodes.length : Int)) = false := by simp
      have Hs : Hid (g = k) := Lib.hid (by
        have h1 := Ht.out
        rw [List.take_length, Hlen.out, List.take_length] at h1
        exact (gr_eq g k).2 ⟨Ho.out, h1⟩)
      go_wp2_with fail
      go_ret
      exact ⟨by rw [decide_eq_true Hs.out]; rfl, HM.out.trans' Hm.out⟩

end Go.Proofs.Ytnamnmipgpcjjaa

/- Acts as bytes: the document's sameness of contents. -/
namespace Go.Proofs.Ytnamnmipgpcjjaa
open Go.RowKit Go.Gou

set_option linter.constructorNameAsVariable false
set_option maxRecDepth 100000

theorem rect_nop (a b : Rc) (w : World) : (binOp .neq 25 (.agg #[.int .i64 a.x0, .int .i64 a.y0, .int .i64 a.x1, .int .i64 a.y1]) (.agg #[.int .i64 b.x0, .int .i64 b.y0, .int .i64 b.x1, .int .i64 b.y1])).run Try.prog w = .ok (.bool (!decide (a = b))) w := by
  simp only [binOp, Sem.run_bind, rect_eql, Result.andThen_ok, Sem.run_pure, rc_eq]

theorem px_nop (a b : Pxl) (w : World) : (binOp .neq 27 (.agg #[.int .u8 (a.p0 : Nat), .int .u8 (a.p1 : Nat), .int .u8 (a.p2 : Nat), .int .u8 (a.p3 : Nat)]) (.agg #[.int .u8 (b.p0 : Nat), .int .u8 (b.p1 : Nat), .int .u8 (b.p2 : Nat), .int .u8 (b.p3 : Nat)])).run Try.prog w = .ok (.bool (!decide (a = b))) w := by
  rw [px_neq]
  simp only [px_eq]

set_option maxHeartbeats 4000000 in
theorem contR_any (w : World) (G1 G2 : Nat → Prop) (p1 p2 : Option Addr) (k1 k2 : Nat) (c e : Ct) (hx : PixR G1 w (.slice p1 c.pix.length k1) c.pix) (hy : PixR G2 w (.slice p2 e.pix.length k2) e.pix) (l1 : c.pix.length ≤ 1000000000) (l2 : e.pix.length ≤ 1000000000) :
    Calls Try.prog 43 #[.agg (CtA c p1 k1), .agg (CtA e p2 k2)] w fun r w' => r = .returned (.bool (decide (c = e))) ∧ Gou.Mod (fun _ => False) w w' := by
  have HM : Hid (Gou.Mod (fun _ => False) w ((w.alloc (.cells (CtA c p1 k1) 30)).alloc (.cells (CtA e p2 k2) 30))) := Lib.hid ((Gou.Mod.alloc _ _ _).trans' (Gou.Mod.alloc _ _ _))
  have Hx : Hid (PixR G1 ((w.alloc (.cells (CtA c p1 k1) 30)).alloc (.cells (CtA e p2 k2) 30)) (.slice p1 c.pix.length k1) c.pix) := Lib.hid (RowG.mod hx HM.out (fun _ _ _ h => h))
  have Hy : Hid (PixR G2 ((w.alloc (.cells (CtA c p1 k1) 30)).alloc (.cells (CtA e p2 k2) 30)) (.slice p2 e.pix.length k2) e.pix) := Lib.hid (RowG.mod hy HM.out (fun _ _ _ h => h))
  have HA : Hid (Blk ((w.alloc (.cells (CtA c p1 k1) 30)).alloc (.cells (CtA e p2 k2) 30)) w.heap.size 30 (CtA c p1 k1)) := Lib.hid ((show Blk (w.alloc (.cells (CtA c p1 k1) 30)) w.heap.size 30 _ from heap_alloc_new w _).mod (Gou.Mod.alloc (fun _ => False) _ _) (fun h => h))
  have HB : Hid (Blk ((w.alloc (.cells (CtA c p1 k1) 30)).alloc (.cells (CtA e p2 k2) 30)) (w.heap.size + 1) 30 (CtA e p2 k2)) := Lib.hid (by
    have := heap_alloc_new (w.alloc (.cells (CtA c p1 k1) 30)) (.cells (CtA e p2 k2) 30)
    rw [World.size_alloc] at this
    exact this)
  clear hx hy
  have a0 : (((w.alloc (.cells (CtA c p1 k1) 30)).alloc (.cells (CtA e p2 k2) 30))).cell? ⟨w.heap.size, 0, none⟩ = some (.int .i64 c.kind) := HA.out.cell 0 rfl
  have b0 : (((w.alloc (.cells (CtA c p1 k1) 30)).alloc (.cells (CtA e p2 k2) 30))).cell? ⟨w.heap.size + 1, 0, none⟩ = some (.int .i64 e.kind) := HB.out.cell 0 rfl
  have a1 : (((w.alloc (.cells (CtA c p1 k1) 30)).alloc (.cells (CtA e p2 k2) 30))).cell? ⟨w.heap.size, 1, none⟩ = some (.int .i64 c.box.x0) := HA.out.cell 1 rfl
  have b1 : (((w.alloc (.cells (CtA c p1 k1) 30)).alloc (.cells (CtA e p2 k2) 30))).cell? ⟨w.heap.size + 1, 1, none⟩ = some (.int .i64 e.box.x0) := HB.out.cell 1 rfl
  have a2 : (((w.alloc (.cells (CtA c p1 k1) 30)).alloc (.cells (CtA e p2 k2) 30))).cell? ⟨w.heap.size, 2, none⟩ = some (.int .i64 c.box.y0) := HA.out.cell 2 rfl
  have b2 : (((w.alloc (.cells (CtA c p1 k1) 30)).alloc (.cells (CtA e p2 k2) 30))).cell? ⟨w.heap.size + 1, 2, none⟩ = some (.int .i64 e.box.y0) := HB.out.cell 2 rfl
  have a3 : (((w.alloc (.cells (CtA c p1 k1) 30)).alloc (.cells (CtA e p2 k2) 30))).cell? ⟨w.heap.size, 3, none⟩ = some (.int .i64 c.box.x1) := HA.out.cell 3 rfl
  have b3 : (((w.alloc (.cells (CtA c p1 k1) 30)).alloc (.cells (CtA e p2 k2) 30))).cell? ⟨w.heap.size + 1, 3, none⟩ = some (.int .i64 e.box.x1) := HB.out.cell 3 rfl
  have a4 : (((w.alloc (.cells (CtA c p1 k1) 30)).alloc (.cells (CtA e p2 k2) 30))).cell? ⟨w.heap.size, 4, none⟩ = some (.int .i64 c.box.y1) := HA.out.cell 4 rfl
  have b4 : (((w.alloc (.cells (CtA c p1 k1) 30)).alloc (.cells (CtA e p2 k2) 30))).cell? ⟨w.heap.size + 1, 4, none⟩ = some (.int .i64 e.box.y1) := HB.out.cell 4 rfl
  have a5 : (((w.alloc (.cells (CtA c p1 k1) 30)).alloc (.cells (CtA e p2 k2) 30))).cell? ⟨w.heap.size, 5, none⟩ = some (.int .u8 (c.px.p0 : Nat)) := HA.out.cell 5 rfl
  have b5 : (((w.alloc (.cells (CtA c p1 k1) 30)).alloc (.cells (CtA e p2 k2) 30))).cell? ⟨w.heap.size + 1, 5, none⟩ = some (.int .u8 (e.px.p0 : Nat)) := HB.out.cell 5 rfl
  have a6 : (((w.alloc (.cells (CtA c p1 k1) 30)).alloc (.cells (CtA e p2 k2) 30))).cell? ⟨w.heap.size, 6, none⟩ = some (.int .u8 (c.px.p1 : Nat)) := HA.out.cell 6 rfl
  have b6 : (((w.alloc (.cells (CtA c p1 k1) 30)).alloc (.cells (CtA e p2 k2) 30))).cell? ⟨w.heap.size + 1, 6, none⟩ = some (.int .u8 (e.px.p1 : Nat)) := HB.out.cell 6 rfl
  have a7 : (((w.alloc (.cells (CtA c p1 k1) 30)).alloc (.cells (CtA e p2 k2) 30))).cell? ⟨w.heap.size, 7, none⟩ = some (.int .u8 (c.px.p2 : Nat)) := HA.out.cell 7 rfl
  have b7 : (((w.alloc (.cells (CtA c p1 k1) 30)).alloc (.cells (CtA e p2 k2) 30))).cell? ⟨w.heap.size + 1, 7, none⟩ = some (.int .u8 (e.px.p2 : Nat)) := HB.out.cell 7 rfl
  have a8 : (((w.alloc (.cells (CtA c p1 k1) 30)).alloc (.cells (CtA e p2 k2) 30))).cell? ⟨w.heap.size, 8, none⟩ = some (.int .u8 (c.px.p3 : Nat)) := HA.out.cell 8 rfl
  have b8 : (((w.alloc (.cells (CtA c p1 k1) 30)).alloc (.cells (CtA e p2 k2) 30))).cell? ⟨w.heap.size + 1, 8, none⟩ = some (.int .u8 (e.px.p3 : Nat)) := HB.out.cell 8 rfl
  have a9 : (((w.alloc (.cells (CtA c p1 k1) 30)).alloc (.cells (CtA e p2 k2) 30))).cell? ⟨w.heap.size, 9, none⟩ = some (.int .i64 c.w) := HA.out.cell 9 rfl
  have b9 : (((w.alloc (.cells (CtA c p1 k1) 30)).alloc (.cells (CtA e p2 k2) 30))).cell? ⟨w.heap.size + 1, 9, none⟩ = some (.int .i64 e.w) := HB.out.cell 9 rfl
  have a10 : (((w.alloc (.cells (CtA c p1 k1) 30)).alloc (.cells (CtA e p2 k2) 30))).cell? ⟨w.heap.size, 10, none⟩ = some (.int .i64 c.h) := HA.out.cell 10 rfl
  have b10 : (((w.alloc (.cells (CtA c p1 k1) 30)).alloc (.cells (CtA e p2 k2) 30))).cell? ⟨w.heap.size + 1, 10, none⟩ = some (.int .i64 e.h) := HB.out.cell 10 rfl
  have a11 : (((w.alloc (.cells (CtA c p1 k1) 30)).alloc (.cells (CtA e p2 k2) 30))).cell? ⟨w.heap.size, 11, none⟩ = some (.int .i64 c.turn) := HA.out.cell 11 rfl
  have b11 : (((w.alloc (.cells (CtA c p1 k1) 30)).alloc (.cells (CtA e p2 k2) 30))).cell? ⟨w.heap.size + 1, 11, none⟩ = some (.int .i64 e.turn) := HB.out.cell 11 rfl
  have a12 : (((w.alloc (.cells (CtA c p1 k1) 30)).alloc (.cells (CtA e p2 k2) 30))).cell? ⟨w.heap.size, 12, none⟩ = some (.slice p1 c.pix.length k1) := HA.out.cell 12 rfl
  have b12 : (((w.alloc (.cells (CtA c p1 k1) 30)).alloc (.cells (CtA e p2 k2) 30))).cell? ⟨w.heap.size + 1, 12, none⟩ = some (.slice p2 e.pix.length k2) := HB.out.cell 12 rfl
  go_enter Try.func43, Try.ntmps43
  by_cases h_kind : c.kind = e.kind
  case neg =>
    have q_kind : (c.kind != e.kind) = true := by simp [h_kind]
    have Hq : Hid (decide (c = e) = false) := Lib.hid (by simp [ct_eq, h_kind])
    clear h_kind
    go_wp2_with fail
    go_ret
    exact ⟨by rw [Hq.out]; rfl, HM.out⟩
  have q_kind : (c.kind != e.kind) = false := by simp [h_kind]
  have I_kind := Lib.hid h_kind
  clear h_kind
  by_cases h_box : c.box = e.box
  case neg =>
    have q_box : ∀ w : World, (binOp .neq 25 (.agg #[.int .i64 c.box.x0, .int .i64 c.box.y0, .int .i64 c.box.x1, .int .i64 c.box.y1]) (.agg #[.int .i64 e.box.x0, .int .i64 e.box.y0, .int .i64 e.box.x1, .int .i64 e.box.y1])).run Try.prog w = .ok (.bool true) w := fun w => (rect_nop c.box e.box w).trans (by simp [h_box])
    have Hq : Hid (decide (c = e) = false) := Lib.hid (by simp [ct_eq, h_box])
    clear h_box
    go_wp2_with fail
    go_ret
    exact ⟨by rw [Hq.out]; rfl, HM.out⟩
  have q_box : ∀ w : World, (binOp .neq 25 (.agg #[.int .i64 c.box.x0, .int .i64 c.box.y0, .int .i64 c.box.x1, .int .i64 c.box.y1]) (.agg #[.int .i64 e.box.x0, .int .i64 e.box.y0, .int .i64 e.box.x1, .int .i64 e.box.y1])).run Try.prog w = .ok (.bool false) w := fun w => (rect_nop c.box e.box w).trans (by simp [h_box])
  have I_box := Lib.hid h_box
  clear h_box
  by_cases h_px : c.px = e.px
  case neg =>
    have q_px : ∀ w : World, (binOp .neq 27 (.agg #[.int .u8 (c.px.p0 : Nat), .int .u8 (c.px.p1 : Nat), .int .u8 (c.px.p2 : Nat), .int .u8 (c.px.p3 : Nat)]) (.agg #[.int .u8 (e.px.p0 : Nat), .int .u8 (e.px.p1 : Nat), .int .u8 (e.px.p2 : Nat), .int .u8 (e.px.p3 : Nat)])).run Try.prog w = .ok (.bool true) w := fun w => (px_nop c.px e.px w).trans (by simp [h_px])
    have Hq : Hid (decide (c = e) = false) := Lib.hid (by simp [ct_eq, h_px])
    clear h_px
    go_wp2_with fail
    go_ret
    exact ⟨by rw [Hq.out]; rfl, HM.out⟩
  have q_px : ∀ w : World, (binOp .neq 27 (.agg #[.int .u8 (c.px.p0 : Nat), .int .u8 (c.px.p1 : Nat), .int .u8 (c.px.p2 : Nat), .int .u8 (c.px.p3 : Nat)]) (.agg #[.int .u8 (e.px.p0 : Nat), .int .u8 (e.px.p1 : Nat), .int .u8 (e.px.p2 : Nat), .int .u8 (e.px.p3 : Nat)])).run Try.prog w = .ok (.bool false) w := fun w => (px_nop c.px e.px w).trans (by simp [h_px])
  have I_px := Lib.hid h_px
  clear h_px
  by_cases h_w : c.w = e.w
  case neg =>
    have q_w : (c.w != e.w) = true := by simp [h_w]
    have Hq : Hid (decide (c = e) = false) := Lib.hid (by simp [ct_eq, h_w])
    clear h_w
    go_wp2_with fail
    go_ret
    exact ⟨by rw [Hq.out]; rfl, HM.out⟩
  have q_w : (c.w != e.w) = false := by simp [h_w]
  have I_w := Lib.hid h_w
  clear h_w
  by_cases h_h : c.h = e.h
  case neg =>
    have q_h : (c.h != e.h) = true := by simp [h_h]
    have Hq : Hid (decide (c = e) = false) := Lib.hid (by simp [ct_eq, h_h])
    clear h_h
    go_wp2_with fail
    go_ret
    exact ⟨by rw [Hq.out]; rfl, HM.out⟩
  have q_h : (c.h != e.h) = false := by simp [h_h]
  have I_h := Lib.hid h_h
  clear h_h
  by_cases h_turn : c.turn = e.turn
  case neg =>
    have q_turn : (c.turn != e.turn) = true := by simp [h_turn]
    have Hq : Hid (decide (c = e) = false) := Lib.hid (by simp [ct_eq, h_turn])
    clear h_turn
    go_wp2_with fail
    go_ret
    exact ⟨by rw [Hq.out]; rfl, HM.out⟩
  have q_turn : (c.turn != e.turn) = false := by simp [h_turn]
  have I_turn := Lib.hid h_turn
  clear h_turn
  by_cases hlen : c.pix.length = e.pix.length
  case neg =>
    have q_len : ((c.pix.length : Int) != (e.pix.length : Int)) = true := by simp; omega
    have Hq : Hid (decide (c = e) = false) := Lib.hid (decide_eq_false fun h => hlen (by rw [h]))
    clear hlen
    go_wp2_with fail
    go_ret
    exact ⟨by rw [Hq.out]; rfl, HM.out⟩
  have q_len : ((c.pix.length : Int) != (e.pix.length : Int)) = false := by simp [hlen]
  have Hlen := Lib.hid hlen
  clear hlen
  go_wp2_with fail
  clear q_kind q_box q_px q_w q_h q_turn a0 b0 a1 b1 a2 b2 a3 b3 a4 b4 a5 b5 a6 b6 a7 b7 a8 b8 a9 b9 a10 b10 a11 b11 a12 b12
  generalize hW0 : ((w.alloc (.cells (CtA c p1 k1) 30)).alloc (.cells (CtA e p2 k2) 30)) = w0 at *
  clear hW0
  go_loopw [5] (fun d wr => ∃ i : Nat, d = .int .i64 i ∧ i ≤ c.pix.length ∧ c.pix.take i = e.pix.take i ∧ Gou.Mod (fun _ => False) w0 wr) (fun d _ => c.pix.length - (intOf d).toNat)
  case atStart => exact ⟨0, rfl, by omega, by simp, Gou.Mod.refl _ _⟩
  case round =>
    obtain ⟨i, rfl, hi, ht, hm⟩ := hrel
    have Ht := Lib.hid ht
    have Hm := Lib.hid hm
    have hA := HA.out.mod hm (fun h => h)
    have hB := HB.out.mod hm (fun h => h)
    have d12 : wr.cell? ⟨w.heap.size, 12, none⟩ = some (.slice p1 c.pix.length k1) := hA.cell 12 rfl
    have f12 : wr.cell? ⟨w.heap.size + 1, 12, none⟩ = some (.slice p2 e.pix.length k2) := hB.cell 12 rfl
    clear ht hm hA hB
    by_cases hil : i < c.pix.length
    · have e2 : decide ((i : Int) < (c.pix.length : Int)) = true := by simp; omega
      have hil2 : i < e.pix.length := by have := Hlen.out; omega
      obtain ⟨-, b1, o1, rfl, hb1, -, hc1⟩ := Hx.out.cells (by omega)
      obtain ⟨-, b2, o2, rfl, hb2, -, hc2⟩ := Hy.out.cells (by omega)
      obtain ⟨k0, k1', k2', k3⟩ := hc1 i hil
      obtain ⟨l0, l1', l2', l3⟩ := hc2 i hil2
      have hm1 : ∀ j, wr.cell? ⟨b1, j, none⟩ = w0.cell? ⟨b1, j, none⟩ := fun j => Hm.out.cell (p := ⟨b1, j, none⟩) hb1 (fun h => h)
      have hm2 : ∀ j, wr.cell? ⟨b2, j, none⟩ = w0.cell? ⟨b2, j, none⟩ := fun j => Hm.out.cell (p := ⟨b2, j, none⟩) hb2 (fun h => h)
      rw [← hm1] at k0 k1' k2' k3
      rw [← hm2] at l0 l1' l2' l3
      clear hm1 hm2
      have hiI : (i : Int) < (c.pix.length : Int) := by omega
      have hiJ : (i : Int) < (e.pix.length : Int) := by omega
      have hi0I : (0 : Int) ≤ (i : Int) := by omega
      have Hne := Lib.hid (fun he => ne_of_get (i := i) hil hil2 he : c.pix[i] ≠ e.pix[i] → c.pix ≠ e.pix)
      have Heq := Lib.hid (fun he => take_eq_snoc hil hil2 Ht.out he : c.pix[i] = e.pix[i] → c.pix.take (i + 1) = e.pix.take (i + 1))
      clear hc1 hc2
      generalize c.pix[i] = x at *
      generalize e.pix[i] = y at *
      by_cases hxy : x = y
      · have hne : ∀ w : World, (binOp .neq 27 (.agg #[.int .u8 (x.p0 : Nat), .int .u8 (x.p1 : Nat), .int .u8 (x.p2 : Nat), .int .u8 (x.p3 : Nat)]) (.agg #[.int .u8 (y.p0 : Nat), .int .u8 (y.p1 : Nat), .int .u8 (y.p2 : Nat), .int .u8 (y.p3 : Nat)])).run Try.prog w = .ok (.bool false) w := fun w => (px_nop x y w).trans (by simp [hxy])
        have Hs := Lib.hid (Heq.out hxy)
        clear hxy
        go_wp2_with fail
        go_quiet (fail)
        go_wp2_with fail
        go_roundw
        case rel => exact ⟨i + 1, by go_num, by omega, Hs.out, Hm.out.trans' (Gou.Mod.drewN _ _ _)⟩
        case measure => simp [intOf]; omega
      · have hne : ∀ w : World, (binOp .neq 27 (.agg #[.int .u8 (x.p0 : Nat), .int .u8 (x.p1 : Nat), .int .u8 (x.p2 : Nat), .int .u8 (x.p3 : Nat)]) (.agg #[.int .u8 (y.p0 : Nat), .int .u8 (y.p1 : Nat), .int .u8 (y.p2 : Nat), .int .u8 (y.p3 : Nat)])).run Try.prog w = .ok (.bool true) w := fun w => (px_nop x y w).trans (by simp [hxy])
        have Hs := Lib.hid (Hne.out hxy)
        clear hxy
        go_wp2_with fail
        go_quiet (fail)
        go_wp2_with fail
        go_ret
        exact ⟨by rw [show decide (c = e) = false from by simp [ct_eq, Hs.out]]; rfl, HM.out.trans' (Hm.out.trans' (Gou.Mod.drewN _ _ _))⟩
    · obtain rfl : i = c.pix.length := by omega
      have e2 : decide ((c.pix.length : Int) < (c.pix.length : Int)) = false := by simp
      have Hs : Hid (decide (c = e) = true) := Lib.hid (by
        have h1 := Ht.out
        rw [List.take_length, Hlen.out, List.take_length] at h1
        simp [ct_eq, I_kind.out, I_box.out, I_px.out, I_w.out, I_h.out, I_turn.out, h1])
      go_wp2_with fail
      go_ret
      exact ⟨by rw [Hs.out]; rfl, HM.out.trans' Hm.out⟩

end Go.Proofs.Ytnamnmipgpcjjaa

