/- Acts as bytes: a conf, a filter. -/
import Derived.Test.YtnamnmipgpcjjaaCRdD
namespace Go.Gou
open Go.RowKit

def confAt (bs : List Nat) (n : Nat) : Option (Cf × Nat) := (withinAt bs n 0 15).bind fun p => (numAt bs p.2).bind fun q =>
  some (⟨decide (p.1 % 2 = 1), decide (p.1 / 2 % 2 = 1), decide (p.1 / 4 % 2 = 1), decide (p.1 / 8 % 2 = 1), q.1⟩, q.2)

def nodeAt (bs : List Nat) (n : Nat) : Option (GNode × Nat) := (numAt bs n).bind fun p => (listAt bs p.2).bind fun q => (listAt bs q.2).bind fun r => some (⟨p.1, q.1, r.1⟩, r.2)
def graphAt (bs : List Nat) (n : Nat) : Option (Gr × Nat) := (numAt bs n).bind fun p => (withinAt bs p.2 0 1000).bind fun k => (timesAt (nodeAt bs) k.2 k.1.toNat).bind fun r => some (⟨r.1, p.1⟩, r.2)

theorem bit_tests (x : Int) (h0 : 0 ≤ x) (h15 : x ≤ 15) : decide (0 < bits BinOp.and IntKind.i64 x 1) = decide (x % 2 = 1) ∧ decide (0 < bits BinOp.and IntKind.i64 x 2) = decide (x / 2 % 2 = 1) ∧
    decide (0 < bits BinOp.and IntKind.i64 x 4) = decide (x / 4 % 2 = 1) ∧ decide (0 < bits BinOp.and IntKind.i64 x 8) = decide (x / 8 % 2 = 1) := by
  have : x = 0 ∨ x = 1 ∨ x = 2 ∨ x = 3 ∨ x = 4 ∨ x = 5 ∨ x = 6 ∨ x = 7 ∨ x = 8 ∨ x = 9 ∨ x = 10 ∨ x = 11 ∨ x = 12 ∨ x = 13 ∨ x = 14 ∨ x = 15 := by omega
  rcases this with rfl | rfl | rfl | rfl | rfl | rfl | rfl | rfl | rfl | rfl | rfl | rfl | rfl | rfl | rfl | rfl <;> exact ⟨rfl, rfl, rfl, rfl⟩

theorem Loc.start {w : World} {R : Nat} {vb : Value} {bs : List Nat} {n m : Nat} {T : TypeId} {z : Array Value} {w1 : World} (H : RdAt w R vb bs n) (hm : Mod (fun k => k = R) (w.alloc (.cells z T)) w1) (hr : RdAt w1 R vb bs m) (c : Array Value) :
    Loc w R vb bs T w.heap.size w1.heap.size z c m (w1.alloc (.cells c T)) := by
  have hR := H.lt
  have hs := hm.size
  have hN : Blk w1 w.heap.size T z := Blk.mod (heap_alloc_new w _) hm (by omega)
  refine ⟨⟨n, H⟩, hr.alloc _, ((Mod.alloc _ _ _).trans' hm).trans' (Mod.alloc _ _ _), Nat.le_refl _, ?_, ?_, hN.mod (Mod.alloc (fun _ => False) _ _) (fun h => h), heap_alloc_new w1 _⟩
  · simp at hs; omega
  · simp at hs; omega

end Go.Gou
namespace Go.Proofs.Ytnamnmipgpcjjaa
open Go.RowKit Go.Gou

def IsConf (_ : World) (v : Value) (c : Cf) : Prop := v = .agg (confC c)

/-- The end of a function whose result lies in a box. -/
theorem RdP.ends {α : Type} {P : Program} {fn : Func} {p : Tmp} {ty : TypeId} {N : Nat} {cs : Array Value} {d : TypeDesc} {w W : World} {R : Nat} {vb : Value} {bs : List Nat} {I : World → Value → α → Prop} {res : Option (α × Nat)} {a : Act} {x : α} {q : Nat}
    (h : fn.results = #[.cell p ty]) (hp : a.tmps.getD p undef = .pointer (some ⟨N, 0, none⟩)) (hd : a.defers = []) (hB : Blk W N ty cs) (hu : P.underlying ty = some d)
    (hdd : (match d with | .struct _ | .array _ _ => true | _ => false) = true) (hi : (P.info? ty).map (·.size) = some cs.size) (hres : res = some (x, q)) (hm : Gou.Mod (fun k => k = R) w W) (hI : I W (.agg cs) x) (hr : RdAt W R vb bs q) :
    bodyPost P fn (RdP w R vb bs I res) Exit.ret a W :=
  bodyPost_ret (results_cell_row h a.tmps W N ty cs (0, 0) d hp hB hu hdd hi) hd ⟨hm, by rw [hres]; exact ⟨_, rfl, hI, hr⟩⟩

theorem size_conf : (Try.prog.info? 39).map (·.size) = some 5 := by kernel_rfl
theorem size_graph : (Try.prog.info? 33).map (·.size) = some 2 := by kernel_rfl
theorem size_node : (Try.prog.info? 82).map (·.size) = some 3 := by kernel_rfl
theorem size_content : (Try.prog.info? 30).map (·.size) = some 13 := by kernel_rfl
theorem size_look : (Try.prog.info? 35).map (·.size) = some 28 := by kernel_rfl
theorem size_op : (Try.prog.info? 37).map (·.size) = some 34 := by kernel_rfl
theorem size_act : (Try.prog.info? 41).map (·.size) = some 42 := by kernel_rfl

set_option maxRecDepth 100000 in
set_option maxHeartbeats 4000000 in
theorem conf_any (w : World) (R : Nat) (vb : Value) (bs : List Nat) (n : Nat) (h : RdAt w R vb bs n) :
    Calls Try.prog 36 #[.pointer (some ⟨R, 0, none⟩)] w (RdP w R vb bs IsConf (confAt bs n)) := by
  have H := Lib.hid h
  have hR := h.lt
  clear h
  go_enter Try.func36, Try.ntmps36
  go_wp2_with fail
  refine (within_any _ R vb bs n 0 15 (H.out.alloc _)).mono ?_
  intro e w1 h1
  have hm0 : Mod (fun k => k = R) w (w.alloc (.cells #[.bool false, .bool false, .bool false, .bool false, .int .i64 0] 39)) := Mod.alloc _ _ _
  have hb0 : Blk (w.alloc (.cells #[.bool false, .bool false, .bool false, .bool false, .int .i64 0] 39)) w.heap.size 39 #[.bool false, .bool false, .bool false, .bool false, .int .i64 0] := heap_alloc_new w _
  cases hn : withinAt bs n 0 15 with
  | none =>
    rw [hn] at h1
    obtain ⟨rfl, h2⟩ := h1.fault (J := IsConf) (res := confAt bs n) hm0 (by unfold confAt; rw [hn]; rfl)
    exact ⟨rfl, h2⟩
  | some p =>
    obtain ⟨x, m⟩ := p
    have hb := withinAt_bounds hn
    obtain ⟨b1, b2, b3, b4⟩ := bit_tests x hb.1 hb.2
    rw [hn] at h1
    obtain ⟨hm1, _, rfl, rfl, hr1⟩ := h1
    have Hm1 := Lib.hid (hm0.trans' hm1)
    have Hb1 := Lib.hid (hb0.mod hm1 (by omega))
    have Hn := Lib.hid hn
    clear hn hb hm0 hb0 hm1
    go_wp2_with fail
    refine (number_any _ R vb bs m hr1).mono ?_
    intro e w2 h2
    cases hn2 : numAt bs m with
    | none =>
      rw [hn2] at h2
      obtain ⟨rfl, h3⟩ := h2.fault (J := IsConf) (res := confAt bs n) Hm1.out (by unfold confAt; rw [Hn.out]; show (numAt bs m).bind _ = none; rw [hn2]; rfl)
      exact ⟨rfl, h3⟩
    | some q =>
      obtain ⟨y, q⟩ := q
      rw [hn2] at h2
      obtain ⟨hm2, _, rfl, rfl, hr2⟩ := h2
      have hres : Hid (confAt bs n = some (⟨decide (x % 2 = 1), decide (x / 2 % 2 = 1), decide (x / 4 % 2 = 1), decide (x / 8 % 2 = 1), y⟩, q)) := Lib.hid (by unfold confAt; rw [Hn.out]; show (numAt bs m).bind _ = _; rw [hn2]; rfl)
      have hB := Hb1.out.mod hm2 (by omega)
      have c0 := hB.cell 0 rfl
      have c1 := hB.cell 1 rfl
      have c2 := hB.cell 2 rfl
      have c3 := hB.cell 3 rfl
      have c4 := hB.cell 4 rfl
      have f0 := hB.frozen 0
      have f1 := hB.frozen 1
      have f2 := hB.frozen 2
      have f3 := hB.frozen 3
      have f4 := hB.frozen 4
      have Hr2 := Lib.hid hr2
      have Hm2 := Lib.hid (Hm1.out.trans' hm2)
      have HB := Lib.hid hB
      clear hB hr2 hm2 hn2 hr1
      go_wp2_with fail
      have hw := H.out.owns Hr2.out Hm2.out w.heap.size 0 [.bool (decide (x % 2 = 1)), .bool (decide (x / 2 % 2 = 1)), .bool (decide (x / 4 % 2 = 1)), .bool (decide (x / 8 % 2 = 1)), .int .i64 y] (Nat.le_refl _)
      exact RdP.ends rfl rfl rfl (HB.out.sets 0 [.bool (decide (x % 2 = 1)), .bool (decide (x / 2 % 2 = 1)), .bool (decide (x / 4 % 2 = 1)), .bool (decide (x / 8 % 2 = 1)), .int .i64 y]) Try.underlying39 rfl size_conf hres.out hw.2 rfl hw.1

end Go.Proofs.Ytnamnmipgpcjjaa
