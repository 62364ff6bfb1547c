/- Texts of the codec's proofs, laid together: RnG. -/
import Derived.Test.YtnamnmipgpcjjaaYRnF
import Derived.Test.YtnamnmipgpcjjaaYRnP
set_option linter.unusedSimpArgs false
set_option linter.unusedVariables false
set_option linter.unusedSectionVars false
set_option linter.constructorNameAsVariable false

/- Acts as bytes: the document's acts. -/
namespace Go.Gou
theorem setMany_actl (k k' : Int) (i t : Int × Int) (a : Int) (l : Lk) (vp vf vb : Value) : setMany (actC ⟨k, ⟨k', i, t, a, Lk.zero⟩, 0, 0, Cf.zero⟩ (.slice none 0 0) (.slice none 0 0) (.slice none 0 0)) 7 (lookC l vp vf vb).toList = actC ⟨k, ⟨k', i, t, a, l⟩, 0, 0, Cf.zero⟩ vp vf vb := by
  simp [lookC, actC, setMany]
theorem conf_facts {x : Int} (h : 0 ≤ x ∧ x ≤ 15) : (x.tmod 2 == 1) = decide (x % 2 = 1) ∧ ((IntKind.i64.wrap (x.tdiv 2)).tmod 2 == 1) = decide (x / 2 % 2 = 1) ∧ ((IntKind.i64.wrap (x.tdiv 4)).tmod 2 == 1) = decide (x / 4 % 2 = 1) ∧ (IntKind.i64.wrap (x.tdiv 8) == 1) = decide (x / 8 % 2 = 1) := by
  have : x = 0 ∨ x = 1 ∨ x = 2 ∨ x = 3 ∨ x = 4 ∨ x = 5 ∨ x = 6 ∨ x = 7 ∨ x = 8 ∨ x = 9 ∨ x = 10 ∨ x = 11 ∨ x = 12 ∨ x = 13 ∨ x = 14 ∨ x = 15 := by omega
  rcases this with rfl | rfl | rfl | rfl | rfl | rfl | rfl | rfl | rfl | rfl | rfl | rfl | rfl | rfl | rfl | rfl <;> exact ⟨rfl, rfl, rfl, rfl⟩
theorem times_three {bs : List Nat} {n q : Nat} {xs : List Int} (h : timesAt (numAt bs) n 3 = some (xs, q)) : ∃ a b c, xs = [a, b, c] := by
  obtain ⟨xs, m, c, rfl, h, -⟩ := times_succ h
  obtain ⟨xs, m, b, rfl, h, -⟩ := times_succ h
  obtain ⟨a, rfl, -⟩ := times_one h
  exact ⟨a, b, c, rfl⟩

end Go.Gou
namespace Go.Proofs.Ytnamnmipgpcjjaa
open Go.RowKit Go.Gou

/-- What the document's reading of an act comes to. -/
def OnP (w : World) (bs : List Nat) (n : Nat) (e : Ending) (w' : World) : Prop :=
  Gou.Mod (fun _ => False) w w' ∧ match actAt bs n with
    | some (a, q) => ∃ p1 n1 k1 p2 n2 k2 p3 n3 k3, e = .returned (.tuple #[.agg (actC a (.slice p1 n1 k1) (.slice p2 n2 k2) (.slice p3 n3 k3)), .int .i64 q, .bool true]) ∧ LookR (fun b => w.heap.size ≤ b) w' a.op.look (.slice p1 n1 k1) (.slice p2 n2 k2) (.slice p3 n3 k3)
    | none => ∃ a p1 n1 k1 p2 n2 k2 p3 n3 k3, e = .returned (.tuple #[.agg (actC a (.slice p1 n1 k1) (.slice p2 n2 k2) (.slice p3 n3 k3)), .int .i64 0, .bool false])

theorem on_fail {w w' : World} {bs : List Nat} {n : Nat} (h : actAt bs n = none) (hm : Gou.Mod (fun _ => False) w w') (a : Ac) (p1 : Option Addr) (n1 k1 : Nat) (p2 : Option Addr) (n2 k2 : Nat) (p3 : Option Addr) (n3 k3 : Nat) :
    OnP w bs n (.returned (.tuple #[.agg (actC a (.slice p1 n1 k1) (.slice p2 n2 k2) (.slice p3 n3 k3)), .int .i64 0, .bool false])) w' :=
  ⟨hm, by rw [h]; exact ⟨a, p1, n1, k1, p2, n2, k2, p3, n3, k3, rfl⟩⟩
theorem on_done {w w' : World} {bs : List Nat} {n q : Nat} {a : Ac} {p1 : Option Addr} {n1 k1 : Nat} {p2 : Option Addr} {n2 k2 : Nat} {p3 : Option Addr} {n3 k3 : Nat} (h : actAt bs n = some (a, q)) (hm : Gou.Mod (fun _ => False) w w') (hr : LookR (fun b => w.heap.size ≤ b) w' a.op.look (.slice p1 n1 k1) (.slice p2 n2 k2) (.slice p3 n3 k3)) :
    OnP w bs n (.returned (.tuple #[.agg (actC a (.slice p1 n1 k1) (.slice p2 n2 k2) (.slice p3 n3 k3)), .int .i64 q, .bool true])) w' :=
  ⟨hm, by rw [h]; exact ⟨p1, n1, k1, p2, n2, k2, p3, n3, k3, rfl, hr⟩⟩

theorem id_box {w3 wA : World} (h : Gou.Mod (fun _ => False) w3 wA) (hb : Blk wA w3.heap.size 23 #[.int .i64 0, .int .i64 0]) (x y : Int) : Gou.Mod (fun _ => False) w3 ((wA.setCell ⟨w3.heap.size, 0, none⟩ (.int .i64 x)).setCell ⟨w3.heap.size, 1, none⟩ (.int .i64 y)) ∧ Blk ((wA.setCell ⟨w3.heap.size, 0, none⟩ (.int .i64 x)).setCell ⟨w3.heap.size, 1, none⟩ (.int .i64 y)) w3.heap.size 23 #[.int .i64 x, .int .i64 y] :=
  ⟨(h.trans (Gou.Mod.setCell wA ⟨w3.heap.size, 0, none⟩ _) (fun k hk e => by simp at e; omega)).trans (Gou.Mod.setCell _ ⟨w3.heap.size, 1, none⟩ _) (fun k hk e => by simp at e; omega), (hb.set 0 (.int .i64 x)).set 1 (.int .i64 y)⟩

theorem gen_facts {k : Nat} (hk : k = 2 ∨ 5 ≤ k ∧ k ≤ 11) : ((k : Int) == 14) = false ∧ ((k : Int) == 12) = false ∧ ((k : Int) == 13) = false ∧ ((k : Int) == 1) = false ∧ ((k : Int) == 3) = false ∧ ((k : Int) == 4) = false ∧ decide ((k : Int) < 1) = false ∧ decide ((14 : Int) < (k : Int)) = false ∧ decide (k < 1) = false ∧ decide (14 < k) = false ∧ (0 : Int) ≤ (k : Int) ∧ (k : Int) < 14 :=
  ⟨by simp; omega, by simp; omega, by simp; omega, by simp; omega, by simp; omega, by simp; omega, decide_eq_false (by omega), decide_eq_false (by omega), decide_eq_false (by omega), decide_eq_false (by omega), by omega, by omega⟩
theorem heads_cell (w0 w1 : World) (h : w1.heap.size = w0.heap.size) {k : Nat} (hk : k = 2 ∨ 5 ≤ k ∧ k ≤ 11) : (w1.alloc (.cells #[.int .i64 0, .int .i64 3, .int .i64 2, .int .i64 5, .int .i64 3, .int .i64 2, .int .i64 2, .int .i64 2, .int .i64 2, .int .i64 2, .int .i64 2, .int .i64 2, .int .i64 2, .int .i64 2] 95)).cell? ⟨w0.heap.size, k, none⟩ = some (.int .i64 2) := by
  rw [← h]
  have hb : Blk (w1.alloc (.cells #[.int .i64 0, .int .i64 3, .int .i64 2, .int .i64 5, .int .i64 3, .int .i64 2, .int .i64 2, .int .i64 2, .int .i64 2, .int .i64 2, .int .i64 2, .int .i64 2, .int .i64 2, .int .i64 2] 95)) w1.heap.size 95 _ := heap_alloc_new w1 _
  have : k = 2 ∨ k = 5 ∨ k = 6 ∨ k = 7 ∨ k = 8 ∨ k = 9 ∨ k = 10 ∨ k = 11 := by omega
  rcases this with rfl | rfl | rfl | rfl | rfl | rfl | rfl | rfl <;> exact hb.cell _ rfl
theorem lookR_gen (w : World) (pb : Option Addr) (cb : Nat) (bs : List Nat) (h : BytesAt (fun _ => True) w (.slice pb bs.length cb) bs) (hby : ∀ x ∈ bs, x < 256) (hl : bs.length ≤ 10000000) (n : Nat) (hn : n ≤ bs.length) (k : Nat) (hk : k = 2 ∨ 5 ≤ k ∧ k ≤ 11) :
    Calls Try.prog 41 #[.slice pb bs.length cb, .int .i64 n, .int .i64 k] w (LkP w bs n k) := by
  have : k = 2 ∨ k = 5 ∨ k = 6 ∨ k = 7 ∨ k = 8 ∨ k = 9 ∨ k = 10 ∨ k = 11 := by omega
  rcases this with rfl | rfl | rfl | rfl | rfl | rfl | rfl | rfl
  · exact lookR_low w pb cb bs h hby hl n hn 2 (by omega)
  · exact lookR_5 w pb cb bs h hby hl n hn
  · exact lookR_6 w pb cb bs h hby hl n hn
  · exact lookR_7 w pb cb bs h hby hl n hn
  · exact lookR_8 w pb cb bs h hby hl n hn
  · exact lookR_9 w pb cb bs h hby hl n hn
  · exact lookR_10 w pb cb bs h hby hl n hn
  · exact lookR_11 w pb cb bs h hby hl n hn

theorem results_one (w : World) (tmps : Array Value) (N : Nat) (cs : Array Value) (hs : cs.size = 42) (a b : Value) (h4 : tmps.getD 4 undef = .pointer (some ⟨N, 0, none⟩)) (h5 : tmps.getD 5 undef = a) (h6 : tmps.getD 6 undef = b) (hB : Blk w N 41 cs) :
    (results Try.f27 tmps).run Try.prog w = .ok (.tuple #[.agg cs, a, b]) w := by
  have h4' : tmps[4]?.getD undef = .pointer (some ⟨N, 0, none⟩) := by simpa using h4
  have h5' : tmps[5]?.getD undef = a := by simpa using h5
  have h6' : tmps[6]?.getD undef = b := by simpa using h6
  have hl := run_loadVar_row (P := Try.prog) w N 41 41 cs (0, 0) _ hB Try.underlying41 rfl (size_act.trans (by rw [hs]))
  simp [results, Try.results27, h4', h5', h6', asAddr, hl]

set_option linter.constructorNameAsVariable false
set_option maxRecDepth 100000

theorem there_act (w : World) : ((w.alloc (.cells AcZ 41)).alloc (.cells AcZ 41)).there (w.heap.size + 1) 0 42 :=
  (RLoc.start w 41 AcZ AcZ).loc.there 0 42 (by simp)
theorem oneR_act : (AcZ).all (·.oneCell') = true := by simp [Value.oneCell']
theorem start_act (w : World) : RLoc w 41 AcZ AcZ (((w.alloc (.cells AcZ 41)).alloc (.cells AcZ 41)).setCells (w.heap.size + 1) 0 (AcZ).toList) := by
  have h := (RLoc.start w 41 AcZ AcZ).puts 0 (AcZ).toList
  rw [setMany_all _ _ rfl] at h
  exact h

set_option maxHeartbeats 4000000 in
theorem oneR_out (w : World) (pb : Option Addr) (cb : Nat) (bs : List Nat) (h : BytesAt (fun _ => True) w (.slice pb bs.length cb) bs) (hby : ∀ x ∈ bs, x < 256) (hl : bs.length ≤ 10000000) (n : Nat) (hn : n ≤ bs.length) (hout : ¬ n < bs.length) :
    Calls Try.prog 27 #[.slice pb bs.length cb, .int .i64 n] w (OnP w bs n) := by
  have H := Lib.hid h
  have Hby := Lib.hid hby
  clear h hby
  have t0 : decide ((bs.length : Int) ≤ (n : Int)) = true := decide_eq_true (by omega)
  have t0' : decide (bs.length ≤ n) = true := decide_eq_true (by omega)
  have Hno := Lib.hid (act_out (bs := bs) (n := n) hout)
  clear hout
  go_enter Try.func27, Try.ntmps27
  go_wp2_with (first | ((with_reducible refine wpList_buildTo ?g7 41 ?p7 ?o7 ?d7 ?e7 (AcZ) ?f7 ?r7); (case g7 | o7 | e7 => exact rfl); (case f7 => kernel_rfl)) | ((with_reducible refine wpList_store_mid ?g8 41 ?x8 ?y8 ?o8 (w.heap.size + 1) 0 (AcZ) ?h8 ?j8 ?t8 ?i8 ?s8 ?r8); (case g8 | o8 | h8 | j8 => exact rfl); (case t8 => exact there_act w); (case i8 => exact size_act); (case s8 => exact oneR_act); (have Hl0 := Lib.hid (start_act w)); (generalize ((w.alloc (.cells AcZ 41)).alloc (.cells AcZ 41)).setCells (w.heap.size + 1) 0 (AcZ).toList = w0 at *); (have HB : Hid (Blk _ (w.heap.size + 1) 41 (actC ⟨0, Opr.zero, 0, 0, Cf.zero⟩ (.slice none 0 0) (.slice none 0 0) (.slice none 0 0))) := Lib.hid Hl0.out.loc); (have Hth := Lib.hid (Hl0.out.res.there 0 42 (by simp)))) | ((with_reducible refine wpList_load_row ?g_1 41 ?x_1 ?o_1 (w.heap.size + 1) ?h_1 ?t_1 ?c_1 ?f_1 ?d_1 ?b_1 ?u_1 ?s_1 ?i_1 ?r_1); (case g_1 | o_1 | h_1 => exact rfl); (case b_1 => exact HB.out); (case u_1 => exact Try.underlying41); (case s_1 => exact rfl); (case i_1 => exact size_act)) | ((with_reducible refine wpList_store_mid ?g2_1 41 ?x2_1 ?y_1 ?o2_1 w.heap.size 0 (actC ⟨0, Opr.zero, 0, 0, Cf.zero⟩ (.slice none 0 0) (.slice none 0 0) (.slice none 0 0)) ?h2_1 ?j_1 ?t2_1 ?i2_1 ?s2_1 ?r2_1); (case g2_1 | o2_1 | h2_1 | j_1 => exact rfl); (case t2_1 => exact Hth.out); (case i2_1 => exact size_act); (case s2_1 => exact actC_one _ _ _ _ _ _ _ _ _ _)) | fail)
  have hd := RLoc.done (cs := actC ⟨0, Opr.zero, 0, 0, Cf.zero⟩ (.slice none 0 0) (.slice none 0 0) (.slice none 0 0)) Hl0.out rfl
  refine bodyPost_ret (v := .tuple #[.agg (actC ⟨0, Opr.zero, 0, 0, Cf.zero⟩ (.slice none 0 0) (.slice none 0 0) (.slice none 0 0)), .int .i64 0, .bool false]) (results_one _ _ w.heap.size (actC ⟨0, Opr.zero, 0, 0, Cf.zero⟩ (.slice none 0 0) (.slice none 0 0) (.slice none 0 0)) rfl _ _ rfl rfl rfl hd.2.1) rfl ?_
  exact on_fail Hno.out hd.1 _ _ _ _ _ _ _ _ _ _

set_option maxHeartbeats 4000000 in
theorem oneR_zero (w : World) (pb : Option Addr) (cb : Nat) (bs : List Nat) (h : BytesAt (fun _ => True) w (.slice pb bs.length cb) bs) (hby : ∀ x ∈ bs, x < 256) (hl : bs.length ≤ 10000000) (n : Nat) (hn : n ≤ bs.length) (hlt : n < bs.length) (hbk : bs[n] = 0) :
    Calls Try.prog 27 #[.slice pb bs.length cb, .int .i64 n] w (OnP w bs n) := by
  have H := Lib.hid h
  have Hby := Lib.hid hby
  clear h hby
  have t0 : decide ((bs.length : Int) ≤ (n : Int)) = false := decide_eq_false (by omega)
  have t0' : decide (bs.length ≤ n) = false := decide_eq_false (by omega)
  obtain ⟨-, b, o, rfl, hb, -, hc⟩ := H.out.celz (by omega)
  have Hcw : Hid (w.cell? ⟨b, o + n, none⟩ = some (.int .u8 0)) := Lib.hid (by
    have := hc n hlt
    rw [hbk] at this
    exact this)
  have hni : (n : Int) < (bs.length : Int) := by omega
  have Hb := Lib.hid hb
  clear hc hb
  have Hno := Lib.hid (act_bad hlt hbk (by omega))
  clear hbk
  go_enter Try.func27, Try.ntmps27
  go_wp2_with (first | ((with_reducible refine wpList_buildTo ?g7 41 ?p7 ?o7 ?d7 ?e7 (AcZ) ?f7 ?r7); (case g7 | o7 | e7 => exact rfl); (case f7 => kernel_rfl)) | ((with_reducible refine wpList_store_mid ?g8 41 ?x8 ?y8 ?o8 (w.heap.size + 1) 0 (AcZ) ?h8 ?j8 ?t8 ?i8 ?s8 ?r8); (case g8 | o8 | h8 | j8 => exact rfl); (case t8 => exact there_act w); (case i8 => exact size_act); (case s8 => exact oneR_act); (have Hl0 := Lib.hid (start_act w)); (generalize ((w.alloc (.cells AcZ 41)).alloc (.cells AcZ 41)).setCells (w.heap.size + 1) 0 (AcZ).toList = w0 at *); (have hcell : w0.cell? ⟨b, o + n, none⟩ = some (.int .u8 0) := (Hl0.out.mod.cell (p := ⟨b, o + n, none⟩) Hb.out (fun h => h)).trans Hcw.out); (have HB : Hid (Blk _ (w.heap.size + 1) 41 (actC ⟨0, Opr.zero, 0, 0, Cf.zero⟩ (.slice none 0 0) (.slice none 0 0) (.slice none 0 0))) := Lib.hid Hl0.out.loc); (have Hth := Lib.hid (Hl0.out.res.there 0 42 (by simp)))) | ((with_reducible refine wpList_load_row ?g_2 41 ?x_2 ?o_2 (w.heap.size + 1) ?h_2 ?t_2 ?c_2 ?f_2 ?d_2 ?b_2 ?u_2 ?s_2 ?i_2 ?r_2); (case g_2 | o_2 | h_2 => exact rfl); (case b_2 => exact HB.out); (case u_2 => exact Try.underlying41); (case s_2 => exact rfl); (case i_2 => exact size_act)) | ((with_reducible refine wpList_store_mid ?g2_2 41 ?x2_2 ?y_2 ?o2_2 w.heap.size 0 (actC ⟨0, Opr.zero, 0, 0, Cf.zero⟩ (.slice none 0 0) (.slice none 0 0) (.slice none 0 0)) ?h2_2 ?j_2 ?t2_2 ?i2_2 ?s2_2 ?r2_2); (case g2_2 | o2_2 | h2_2 | j_2 => exact rfl); (case t2_2 => exact Hth.out); (case i2_2 => exact size_act); (case s2_2 => exact actC_one _ _ _ _ _ _ _ _ _ _)) | fail)
  have hd := RLoc.done (cs := actC ⟨0, Opr.zero, 0, 0, Cf.zero⟩ (.slice none 0 0) (.slice none 0 0) (.slice none 0 0)) Hl0.out rfl
  refine bodyPost_ret (v := .tuple #[.agg (actC ⟨0, Opr.zero, 0, 0, Cf.zero⟩ (.slice none 0 0) (.slice none 0 0) (.slice none 0 0)), .int .i64 0, .bool false]) (results_one _ _ w.heap.size (actC ⟨0, Opr.zero, 0, 0, Cf.zero⟩ (.slice none 0 0) (.slice none 0 0) (.slice none 0 0)) rfl _ _ rfl rfl rfl hd.2.1) rfl ?_
  exact on_fail Hno.out hd.1 _ _ _ _ _ _ _ _ _ _

set_option maxHeartbeats 4000000 in
theorem oneR_bad (w : World) (pb : Option Addr) (cb : Nat) (bs : List Nat) (h : BytesAt (fun _ => True) w (.slice pb bs.length cb) bs) (hby : ∀ x ∈ bs, x < 256) (hl : bs.length ≤ 10000000) (n : Nat) (hn : n ≤ bs.length) (hlt : n < bs.length) (k : Nat) (hbk : bs[n] = k) (hk : 14 < k) :
    Calls Try.prog 27 #[.slice pb bs.length cb, .int .i64 n] w (OnP w bs n) := by
  have H := Lib.hid h
  have Hby := Lib.hid hby
  clear h hby
  have t0 : decide ((bs.length : Int) ≤ (n : Int)) = false := decide_eq_false (by omega)
  have t0' : decide (bs.length ≤ n) = false := decide_eq_false (by omega)
  obtain ⟨-, b, o, rfl, hb, -, hc⟩ := H.out.celz (by omega)
  have Hcw : Hid (w.cell? ⟨b, o + n, none⟩ = some (.int .u8 (k : Nat))) := Lib.hid (by
    have := hc n hlt
    rw [hbk] at this
    exact this)
  have hni : (n : Int) < (bs.length : Int) := by omega
  have Hb := Lib.hid hb
  clear hc hb
  have Hno := Lib.hid (act_bad hlt hbk (by omega))
  have hk256 : k < 256 := hbk ▸ Hby.out _ (List.getElem_mem hlt)
  have t1 : decide ((k : Int) < 1) = false := decide_eq_false (by omega)
  have t2 : decide ((14 : Int) < (k : Int)) = true := decide_eq_true (by omega)
  have t1' : decide (k < 1) = false := decide_eq_false (by omega)
  have t2' : decide (14 < k) = true := decide_eq_true (by omega)
  clear hk hbk
  go_enter Try.func27, Try.ntmps27
  go_wp2_with (first | ((with_reducible refine wpList_buildTo ?g7 41 ?p7 ?o7 ?d7 ?e7 (AcZ) ?f7 ?r7); (case g7 | o7 | e7 => exact rfl); (case f7 => kernel_rfl)) | ((with_reducible refine wpList_store_mid ?g8 41 ?x8 ?y8 ?o8 (w.heap.size + 1) 0 (AcZ) ?h8 ?j8 ?t8 ?i8 ?s8 ?r8); (case g8 | o8 | h8 | j8 => exact rfl); (case t8 => exact there_act w); (case i8 => exact size_act); (case s8 => exact oneR_act); (have Hl0 := Lib.hid (start_act w)); (generalize ((w.alloc (.cells AcZ 41)).alloc (.cells AcZ 41)).setCells (w.heap.size + 1) 0 (AcZ).toList = w0 at *); (have hcell : w0.cell? ⟨b, o + n, none⟩ = some (.int .u8 (k : Nat)) := (Hl0.out.mod.cell (p := ⟨b, o + n, none⟩) Hb.out (fun h => h)).trans Hcw.out); (have HB : Hid (Blk _ (w.heap.size + 1) 41 (actC ⟨0, Opr.zero, 0, 0, Cf.zero⟩ (.slice none 0 0) (.slice none 0 0) (.slice none 0 0))) := Lib.hid Hl0.out.loc); (have Hth := Lib.hid (Hl0.out.res.there 0 42 (by simp)))) | ((with_reducible refine wpList_load_row ?g_3 41 ?x_3 ?o_3 (w.heap.size + 1) ?h_3 ?t_3 ?c_3 ?f_3 ?d_3 ?b_3 ?u_3 ?s_3 ?i_3 ?r_3); (case g_3 | o_3 | h_3 => exact rfl); (case b_3 => exact HB.out); (case u_3 => exact Try.underlying41); (case s_3 => exact rfl); (case i_3 => exact size_act)) | ((with_reducible refine wpList_store_mid ?g2_3 41 ?x2_3 ?y_3 ?o2_3 w.heap.size 0 (actC ⟨0, Opr.zero, 0, 0, Cf.zero⟩ (.slice none 0 0) (.slice none 0 0) (.slice none 0 0)) ?h2_3 ?j_3 ?t2_3 ?i2_3 ?s2_3 ?r2_3); (case g2_3 | o2_3 | h2_3 | j_3 => exact rfl); (case t2_3 => exact Hth.out); (case i2_3 => exact size_act); (case s2_3 => exact actC_one _ _ _ _ _ _ _ _ _ _)) | fail)
  have hd := RLoc.done (cs := actC ⟨0, Opr.zero, 0, 0, Cf.zero⟩ (.slice none 0 0) (.slice none 0 0) (.slice none 0 0)) Hl0.out rfl
  refine bodyPost_ret (v := .tuple #[.agg (actC ⟨0, Opr.zero, 0, 0, Cf.zero⟩ (.slice none 0 0) (.slice none 0 0) (.slice none 0 0)), .int .i64 0, .bool false]) (results_one _ _ w.heap.size (actC ⟨0, Opr.zero, 0, 0, Cf.zero⟩ (.slice none 0 0) (.slice none 0 0) (.slice none 0 0)) rfl _ _ rfl rfl rfl hd.2.1) rfl ?_
  exact on_fail Hno.out hd.1 _ _ _ _ _ _ _ _ _ _

set_option maxHeartbeats 4000000 in
theorem oneR_14 (w : World) (pb : Option Addr) (cb : Nat) (bs : List Nat) (h : BytesAt (fun _ => True) w (.slice pb bs.length cb) bs) (hby : ∀ x ∈ bs, x < 256) (hl : bs.length ≤ 10000000) (n : Nat) (hn : n ≤ bs.length) (hlt : n < bs.length) (hbk : bs[n] = 14) :
    Calls Try.prog 27 #[.slice pb bs.length cb, .int .i64 n] w (OnP w bs n) := by
  have H := Lib.hid h
  have Hby := Lib.hid hby
  clear h hby
  have t0 : decide ((bs.length : Int) ≤ (n : Int)) = false := decide_eq_false (by omega)
  have t0' : decide (bs.length ≤ n) = false := decide_eq_false (by omega)
  obtain ⟨-, b, o, rfl, hb, -, hc⟩ := H.out.celz (by omega)
  have Hcw : Hid (w.cell? ⟨b, o + n, none⟩ = some (.int .u8 14)) := Lib.hid (by
    have := hc n hlt
    rw [hbk] at this
    exact this)
  have hni : (n : Int) < (bs.length : Int) := by omega
  have Hb := Lib.hid hb
  clear hc hb
  have Hbk := Lib.hid hbk
  clear hbk
  have Hres := Lib.hid (act14 hlt Hbk.out)
  go_enter Try.func27, Try.ntmps27
  go_wp2_with (first | ((with_reducible refine wpList_buildTo ?g7 41 ?p7 ?o7 ?d7 ?e7 (AcZ) ?f7 ?r7); (case g7 | o7 | e7 => exact rfl); (case f7 => kernel_rfl)) | ((with_reducible refine wpList_store_mid ?g8 41 ?x8 ?y8 ?o8 (w.heap.size + 1) 0 (AcZ) ?h8 ?j8 ?t8 ?i8 ?s8 ?r8); (case g8 | o8 | h8 | j8 => exact rfl); (case t8 => exact there_act w); (case i8 => exact size_act); (case s8 => exact oneR_act); (have Hl0 := Lib.hid (start_act w)); (generalize ((w.alloc (.cells AcZ 41)).alloc (.cells AcZ 41)).setCells (w.heap.size + 1) 0 (AcZ).toList = w0 at *); (have hcell : w0.cell? ⟨b, o + n, none⟩ = some (.int .u8 14) := (Hl0.out.mod.cell (p := ⟨b, o + n, none⟩) Hb.out (fun h => h)).trans Hcw.out); (have cl0 : w0.cell? ⟨w.heap.size + 1, 0, none⟩ = some (.int .i64 0) := Hl0.out.loc.cell 0 rfl); (have fl0 : w0.frozen? ⟨w.heap.size + 1, 0, none⟩ = false := Hl0.out.loc.frozen 0); (have hsz : w.heap.size + 1 < w0.heap.size := Hl0.out.loc.lt); (have hne : w.heap.size + 1 ≠ w0.heap.size := Nat.ne_of_lt hsz); (have Hl1 := Lib.hid (Hl0.out.put 0 (.int .i64 14))); (have HB : Hid (Blk _ (w.heap.size + 1) 41 (actC ⟨14, Opr.zero, 0, 0, Cf.zero⟩ (.slice none 0 0) (.slice none 0 0) (.slice none 0 0))) := Lib.hid Hl1.out.loc); (have Hth := Lib.hid (Hl1.out.res.there 0 42 (by simp)))) | ((with_reducible refine wpList_load_row ?g_11 41 ?x_11 ?o_11 (w.heap.size + 1) ?h_11 ?t_11 ?c_11 ?f_11 ?d_11 ?b_11 ?u_11 ?s_11 ?i_11 ?r_11); (case g_11 | o_11 | h_11 => exact rfl); (case b_11 => exact HB.out); (case u_11 => exact Try.underlying41); (case s_11 => exact rfl); (case i_11 => exact size_act)) | ((with_reducible refine wpList_store_mid ?g2_11 41 ?x2_11 ?y_11 ?o2_11 w.heap.size 0 (actC ⟨14, Opr.zero, 0, 0, Cf.zero⟩ (.slice none 0 0) (.slice none 0 0) (.slice none 0 0)) ?h2_11 ?j_11 ?t2_11 ?i2_11 ?s2_11 ?r2_11); (case g2_11 | o2_11 | h2_11 | j_11 => exact rfl); (case t2_11 => exact Hth.out); (case i2_11 => exact size_act); (case s2_11 => exact actC_one _ _ _ _ _ _ _ _ _ _)) | fail)
  have hd := RLoc.done (cs := actC ⟨14, Opr.zero, 0, 0, Cf.zero⟩ (.slice none 0 0) (.slice none 0 0) (.slice none 0 0)) Hl1.out rfl
  refine bodyPost_ret (v := .tuple #[.agg (actC ⟨14, Opr.zero, 0, 0, Cf.zero⟩ (.slice none 0 0) (.slice none 0 0) (.slice none 0 0)), .int .i64 ((n : Int) + 1), .bool true]) (results_one _ _ w.heap.size (actC ⟨14, Opr.zero, 0, 0, Cf.zero⟩ (.slice none 0 0) (.slice none 0 0) (.slice none 0 0)) rfl _ _ rfl rfl rfl hd.2.1) rfl ?_
  exact on_done (q := n + 1) Hres.out hd.1 (LookR.nil _ _ _ rfl rfl rfl)

set_option maxHeartbeats 4000000 in
theorem oneR_12 (w : World) (pb : Option Addr) (cb : Nat) (bs : List Nat) (h : BytesAt (fun _ => True) w (.slice pb bs.length cb) bs) (hby : ∀ x ∈ bs, x < 256) (hl : bs.length ≤ 10000000) (n : Nat) (hn : n ≤ bs.length) (hlt : n < bs.length) (hbk : bs[n] = 12) :
    Calls Try.prog 27 #[.slice pb bs.length cb, .int .i64 n] w (OnP w bs n) := by
  have H := Lib.hid h
  have Hby := Lib.hid hby
  clear h hby
  have t0 : decide ((bs.length : Int) ≤ (n : Int)) = false := decide_eq_false (by omega)
  have t0' : decide (bs.length ≤ n) = false := decide_eq_false (by omega)
  obtain ⟨-, b, o, rfl, hb, -, hc⟩ := H.out.celz (by omega)
  have Hcw : Hid (w.cell? ⟨b, o + n, none⟩ = some (.int .u8 12)) := Lib.hid (by
    have := hc n hlt
    rw [hbk] at this
    exact this)
  have hni : (n : Int) < (bs.length : Int) := by omega
  have Hb := Lib.hid hb
  clear hc hb
  have Hbk := Lib.hid hbk
  clear hbk
  go_enter Try.func27, Try.ntmps27
  go_wp2_with (first | ((with_reducible refine wpList_buildTo ?g7 41 ?p7 ?o7 ?d7 ?e7 (AcZ) ?f7 ?r7); (case g7 | o7 | e7 => exact rfl); (case f7 => kernel_rfl)) | ((with_reducible refine wpList_store_mid ?g8 41 ?x8 ?y8 ?o8 (w.heap.size + 1) 0 (AcZ) ?h8 ?j8 ?t8 ?i8 ?s8 ?r8); (case g8 | o8 | h8 | j8 => exact rfl); (case t8 => exact there_act w); (case i8 => exact size_act); (case s8 => exact oneR_act); (have Hl0 := Lib.hid (start_act w)); (generalize ((w.alloc (.cells AcZ 41)).alloc (.cells AcZ 41)).setCells (w.heap.size + 1) 0 (AcZ).toList = w0 at *); (have hcell : w0.cell? ⟨b, o + n, none⟩ = some (.int .u8 12) := (Hl0.out.mod.cell (p := ⟨b, o + n, none⟩) Hb.out (fun h => h)).trans Hcw.out); (have cl0 : w0.cell? ⟨w.heap.size + 1, 0, none⟩ = some (.int .i64 0) := Hl0.out.loc.cell 0 rfl); (have fl0 : w0.frozen? ⟨w.heap.size + 1, 0, none⟩ = false := Hl0.out.loc.frozen 0); (have hsz : w.heap.size + 1 < w0.heap.size := Hl0.out.loc.lt); (have hne : w.heap.size + 1 ≠ w0.heap.size := Nat.ne_of_lt hsz)) | fail)
  have Hl1 : Hid (RLoc w 41 AcZ (actC ⟨12, Opr.zero, 0, 0, Cf.zero⟩ (.slice none 0 0) (.slice none 0 0) (.slice none 0 0)) ((w0.setCell ⟨w.heap.size + 1, 0, none⟩ (.int .i64 12)).alloc (.cells #[.int .i64 0, .int .i64 3, .int .i64 2, .int .i64 5, .int .i64 3, .int .i64 2, .int .i64 2, .int .i64 2, .int .i64 2, .int .i64 2, .int .i64 2, .int .i64 2, .int .i64 2, .int .i64 2] 95))) := Lib.hid ((Hl0.out.put 0 (.int .i64 12)).next (Gou.Mod.alloc _ _ _))
  generalize hW1 : ((w0.setCell ⟨w.heap.size + 1, 0, none⟩ (.int .i64 12)).alloc (.cells #[.int .i64 0, .int .i64 3, .int .i64 2, .int .i64 5, .int .i64 3, .int .i64 2, .int .i64 2, .int .i64 2, .int .i64 2, .int .i64 2, .int .i64 2, .int .i64 2, .int .i64 2, .int .i64 2] 95)) = w1 at *
  clear hW1 hcell cl0 fl0 hsz hne
  rw [show (n : Int) + 1 = ((n + 1 : Nat) : Int) from by push_cast; rfl]
  refine (numbersR_any w1 (some ⟨b, o, none⟩) cb bs (H.out.mod Hl1.out.mod (fun _ _ _ h => h)) Hby.out hl (n + 1) 2 (by omega) (by omega)).mono ?_
  rintro e w2 ⟨hm2, hp⟩
  have Hl2 := Lib.hid (Hl1.out.next hm2)
  clear hm2
  have ck : w2.cell? ⟨w.heap.size + 1, 0, none⟩ = some (.int .i64 12) := Hl2.out.loc.cell 0 rfl
  rcases ht : timesAt (numAt bs) (n + 1) 2 with _ | ⟨xs, q⟩
  · rw [ht] at hp
    subst hp
    have Hno : Hid (actAt bs n = none) := Lib.hid (by rw [act12 hlt Hbk.out, ht]; rfl)
    clear ht
    have HB : Hid (Blk _ (w.heap.size + 1) 41 (actC ⟨12, Opr.zero, 0, 0, Cf.zero⟩ (.slice none 0 0) (.slice none 0 0) (.slice none 0 0))) := Lib.hid Hl2.out.loc
    have Hth := Lib.hid (Hl2.out.res.there 0 42 (by simp))
    go_wp2_with (first | ((with_reducible refine wpList_load_row ?g_v 41 ?x_v ?o_v (w.heap.size + 1) ?h_v ?t_v ?c_v ?f_v ?d_v ?b_v ?u_v ?s_v ?i_v ?r_v); (case g_v | o_v | h_v => exact rfl); (case b_v => exact HB.out); (case u_v => exact Try.underlying41); (case s_v => exact rfl); (case i_v => exact size_act)) | ((with_reducible refine wpList_store_mid ?g2_v 41 ?x2_v ?y_v ?o2_v w.heap.size 0 (actC ⟨12, Opr.zero, 0, 0, Cf.zero⟩ (.slice none 0 0) (.slice none 0 0) (.slice none 0 0)) ?h2_v ?j_v ?t2_v ?i2_v ?s2_v ?r2_v); (case g2_v | o2_v | h2_v | j_v => exact rfl); (case t2_v => exact Hth.out); (case i2_v => exact size_act); (case s2_v => exact actC_one _ _ _ _ _ _ _ _ _ _)) | fail)
    have hd := RLoc.done (cs := actC ⟨12, Opr.zero, 0, 0, Cf.zero⟩ (.slice none 0 0) (.slice none 0 0) (.slice none 0 0)) Hl2.out rfl
    refine bodyPost_ret (v := .tuple #[.agg (actC ⟨12, Opr.zero, 0, 0, Cf.zero⟩ (.slice none 0 0) (.slice none 0 0) (.slice none 0 0)), .int .i64 0, .bool false]) (results_one _ _ w.heap.size (actC ⟨12, Opr.zero, 0, 0, Cf.zero⟩ (.slice none 0 0) (.slice none 0 0) (.slice none 0 0)) rfl _ _ rfl rfl rfl hd.2.1) rfl ?_
    exact on_fail Hno.out hd.1 _ _ _ _ _ _ _ _ _ _
  rw [ht] at hp
  obtain ⟨p, c, rfl, hown, hxl⟩ := hp
  obtain ⟨x, y, m, rfl, -, -⟩ := times_two ht
  obtain ⟨g2, rfl, hg0, hg1, hc⟩ := own_ints hown (by omega)
  have hq : q ≤ bs.length := (times_spec (num_spec Hby.out) 2).end_le ht (by omega)
  have hng : w.heap.size + 1 ≠ g2 := by have := Hl1.out.loc.lt; omega
  have c0 : w2.cell? ⟨g2, 0, none⟩ = some (.int .i64 x) := hc 0 (by simp)
  have c1 : w2.cell? ⟨g2, 1, none⟩ = some (.int .i64 y) := hc 1 (by simp)
  have Hres : Hid (actAt bs n = some (⟨12, Opr.zero, x, y, Cf.zero⟩, q)) := Lib.hid (by rw [act12 hlt Hbk.out, ht]; rfl)
  clear hc hown hxl ht hg0 hg1
  have cl35 : w2.cell? ⟨w.heap.size + 1, 35, none⟩ = some (.int .i64 0) := Hl2.out.loc.cell 35 rfl
  have fl35 : w2.frozen? ⟨w.heap.size + 1, 35, none⟩ = false := Hl2.out.loc.frozen 35
  have cl36 : w2.cell? ⟨w.heap.size + 1, 36, none⟩ = some (.int .i64 0) := Hl2.out.loc.cell 36 rfl
  have fl36 : w2.frozen? ⟨w.heap.size + 1, 36, none⟩ = false := Hl2.out.loc.frozen 36
  have Hl3 : Hid (RLoc w 41 AcZ (actC ⟨12, Opr.zero, x, y, Cf.zero⟩ (.slice none 0 0) (.slice none 0 0) (.slice none 0 0)) ((w2.setCell ⟨w.heap.size + 1, 35, none⟩ (.int .i64 x)).setCell ⟨w.heap.size + 1, 36, none⟩ (.int .i64 y))) := Lib.hid (Hl2.out.puts 35 [.int .i64 x, .int .i64 y])
  have HB : Hid (Blk _ (w.heap.size + 1) 41 (actC ⟨12, Opr.zero, x, y, Cf.zero⟩ (.slice none 0 0) (.slice none 0 0) (.slice none 0 0))) := Lib.hid Hl3.out.loc
  have Hth := Lib.hid (Hl3.out.res.there 0 42 (by simp))
  go_wp2_with (first | ((with_reducible refine wpList_load_row ?g_w 41 ?x_w ?o_w (w.heap.size + 1) ?h_w ?t_w ?c_w ?f_w ?d_w ?b_w ?u_w ?s_w ?i_w ?r_w); (case g_w | o_w | h_w => exact rfl); (case b_w => exact HB.out); (case u_w => exact Try.underlying41); (case s_w => exact rfl); (case i_w => exact size_act)) | ((with_reducible refine wpList_store_mid ?g2_w 41 ?x2_w ?y_w ?o2_w w.heap.size 0 (actC ⟨12, Opr.zero, x, y, Cf.zero⟩ (.slice none 0 0) (.slice none 0 0) (.slice none 0 0)) ?h2_w ?j_w ?t2_w ?i2_w ?s2_w ?r2_w); (case g2_w | o2_w | h2_w | j_w => exact rfl); (case t2_w => exact Hth.out); (case i2_w => exact size_act); (case s2_w => exact actC_one _ _ _ _ _ _ _ _ _ _)) | fail)
  have hd := RLoc.done (cs := actC ⟨12, Opr.zero, x, y, Cf.zero⟩ (.slice none 0 0) (.slice none 0 0) (.slice none 0 0)) Hl3.out rfl
  refine bodyPost_ret (v := .tuple #[.agg (actC ⟨12, Opr.zero, x, y, Cf.zero⟩ (.slice none 0 0) (.slice none 0 0) (.slice none 0 0)), .int .i64 q, .bool true]) (results_one _ _ w.heap.size (actC ⟨12, Opr.zero, x, y, Cf.zero⟩ (.slice none 0 0) (.slice none 0 0) (.slice none 0 0)) rfl _ _ rfl rfl rfl hd.2.1) rfl ?_
  exact on_done Hres.out hd.1 (LookR.nil _ _ _ rfl rfl rfl)

set_option maxHeartbeats 4000000 in
theorem oneR_13 (w : World) (pb : Option Addr) (cb : Nat) (bs : List Nat) (h : BytesAt (fun _ => True) w (.slice pb bs.length cb) bs) (hby : ∀ x ∈ bs, x < 256) (hl : bs.length ≤ 10000000) (n : Nat) (hn : n ≤ bs.length) (hlt : n < bs.length) (hbk : bs[n] = 13) :
    Calls Try.prog 27 #[.slice pb bs.length cb, .int .i64 n] w (OnP w bs n) := by
  have H := Lib.hid h
  have Hby := Lib.hid hby
  clear h hby
  have t0 : decide ((bs.length : Int) ≤ (n : Int)) = false := decide_eq_false (by omega)
  have t0' : decide (bs.length ≤ n) = false := decide_eq_false (by omega)
  obtain ⟨-, b, o, rfl, hb, -, hc⟩ := H.out.celz (by omega)
  have Hcw : Hid (w.cell? ⟨b, o + n, none⟩ = some (.int .u8 13)) := Lib.hid (by
    have := hc n hlt
    rw [hbk] at this
    exact this)
  have hni : (n : Int) < (bs.length : Int) := by omega
  have Hb := Lib.hid hb
  clear hc hb
  have Hbk := Lib.hid hbk
  clear hbk
  go_enter Try.func27, Try.ntmps27
  go_wp2_with (first | ((with_reducible refine wpList_buildTo ?g7 41 ?p7 ?o7 ?d7 ?e7 (AcZ) ?f7 ?r7); (case g7 | o7 | e7 => exact rfl); (case f7 => kernel_rfl)) | ((with_reducible refine wpList_store_mid ?g8 41 ?x8 ?y8 ?o8 (w.heap.size + 1) 0 (AcZ) ?h8 ?j8 ?t8 ?i8 ?s8 ?r8); (case g8 | o8 | h8 | j8 => exact rfl); (case t8 => exact there_act w); (case i8 => exact size_act); (case s8 => exact oneR_act); (have Hl0 := Lib.hid (start_act w)); (generalize ((w.alloc (.cells AcZ 41)).alloc (.cells AcZ 41)).setCells (w.heap.size + 1) 0 (AcZ).toList = w0 at *); (have hcell : w0.cell? ⟨b, o + n, none⟩ = some (.int .u8 13) := (Hl0.out.mod.cell (p := ⟨b, o + n, none⟩) Hb.out (fun h => h)).trans Hcw.out); (have cl0 : w0.cell? ⟨w.heap.size + 1, 0, none⟩ = some (.int .i64 0) := Hl0.out.loc.cell 0 rfl); (have fl0 : w0.frozen? ⟨w.heap.size + 1, 0, none⟩ = false := Hl0.out.loc.frozen 0); (have hsz : w.heap.size + 1 < w0.heap.size := Hl0.out.loc.lt); (have hne : w.heap.size + 1 ≠ w0.heap.size := Nat.ne_of_lt hsz)) | fail)
  have Hl1 : Hid (RLoc w 41 AcZ (actC ⟨13, Opr.zero, 0, 0, Cf.zero⟩ (.slice none 0 0) (.slice none 0 0) (.slice none 0 0)) ((w0.setCell ⟨w.heap.size + 1, 0, none⟩ (.int .i64 13)).alloc (.cells #[.int .i64 0, .int .i64 3, .int .i64 2, .int .i64 5, .int .i64 3, .int .i64 2, .int .i64 2, .int .i64 2, .int .i64 2, .int .i64 2, .int .i64 2, .int .i64 2, .int .i64 2, .int .i64 2] 95))) := Lib.hid ((Hl0.out.put 0 (.int .i64 13)).next (Gou.Mod.alloc _ _ _))
  generalize hW1 : ((w0.setCell ⟨w.heap.size + 1, 0, none⟩ (.int .i64 13)).alloc (.cells #[.int .i64 0, .int .i64 3, .int .i64 2, .int .i64 5, .int .i64 3, .int .i64 2, .int .i64 2, .int .i64 2, .int .i64 2, .int .i64 2, .int .i64 2, .int .i64 2, .int .i64 2, .int .i64 2] 95)) = w1 at *
  clear hW1 hcell cl0 fl0 hsz hne
  rw [show (n : Int) + 1 = ((n + 1 : Nat) : Int) from by push_cast; rfl]
  refine (numbersR_any w1 (some ⟨b, o, none⟩) cb bs (H.out.mod Hl1.out.mod (fun _ _ _ h => h)) Hby.out hl (n + 1) 2 (by omega) (by omega)).mono ?_
  rintro e w2 ⟨hm2, hp⟩
  have Hl2 := Lib.hid (Hl1.out.next hm2)
  clear hm2
  have ck : w2.cell? ⟨w.heap.size + 1, 0, none⟩ = some (.int .i64 13) := Hl2.out.loc.cell 0 rfl
  rcases ht : timesAt (numAt bs) (n + 1) 2 with _ | ⟨xs, q⟩
  · rw [ht] at hp
    subst hp
    have Hno : Hid (actAt bs n = none) := Lib.hid (by rw [act13 hlt Hbk.out, ht]; rfl)
    clear ht
    have HB : Hid (Blk _ (w.heap.size + 1) 41 (actC ⟨13, Opr.zero, 0, 0, Cf.zero⟩ (.slice none 0 0) (.slice none 0 0) (.slice none 0 0))) := Lib.hid Hl2.out.loc
    have Hth := Lib.hid (Hl2.out.res.there 0 42 (by simp))
    go_wp2_with (first | ((with_reducible refine wpList_load_row ?g_x 41 ?x_x ?o_x (w.heap.size + 1) ?h_x ?t_x ?c_x ?f_x ?d_x ?b_x ?u_x ?s_x ?i_x ?r_x); (case g_x | o_x | h_x => exact rfl); (case b_x => exact HB.out); (case u_x => exact Try.underlying41); (case s_x => exact rfl); (case i_x => exact size_act)) | ((with_reducible refine wpList_store_mid ?g2_x 41 ?x2_x ?y_x ?o2_x w.heap.size 0 (actC ⟨13, Opr.zero, 0, 0, Cf.zero⟩ (.slice none 0 0) (.slice none 0 0) (.slice none 0 0)) ?h2_x ?j_x ?t2_x ?i2_x ?s2_x ?r2_x); (case g2_x | o2_x | h2_x | j_x => exact rfl); (case t2_x => exact Hth.out); (case i2_x => exact size_act); (case s2_x => exact actC_one _ _ _ _ _ _ _ _ _ _)) | fail)
    have hd := RLoc.done (cs := actC ⟨13, Opr.zero, 0, 0, Cf.zero⟩ (.slice none 0 0) (.slice none 0 0) (.slice none 0 0)) Hl2.out rfl
    refine bodyPost_ret (v := .tuple #[.agg (actC ⟨13, Opr.zero, 0, 0, Cf.zero⟩ (.slice none 0 0) (.slice none 0 0) (.slice none 0 0)), .int .i64 0, .bool false]) (results_one _ _ w.heap.size (actC ⟨13, Opr.zero, 0, 0, Cf.zero⟩ (.slice none 0 0) (.slice none 0 0) (.slice none 0 0)) rfl _ _ rfl rfl rfl hd.2.1) rfl ?_
    exact on_fail Hno.out hd.1 _ _ _ _ _ _ _ _ _ _
  rw [ht] at hp
  obtain ⟨p, c, rfl, hown, hxl⟩ := hp
  obtain ⟨x, y, m, rfl, -, -⟩ := times_two ht
  obtain ⟨g2, rfl, hg0, hg1, hc⟩ := own_ints hown (by omega)
  have hq : q ≤ bs.length := (times_spec (num_spec Hby.out) 2).end_le ht (by omega)
  have hng : w.heap.size + 1 ≠ g2 := by have := Hl1.out.loc.lt; omega
  have c0 : w2.cell? ⟨g2, 0, none⟩ = some (.int .i64 x) := hc 0 (by simp)
  have c1 : w2.cell? ⟨g2, 1, none⟩ = some (.int .i64 y) := hc 1 (by simp)
  have Hact : Hid (actAt bs n = if 0 ≤ x ∧ x ≤ 15 then some (⟨13, Opr.zero, 0, 0, ⟨decide (x % 2 = 1), decide (x / 2 % 2 = 1), decide (x / 4 % 2 = 1), decide (x / 8 % 2 = 1), y⟩⟩, q) else none) := Lib.hid (by rw [act13 hlt Hbk.out, ht]; rfl)
  clear hc hown hxl hg0 ht
  by_cases hx0 : 0 ≤ x
  case neg =>
    have t1 : decide (x < 0) = true := decide_eq_true (by omega)
    have Hno : Hid (actAt bs n = none) := Lib.hid (by rw [Hact.out, if_neg (by omega)])
    clear hx0
    have HB : Hid (Blk _ (w.heap.size + 1) 41 (actC ⟨13, Opr.zero, 0, 0, Cf.zero⟩ (.slice none 0 0) (.slice none 0 0) (.slice none 0 0))) := Lib.hid Hl2.out.loc
    have Hth := Lib.hid (Hl2.out.res.there 0 42 (by simp))
    go_wp2_with (first | ((with_reducible refine wpList_load_row ?g_y 41 ?x_y ?o_y (w.heap.size + 1) ?h_y ?t_y ?c_y ?f_y ?d_y ?b_y ?u_y ?s_y ?i_y ?r_y); (case g_y | o_y | h_y => exact rfl); (case b_y => exact HB.out); (case u_y => exact Try.underlying41); (case s_y => exact rfl); (case i_y => exact size_act)) | ((with_reducible refine wpList_store_mid ?g2_y 41 ?x2_y ?y_y ?o2_y w.heap.size 0 (actC ⟨13, Opr.zero, 0, 0, Cf.zero⟩ (.slice none 0 0) (.slice none 0 0) (.slice none 0 0)) ?h2_y ?j_y ?t2_y ?i2_y ?s2_y ?r2_y); (case g2_y | o2_y | h2_y | j_y => exact rfl); (case t2_y => exact Hth.out); (case i2_y => exact size_act); (case s2_y => exact actC_one _ _ _ _ _ _ _ _ _ _)) | fail)
    have hd := RLoc.done (cs := actC ⟨13, Opr.zero, 0, 0, Cf.zero⟩ (.slice none 0 0) (.slice none 0 0) (.slice none 0 0)) Hl2.out rfl
    refine bodyPost_ret (v := .tuple #[.agg (actC ⟨13, Opr.zero, 0, 0, Cf.zero⟩ (.slice none 0 0) (.slice none 0 0) (.slice none 0 0)), .int .i64 0, .bool false]) (results_one _ _ w.heap.size (actC ⟨13, Opr.zero, 0, 0, Cf.zero⟩ (.slice none 0 0) (.slice none 0 0) (.slice none 0 0)) rfl _ _ rfl rfl rfl hd.2.1) rfl ?_
    exact on_fail Hno.out hd.1 _ _ _ _ _ _ _ _ _ _
  have t1 : decide (x < 0) = false := decide_eq_false (by omega)
  by_cases hx1 : x ≤ 15
  case neg =>
    have t2 : decide (15 < x) = true := decide_eq_true (by omega)
    have Hno : Hid (actAt bs n = none) := Lib.hid (by rw [Hact.out, if_neg (by omega)])
    clear hx1 hx0
    have HB : Hid (Blk _ (w.heap.size + 1) 41 (actC ⟨13, Opr.zero, 0, 0, Cf.zero⟩ (.slice none 0 0) (.slice none 0 0) (.slice none 0 0))) := Lib.hid Hl2.out.loc
    have Hth := Lib.hid (Hl2.out.res.there 0 42 (by simp))
    go_wp2_with (first | ((with_reducible refine wpList_load_row ?g_z 41 ?x_z ?o_z (w.heap.size + 1) ?h_z ?t_z ?c_z ?f_z ?d_z ?b_z ?u_z ?s_z ?i_z ?r_z); (case g_z | o_z | h_z => exact rfl); (case b_z => exact HB.out); (case u_z => exact Try.underlying41); (case s_z => exact rfl); (case i_z => exact size_act)) | ((with_reducible refine wpList_store_mid ?g2_z 41 ?x2_z ?y_z ?o2_z w.heap.size 0 (actC ⟨13, Opr.zero, 0, 0, Cf.zero⟩ (.slice none 0 0) (.slice none 0 0) (.slice none 0 0)) ?h2_z ?j_z ?t2_z ?i2_z ?s2_z ?r2_z); (case g2_z | o2_z | h2_z | j_z => exact rfl); (case t2_z => exact Hth.out); (case i2_z => exact size_act); (case s2_z => exact actC_one _ _ _ _ _ _ _ _ _ _)) | fail)
    have hd := RLoc.done (cs := actC ⟨13, Opr.zero, 0, 0, Cf.zero⟩ (.slice none 0 0) (.slice none 0 0) (.slice none 0 0)) Hl2.out rfl
    refine bodyPost_ret (v := .tuple #[.agg (actC ⟨13, Opr.zero, 0, 0, Cf.zero⟩ (.slice none 0 0) (.slice none 0 0) (.slice none 0 0)), .int .i64 0, .bool false]) (results_one _ _ w.heap.size (actC ⟨13, Opr.zero, 0, 0, Cf.zero⟩ (.slice none 0 0) (.slice none 0 0) (.slice none 0 0)) rfl _ _ rfl rfl rfl hd.2.1) rfl ?_
    exact on_fail Hno.out hd.1 _ _ _ _ _ _ _ _ _ _
  have t2 : decide (15 < x) = false := decide_eq_false (by omega)
  have Hx : Hid (0 ≤ x ∧ x ≤ 15) := Lib.hid ⟨hx0, hx1⟩
  clear hx0 hx1
  have cl37 : w2.cell? ⟨w.heap.size + 1, 37, none⟩ = some (.bool false) := Hl2.out.loc.cell 37 rfl
  have fl37 : w2.frozen? ⟨w.heap.size + 1, 37, none⟩ = false := Hl2.out.loc.frozen 37
  have cl38 : w2.cell? ⟨w.heap.size + 1, 38, none⟩ = some (.bool false) := Hl2.out.loc.cell 38 rfl
  have fl38 : w2.frozen? ⟨w.heap.size + 1, 38, none⟩ = false := Hl2.out.loc.frozen 38
  have cl39 : w2.cell? ⟨w.heap.size + 1, 39, none⟩ = some (.bool false) := Hl2.out.loc.cell 39 rfl
  have fl39 : w2.frozen? ⟨w.heap.size + 1, 39, none⟩ = false := Hl2.out.loc.frozen 39
  have cl40 : w2.cell? ⟨w.heap.size + 1, 40, none⟩ = some (.bool false) := Hl2.out.loc.cell 40 rfl
  have fl40 : w2.frozen? ⟨w.heap.size + 1, 40, none⟩ = false := Hl2.out.loc.frozen 40
  have cl41 : w2.cell? ⟨w.heap.size + 1, 41, none⟩ = some (.int .i64 0) := Hl2.out.loc.cell 41 rfl
  have fl41 : w2.frozen? ⟨w.heap.size + 1, 41, none⟩ = false := Hl2.out.loc.frozen 41
  go_wp2_with fail
  have hfl := conf_facts Hx.out
  obtain ⟨x1, q1⟩ : ∃ a, x.tmod 2 = a := ⟨_, rfl⟩
  obtain ⟨x2, q2⟩ : ∃ a, IntKind.i64.wrap (x.tdiv 2) = a := ⟨_, rfl⟩
  obtain ⟨x3, q3⟩ : ∃ a, x2.tmod 2 = a := ⟨_, rfl⟩
  obtain ⟨x4, q4⟩ : ∃ a, IntKind.i64.wrap (x.tdiv 4) = a := ⟨_, rfl⟩
  obtain ⟨x5, q5⟩ : ∃ a, x4.tmod 2 = a := ⟨_, rfl⟩
  obtain ⟨x6, q6⟩ : ∃ a, IntKind.i64.wrap (x.tdiv 8) = a := ⟨_, rfl⟩
  obtain ⟨f0, r0⟩ : ∃ a, (x1 == 1) = a := ⟨_, rfl⟩
  obtain ⟨f1, r1⟩ : ∃ a, (x3 == 1) = a := ⟨_, rfl⟩
  obtain ⟨f2, r2⟩ : ∃ a, (x5 == 1) = a := ⟨_, rfl⟩
  obtain ⟨f3, r3⟩ : ∃ a, (x6 == 1) = a := ⟨_, rfl⟩
  rw [q1, q2, q3, q4, q5, q6, r0, r1, r2, r3] at hfl
  have Hres : Hid (actAt bs n = some (⟨13, Opr.zero, 0, 0, ⟨f0, f1, f2, f3, y⟩⟩, q)) := Lib.hid (by rw [Hact.out, if_pos Hx.out, hfl.1, hfl.2.1, hfl.2.2.1, hfl.2.2.2])
  have Q1 := Lib.hid q1
  have Q2 := Lib.hid q2
  have Q3 := Lib.hid q3
  have Q4 := Lib.hid q4
  have Q5 := Lib.hid q5
  have Q6 := Lib.hid q6
  have R0 := Lib.hid r0
  have R1 := Lib.hid r1
  have R2 := Lib.hid r2
  have R3 := Lib.hid r3
  clear hfl q1 q2 q3 q4 q5 q6 r0 r1 r2 r3
  refine wp_region_defer (S := fun w' => w' = (w2).drew) 27 ({ dst := none, op := Op.store 39 (Operand.tmp 116) (Operand.tmp 115), type := 0, pos := "ref.go:236", after := #[gD 26, gD 25, gP 0, gP 1, gP 2, gP 3, gP 4, gP 5, gP 6, gP 7, gP 8, gP 9, gP 10, gP 11, gP 12, gP 13, gP 14, gP 15, gP 16, gP 17, gP 18, gP 19, gP 20, gP 21, gP 22, gP 23, gP 24, gP 25], guard := none } : Oper) rfl (by kernel_rfl) rfl rfl (by kernel_rfl) (by kernel_rfl) rfl (fun hHeld => ?_)
  refine wpAnyH_take (i := 0) (oi := ({ dst := some 90, op := Op.move (Operand.tmp 9), type := 72, pos := "ref.go:236", after := #[], guard := none } : Oper)) (v := .slice (some ⟨g2, 0, none⟩) 2 c) rfl (by kernel_rfl) (by kernel_rfl) (by kernel_rfl) (fun _ _ _ h => h) (Or.inl ⟨by rfl, ?_⟩) hHeld ?_
  · (intro w' hSw; (try dsimp only at hSw); subst hSw; clear hHeld; go_simp; (try with_reducible rfl); all_goals (first | exact Q1.out | exact R0.out | exact Q2.out | exact Q3.out | exact R1.out | exact Q4.out | exact Q5.out | exact R2.out | exact Q6.out | exact R3.out))
  try simp only [Act.put, uSa, uSb, uSc]
  refine wpAnyH_take (i := 1) (oi := ({ dst := some 91, op := Op.indexAddr 72 (Operand.tmp 90) (Operand.const (Value.int IntKind.i64 0)), type := 0, pos := "ref.go:236", after := #[gD 0], guard := none } : Oper)) (v := .pointer (some ⟨g2, 0, none⟩)) rfl (by kernel_rfl) (by kernel_rfl) (by kernel_rfl) (fun _ _ _ h => h) (Or.inl ⟨by rfl, ?_⟩) hHeld ?_
  · (intro w' hSw; (try dsimp only at hSw); subst hSw; clear hHeld; go_simp; (try with_reducible rfl); all_goals (first | exact Q1.out | exact R0.out | exact Q2.out | exact Q3.out | exact R1.out | exact Q4.out | exact Q5.out | exact R2.out | exact Q6.out | exact R3.out))
  try simp only [Act.put, uSa, uSb, uSc]
  refine wpAnyH_take (i := 2) (oi := ({ dst := some 92, op := Op.load 3 (Operand.tmp 91), type := 3, pos := "ref.go:236", after := #[gD 1], guard := none } : Oper)) (v := .int .i64 x) rfl (by kernel_rfl) (by kernel_rfl) (by kernel_rfl) (fun _ _ _ h => h) (Or.inl ⟨by rfl, ?_⟩) hHeld ?_
  · (intro w' hSw; (try dsimp only at hSw); subst hSw; clear hHeld; go_simp; (try with_reducible rfl); all_goals (first | exact Q1.out | exact R0.out | exact Q2.out | exact Q3.out | exact R1.out | exact Q4.out | exact Q5.out | exact R2.out | exact Q6.out | exact R3.out))
  try simp only [Act.put, uSa, uSb, uSc]
  refine wpAnyH_take (i := 3) (oi := ({ dst := some 93, op := Op.binOp BinOp.rem 3 (Operand.tmp 92) (Operand.const (Value.int IntKind.i64 2)) 3, type := 3, pos := "ref.go:236", after := #[gD 2], guard := none } : Oper)) (v := .int .i64 x1) rfl (by kernel_rfl) (by kernel_rfl) (by kernel_rfl) (fun _ _ _ h => h) (Or.inl ⟨by rfl, ?_⟩) hHeld ?_
  · (intro w' hSw; (try dsimp only at hSw); subst hSw; clear hHeld; go_simp; (try with_reducible rfl); all_goals (first | exact Q1.out | exact R0.out | exact Q2.out | exact Q3.out | exact R1.out | exact Q4.out | exact Q5.out | exact R2.out | exact Q6.out | exact R3.out))
  try simp only [Act.put, uSa, uSb, uSc]
  refine wpAnyH_take (i := 4) (oi := ({ dst := some 94, op := Op.binOp BinOp.eql 3 (Operand.tmp 93) (Operand.const (Value.int IntKind.i64 1)) 3, type := 4, pos := "ref.go:236", after := #[gD 3], guard := none } : Oper)) (v := .bool f0) rfl (by kernel_rfl) (by kernel_rfl) (by kernel_rfl) (fun _ _ _ h => h) (Or.inl ⟨by rfl, ?_⟩) hHeld ?_
  · (intro w' hSw; (try dsimp only at hSw); subst hSw; clear hHeld; go_simp; (try with_reducible rfl); all_goals (first | exact Q1.out | exact R0.out | exact Q2.out | exact Q3.out | exact R1.out | exact Q4.out | exact Q5.out | exact R2.out | exact Q6.out | exact R3.out))
  try simp only [Act.put, uSa, uSb, uSc]
  refine wpAnyH_take (i := 5) (oi := ({ dst := some 95, op := Op.move (Operand.tmp 9), type := 72, pos := "ref.go:236", after := #[], guard := none } : Oper)) (v := .slice (some ⟨g2, 0, none⟩) 2 c) rfl (by kernel_rfl) (by kernel_rfl) (by kernel_rfl) (fun _ _ _ h => h) (Or.inl ⟨by rfl, ?_⟩) hHeld ?_
  · (intro w' hSw; (try dsimp only at hSw); subst hSw; clear hHeld; go_simp; (try with_reducible rfl); all_goals (first | exact Q1.out | exact R0.out | exact Q2.out | exact Q3.out | exact R1.out | exact Q4.out | exact Q5.out | exact R2.out | exact Q6.out | exact R3.out))
  try simp only [Act.put, uSa, uSb, uSc]
  refine wpAnyH_take (i := 6) (oi := ({ dst := some 96, op := Op.indexAddr 72 (Operand.tmp 95) (Operand.const (Value.int IntKind.i64 0)), type := 0, pos := "ref.go:236", after := #[gD 5], guard := none } : Oper)) (v := .pointer (some ⟨g2, 0, none⟩)) rfl (by kernel_rfl) (by kernel_rfl) (by kernel_rfl) (fun _ _ _ h => h) (Or.inl ⟨by rfl, ?_⟩) hHeld ?_
  · (intro w' hSw; (try dsimp only at hSw); subst hSw; clear hHeld; go_simp; (try with_reducible rfl); all_goals (first | exact Q1.out | exact R0.out | exact Q2.out | exact Q3.out | exact R1.out | exact Q4.out | exact Q5.out | exact R2.out | exact Q6.out | exact R3.out))
  try simp only [Act.put, uSa, uSb, uSc]
  refine wpAnyH_take (i := 7) (oi := ({ dst := some 97, op := Op.load 3 (Operand.tmp 96), type := 3, pos := "ref.go:236", after := #[gD 6], guard := none } : Oper)) (v := .int .i64 x) rfl (by kernel_rfl) (by kernel_rfl) (by kernel_rfl) (fun _ _ _ h => h) (Or.inl ⟨by rfl, ?_⟩) hHeld ?_
  · (intro w' hSw; (try dsimp only at hSw); subst hSw; clear hHeld; go_simp; (try with_reducible rfl); all_goals (first | exact Q1.out | exact R0.out | exact Q2.out | exact Q3.out | exact R1.out | exact Q4.out | exact Q5.out | exact R2.out | exact Q6.out | exact R3.out))
  try simp only [Act.put, uSa, uSb, uSc]
  refine wpAnyH_take (i := 8) (oi := ({ dst := some 98, op := Op.binOp BinOp.quo 3 (Operand.tmp 97) (Operand.const (Value.int IntKind.i64 2)) 3, type := 3, pos := "ref.go:236", after := #[gD 7], guard := none } : Oper)) (v := .int .i64 x2) rfl (by kernel_rfl) (by kernel_rfl) (by kernel_rfl) (fun _ _ _ h => h) (Or.inl ⟨by rfl, ?_⟩) hHeld ?_
  · (intro w' hSw; (try dsimp only at hSw); subst hSw; clear hHeld; go_simp; (try with_reducible rfl); all_goals (first | exact Q1.out | exact R0.out | exact Q2.out | exact Q3.out | exact R1.out | exact Q4.out | exact Q5.out | exact R2.out | exact Q6.out | exact R3.out))
  try simp only [Act.put, uSa, uSb, uSc]
  refine wpAnyH_take (i := 9) (oi := ({ dst := some 99, op := Op.binOp BinOp.rem 3 (Operand.tmp 98) (Operand.const (Value.int IntKind.i64 2)) 3, type := 3, pos := "ref.go:236", after := #[gD 8], guard := none } : Oper)) (v := .int .i64 x3) rfl (by kernel_rfl) (by kernel_rfl) (by kernel_rfl) (fun _ _ _ h => h) (Or.inl ⟨by rfl, ?_⟩) hHeld ?_
  · (intro w' hSw; (try dsimp only at hSw); subst hSw; clear hHeld; go_simp; (try with_reducible rfl); all_goals (first | exact Q1.out | exact R0.out | exact Q2.out | exact Q3.out | exact R1.out | exact Q4.out | exact Q5.out | exact R2.out | exact Q6.out | exact R3.out))
  try simp only [Act.put, uSa, uSb, uSc]
  refine wpAnyH_take (i := 10) (oi := ({ dst := some 100, op := Op.binOp BinOp.eql 3 (Operand.tmp 99) (Operand.const (Value.int IntKind.i64 1)) 3, type := 4, pos := "ref.go:236", after := #[gD 9], guard := none } : Oper)) (v := .bool f1) rfl (by kernel_rfl) (by kernel_rfl) (by kernel_rfl) (fun _ _ _ h => h) (Or.inl ⟨by rfl, ?_⟩) hHeld ?_
  · (intro w' hSw; (try dsimp only at hSw); subst hSw; clear hHeld; go_simp; (try with_reducible rfl); all_goals (first | exact Q1.out | exact R0.out | exact Q2.out | exact Q3.out | exact R1.out | exact Q4.out | exact Q5.out | exact R2.out | exact Q6.out | exact R3.out))
  try simp only [Act.put, uSa, uSb, uSc]
  refine wpAnyH_take (i := 11) (oi := ({ dst := some 101, op := Op.move (Operand.tmp 9), type := 72, pos := "ref.go:236", after := #[], guard := none } : Oper)) (v := .slice (some ⟨g2, 0, none⟩) 2 c) rfl (by kernel_rfl) (by kernel_rfl) (by kernel_rfl) (fun _ _ _ h => h) (Or.inl ⟨by rfl, ?_⟩) hHeld ?_
  · (intro w' hSw; (try dsimp only at hSw); subst hSw; clear hHeld; go_simp; (try with_reducible rfl); all_goals (first | exact Q1.out | exact R0.out | exact Q2.out | exact Q3.out | exact R1.out | exact Q4.out | exact Q5.out | exact R2.out | exact Q6.out | exact R3.out))
  try simp only [Act.put, uSa, uSb, uSc]
  refine wpAnyH_take (i := 12) (oi := ({ dst := some 102, op := Op.indexAddr 72 (Operand.tmp 101) (Operand.const (Value.int IntKind.i64 0)), type := 0, pos := "ref.go:236", after := #[gD 11], guard := none } : Oper)) (v := .pointer (some ⟨g2, 0, none⟩)) rfl (by kernel_rfl) (by kernel_rfl) (by kernel_rfl) (fun _ _ _ h => h) (Or.inl ⟨by rfl, ?_⟩) hHeld ?_
  · (intro w' hSw; (try dsimp only at hSw); subst hSw; clear hHeld; go_simp; (try with_reducible rfl); all_goals (first | exact Q1.out | exact R0.out | exact Q2.out | exact Q3.out | exact R1.out | exact Q4.out | exact Q5.out | exact R2.out | exact Q6.out | exact R3.out))
  try simp only [Act.put, uSa, uSb, uSc]
  refine wpAnyH_take (i := 13) (oi := ({ dst := some 103, op := Op.load 3 (Operand.tmp 102), type := 3, pos := "ref.go:236", after := #[gD 12], guard := none } : Oper)) (v := .int .i64 x) rfl (by kernel_rfl) (by kernel_rfl) (by kernel_rfl) (fun _ _ _ h => h) (Or.inl ⟨by rfl, ?_⟩) hHeld ?_
  · (intro w' hSw; (try dsimp only at hSw); subst hSw; clear hHeld; go_simp; (try with_reducible rfl); all_goals (first | exact Q1.out | exact R0.out | exact Q2.out | exact Q3.out | exact R1.out | exact Q4.out | exact Q5.out | exact R2.out | exact Q6.out | exact R3.out))
  try simp only [Act.put, uSa, uSb, uSc]
  refine wpAnyH_take (i := 14) (oi := ({ dst := some 104, op := Op.binOp BinOp.quo 3 (Operand.tmp 103) (Operand.const (Value.int IntKind.i64 4)) 3, type := 3, pos := "ref.go:236", after := #[gD 13], guard := none } : Oper)) (v := .int .i64 x4) rfl (by kernel_rfl) (by kernel_rfl) (by kernel_rfl) (fun _ _ _ h => h) (Or.inl ⟨by rfl, ?_⟩) hHeld ?_
  · (intro w' hSw; (try dsimp only at hSw); subst hSw; clear hHeld; go_simp; (try with_reducible rfl); all_goals (first | exact Q1.out | exact R0.out | exact Q2.out | exact Q3.out | exact R1.out | exact Q4.out | exact Q5.out | exact R2.out | exact Q6.out | exact R3.out))
  try simp only [Act.put, uSa, uSb, uSc]
  refine wpAnyH_take (i := 15) (oi := ({ dst := some 105, op := Op.binOp BinOp.rem 3 (Operand.tmp 104) (Operand.const (Value.int IntKind.i64 2)) 3, type := 3, pos := "ref.go:236", after := #[gD 14], guard := none } : Oper)) (v := .int .i64 x5) rfl (by kernel_rfl) (by kernel_rfl) (by kernel_rfl) (fun _ _ _ h => h) (Or.inl ⟨by rfl, ?_⟩) hHeld ?_
  · (intro w' hSw; (try dsimp only at hSw); subst hSw; clear hHeld; go_simp; (try with_reducible rfl); all_goals (first | exact Q1.out | exact R0.out | exact Q2.out | exact Q3.out | exact R1.out | exact Q4.out | exact Q5.out | exact R2.out | exact Q6.out | exact R3.out))
  try simp only [Act.put, uSa, uSb, uSc]
  refine wpAnyH_take (i := 16) (oi := ({ dst := some 106, op := Op.binOp BinOp.eql 3 (Operand.tmp 105) (Operand.const (Value.int IntKind.i64 1)) 3, type := 4, pos := "ref.go:236", after := #[gD 15], guard := none } : Oper)) (v := .bool f2) rfl (by kernel_rfl) (by kernel_rfl) (by kernel_rfl) (fun _ _ _ h => h) (Or.inl ⟨by rfl, ?_⟩) hHeld ?_
  · (intro w' hSw; (try dsimp only at hSw); subst hSw; clear hHeld; go_simp; (try with_reducible rfl); all_goals (first | exact Q1.out | exact R0.out | exact Q2.out | exact Q3.out | exact R1.out | exact Q4.out | exact Q5.out | exact R2.out | exact Q6.out | exact R3.out))
  try simp only [Act.put, uSa, uSb, uSc]
  refine wpAnyH_take (i := 17) (oi := ({ dst := some 107, op := Op.move (Operand.tmp 9), type := 72, pos := "ref.go:236", after := #[], guard := none } : Oper)) (v := .slice (some ⟨g2, 0, none⟩) 2 c) rfl (by kernel_rfl) (by kernel_rfl) (by kernel_rfl) (fun _ _ _ h => h) (Or.inl ⟨by rfl, ?_⟩) hHeld ?_
  · (intro w' hSw; (try dsimp only at hSw); subst hSw; clear hHeld; go_simp; (try with_reducible rfl); all_goals (first | exact Q1.out | exact R0.out | exact Q2.out | exact Q3.out | exact R1.out | exact Q4.out | exact Q5.out | exact R2.out | exact Q6.out | exact R3.out))
  try simp only [Act.put, uSa, uSb, uSc]
  refine wpAnyH_take (i := 18) (oi := ({ dst := some 108, op := Op.indexAddr 72 (Operand.tmp 107) (Operand.const (Value.int IntKind.i64 0)), type := 0, pos := "ref.go:236", after := #[gD 17], guard := none } : Oper)) (v := .pointer (some ⟨g2, 0, none⟩)) rfl (by kernel_rfl) (by kernel_rfl) (by kernel_rfl) (fun _ _ _ h => h) (Or.inl ⟨by rfl, ?_⟩) hHeld ?_
  · (intro w' hSw; (try dsimp only at hSw); subst hSw; clear hHeld; go_simp; (try with_reducible rfl); all_goals (first | exact Q1.out | exact R0.out | exact Q2.out | exact Q3.out | exact R1.out | exact Q4.out | exact Q5.out | exact R2.out | exact Q6.out | exact R3.out))
  try simp only [Act.put, uSa, uSb, uSc]
  refine wpAnyH_take (i := 19) (oi := ({ dst := some 109, op := Op.load 3 (Operand.tmp 108), type := 3, pos := "ref.go:236", after := #[gD 18], guard := none } : Oper)) (v := .int .i64 x) rfl (by kernel_rfl) (by kernel_rfl) (by kernel_rfl) (fun _ _ _ h => h) (Or.inl ⟨by rfl, ?_⟩) hHeld ?_
  · (intro w' hSw; (try dsimp only at hSw); subst hSw; clear hHeld; go_simp; (try with_reducible rfl); all_goals (first | exact Q1.out | exact R0.out | exact Q2.out | exact Q3.out | exact R1.out | exact Q4.out | exact Q5.out | exact R2.out | exact Q6.out | exact R3.out))
  try simp only [Act.put, uSa, uSb, uSc]
  refine wpAnyH_take (i := 20) (oi := ({ dst := some 110, op := Op.binOp BinOp.quo 3 (Operand.tmp 109) (Operand.const (Value.int IntKind.i64 8)) 3, type := 3, pos := "ref.go:236", after := #[gD 19], guard := none } : Oper)) (v := .int .i64 x6) rfl (by kernel_rfl) (by kernel_rfl) (by kernel_rfl) (fun _ _ _ h => h) (Or.inl ⟨by rfl, ?_⟩) hHeld ?_
  · (intro w' hSw; (try dsimp only at hSw); subst hSw; clear hHeld; go_simp; (try with_reducible rfl); all_goals (first | exact Q1.out | exact R0.out | exact Q2.out | exact Q3.out | exact R1.out | exact Q4.out | exact Q5.out | exact R2.out | exact Q6.out | exact R3.out))
  try simp only [Act.put, uSa, uSb, uSc]
  refine wpAnyH_take (i := 21) (oi := ({ dst := some 111, op := Op.binOp BinOp.eql 3 (Operand.tmp 110) (Operand.const (Value.int IntKind.i64 1)) 3, type := 4, pos := "ref.go:236", after := #[gD 20], guard := none } : Oper)) (v := .bool f3) rfl (by kernel_rfl) (by kernel_rfl) (by kernel_rfl) (fun _ _ _ h => h) (Or.inl ⟨by rfl, ?_⟩) hHeld ?_
  · (intro w' hSw; (try dsimp only at hSw); subst hSw; clear hHeld; go_simp; (try with_reducible rfl); all_goals (first | exact Q1.out | exact R0.out | exact Q2.out | exact Q3.out | exact R1.out | exact Q4.out | exact Q5.out | exact R2.out | exact Q6.out | exact R3.out))
  try simp only [Act.put, uSa, uSb, uSc]
  refine wpAnyH_take (i := 22) (oi := ({ dst := some 112, op := Op.move (Operand.tmp 9), type := 72, pos := "ref.go:236", after := #[], guard := none } : Oper)) (v := .slice (some ⟨g2, 0, none⟩) 2 c) rfl (by kernel_rfl) (by kernel_rfl) (by kernel_rfl) (fun _ _ _ h => h) (Or.inl ⟨by rfl, ?_⟩) hHeld ?_
  · (intro w' hSw; (try dsimp only at hSw); subst hSw; clear hHeld; go_simp; (try with_reducible rfl); all_goals (first | exact Q1.out | exact R0.out | exact Q2.out | exact Q3.out | exact R1.out | exact Q4.out | exact Q5.out | exact R2.out | exact Q6.out | exact R3.out))
  try simp only [Act.put, uSa, uSb, uSc]
  refine wpAnyH_take (i := 23) (oi := ({ dst := some 113, op := Op.indexAddr 72 (Operand.tmp 112) (Operand.const (Value.int IntKind.i64 1)), type := 0, pos := "ref.go:236", after := #[gD 22], guard := none } : Oper)) (v := .pointer (some ⟨g2, 1, none⟩)) rfl (by kernel_rfl) (by kernel_rfl) (by kernel_rfl) (fun _ _ _ h => h) (Or.inl ⟨by rfl, ?_⟩) hHeld ?_
  · (intro w' hSw; (try dsimp only at hSw); subst hSw; clear hHeld; go_simp; (try with_reducible rfl); all_goals (first | exact Q1.out | exact R0.out | exact Q2.out | exact Q3.out | exact R1.out | exact Q4.out | exact Q5.out | exact R2.out | exact Q6.out | exact R3.out))
  try simp only [Act.put, uSa, uSb, uSc]
  refine wpAnyH_take (i := 24) (oi := ({ dst := some 114, op := Op.load 3 (Operand.tmp 113), type := 3, pos := "ref.go:236", after := #[gD 23], guard := none } : Oper)) (v := .int .i64 y) rfl (by kernel_rfl) (by kernel_rfl) (by kernel_rfl) (fun _ _ _ h => h) (Or.inl ⟨by rfl, ?_⟩) hHeld ?_
  · (intro w' hSw; (try dsimp only at hSw); subst hSw; clear hHeld; go_simp; (try with_reducible rfl); all_goals (first | exact Q1.out | exact R0.out | exact Q2.out | exact Q3.out | exact R1.out | exact Q4.out | exact Q5.out | exact R2.out | exact Q6.out | exact R3.out))
  try simp only [Act.put, uSa, uSb, uSc]
  refine wpAnyH_take (i := 25) (oi := ({ dst := some 115, op := Op.build 39 #[(0, Operand.tmp 94), (1, Operand.tmp 100), (2, Operand.tmp 106), (3, Operand.tmp 111), (4, Operand.tmp 114)], type := 39, pos := "ref.go:236", after := #[gD 4, gD 10, gD 16, gD 21, gD 24], guard := none } : Oper)) (v := .agg #[.bool f0, .bool f1, .bool f2, .bool f3, .int .i64 y]) rfl (by kernel_rfl) (by kernel_rfl) (by kernel_rfl) (fun _ _ _ h => h) (Or.inl ⟨by rfl, ?_⟩) hHeld ?_
  · (intro w' hSw; (try dsimp only at hSw); subst hSw; clear hHeld; go_simp; (try with_reducible rfl); all_goals (first | exact Q1.out | exact R0.out | exact Q2.out | exact Q3.out | exact R1.out | exact Q4.out | exact Q5.out | exact R2.out | exact Q6.out | exact R3.out))
  try simp only [Act.put, uSa, uSb, uSc]
  refine wpAnyH_take (i := 26) (oi := ({ dst := some 116, op := Op.fieldAddr 41 (Operand.tmp 7) 4, type := 0, pos := "ref.go:236", after := #[gP 0, gP 1, gP 2, gP 3, gP 4, gP 5, gP 6, gP 7, gP 8, gP 9, gP 10, gP 11, gP 12, gP 13, gP 14, gP 15, gP 16, gP 17, gP 18, gP 19, gP 20, gP 21, gP 22, gP 23, gP 24, gP 25], guard := none } : Oper)) (v := .pointer (some ⟨w.heap.size + 1, 37, none⟩)) rfl (by kernel_rfl) (by kernel_rfl) (by kernel_rfl) (fun _ _ _ h => h) (Or.inl ⟨by rfl, ?_⟩) hHeld ?_
  · (intro w' hSw; (try dsimp only at hSw); subst hSw; clear hHeld; go_simp; (try with_reducible rfl); all_goals (first | exact Q1.out | exact R0.out | exact Q2.out | exact Q3.out | exact R1.out | exact Q4.out | exact Q5.out | exact R2.out | exact Q6.out | exact R3.out))
  try simp only [Act.put, uSa, uSb, uSc]
  refine wpAnyH_take (i := 27) (oi := ({ dst := none, op := Op.assign (Operand.const (Value.bool true)), type := 0, pos := "ref.go:236", after := #[gD 26, gD 25, gP 0, gP 1, gP 2, gP 3, gP 4, gP 5, gP 6, gP 7, gP 8, gP 9, gP 10, gP 11, gP 12, gP 13, gP 14, gP 15, gP 16, gP 17, gP 18, gP 19, gP 20, gP 21, gP 22, gP 23, gP 24, gP 25], guard := none } : Oper)) (v := .bool true) rfl (by kernel_rfl) (by kernel_rfl) (by kernel_rfl) (fun _ _ _ h => h) (Or.inl ⟨by rfl, ?_⟩) hHeld ?_
  · (intro w' hSw; clear hSw hHeld; go_simp; (try with_reducible rfl); all_goals (first | exact Q1.out | exact R0.out | exact Q2.out | exact Q3.out | exact R1.out | exact Q4.out | exact Q5.out | exact R2.out | exact Q6.out | exact R3.out))
  try simp only [Act.put, uSa, uSb, uSc]
  refine wpAnyH_done (by kernel_rfl) ?_ _
  clear hHeld
  show Oper.wp _ _ _ _ _ _
  go_simp
  have hl3 : RLoc w 41 AcZ (actC ⟨13, Opr.zero, 0, 0, ⟨f0, f1, f2, f3, y⟩⟩ (.slice none 0 0) (.slice none 0 0) (.slice none 0 0)) (((((w2.setCell ⟨w.heap.size + 1, 37, none⟩ (.bool f0)).setCell ⟨w.heap.size + 1, 38, none⟩ (.bool f1)).setCell ⟨w.heap.size + 1, 39, none⟩ (.bool f2)).setCell ⟨w.heap.size + 1, 40, none⟩ (.bool f3)).setCell ⟨w.heap.size + 1, 41, none⟩ (.int .i64 y)).drew := (Hl2.out.puts 37 [.bool f0, .bool f1, .bool f2, .bool f3, .int .i64 y]).next (Gou.Mod.drew _ _)
  have hA : ∃ w9, w9 = (((((w2.setCell ⟨w.heap.size + 1, 37, none⟩ (.bool f0)).setCell ⟨w.heap.size + 1, 38, none⟩ (.bool f1)).setCell ⟨w.heap.size + 1, 39, none⟩ (.bool f2)).setCell ⟨w.heap.size + 1, 40, none⟩ (.bool f3)).setCell ⟨w.heap.size + 1, 41, none⟩ (.int .i64 y)).drew := ⟨_, rfl⟩
  obtain ⟨w9, hA⟩ := hA
  rw [← hA] at hl3 ⊢
  clear hA
  have Hl3 := Lib.hid hl3
  clear hl3 cl37 fl37 cl38 fl38 cl39 fl39 cl40 fl40 cl41 fl41
  have HB : Hid (Blk _ (w.heap.size + 1) 41 (actC ⟨13, Opr.zero, 0, 0, ⟨f0, f1, f2, f3, y⟩⟩ (.slice none 0 0) (.slice none 0 0) (.slice none 0 0))) := Lib.hid Hl3.out.loc
  have Hth := Lib.hid (Hl3.out.res.there 0 42 (by simp))
  go_wp2_with (first | ((with_reducible refine wpList_load_row ?g_10 41 ?x_10 ?o_10 (w.heap.size + 1) ?h_10 ?t_10 ?c_10 ?f_10 ?d_10 ?b_10 ?u_10 ?s_10 ?i_10 ?r_10); (case g_10 | o_10 | h_10 => exact rfl); (case b_10 => exact HB.out); (case u_10 => exact Try.underlying41); (case s_10 => exact rfl); (case i_10 => exact size_act)) | ((with_reducible refine wpList_store_mid ?g2_10 41 ?x2_10 ?y_10 ?o2_10 w.heap.size 0 (actC ⟨13, Opr.zero, 0, 0, ⟨f0, f1, f2, f3, y⟩⟩ (.slice none 0 0) (.slice none 0 0) (.slice none 0 0)) ?h2_10 ?j_10 ?t2_10 ?i2_10 ?s2_10 ?r2_10); (case g2_10 | o2_10 | h2_10 | j_10 => exact rfl); (case t2_10 => exact Hth.out); (case i2_10 => exact size_act); (case s2_10 => exact actC_one _ _ _ _ _ _ _ _ _ _)) | fail)
  have hd := RLoc.done (cs := actC ⟨13, Opr.zero, 0, 0, ⟨f0, f1, f2, f3, y⟩⟩ (.slice none 0 0) (.slice none 0 0) (.slice none 0 0)) Hl3.out rfl
  refine bodyPost_ret (v := .tuple #[.agg (actC ⟨13, Opr.zero, 0, 0, ⟨f0, f1, f2, f3, y⟩⟩ (.slice none 0 0) (.slice none 0 0) (.slice none 0 0)), .int .i64 q, .bool true]) (results_one _ _ w.heap.size (actC ⟨13, Opr.zero, 0, 0, ⟨f0, f1, f2, f3, y⟩⟩ (.slice none 0 0) (.slice none 0 0) (.slice none 0 0)) rfl _ _ rfl rfl rfl hd.2.1) rfl ?_
  exact on_done Hres.out hd.1 (LookR.nil _ _ _ rfl rfl rfl)


end Go.Proofs.Ytnamnmipgpcjjaa

