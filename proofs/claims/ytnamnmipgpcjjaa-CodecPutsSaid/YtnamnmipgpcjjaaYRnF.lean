/- Texts of the codec's proofs, laid together: RnF. -/
import Derived.Test.YtnamnmipgpcjjaaYRnE
set_option linter.unusedSimpArgs false
set_option linter.unusedVariables false
set_option linter.unusedSectionVars false
set_option linter.constructorNameAsVariable false

/- Acts as bytes: the document's looks. -/
namespace Go.Gou
open Go.RowKit

/-- A new box, and what is put into it whole. -/
theorem box_put (w1 : World) (T : TypeId) (z cs : Array Value) (hz : z.size = cs.size) : Mod (fun _ => False) w1 ((w1.alloc (.cells z T)).setCells w1.heap.size 0 cs.toList) ∧ Blk ((w1.alloc (.cells z T)).setCells w1.heap.size 0 cs.toList) w1.heap.size T cs ∧ (w1.alloc (.cells z T)).there w1.heap.size 0 cs.size := by
  have h0 : Blk (w1.alloc (.cells z T)) w1.heap.size T z := heap_alloc_new w1 _
  refine ⟨(Mod.alloc _ _ _).trans (Blk.setMod _ _ _ _) (fun k hk e => by omega), ?_, h0.there 0 cs.size (by omega)⟩
  have h := h0.sets 0 cs.toList
  rw [setMany_all z cs.toList (by simpa using hz)] at h
  exact h

theorem times_two {bs : List Nat} {n q : Nat} {xs : List Int} (h : timesAt (numAt bs) n 2 = some (xs, q)) : ∃ x y m, xs = [x, y] ∧ numAt bs n = some (x, m) ∧ numAt bs m = some (y, q) := by
  obtain ⟨xs, m, y, rfl, h, h2⟩ := times_succ h
  obtain ⟨x, rfl, h1⟩ := times_one h
  exact ⟨x, y, m, rfl, h1, h2⟩
theorem flag_none {bs : List Nat} {n : Nat} (h : timesAt (numAt bs) n 1 = none) : flagAt bs n = none := by
  unfold flagAt withinAt
  rw [times_one_none h]
theorem flag_bad {bs : List Nat} {n m : Nat} {x : Int} (h : numAt bs n = some (x, m)) (h0 : x ≠ 0) (h1 : x ≠ 1) : flagAt bs n = none := by
  unfold flagAt withinAt
  rw [h]
  simp only
  rw [if_neg (by omega)]
theorem flag_zero {bs : List Nat} {n m : Nat} (h : numAt bs n = some (0, m)) : flagAt bs n = some (false, m) := by
  unfold flagAt withinAt
  rw [h]
  rfl
theorem flag_one {bs : List Nat} {n m : Nat} (h : numAt bs n = some (1, m)) : flagAt bs n = some (true, m) := by
  unfold flagAt withinAt
  rw [h]
  rfl
theorem look5_none {bs : List Nat} {n : Nat} (h : timesAt (numAt bs) n 2 = none) : lookAt bs n 5 = none := by
  unfold lookAt
  rw [if_pos rfl]
  rcases hx : numAt bs n with _ | ⟨x, m⟩
  · rfl
  · rcases hy : numAt bs m with _ | ⟨y, q⟩
    · simp [hy]
    · simp [timesAt, hx, hy] at h
theorem look5_some {bs : List Nat} {n m q : Nat} {x y : Int} (h1 : numAt bs n = some (x, m)) (h2 : numAt bs m = some (y, q)) : lookAt bs n 5 = some ({ Lk.zero with dx := x, dy := y }, q) := by
  simp [lookAt, h1, h2]
theorem look6 {bs : List Nat} {n : Nat} : lookAt bs n 6 = (flagAt bs n).bind fun f => if f.1 then (boxAt bs f.2).bind fun b => some ({ Lk.zero with hasClip := true, clip := Rc.of b.1 }, b.2) else some (Lk.zero, f.2) := by
  unfold lookAt
  rw [if_neg (by decide), if_pos rfl]
theorem look7 {bs : List Nat} {n : Nat} : lookAt bs n 7 = (numAt bs n).bind fun x => some ({ Lk.zero with opacity := x.1 }, x.2) := by
  unfold lookAt
  rw [if_neg (by decide), if_neg (by decide), if_pos rfl]
theorem look8 {bs : List Nat} {n : Nat} : lookAt bs n 8 = (numAt bs n).bind fun x => some ({ Lk.zero with mode := x.1 }, x.2) := by
  unfold lookAt
  rw [if_neg (by decide), if_neg (by decide), if_neg (by decide), if_pos rfl]
theorem look9 {bs : List Nat} {n : Nat} : lookAt bs n 9 = (contentAt bs n).bind fun c => some ({ Lk.zero with content := c.1 }, c.2) := by
  unfold lookAt
  rw [if_neg (by decide), if_neg (by decide), if_neg (by decide), if_neg (by decide), if_pos rfl]
theorem look10 {bs : List Nat} {n : Nat} : lookAt bs n 10 = (flagAt bs n).bind fun f => if f.1 then (graphAt bs f.2).bind fun b => some ({ Lk.zero with hasFilt := true, filt := b.1 }, b.2) else some (Lk.zero, f.2) := by
  unfold lookAt
  rw [if_neg (by decide), if_neg (by decide), if_neg (by decide), if_neg (by decide), if_neg (by decide), if_pos rfl]
theorem look11 {bs : List Nat} {n : Nat} : lookAt bs n 11 = (flagAt bs n).bind fun f => if f.1 then (graphAt bs f.2).bind fun b => some ({ Lk.zero with hasBack := true, back := b.1 }, b.2) else some (Lk.zero, f.2) := by
  unfold lookAt
  rw [if_neg (by decide), if_neg (by decide), if_neg (by decide), if_neg (by decide), if_neg (by decide), if_neg (by decide), if_pos rfl]
theorem look_low {bs : List Nat} {n : Nat} {k : Int} (h : k < 5) : lookAt bs n k = some (Lk.zero, n) := by
  unfold lookAt
  rw [if_neg (by omega), if_neg (by omega), if_neg (by omega), if_neg (by omega), if_neg (by omega), if_neg (by omega), if_neg (by omega)]

def graphC (s : Value) (x : Int) : Array Value := #[s, .int .i64 x]
theorem graphC_one (p : Option Addr) (n k : Nat) (x : Int) : (graphC (.slice p n k) x).all (·.oneCell') = true := by simp [graphC, Value.oneCell']

end Go.Gou
namespace Go.Proofs.Ytnamnmipgpcjjaa
open Go.RowKit Go.Gou

/-- What the document's reading of a look comes to. -/
def LkP (w : World) (bs : List Nat) (n : Nat) (k : Int) (e : Ending) (w' : World) : Prop :=
  Gou.Mod (fun _ => False) w w' ∧ match lookAt bs n k with
    | some (l, q) => ∃ p1 n1 k1 p2 n2 k2 p3 n3 k3, e = .returned (.tuple #[.agg (lookC l (.slice p1 n1 k1) (.slice p2 n2 k2) (.slice p3 n3 k3)), .int .i64 q, .bool true]) ∧ LookR (fun b => w.heap.size ≤ b) w' l (.slice p1 n1 k1) (.slice p2 n2 k2) (.slice p3 n3 k3)
    | none => ∃ l p1 n1 k1 p2 n2 k2 p3 n3 k3, e = .returned (.tuple #[.agg (lookC l (.slice p1 n1 k1) (.slice p2 n2 k2) (.slice p3 n3 k3)), .int .i64 0, .bool false])

theorem lk_fail {w w' : World} {bs : List Nat} {n : Nat} {k : Int} (h : lookAt bs n k = none) (hm : Gou.Mod (fun _ => False) w w') (l : Lk) (p1 : Option Addr) (n1 k1 : Nat) (p2 : Option Addr) (n2 k2 : Nat) (p3 : Option Addr) (n3 k3 : Nat) :
    LkP w bs n k (.returned (.tuple #[.agg (lookC l (.slice p1 n1 k1) (.slice p2 n2 k2) (.slice p3 n3 k3)), .int .i64 0, .bool false])) w' :=
  ⟨hm, by rw [h]; exact ⟨l, p1, n1, k1, p2, n2, k2, p3, n3, k3, rfl⟩⟩
theorem lk_done {w w' : World} {bs : List Nat} {n q : Nat} {k : Int} {l : Lk} {p1 : Option Addr} {n1 k1 : Nat} {p2 : Option Addr} {n2 k2 : Nat} {p3 : Option Addr} {n3 k3 : Nat} (h : lookAt bs n k = some (l, q)) (hm : Gou.Mod (fun _ => False) w w') (hr : LookR (fun b => w.heap.size ≤ b) w' l (.slice p1 n1 k1) (.slice p2 n2 k2) (.slice p3 n3 k3)) :
    LkP w bs n k (.returned (.tuple #[.agg (lookC l (.slice p1 n1 k1) (.slice p2 n2 k2) (.slice p3 n3 k3)), .int .i64 q, .bool true])) w' :=
  ⟨hm, by rw [h]; exact ⟨p1, n1, k1, p2, n2, k2, p3, n3, k3, rfl, hr⟩⟩

theorem results_look (w : World) (tmps : Array Value) (N : Nat) (cs : Array Value) (hs : cs.size = 28) (a b : Value) (h4 : tmps.getD 6 undef = .pointer (some ⟨N, 0, none⟩)) (h5 : tmps.getD 7 undef = a) (h6 : tmps.getD 8 undef = b) (hB : Blk w N 35 cs) :
    (results Try.f41 tmps).run Try.prog w = .ok (.tuple #[.agg cs, a, b]) w := by
  have h4' : tmps[6]?.getD undef = .pointer (some ⟨N, 0, none⟩) := by simpa using h4
  have h5' : tmps[7]?.getD undef = a := by simpa using h5
  have h6' : tmps[8]?.getD undef = b := by simpa using h6
  have hl := run_loadVar_row (P := Try.prog) w N 35 35 cs (0, 0) _ hB Try.underlying35 rfl (size_look.trans (by rw [hs]))
  simp [results, Try.results41, h4', h5', h6', asAddr, hl]

set_option linter.constructorNameAsVariable false
set_option maxRecDepth 100000

theorem there_look (w : World) : ((w.alloc (.cells LkZ 35)).alloc (.cells LkZ 35)).there (w.heap.size + 1) 0 28 :=
  (RLoc.start w 35 LkZ LkZ).loc.there 0 28 (by simp)
theorem oneR_look : (LkZ).all (·.oneCell') = true := by simp [Value.oneCell']
theorem start_look (w : World) : RLoc w 35 LkZ LkZ (((w.alloc (.cells LkZ 35)).alloc (.cells LkZ 35)).setCells (w.heap.size + 1) 0 (LkZ).toList) := by
  have h := (RLoc.start w 35 LkZ LkZ).puts 0 (LkZ).toList
  rw [setMany_all _ _ rfl] at h
  exact h

set_option maxHeartbeats 4000000 in
theorem lookR_low (w : World) (pb : Option Addr) (cb : Nat) (bs : List Nat) (h : BytesAt (fun _ => True) w (.slice pb bs.length cb) bs) (hby : ∀ x ∈ bs, x < 256) (hl : bs.length ≤ 10000000) (n : Nat) (hn : n ≤ bs.length) (k : Int) (hk : k < 5) :
    Calls Try.prog 41 #[.slice pb bs.length cb, .int .i64 n, .int .i64 k] w (LkP w bs n k) := by
  have H := Lib.hid h
  have Hby := Lib.hid hby
  clear h hby
  have Hk := Lib.hid hk
  have tk : decide (k < 5) = true := decide_eq_true hk
  clear hk
  go_enter Try.func41, Try.ntmps41
  go_wp2_with (first | ((with_reducible refine wpList_buildTo ?g7 35 ?p7 ?o7 ?d7 ?e7 (LkZ) ?f7 ?r7); (case g7 | o7 | e7 => exact rfl); (case f7 => kernel_rfl)) | ((with_reducible refine wpList_store_mid ?g8 35 ?x8 ?y8 ?o8 (w.heap.size + 1) 0 (LkZ) ?h8 ?j8 ?t8 ?i8 ?s8 ?r8); (case g8 | o8 | h8 | j8 => exact rfl); (case t8 => exact there_look w); (case i8 => exact size_look); (case s8 => exact oneR_look); (have Hl0 := Lib.hid (start_look w)); (generalize ((w.alloc (.cells LkZ 35)).alloc (.cells LkZ 35)).setCells (w.heap.size + 1) 0 (LkZ).toList = w0 at *); (have HB : Hid (Blk _ (w.heap.size + 1) 35 LkN) := Lib.hid Hl0.out.loc); (have Hth := Lib.hid (Hl0.out.res.there 0 28 (by simp)))) | ((with_reducible refine wpList_load_row ?g_1 35 ?x_1 ?o_1 (w.heap.size + 1) ?h_1 ?t_1 ?c_1 ?f_1 ?d_1 ?b_1 ?u_1 ?s_1 ?i_1 ?r_1); (case g_1 | o_1 | h_1 => exact rfl); (case b_1 => exact HB.out); (case u_1 => exact Try.underlying35); (case s_1 => exact rfl); (case i_1 => exact size_look)) | ((with_reducible refine wpList_store_mid ?g2_1 35 ?x2_1 ?y_1 ?o2_1 w.heap.size 0 LkN ?h2_1 ?j_1 ?t2_1 ?i2_1 ?s2_1 ?r2_1); (case g2_1 | o2_1 | h2_1 | j_1 => exact rfl); (case t2_1 => exact Hth.out); (case i2_1 => exact size_look); (case s2_1 => exact lookC_one _ _ _ _ _ _ _ _ _ _)) | fail)
  have Hres := Lib.hid (look_low (bs := bs) (n := n) Hk.out)
  have hd := RLoc.done (cs := LkN) Hl0.out rfl
  refine bodyPost_ret (v := .tuple #[.agg LkN, .int .i64 n, .bool true]) (results_look _ _ w.heap.size LkN rfl _ _ rfl rfl rfl hd.2.1) rfl ?_
  exact lk_done Hres.out hd.1 (LookR.nil _ _ _ rfl rfl rfl)

set_option maxHeartbeats 4000000 in
theorem lookR_5 (w : World) (pb : Option Addr) (cb : Nat) (bs : List Nat) (h : BytesAt (fun _ => True) w (.slice pb bs.length cb) bs) (hby : ∀ x ∈ bs, x < 256) (hl : bs.length ≤ 10000000) (n : Nat) (hn : n ≤ bs.length) :
    Calls Try.prog 41 #[.slice pb bs.length cb, .int .i64 n, .int .i64 5] w (LkP w bs n 5) := by
  have H := Lib.hid h
  have Hby := Lib.hid hby
  clear h hby
  go_enter Try.func41, Try.ntmps41
  go_wp2_with (first | ((with_reducible refine wpList_buildTo ?g7 35 ?p7 ?o7 ?d7 ?e7 (LkZ) ?f7 ?r7); (case g7 | o7 | e7 => exact rfl); (case f7 => kernel_rfl)) | ((with_reducible refine wpList_store_mid ?g8 35 ?x8 ?y8 ?o8 (w.heap.size + 1) 0 (LkZ) ?h8 ?j8 ?t8 ?i8 ?s8 ?r8); (case g8 | o8 | h8 | j8 => exact rfl); (case t8 => exact there_look w); (case i8 => exact size_look); (case s8 => exact oneR_look); (have Hl0 := Lib.hid (start_look w)); (generalize ((w.alloc (.cells LkZ 35)).alloc (.cells LkZ 35)).setCells (w.heap.size + 1) 0 (LkZ).toList = w0 at *)) | fail)
  refine (numbersR_any w0 pb cb bs (H.out.mod Hl0.out.mod (fun _ _ _ h => h)) Hby.out hl n 2 hn (by omega)).mono ?_
  rintro e w1 ⟨hm1, hp⟩
  have Hl1 := Lib.hid (Hl0.out.next hm1)
  clear hm1
  rcases ht : timesAt (numAt bs) n 2 with _ | ⟨xs, q⟩
  · rw [ht] at hp
    subst hp
    have Hno : Hid (lookAt bs n 5 = none) := Lib.hid (look5_none ht)
    clear ht
    have HB : Hid (Blk _ (w.heap.size + 1) 35 LkN) := Lib.hid Hl1.out.loc
    have Hth := Lib.hid (Hl1.out.res.there 0 28 (by simp))
    go_wp2_with (first | ((with_reducible refine wpList_load_row ?g_2 35 ?x_2 ?o_2 (w.heap.size + 1) ?h_2 ?t_2 ?c_2 ?f_2 ?d_2 ?b_2 ?u_2 ?s_2 ?i_2 ?r_2); (case g_2 | o_2 | h_2 => exact rfl); (case b_2 => exact HB.out); (case u_2 => exact Try.underlying35); (case s_2 => exact rfl); (case i_2 => exact size_look)) | ((with_reducible refine wpList_store_mid ?g2_2 35 ?x2_2 ?y_2 ?o2_2 w.heap.size 0 LkN ?h2_2 ?j_2 ?t2_2 ?i2_2 ?s2_2 ?r2_2); (case g2_2 | o2_2 | h2_2 | j_2 => exact rfl); (case t2_2 => exact Hth.out); (case i2_2 => exact size_look); (case s2_2 => exact lookC_one _ _ _ _ _ _ _ _ _ _)) | fail)
    have hd := RLoc.done (cs := LkN) Hl1.out rfl
    refine bodyPost_ret (v := .tuple #[.agg LkN, .int .i64 0, .bool false]) (results_look _ _ w.heap.size LkN rfl _ _ rfl rfl rfl hd.2.1) rfl ?_
    exact lk_fail Hno.out hd.1 _ _ _ _ _ _ _ _ _ _
  rw [ht] at hp
  obtain ⟨p, c, rfl, hown, hxl⟩ := hp
  obtain ⟨x, y, m, rfl, hx, hy⟩ := times_two ht
  obtain ⟨gh, rfl, hg0, hg1, hc⟩ := own_ints hown (by omega)
  have c0 : w1.cell? ⟨gh, 0, none⟩ = some (.int .i64 x) := hc 0 (by simp)
  have c1 : w1.cell? ⟨gh, 1, none⟩ = some (.int .i64 y) := hc 1 (by simp)
  have hng : w.heap.size + 1 ≠ gh := by have := Hl0.out.loc.lt; omega
  have Hres := Lib.hid (look5_some hx hy)
  clear hc hown hxl ht hx hy hg0 hg1
  have cl0 : w1.cell? ⟨w.heap.size + 1, 0, none⟩ = some (.int .i64 0) := Hl1.out.loc.cell 0 rfl
  have fl0 : w1.frozen? ⟨w.heap.size + 1, 0, none⟩ = false := Hl1.out.loc.frozen 0
  have cl1 : w1.cell? ⟨w.heap.size + 1, 1, none⟩ = some (.int .i64 0) := Hl1.out.loc.cell 1 rfl
  have fl1 : w1.frozen? ⟨w.heap.size + 1, 1, none⟩ = false := Hl1.out.loc.frozen 1
  have Hl2 : Hid (RLoc w 35 LkZ (lookC { Lk.zero with dx := x, dy := y } (.slice none 0 0) (.slice none 0 0) (.slice none 0 0)) ((w1.setCell ⟨w.heap.size + 1, 0, none⟩ (.int .i64 x)).setCell ⟨w.heap.size + 1, 1, none⟩ (.int .i64 y))) := Lib.hid (Hl1.out.puts 0 [.int .i64 x, .int .i64 y])
  have HB : Hid (Blk _ (w.heap.size + 1) 35 (lookC { Lk.zero with dx := x, dy := y } (.slice none 0 0) (.slice none 0 0) (.slice none 0 0))) := Lib.hid Hl2.out.loc
  have Hth := Lib.hid (Hl2.out.res.there 0 28 (by simp))
  go_wp2_with (first | ((with_reducible refine wpList_load_row ?g_3 35 ?x_3 ?o_3 (w.heap.size + 1) ?h_3 ?t_3 ?c_3 ?f_3 ?d_3 ?b_3 ?u_3 ?s_3 ?i_3 ?r_3); (case g_3 | o_3 | h_3 => exact rfl); (case b_3 => exact HB.out); (case u_3 => exact Try.underlying35); (case s_3 => exact rfl); (case i_3 => exact size_look)) | ((with_reducible refine wpList_store_mid ?g2_3 35 ?x2_3 ?y_3 ?o2_3 w.heap.size 0 (lookC { Lk.zero with dx := x, dy := y } (.slice none 0 0) (.slice none 0 0) (.slice none 0 0)) ?h2_3 ?j_3 ?t2_3 ?i2_3 ?s2_3 ?r2_3); (case g2_3 | o2_3 | h2_3 | j_3 => exact rfl); (case t2_3 => exact Hth.out); (case i2_3 => exact size_look); (case s2_3 => exact lookC_one _ _ _ _ _ _ _ _ _ _)) | fail)
  have hd := RLoc.done (cs := lookC { Lk.zero with dx := x, dy := y } (.slice none 0 0) (.slice none 0 0) (.slice none 0 0)) Hl2.out rfl
  refine bodyPost_ret (v := .tuple #[.agg (lookC { Lk.zero with dx := x, dy := y } (.slice none 0 0) (.slice none 0 0) (.slice none 0 0)), .int .i64 q, .bool true]) (results_look _ _ w.heap.size (lookC { Lk.zero with dx := x, dy := y } (.slice none 0 0) (.slice none 0 0) (.slice none 0 0)) rfl _ _ rfl rfl rfl hd.2.1) rfl ?_
  exact lk_done Hres.out hd.1 (LookR.nil _ _ _ rfl rfl rfl)

set_option maxHeartbeats 4000000 in
theorem lookR_7 (w : World) (pb : Option Addr) (cb : Nat) (bs : List Nat) (h : BytesAt (fun _ => True) w (.slice pb bs.length cb) bs) (hby : ∀ x ∈ bs, x < 256) (hl : bs.length ≤ 10000000) (n : Nat) (hn : n ≤ bs.length) :
    Calls Try.prog 41 #[.slice pb bs.length cb, .int .i64 n, .int .i64 7] w (LkP w bs n 7) := by
  have H := Lib.hid h
  have Hby := Lib.hid hby
  clear h hby
  go_enter Try.func41, Try.ntmps41
  go_wp2_with (first | ((with_reducible refine wpList_buildTo ?g7 35 ?p7 ?o7 ?d7 ?e7 (LkZ) ?f7 ?r7); (case g7 | o7 | e7 => exact rfl); (case f7 => kernel_rfl)) | ((with_reducible refine wpList_store_mid ?g8 35 ?x8 ?y8 ?o8 (w.heap.size + 1) 0 (LkZ) ?h8 ?j8 ?t8 ?i8 ?s8 ?r8); (case g8 | o8 | h8 | j8 => exact rfl); (case t8 => exact there_look w); (case i8 => exact size_look); (case s8 => exact oneR_look); (have Hl0 := Lib.hid (start_look w)); (generalize ((w.alloc (.cells LkZ 35)).alloc (.cells LkZ 35)).setCells (w.heap.size + 1) 0 (LkZ).toList = w0 at *)) | fail)
  refine (numbersR_any w0 pb cb bs (H.out.mod Hl0.out.mod (fun _ _ _ h => h)) Hby.out hl n 1 hn (by omega)).mono ?_
  rintro e w1 ⟨hm1, hp⟩
  have Hl1 := Lib.hid (Hl0.out.next hm1)
  clear hm1
  rcases ht : timesAt (numAt bs) n 1 with _ | ⟨xs, q⟩
  · rw [ht] at hp
    subst hp
    have Hno : Hid (lookAt bs n 7 = none) := Lib.hid (by rw [look7, times_one_none ht]; rfl)
    clear ht
    have HB : Hid (Blk _ (w.heap.size + 1) 35 LkN) := Lib.hid Hl1.out.loc
    have Hth := Lib.hid (Hl1.out.res.there 0 28 (by simp))
    go_wp2_with (first | ((with_reducible refine wpList_load_row ?g_4 35 ?x_4 ?o_4 (w.heap.size + 1) ?h_4 ?t_4 ?c_4 ?f_4 ?d_4 ?b_4 ?u_4 ?s_4 ?i_4 ?r_4); (case g_4 | o_4 | h_4 => exact rfl); (case b_4 => exact HB.out); (case u_4 => exact Try.underlying35); (case s_4 => exact rfl); (case i_4 => exact size_look)) | ((with_reducible refine wpList_store_mid ?g2_4 35 ?x2_4 ?y_4 ?o2_4 w.heap.size 0 LkN ?h2_4 ?j_4 ?t2_4 ?i2_4 ?s2_4 ?r2_4); (case g2_4 | o2_4 | h2_4 | j_4 => exact rfl); (case t2_4 => exact Hth.out); (case i2_4 => exact size_look); (case s2_4 => exact lookC_one _ _ _ _ _ _ _ _ _ _)) | fail)
    have hd := RLoc.done (cs := LkN) Hl1.out rfl
    refine bodyPost_ret (v := .tuple #[.agg LkN, .int .i64 0, .bool false]) (results_look _ _ w.heap.size LkN rfl _ _ rfl rfl rfl hd.2.1) rfl ?_
    exact lk_fail Hno.out hd.1 _ _ _ _ _ _ _ _ _ _
  rw [ht] at hp
  obtain ⟨p, c, rfl, hown, hxl⟩ := hp
  obtain ⟨x, rfl, hx⟩ := times_one ht
  obtain ⟨gh, rfl, hg0, hg1, hc⟩ := own_ints hown (by omega)
  have c0 : w1.cell? ⟨gh, 0, none⟩ = some (.int .i64 x) := hc 0 (by simp)
  have hq := (num_spec Hby.out).end_le hx hn
  have hng : w.heap.size + 1 ≠ gh := by have := Hl0.out.loc.lt; omega
  have Hx := Lib.hid hx
  clear hc hown hxl ht hx hg0 hg1
  have Hres : Hid (lookAt bs n 7 = some ({ Lk.zero with opacity := x }, q)) := Lib.hid (by rw [look7, Hx.out]; rfl)
  have cl7 : w1.cell? ⟨w.heap.size + 1, 7, none⟩ = some (.int .i64 0) := Hl1.out.loc.cell 7 rfl
  have fl7 : w1.frozen? ⟨w.heap.size + 1, 7, none⟩ = false := Hl1.out.loc.frozen 7
  have Hl2 : Hid (RLoc w 35 LkZ (lookC { Lk.zero with opacity := x } (.slice none 0 0) (.slice none 0 0) (.slice none 0 0)) (w1.setCell ⟨w.heap.size + 1, 7, none⟩ (.int .i64 x))) := Lib.hid (Hl1.out.put 7 (.int .i64 x))
  have HB : Hid (Blk _ (w.heap.size + 1) 35 (lookC { Lk.zero with opacity := x } (.slice none 0 0) (.slice none 0 0) (.slice none 0 0))) := Lib.hid Hl2.out.loc
  have Hth := Lib.hid (Hl2.out.res.there 0 28 (by simp))
  go_wp2_with (first | ((with_reducible refine wpList_load_row ?g_5 35 ?x_5 ?o_5 (w.heap.size + 1) ?h_5 ?t_5 ?c_5 ?f_5 ?d_5 ?b_5 ?u_5 ?s_5 ?i_5 ?r_5); (case g_5 | o_5 | h_5 => exact rfl); (case b_5 => exact HB.out); (case u_5 => exact Try.underlying35); (case s_5 => exact rfl); (case i_5 => exact size_look)) | ((with_reducible refine wpList_store_mid ?g2_5 35 ?x2_5 ?y_5 ?o2_5 w.heap.size 0 (lookC { Lk.zero with opacity := x } (.slice none 0 0) (.slice none 0 0) (.slice none 0 0)) ?h2_5 ?j_5 ?t2_5 ?i2_5 ?s2_5 ?r2_5); (case g2_5 | o2_5 | h2_5 | j_5 => exact rfl); (case t2_5 => exact Hth.out); (case i2_5 => exact size_look); (case s2_5 => exact lookC_one _ _ _ _ _ _ _ _ _ _)) | fail)
  have hd := RLoc.done (cs := lookC { Lk.zero with opacity := x } (.slice none 0 0) (.slice none 0 0) (.slice none 0 0)) Hl2.out rfl
  refine bodyPost_ret (v := .tuple #[.agg (lookC { Lk.zero with opacity := x } (.slice none 0 0) (.slice none 0 0) (.slice none 0 0)), .int .i64 q, .bool true]) (results_look _ _ w.heap.size (lookC { Lk.zero with opacity := x } (.slice none 0 0) (.slice none 0 0) (.slice none 0 0)) rfl _ _ rfl rfl rfl hd.2.1) rfl ?_
  exact lk_done Hres.out hd.1 (LookR.nil _ _ _ rfl rfl rfl)

set_option maxHeartbeats 4000000 in
theorem lookR_8 (w : World) (pb : Option Addr) (cb : Nat) (bs : List Nat) (h : BytesAt (fun _ => True) w (.slice pb bs.length cb) bs) (hby : ∀ x ∈ bs, x < 256) (hl : bs.length ≤ 10000000) (n : Nat) (hn : n ≤ bs.length) :
    Calls Try.prog 41 #[.slice pb bs.length cb, .int .i64 n, .int .i64 8] w (LkP w bs n 8) := by
  have H := Lib.hid h
  have Hby := Lib.hid hby
  clear h hby
  go_enter Try.func41, Try.ntmps41
  go_wp2_with (first | ((with_reducible refine wpList_buildTo ?g7 35 ?p7 ?o7 ?d7 ?e7 (LkZ) ?f7 ?r7); (case g7 | o7 | e7 => exact rfl); (case f7 => kernel_rfl)) | ((with_reducible refine wpList_store_mid ?g8 35 ?x8 ?y8 ?o8 (w.heap.size + 1) 0 (LkZ) ?h8 ?j8 ?t8 ?i8 ?s8 ?r8); (case g8 | o8 | h8 | j8 => exact rfl); (case t8 => exact there_look w); (case i8 => exact size_look); (case s8 => exact oneR_look); (have Hl0 := Lib.hid (start_look w)); (generalize ((w.alloc (.cells LkZ 35)).alloc (.cells LkZ 35)).setCells (w.heap.size + 1) 0 (LkZ).toList = w0 at *)) | fail)
  refine (numbersR_any w0 pb cb bs (H.out.mod Hl0.out.mod (fun _ _ _ h => h)) Hby.out hl n 1 hn (by omega)).mono ?_
  rintro e w1 ⟨hm1, hp⟩
  have Hl1 := Lib.hid (Hl0.out.next hm1)
  clear hm1
  rcases ht : timesAt (numAt bs) n 1 with _ | ⟨xs, q⟩
  · rw [ht] at hp
    subst hp
    have Hno : Hid (lookAt bs n 8 = none) := Lib.hid (by rw [look8, times_one_none ht]; rfl)
    clear ht
    have HB : Hid (Blk _ (w.heap.size + 1) 35 LkN) := Lib.hid Hl1.out.loc
    have Hth := Lib.hid (Hl1.out.res.there 0 28 (by simp))
    go_wp2_with (first | ((with_reducible refine wpList_load_row ?g_6 35 ?x_6 ?o_6 (w.heap.size + 1) ?h_6 ?t_6 ?c_6 ?f_6 ?d_6 ?b_6 ?u_6 ?s_6 ?i_6 ?r_6); (case g_6 | o_6 | h_6 => exact rfl); (case b_6 => exact HB.out); (case u_6 => exact Try.underlying35); (case s_6 => exact rfl); (case i_6 => exact size_look)) | ((with_reducible refine wpList_store_mid ?g2_6 35 ?x2_6 ?y_6 ?o2_6 w.heap.size 0 LkN ?h2_6 ?j_6 ?t2_6 ?i2_6 ?s2_6 ?r2_6); (case g2_6 | o2_6 | h2_6 | j_6 => exact rfl); (case t2_6 => exact Hth.out); (case i2_6 => exact size_look); (case s2_6 => exact lookC_one _ _ _ _ _ _ _ _ _ _)) | fail)
    have hd := RLoc.done (cs := LkN) Hl1.out rfl
    refine bodyPost_ret (v := .tuple #[.agg LkN, .int .i64 0, .bool false]) (results_look _ _ w.heap.size LkN rfl _ _ rfl rfl rfl hd.2.1) rfl ?_
    exact lk_fail Hno.out hd.1 _ _ _ _ _ _ _ _ _ _
  rw [ht] at hp
  obtain ⟨p, c, rfl, hown, hxl⟩ := hp
  obtain ⟨x, rfl, hx⟩ := times_one ht
  obtain ⟨gh, rfl, hg0, hg1, hc⟩ := own_ints hown (by omega)
  have c0 : w1.cell? ⟨gh, 0, none⟩ = some (.int .i64 x) := hc 0 (by simp)
  have hq := (num_spec Hby.out).end_le hx hn
  have hng : w.heap.size + 1 ≠ gh := by have := Hl0.out.loc.lt; omega
  have Hx := Lib.hid hx
  clear hc hown hxl ht hx hg0 hg1
  have Hres : Hid (lookAt bs n 8 = some ({ Lk.zero with mode := x }, q)) := Lib.hid (by rw [look8, Hx.out]; rfl)
  have cl8 : w1.cell? ⟨w.heap.size + 1, 8, none⟩ = some (.int .i64 0) := Hl1.out.loc.cell 8 rfl
  have fl8 : w1.frozen? ⟨w.heap.size + 1, 8, none⟩ = false := Hl1.out.loc.frozen 8
  have Hl2 : Hid (RLoc w 35 LkZ (lookC { Lk.zero with mode := x } (.slice none 0 0) (.slice none 0 0) (.slice none 0 0)) (w1.setCell ⟨w.heap.size + 1, 8, none⟩ (.int .i64 x))) := Lib.hid (Hl1.out.put 8 (.int .i64 x))
  have HB : Hid (Blk _ (w.heap.size + 1) 35 (lookC { Lk.zero with mode := x } (.slice none 0 0) (.slice none 0 0) (.slice none 0 0))) := Lib.hid Hl2.out.loc
  have Hth := Lib.hid (Hl2.out.res.there 0 28 (by simp))
  go_wp2_with (first | ((with_reducible refine wpList_load_row ?g_7 35 ?x_7 ?o_7 (w.heap.size + 1) ?h_7 ?t_7 ?c_7 ?f_7 ?d_7 ?b_7 ?u_7 ?s_7 ?i_7 ?r_7); (case g_7 | o_7 | h_7 => exact rfl); (case b_7 => exact HB.out); (case u_7 => exact Try.underlying35); (case s_7 => exact rfl); (case i_7 => exact size_look)) | ((with_reducible refine wpList_store_mid ?g2_7 35 ?x2_7 ?y_7 ?o2_7 w.heap.size 0 (lookC { Lk.zero with mode := x } (.slice none 0 0) (.slice none 0 0) (.slice none 0 0)) ?h2_7 ?j_7 ?t2_7 ?i2_7 ?s2_7 ?r2_7); (case g2_7 | o2_7 | h2_7 | j_7 => exact rfl); (case t2_7 => exact Hth.out); (case i2_7 => exact size_look); (case s2_7 => exact lookC_one _ _ _ _ _ _ _ _ _ _)) | fail)
  have hd := RLoc.done (cs := lookC { Lk.zero with mode := x } (.slice none 0 0) (.slice none 0 0) (.slice none 0 0)) Hl2.out rfl
  refine bodyPost_ret (v := .tuple #[.agg (lookC { Lk.zero with mode := x } (.slice none 0 0) (.slice none 0 0) (.slice none 0 0)), .int .i64 q, .bool true]) (results_look _ _ w.heap.size (lookC { Lk.zero with mode := x } (.slice none 0 0) (.slice none 0 0) (.slice none 0 0)) rfl _ _ rfl rfl rfl hd.2.1) rfl ?_
  exact lk_done Hres.out hd.1 (LookR.nil _ _ _ rfl rfl rfl)

set_option maxHeartbeats 4000000 in
theorem lookR_9 (w : World) (pb : Option Addr) (cb : Nat) (bs : List Nat) (h : BytesAt (fun _ => True) w (.slice pb bs.length cb) bs) (hby : ∀ x ∈ bs, x < 256) (hl : bs.length ≤ 10000000) (n : Nat) (hn : n ≤ bs.length) :
    Calls Try.prog 41 #[.slice pb bs.length cb, .int .i64 n, .int .i64 9] w (LkP w bs n 9) := by
  have H := Lib.hid h
  have Hby := Lib.hid hby
  clear h hby
  go_enter Try.func41, Try.ntmps41
  go_wp2_with (first | ((with_reducible refine wpList_buildTo ?g7 35 ?p7 ?o7 ?d7 ?e7 (LkZ) ?f7 ?r7); (case g7 | o7 | e7 => exact rfl); (case f7 => kernel_rfl)) | ((with_reducible refine wpList_store_mid ?g8 35 ?x8 ?y8 ?o8 (w.heap.size + 1) 0 (LkZ) ?h8 ?j8 ?t8 ?i8 ?s8 ?r8); (case g8 | o8 | h8 | j8 => exact rfl); (case t8 => exact there_look w); (case i8 => exact size_look); (case s8 => exact oneR_look); (have Hl0 := Lib.hid (start_look w)); (generalize ((w.alloc (.cells LkZ 35)).alloc (.cells LkZ 35)).setCells (w.heap.size + 1) 0 (LkZ).toList = w0 at *)) | fail)
  refine (contentR_any w0 pb cb bs (H.out.mod Hl0.out.mod (fun _ _ _ h => h)) Hby.out hl n hn).mono ?_
  rintro e w1 ⟨hm1, hp⟩
  have Hl1 := Lib.hid (Hl0.out.next hm1)
  clear hm1
  rcases ht : contentAt bs n with _ | ⟨c, q⟩
  · rw [ht] at hp
    obtain ⟨c, rfl⟩ := hp
    have Hno : Hid (lookAt bs n 9 = none) := Lib.hid (by rw [look9, ht]; rfl)
    clear ht
    have Hbx := Lib.hid (box_put w1 30 CtZ (contC c (.slice none 0 0)) rfl)
    have Hl1b := Lib.hid (Hl1.out.next Hbx.out.1)
    have Ht1 := Lib.hid (Hl1b.out.loc.there 9 13 (by simp))
    have hl2 := Hl1b.out.puts 9 (contC c (.slice none 0 0)).toList
    rw [setMany_look] at hl2
    have Hl2 := Lib.hid hl2
    clear hl2
    have HB : Hid (Blk _ (w.heap.size + 1) 35 (lookC { Lk.zero with content := c } (.slice none 0 0) (.slice none 0 0) (.slice none 0 0))) := Lib.hid Hl2.out.loc
    have Hth := Lib.hid (Hl2.out.res.there 0 28 (by simp))
    go_wp2_with (first | ((with_reducible refine wpList_store_mid ?g_8 30 ?x_8 ?y_8 ?o_8 w1.heap.size 0 (contC c (.slice none 0 0)) ?h_8 ?j_8 ?t_8 ?i_8 ?s_8 ?r_8); (case g_8 | o_8 | h_8 | j_8 => exact rfl); (case t_8 => exact Hbx.out.2.2); (case i_8 => exact size_content.trans (by simp [contC])); (case s_8 => exact contC_one _ _ _ _)) | ((with_reducible refine wpList_load_row ?g_9 30 ?x_9 ?o_9 w1.heap.size ?h_9 ?t_9 ?c_9 ?f_9 ?d_9 ?b_9 ?u_9 ?s_9 ?i_9 ?r_9); (case g_9 | o_9 | h_9 => exact rfl); (case b_9 => exact Hbx.out.2.1); (case u_9 => exact Try.underlying30); (case s_9 => exact rfl); (case i_9 => exact size_content.trans (by simp [contC]))) | ((with_reducible refine wpList_store_mid ?g_a 30 ?x_a ?y_a ?o_a (w.heap.size + 1) 9 (contC c (.slice none 0 0)) ?h_a ?j_a ?t_a ?i_a ?s_a ?r_a); (case g_a | o_a | h_a | j_a => exact rfl); (case t_a => exact Ht1.out); (case i_a => exact size_content.trans (by simp [contC])); (case s_a => exact contC_one _ _ _ _)) | ((with_reducible refine wpList_load_row ?g_b 35 ?x_b ?o_b (w.heap.size + 1) ?h_b ?t_b ?c_b ?f_b ?d_b ?b_b ?u_b ?s_b ?i_b ?r_b); (case g_b | o_b | h_b => exact rfl); (case b_b => exact HB.out); (case u_b => exact Try.underlying35); (case s_b => exact rfl); (case i_b => exact size_look)) | ((with_reducible refine wpList_store_mid ?g2_b 35 ?x2_b ?y_b ?o2_b w.heap.size 0 (lookC { Lk.zero with content := c } (.slice none 0 0) (.slice none 0 0) (.slice none 0 0)) ?h2_b ?j_b ?t2_b ?i2_b ?s2_b ?r2_b); (case g2_b | o2_b | h2_b | j_b => exact rfl); (case t2_b => exact Hth.out); (case i2_b => exact size_look); (case s2_b => exact lookC_one _ _ _ _ _ _ _ _ _ _)) | fail)
    have hd := RLoc.done (cs := lookC { Lk.zero with content := c } (.slice none 0 0) (.slice none 0 0) (.slice none 0 0)) Hl2.out rfl
    refine bodyPost_ret (v := .tuple #[.agg (lookC { Lk.zero with content := c } (.slice none 0 0) (.slice none 0 0) (.slice none 0 0)), .int .i64 0, .bool false]) (results_look _ _ w.heap.size (lookC { Lk.zero with content := c } (.slice none 0 0) (.slice none 0 0) (.slice none 0 0)) rfl _ _ rfl rfl rfl hd.2.1) rfl ?_
    exact lk_fail Hno.out hd.1 _ _ _ _ _ _ _ _ _ _
  rw [ht] at hp
  obtain ⟨p, j, rfl, hpix⟩ := hp
  have Hres : Hid (lookAt bs n 9 = some ({ Lk.zero with content := c }, q)) := Lib.hid (by rw [look9, ht]; rfl)
  have Hr : Hid (LookR (fun b => w0.heap.size ≤ b) w1 { Lk.zero with content := c } (.slice p c.pix.length j) (.slice none 0 0) (.slice none 0 0)) := Lib.hid ⟨hpix, NodesR.nil _ _, NodesR.nil _ _⟩
  have Hs0 := Lib.hid Hl0.out.loc.lt
  clear ht hpix
  have Hbx := Lib.hid (box_put w1 30 CtZ (contC c (.slice p c.pix.length j)) rfl)
  have Hl1b := Lib.hid (Hl1.out.next Hbx.out.1)
  have Ht1 := Lib.hid (Hl1b.out.loc.there 9 13 (by simp))
  have hl2 := Hl1b.out.puts 9 (contC c (.slice p c.pix.length j)).toList
  rw [setMany_look] at hl2
  have Hl2 := Lib.hid hl2
  clear hl2
  have HB : Hid (Blk _ (w.heap.size + 1) 35 (lookC { Lk.zero with content := c } (.slice p c.pix.length j) (.slice none 0 0) (.slice none 0 0))) := Lib.hid Hl2.out.loc
  have Hth := Lib.hid (Hl2.out.res.there 0 28 (by simp))
  go_wp2_with (first | ((with_reducible refine wpList_store_mid ?g_c 30 ?x_c ?y_c ?o_c w1.heap.size 0 (contC c (.slice p c.pix.length j)) ?h_c ?j_c ?t_c ?i_c ?s_c ?r_c); (case g_c | o_c | h_c | j_c => exact rfl); (case t_c => exact Hbx.out.2.2); (case i_c => exact size_content.trans (by simp [contC])); (case s_c => exact contC_one _ _ _ _)) | ((with_reducible refine wpList_load_row ?g_d 30 ?x_d ?o_d w1.heap.size ?h_d ?t_d ?c_d ?f_d ?d_d ?b_d ?u_d ?s_d ?i_d ?r_d); (case g_d | o_d | h_d => exact rfl); (case b_d => exact Hbx.out.2.1); (case u_d => exact Try.underlying30); (case s_d => exact rfl); (case i_d => exact size_content.trans (by simp [contC]))) | ((with_reducible refine wpList_store_mid ?g_e 30 ?x_e ?y_e ?o_e (w.heap.size + 1) 9 (contC c (.slice p c.pix.length j)) ?h_e ?j_e ?t_e ?i_e ?s_e ?r_e); (case g_e | o_e | h_e | j_e => exact rfl); (case t_e => exact Ht1.out); (case i_e => exact size_content.trans (by simp [contC])); (case s_e => exact contC_one _ _ _ _)) | ((with_reducible refine wpList_load_row ?g_f 35 ?x_f ?o_f (w.heap.size + 1) ?h_f ?t_f ?c_f ?f_f ?d_f ?b_f ?u_f ?s_f ?i_f ?r_f); (case g_f | o_f | h_f => exact rfl); (case b_f => exact HB.out); (case u_f => exact Try.underlying35); (case s_f => exact rfl); (case i_f => exact size_look)) | ((with_reducible refine wpList_store_mid ?g2_f 35 ?x2_f ?y_f ?o2_f w.heap.size 0 (lookC { Lk.zero with content := c } (.slice p c.pix.length j) (.slice none 0 0) (.slice none 0 0)) ?h2_f ?j_f ?t2_f ?i2_f ?s2_f ?r2_f); (case g2_f | o2_f | h2_f | j_f => exact rfl); (case t2_f => exact Hth.out); (case i2_f => exact size_look); (case s2_f => exact lookC_one _ _ _ _ _ _ _ _ _ _)) | fail)
  have hd := RLoc.done (cs := lookC { Lk.zero with content := c } (.slice p c.pix.length j) (.slice none 0 0) (.slice none 0 0)) Hl2.out rfl
  refine bodyPost_ret (v := .tuple #[.agg (lookC { Lk.zero with content := c } (.slice p c.pix.length j) (.slice none 0 0) (.slice none 0 0)), .int .i64 q, .bool true]) (results_look _ _ w.heap.size (lookC { Lk.zero with content := c } (.slice p c.pix.length j) (.slice none 0 0) (.slice none 0 0)) rfl _ _ rfl rfl rfl hd.2.1) rfl ?_
  exact lk_done Hres.out hd.1 (LookR.far (Hr.out.mod Hbx.out.1 (fun _ _ _ h => h)) (Mod.two hd.2.2) (by have := Hs0.out; omega) (by have := Hs0.out; omega) (by have := Hs0.out; omega))

set_option maxHeartbeats 4000000 in
theorem lookR_10 (w : World) (pb : Option Addr) (cb : Nat) (bs : List Nat) (h : BytesAt (fun _ => True) w (.slice pb bs.length cb) bs) (hby : ∀ x ∈ bs, x < 256) (hl : bs.length ≤ 10000000) (n : Nat) (hn : n ≤ bs.length) :
    Calls Try.prog 41 #[.slice pb bs.length cb, .int .i64 n, .int .i64 10] w (LkP w bs n 10) := by
  have H := Lib.hid h
  have Hby := Lib.hid hby
  clear h hby
  go_enter Try.func41, Try.ntmps41
  go_wp2_with (first | ((with_reducible refine wpList_buildTo ?g7 35 ?p7 ?o7 ?d7 ?e7 (LkZ) ?f7 ?r7); (case g7 | o7 | e7 => exact rfl); (case f7 => kernel_rfl)) | ((with_reducible refine wpList_store_mid ?g8 35 ?x8 ?y8 ?o8 (w.heap.size + 1) 0 (LkZ) ?h8 ?j8 ?t8 ?i8 ?s8 ?r8); (case g8 | o8 | h8 | j8 => exact rfl); (case t8 => exact there_look w); (case i8 => exact size_look); (case s8 => exact oneR_look); (have Hl0 := Lib.hid (start_look w)); (generalize ((w.alloc (.cells LkZ 35)).alloc (.cells LkZ 35)).setCells (w.heap.size + 1) 0 (LkZ).toList = w0 at *)) | fail)
  refine (numbersR_any w0 pb cb bs (H.out.mod Hl0.out.mod (fun _ _ _ h => h)) Hby.out hl n 1 hn (by omega)).mono ?_
  rintro e w1 ⟨hm1, hp⟩
  have Hl1 := Lib.hid (Hl0.out.next hm1)
  clear hm1
  rcases ht : timesAt (numAt bs) n 1 with _ | ⟨xs, q⟩
  · rw [ht] at hp
    subst hp
    have Hno : Hid (lookAt bs n 10 = none) := Lib.hid (by rw [look10, flag_none ht]; rfl)
    clear ht
    have HB : Hid (Blk _ (w.heap.size + 1) 35 LkN) := Lib.hid Hl1.out.loc
    have Hth := Lib.hid (Hl1.out.res.there 0 28 (by simp))
    go_wp2_with (first | ((with_reducible refine wpList_load_row ?g_o 35 ?x_o ?o_o (w.heap.size + 1) ?h_o ?t_o ?c_o ?f_o ?d_o ?b_o ?u_o ?s_o ?i_o ?r_o); (case g_o | o_o | h_o => exact rfl); (case b_o => exact HB.out); (case u_o => exact Try.underlying35); (case s_o => exact rfl); (case i_o => exact size_look)) | ((with_reducible refine wpList_store_mid ?g2_o 35 ?x2_o ?y_o ?o2_o w.heap.size 0 LkN ?h2_o ?j_o ?t2_o ?i2_o ?s2_o ?r2_o); (case g2_o | o2_o | h2_o | j_o => exact rfl); (case t2_o => exact Hth.out); (case i2_o => exact size_look); (case s2_o => exact lookC_one _ _ _ _ _ _ _ _ _ _)) | fail)
    have hd := RLoc.done (cs := LkN) Hl1.out rfl
    refine bodyPost_ret (v := .tuple #[.agg LkN, .int .i64 0, .bool false]) (results_look _ _ w.heap.size LkN rfl _ _ rfl rfl rfl hd.2.1) rfl ?_
    exact lk_fail Hno.out hd.1 _ _ _ _ _ _ _ _ _ _
  rw [ht] at hp
  obtain ⟨p, c, rfl, hown, hxl⟩ := hp
  obtain ⟨x, rfl, hx⟩ := times_one ht
  obtain ⟨gh, rfl, hg0, hg1, hc⟩ := own_ints hown (by omega)
  have c0 : w1.cell? ⟨gh, 0, none⟩ = some (.int .i64 x) := hc 0 (by simp)
  have hq := (num_spec Hby.out).end_le hx hn
  have hng : w.heap.size + 1 ≠ gh := by have := Hl0.out.loc.lt; omega
  have Hx := Lib.hid hx
  clear hc hown hxl ht hx hg0 hg1
  by_cases hx0 : x = 0
  · subst hx0
    have Hres : Hid (lookAt bs n 10 = some (Lk.zero, q)) := Lib.hid (by rw [look10, flag_zero Hx.out]; rfl)
    have HB : Hid (Blk _ (w.heap.size + 1) 35 LkN) := Lib.hid Hl1.out.loc
    have Hth := Lib.hid (Hl1.out.res.there 0 28 (by simp))
    go_wp2_with (first | ((with_reducible refine wpList_load_row ?g_p 35 ?x_p ?o_p (w.heap.size + 1) ?h_p ?t_p ?c_p ?f_p ?d_p ?b_p ?u_p ?s_p ?i_p ?r_p); (case g_p | o_p | h_p => exact rfl); (case b_p => exact HB.out); (case u_p => exact Try.underlying35); (case s_p => exact rfl); (case i_p => exact size_look)) | ((with_reducible refine wpList_store_mid ?g2_p 35 ?x2_p ?y_p ?o2_p w.heap.size 0 LkN ?h2_p ?j_p ?t2_p ?i2_p ?s2_p ?r2_p); (case g2_p | o2_p | h2_p | j_p => exact rfl); (case t2_p => exact Hth.out); (case i2_p => exact size_look); (case s2_p => exact lookC_one _ _ _ _ _ _ _ _ _ _)) | fail)
    have hd := RLoc.done (cs := LkN) Hl1.out rfl
    refine bodyPost_ret (v := .tuple #[.agg LkN, .int .i64 q, .bool true]) (results_look _ _ w.heap.size LkN rfl _ _ rfl rfl rfl hd.2.1) rfl ?_
    exact lk_done Hres.out hd.1 (LookR.nil _ _ _ rfl rfl rfl)
  have t0 : (x == 0) = false := by simpa using hx0
  have t0' : (x != 0) = true := by simpa using hx0
  by_cases hx1 : x = 1
  case neg =>
    have t1 : (x == 1) = false := by simpa using hx1
    have t1' : (x != 1) = true := by simpa using hx1
    have Hno : Hid (lookAt bs n 10 = none) := Lib.hid (by rw [look10, flag_bad Hx.out hx0 hx1]; rfl)
    clear hx0 hx1
    have HB : Hid (Blk _ (w.heap.size + 1) 35 LkN) := Lib.hid Hl1.out.loc
    have Hth := Lib.hid (Hl1.out.res.there 0 28 (by simp))
    go_wp2_with (first | ((with_reducible refine wpList_load_row ?g_q 35 ?x_q ?o_q (w.heap.size + 1) ?h_q ?t_q ?c_q ?f_q ?d_q ?b_q ?u_q ?s_q ?i_q ?r_q); (case g_q | o_q | h_q => exact rfl); (case b_q => exact HB.out); (case u_q => exact Try.underlying35); (case s_q => exact rfl); (case i_q => exact size_look)) | ((with_reducible refine wpList_store_mid ?g2_q 35 ?x2_q ?y_q ?o2_q w.heap.size 0 LkN ?h2_q ?j_q ?t2_q ?i2_q ?s2_q ?r2_q); (case g2_q | o2_q | h2_q | j_q => exact rfl); (case t2_q => exact Hth.out); (case i2_q => exact size_look); (case s2_q => exact lookC_one _ _ _ _ _ _ _ _ _ _)) | fail)
    have hd := RLoc.done (cs := LkN) Hl1.out rfl
    refine bodyPost_ret (v := .tuple #[.agg LkN, .int .i64 0, .bool false]) (results_look _ _ w.heap.size LkN rfl _ _ rfl rfl rfl hd.2.1) rfl ?_
    exact lk_fail Hno.out hd.1 _ _ _ _ _ _ _ _ _ _
  subst hx1
  clear hx0 t0 t0'
  have Hfl := Lib.hid (flag_one Hx.out)
  clear Hx
  go_wp2_with fail
  clear c0
  refine (graphR_any w1 pb cb bs (H.out.mod Hl1.out.mod (fun _ _ _ h => h)) Hby.out hl q hq).mono ?_
  rintro e w2 ⟨hm2, hp⟩
  have Hl2 := Lib.hid (Hl1.out.next hm2)
  clear hm2
  rcases ht : graphAt bs q with _ | ⟨gr, q2⟩
  · rw [ht] at hp
    obtain ⟨p, j, c, x, rfl⟩ := hp
    have Hno : Hid (lookAt bs n 10 = none) := Lib.hid (by rw [look10, Hfl.out, Option.bind_some, if_pos rfl, ht]; rfl)
    clear ht
    have Hbx := Lib.hid (box_put w2 33 #[.slice none 0 0, .int .i64 0] (graphC (.slice p j c) x) rfl)
    have Hlb := Lib.hid (Hl2.out.next Hbx.out.1)
    have cl22 : ((w2.alloc (.cells #[.slice none 0 0, .int .i64 0] 33)).setCells w2.heap.size 0 (graphC (.slice p j c) x).toList).cell? ⟨w.heap.size + 1, 22, none⟩ = some (.bool false) := Hlb.out.loc.cell 22 rfl
    have fl22 : ((w2.alloc (.cells #[.slice none 0 0, .int .i64 0] 33)).setCells w2.heap.size 0 (graphC (.slice p j c) x).toList).frozen? ⟨w.heap.size + 1, 22, none⟩ = false := Hlb.out.loc.frozen 22
    have Htg := Lib.hid ((Hlb.out.put 22 (.bool true)).loc.there 23 2 (by simp))
    have Hbl : Hid (Blk (((w2.alloc (.cells #[.slice none 0 0, .int .i64 0] 33)).setCells w2.heap.size 0 (graphC (.slice p j c) x).toList).setCell ⟨w.heap.size + 1, 22, none⟩ (.bool true)) w2.heap.size 33 (graphC (.slice p j c) x)) := Lib.hid (Hbx.out.2.1.mod (Gou.Mod.setCell _ ⟨w.heap.size + 1, 22, none⟩ _) (by have := Hl2.out.loc.lt; simp; omega))
    have Hl3 : Hid (RLoc w 35 LkZ (lookC { Lk.zero with hasFilt := true, filt := ⟨[], x⟩ } (.slice none 0 0) (.slice p j c) (.slice none 0 0)) ((((w2.alloc (.cells #[.slice none 0 0, .int .i64 0] 33)).setCells w2.heap.size 0 (graphC (.slice p j c) x).toList).setCell ⟨w.heap.size + 1, 22, none⟩ (.bool true)).setCells (w.heap.size + 1) 23 (graphC (.slice p j c) x).toList)) := Lib.hid ((Hlb.out.put 22 (.bool true)).puts 23 (graphC (.slice p j c) x).toList)
    have HB : Hid (Blk _ (w.heap.size + 1) 35 (lookC { Lk.zero with hasFilt := true, filt := ⟨[], x⟩ } (.slice none 0 0) (.slice p j c) (.slice none 0 0))) := Lib.hid Hl3.out.loc
    have Hth := Lib.hid (Hl3.out.res.there 0 28 (by simp))
    go_wp2_with (first | ((with_reducible refine wpList_store_mid ?g_g 33 ?x_g ?y_g ?o_g w2.heap.size 0 (graphC (.slice p j c) x) ?h_g ?j_g ?t_g ?i_g ?s_g ?r_g); (case g_g | o_g | h_g | j_g => exact rfl); (case t_g => exact Hbx.out.2.2); (case i_g => exact size_graph); (case s_g => exact graphC_one _ _ _ _); (generalize ((w2.alloc (.cells #[.slice none 0 0, .int .i64 0] 33)).setCells w2.heap.size 0 (graphC (.slice p j c) x).toList) = w3 at *)) | ((with_reducible refine wpList_load_row ?g_h 33 ?x_h ?o_h w2.heap.size ?h_h ?t_h ?c_h ?f_h ?d_h ?b_h ?u_h ?s_h ?i_h ?r_h); (case g_h | o_h | h_h => exact rfl); (case b_h => exact Hbl.out); (case u_h => exact Try.underlying33); (case s_h => exact rfl); (case i_h => exact size_graph)) | ((with_reducible refine wpList_store_mid ?g_i 33 ?x_i ?y_i ?o_i (w.heap.size + 1) 23 (graphC (.slice p j c) x) ?h_i ?j_i ?t_i ?i_i ?s_i ?r_i); (case g_i | o_i | h_i | j_i => exact rfl); (case t_i => exact Htg.out); (case i_i => exact size_graph); (case s_i => exact graphC_one _ _ _ _)) | ((with_reducible refine wpList_load_row ?g_j 35 ?x_j ?o_j (w.heap.size + 1) ?h_j ?t_j ?c_j ?f_j ?d_j ?b_j ?u_j ?s_j ?i_j ?r_j); (case g_j | o_j | h_j => exact rfl); (case b_j => exact HB.out); (case u_j => exact Try.underlying35); (case s_j => exact rfl); (case i_j => exact size_look)) | ((with_reducible refine wpList_store_mid ?g2_j 35 ?x2_j ?y_j ?o2_j w.heap.size 0 (lookC { Lk.zero with hasFilt := true, filt := ⟨[], x⟩ } (.slice none 0 0) (.slice p j c) (.slice none 0 0)) ?h2_j ?j_j ?t2_j ?i2_j ?s2_j ?r2_j); (case g2_j | o2_j | h2_j | j_j => exact rfl); (case t2_j => exact Hth.out); (case i2_j => exact size_look); (case s2_j => exact lookC_one _ _ _ _ _ _ _ _ _ _)) | fail)
    have hd := RLoc.done (cs := lookC { Lk.zero with hasFilt := true, filt := ⟨[], x⟩ } (.slice none 0 0) (.slice p j c) (.slice none 0 0)) Hl3.out rfl
    refine bodyPost_ret (v := .tuple #[.agg (lookC { Lk.zero with hasFilt := true, filt := ⟨[], x⟩ } (.slice none 0 0) (.slice p j c) (.slice none 0 0)), .int .i64 0, .bool false]) (results_look _ _ w.heap.size (lookC { Lk.zero with hasFilt := true, filt := ⟨[], x⟩ } (.slice none 0 0) (.slice p j c) (.slice none 0 0)) rfl _ _ rfl rfl rfl hd.2.1) rfl ?_
    exact lk_fail Hno.out hd.1 _ _ _ _ _ _ _ _ _ _
  rw [ht] at hp
  obtain ⟨p, c, rfl, hnod⟩ := hp
  have Hres : Hid (lookAt bs n 10 = some ({ Lk.zero with hasFilt := true, filt := gr }, q2)) := Lib.hid (by rw [look10, Hfl.out, Option.bind_some, if_pos rfl, ht]; rfl)
  have Hr : Hid (LookR (fun b => w1.heap.size ≤ b) w2 { Lk.zero with hasFilt := true, filt := gr } (.slice none 0 0) (.slice p gr.nodes.length c) (.slice none 0 0)) := Lib.hid ⟨PixR.nil _ _, hnod, NodesR.nil _ _⟩
  have Hs0 : Hid (w.heap.size + 2 ≤ w1.heap.size) := Lib.hid (by have := Hl1.out.loc.lt; omega)
  clear ht hnod
  have Hbx := Lib.hid (box_put w2 33 #[.slice none 0 0, .int .i64 0] (graphC (.slice p gr.nodes.length c) gr.out) rfl)
  have Hlb := Lib.hid (Hl2.out.next Hbx.out.1)
  have cl22 : ((w2.alloc (.cells #[.slice none 0 0, .int .i64 0] 33)).setCells w2.heap.size 0 (graphC (.slice p gr.nodes.length c) gr.out).toList).cell? ⟨w.heap.size + 1, 22, none⟩ = some (.bool false) := Hlb.out.loc.cell 22 rfl
  have fl22 : ((w2.alloc (.cells #[.slice none 0 0, .int .i64 0] 33)).setCells w2.heap.size 0 (graphC (.slice p gr.nodes.length c) gr.out).toList).frozen? ⟨w.heap.size + 1, 22, none⟩ = false := Hlb.out.loc.frozen 22
  have Htg := Lib.hid ((Hlb.out.put 22 (.bool true)).loc.there 23 2 (by simp))
  have Hbl : Hid (Blk (((w2.alloc (.cells #[.slice none 0 0, .int .i64 0] 33)).setCells w2.heap.size 0 (graphC (.slice p gr.nodes.length c) gr.out).toList).setCell ⟨w.heap.size + 1, 22, none⟩ (.bool true)) w2.heap.size 33 (graphC (.slice p gr.nodes.length c) gr.out)) := Lib.hid (Hbx.out.2.1.mod (Gou.Mod.setCell _ ⟨w.heap.size + 1, 22, none⟩ _) (by have := Hl2.out.loc.lt; simp; omega))
  have Hl3 : Hid (RLoc w 35 LkZ (lookC { Lk.zero with hasFilt := true, filt := gr } (.slice none 0 0) (.slice p gr.nodes.length c) (.slice none 0 0)) ((((w2.alloc (.cells #[.slice none 0 0, .int .i64 0] 33)).setCells w2.heap.size 0 (graphC (.slice p gr.nodes.length c) gr.out).toList).setCell ⟨w.heap.size + 1, 22, none⟩ (.bool true)).setCells (w.heap.size + 1) 23 (graphC (.slice p gr.nodes.length c) gr.out).toList)) := Lib.hid ((Hlb.out.put 22 (.bool true)).puts 23 (graphC (.slice p gr.nodes.length c) gr.out).toList)
  have HB : Hid (Blk _ (w.heap.size + 1) 35 (lookC { Lk.zero with hasFilt := true, filt := gr } (.slice none 0 0) (.slice p gr.nodes.length c) (.slice none 0 0))) := Lib.hid Hl3.out.loc
  have Hth := Lib.hid (Hl3.out.res.there 0 28 (by simp))
  go_wp2_with (first | ((with_reducible refine wpList_store_mid ?g_k 33 ?x_k ?y_k ?o_k w2.heap.size 0 (graphC (.slice p gr.nodes.length c) gr.out) ?h_k ?j_k ?t_k ?i_k ?s_k ?r_k); (case g_k | o_k | h_k | j_k => exact rfl); (case t_k => exact Hbx.out.2.2); (case i_k => exact size_graph); (case s_k => exact graphC_one _ _ _ _); (generalize ((w2.alloc (.cells #[.slice none 0 0, .int .i64 0] 33)).setCells w2.heap.size 0 (graphC (.slice p gr.nodes.length c) gr.out).toList) = w3 at *)) | ((with_reducible refine wpList_load_row ?g_l 33 ?x_l ?o_l w2.heap.size ?h_l ?t_l ?c_l ?f_l ?d_l ?b_l ?u_l ?s_l ?i_l ?r_l); (case g_l | o_l | h_l => exact rfl); (case b_l => exact Hbl.out); (case u_l => exact Try.underlying33); (case s_l => exact rfl); (case i_l => exact size_graph)) | ((with_reducible refine wpList_store_mid ?g_m 33 ?x_m ?y_m ?o_m (w.heap.size + 1) 23 (graphC (.slice p gr.nodes.length c) gr.out) ?h_m ?j_m ?t_m ?i_m ?s_m ?r_m); (case g_m | o_m | h_m | j_m => exact rfl); (case t_m => exact Htg.out); (case i_m => exact size_graph); (case s_m => exact graphC_one _ _ _ _)) | ((with_reducible refine wpList_load_row ?g_n 35 ?x_n ?o_n (w.heap.size + 1) ?h_n ?t_n ?c_n ?f_n ?d_n ?b_n ?u_n ?s_n ?i_n ?r_n); (case g_n | o_n | h_n => exact rfl); (case b_n => exact HB.out); (case u_n => exact Try.underlying35); (case s_n => exact rfl); (case i_n => exact size_look)) | ((with_reducible refine wpList_store_mid ?g2_n 35 ?x2_n ?y_n ?o2_n w.heap.size 0 (lookC { Lk.zero with hasFilt := true, filt := gr } (.slice none 0 0) (.slice p gr.nodes.length c) (.slice none 0 0)) ?h2_n ?j_n ?t2_n ?i2_n ?s2_n ?r2_n); (case g2_n | o2_n | h2_n | j_n => exact rfl); (case t2_n => exact Hth.out); (case i2_n => exact size_look); (case s2_n => exact lookC_one _ _ _ _ _ _ _ _ _ _)) | fail)
  have hd := RLoc.done (cs := lookC { Lk.zero with hasFilt := true, filt := gr } (.slice none 0 0) (.slice p gr.nodes.length c) (.slice none 0 0)) Hl3.out rfl
  refine bodyPost_ret (v := .tuple #[.agg (lookC { Lk.zero with hasFilt := true, filt := gr } (.slice none 0 0) (.slice p gr.nodes.length c) (.slice none 0 0)), .int .i64 q2, .bool true]) (results_look _ _ w.heap.size (lookC { Lk.zero with hasFilt := true, filt := gr } (.slice none 0 0) (.slice p gr.nodes.length c) (.slice none 0 0)) rfl _ _ rfl rfl rfl hd.2.1) rfl ?_
  exact lk_done Hres.out hd.1 (LookR.far (Hr.out.mod Hbx.out.1 (fun _ _ _ h => h)) (((Gou.Mod.setCell _ ⟨w.heap.size + 1, 22, none⟩ _).imp fun _ _ h => .inl (by simpa using h)).trans' (Mod.two hd.2.2)) (by have := Hs0.out; omega) (by have := Hs0.out; omega) (by have := Hs0.out; omega))

set_option maxHeartbeats 4000000 in
theorem lookR_11 (w : World) (pb : Option Addr) (cb : Nat) (bs : List Nat) (h : BytesAt (fun _ => True) w (.slice pb bs.length cb) bs) (hby : ∀ x ∈ bs, x < 256) (hl : bs.length ≤ 10000000) (n : Nat) (hn : n ≤ bs.length) :
    Calls Try.prog 41 #[.slice pb bs.length cb, .int .i64 n, .int .i64 11] w (LkP w bs n 11) := by
  have H := Lib.hid h
  have Hby := Lib.hid hby
  clear h hby
  go_enter Try.func41, Try.ntmps41
  go_wp2_with (first | ((with_reducible refine wpList_buildTo ?g7 35 ?p7 ?o7 ?d7 ?e7 (LkZ) ?f7 ?r7); (case g7 | o7 | e7 => exact rfl); (case f7 => kernel_rfl)) | ((with_reducible refine wpList_store_mid ?g8 35 ?x8 ?y8 ?o8 (w.heap.size + 1) 0 (LkZ) ?h8 ?j8 ?t8 ?i8 ?s8 ?r8); (case g8 | o8 | h8 | j8 => exact rfl); (case t8 => exact there_look w); (case i8 => exact size_look); (case s8 => exact oneR_look); (have Hl0 := Lib.hid (start_look w)); (generalize ((w.alloc (.cells LkZ 35)).alloc (.cells LkZ 35)).setCells (w.heap.size + 1) 0 (LkZ).toList = w0 at *)) | fail)
  refine (numbersR_any w0 pb cb bs (H.out.mod Hl0.out.mod (fun _ _ _ h => h)) Hby.out hl n 1 hn (by omega)).mono ?_
  rintro e w1 ⟨hm1, hp⟩
  have Hl1 := Lib.hid (Hl0.out.next hm1)
  clear hm1
  rcases ht : timesAt (numAt bs) n 1 with _ | ⟨xs, q⟩
  · rw [ht] at hp
    subst hp
    have Hno : Hid (lookAt bs n 11 = none) := Lib.hid (by rw [look11, flag_none ht]; rfl)
    clear ht
    have HB : Hid (Blk _ (w.heap.size + 1) 35 LkN) := Lib.hid Hl1.out.loc
    have Hth := Lib.hid (Hl1.out.res.there 0 28 (by simp))
    go_wp2_with (first | ((with_reducible refine wpList_load_row ?g_z 35 ?x_z ?o_z (w.heap.size + 1) ?h_z ?t_z ?c_z ?f_z ?d_z ?b_z ?u_z ?s_z ?i_z ?r_z); (case g_z | o_z | h_z => exact rfl); (case b_z => exact HB.out); (case u_z => exact Try.underlying35); (case s_z => exact rfl); (case i_z => exact size_look)) | ((with_reducible refine wpList_store_mid ?g2_z 35 ?x2_z ?y_z ?o2_z w.heap.size 0 LkN ?h2_z ?j_z ?t2_z ?i2_z ?s2_z ?r2_z); (case g2_z | o2_z | h2_z | j_z => exact rfl); (case t2_z => exact Hth.out); (case i2_z => exact size_look); (case s2_z => exact lookC_one _ _ _ _ _ _ _ _ _ _)) | fail)
    have hd := RLoc.done (cs := LkN) Hl1.out rfl
    refine bodyPost_ret (v := .tuple #[.agg LkN, .int .i64 0, .bool false]) (results_look _ _ w.heap.size LkN rfl _ _ rfl rfl rfl hd.2.1) rfl ?_
    exact lk_fail Hno.out hd.1 _ _ _ _ _ _ _ _ _ _
  rw [ht] at hp
  obtain ⟨p, c, rfl, hown, hxl⟩ := hp
  obtain ⟨x, rfl, hx⟩ := times_one ht
  obtain ⟨gh, rfl, hg0, hg1, hc⟩ := own_ints hown (by omega)
  have c0 : w1.cell? ⟨gh, 0, none⟩ = some (.int .i64 x) := hc 0 (by simp)
  have hq := (num_spec Hby.out).end_le hx hn
  have hng : w.heap.size + 1 ≠ gh := by have := Hl0.out.loc.lt; omega
  have Hx := Lib.hid hx
  clear hc hown hxl ht hx hg0 hg1
  by_cases hx0 : x = 0
  · subst hx0
    have Hres : Hid (lookAt bs n 11 = some (Lk.zero, q)) := Lib.hid (by rw [look11, flag_zero Hx.out]; rfl)
    have HB : Hid (Blk _ (w.heap.size + 1) 35 LkN) := Lib.hid Hl1.out.loc
    have Hth := Lib.hid (Hl1.out.res.there 0 28 (by simp))
    go_wp2_with (first | ((with_reducible refine wpList_load_row ?g_10 35 ?x_10 ?o_10 (w.heap.size + 1) ?h_10 ?t_10 ?c_10 ?f_10 ?d_10 ?b_10 ?u_10 ?s_10 ?i_10 ?r_10); (case g_10 | o_10 | h_10 => exact rfl); (case b_10 => exact HB.out); (case u_10 => exact Try.underlying35); (case s_10 => exact rfl); (case i_10 => exact size_look)) | ((with_reducible refine wpList_store_mid ?g2_10 35 ?x2_10 ?y_10 ?o2_10 w.heap.size 0 LkN ?h2_10 ?j_10 ?t2_10 ?i2_10 ?s2_10 ?r2_10); (case g2_10 | o2_10 | h2_10 | j_10 => exact rfl); (case t2_10 => exact Hth.out); (case i2_10 => exact size_look); (case s2_10 => exact lookC_one _ _ _ _ _ _ _ _ _ _)) | fail)
    have hd := RLoc.done (cs := LkN) Hl1.out rfl
    refine bodyPost_ret (v := .tuple #[.agg LkN, .int .i64 q, .bool true]) (results_look _ _ w.heap.size LkN rfl _ _ rfl rfl rfl hd.2.1) rfl ?_
    exact lk_done Hres.out hd.1 (LookR.nil _ _ _ rfl rfl rfl)
  have t0 : (x == 0) = false := by simpa using hx0
  have t0' : (x != 0) = true := by simpa using hx0
  by_cases hx1 : x = 1
  case neg =>
    have t1 : (x == 1) = false := by simpa using hx1
    have t1' : (x != 1) = true := by simpa using hx1
    have Hno : Hid (lookAt bs n 11 = none) := Lib.hid (by rw [look11, flag_bad Hx.out hx0 hx1]; rfl)
    clear hx0 hx1
    have HB : Hid (Blk _ (w.heap.size + 1) 35 LkN) := Lib.hid Hl1.out.loc
    have Hth := Lib.hid (Hl1.out.res.there 0 28 (by simp))
    go_wp2_with (first | ((with_reducible refine wpList_load_row ?g_11 35 ?x_11 ?o_11 (w.heap.size + 1) ?h_11 ?t_11 ?c_11 ?f_11 ?d_11 ?b_11 ?u_11 ?s_11 ?i_11 ?r_11); (case g_11 | o_11 | h_11 => exact rfl); (case b_11 => exact HB.out); (case u_11 => exact Try.underlying35); (case s_11 => exact rfl); (case i_11 => exact size_look)) | ((with_reducible refine wpList_store_mid ?g2_11 35 ?x2_11 ?y_11 ?o2_11 w.heap.size 0 LkN ?h2_11 ?j_11 ?t2_11 ?i2_11 ?s2_11 ?r2_11); (case g2_11 | o2_11 | h2_11 | j_11 => exact rfl); (case t2_11 => exact Hth.out); (case i2_11 => exact size_look); (case s2_11 => exact lookC_one _ _ _ _ _ _ _ _ _ _)) | fail)
    have hd := RLoc.done (cs := LkN) Hl1.out rfl
    refine bodyPost_ret (v := .tuple #[.agg LkN, .int .i64 0, .bool false]) (results_look _ _ w.heap.size LkN rfl _ _ rfl rfl rfl hd.2.1) rfl ?_
    exact lk_fail Hno.out hd.1 _ _ _ _ _ _ _ _ _ _
  subst hx1
  clear hx0 t0 t0'
  have Hfl := Lib.hid (flag_one Hx.out)
  clear Hx
  go_wp2_with fail
  clear c0
  refine (graphR_any w1 pb cb bs (H.out.mod Hl1.out.mod (fun _ _ _ h => h)) Hby.out hl q hq).mono ?_
  rintro e w2 ⟨hm2, hp⟩
  have Hl2 := Lib.hid (Hl1.out.next hm2)
  clear hm2
  rcases ht : graphAt bs q with _ | ⟨gr, q2⟩
  · rw [ht] at hp
    obtain ⟨p, j, c, x, rfl⟩ := hp
    have Hno : Hid (lookAt bs n 11 = none) := Lib.hid (by rw [look11, Hfl.out, Option.bind_some, if_pos rfl, ht]; rfl)
    clear ht
    have Hbx := Lib.hid (box_put w2 33 #[.slice none 0 0, .int .i64 0] (graphC (.slice p j c) x) rfl)
    have Hlb := Lib.hid (Hl2.out.next Hbx.out.1)
    have cl25 : ((w2.alloc (.cells #[.slice none 0 0, .int .i64 0] 33)).setCells w2.heap.size 0 (graphC (.slice p j c) x).toList).cell? ⟨w.heap.size + 1, 25, none⟩ = some (.bool false) := Hlb.out.loc.cell 25 rfl
    have fl25 : ((w2.alloc (.cells #[.slice none 0 0, .int .i64 0] 33)).setCells w2.heap.size 0 (graphC (.slice p j c) x).toList).frozen? ⟨w.heap.size + 1, 25, none⟩ = false := Hlb.out.loc.frozen 25
    have Htg := Lib.hid ((Hlb.out.put 25 (.bool true)).loc.there 26 2 (by simp))
    have Hbl : Hid (Blk (((w2.alloc (.cells #[.slice none 0 0, .int .i64 0] 33)).setCells w2.heap.size 0 (graphC (.slice p j c) x).toList).setCell ⟨w.heap.size + 1, 25, none⟩ (.bool true)) w2.heap.size 33 (graphC (.slice p j c) x)) := Lib.hid (Hbx.out.2.1.mod (Gou.Mod.setCell _ ⟨w.heap.size + 1, 25, none⟩ _) (by have := Hl2.out.loc.lt; simp; omega))
    have Hl3 : Hid (RLoc w 35 LkZ (lookC { Lk.zero with hasBack := true, back := ⟨[], x⟩ } (.slice none 0 0) (.slice none 0 0) (.slice p j c)) ((((w2.alloc (.cells #[.slice none 0 0, .int .i64 0] 33)).setCells w2.heap.size 0 (graphC (.slice p j c) x).toList).setCell ⟨w.heap.size + 1, 25, none⟩ (.bool true)).setCells (w.heap.size + 1) 26 (graphC (.slice p j c) x).toList)) := Lib.hid ((Hlb.out.put 25 (.bool true)).puts 26 (graphC (.slice p j c) x).toList)
    have HB : Hid (Blk _ (w.heap.size + 1) 35 (lookC { Lk.zero with hasBack := true, back := ⟨[], x⟩ } (.slice none 0 0) (.slice none 0 0) (.slice p j c))) := Lib.hid Hl3.out.loc
    have Hth := Lib.hid (Hl3.out.res.there 0 28 (by simp))
    go_wp2_with (first | ((with_reducible refine wpList_store_mid ?g_r 33 ?x_r ?y_r ?o_r w2.heap.size 0 (graphC (.slice p j c) x) ?h_r ?j_r ?t_r ?i_r ?s_r ?r_r); (case g_r | o_r | h_r | j_r => exact rfl); (case t_r => exact Hbx.out.2.2); (case i_r => exact size_graph); (case s_r => exact graphC_one _ _ _ _); (generalize ((w2.alloc (.cells #[.slice none 0 0, .int .i64 0] 33)).setCells w2.heap.size 0 (graphC (.slice p j c) x).toList) = w3 at *)) | ((with_reducible refine wpList_load_row ?g_s 33 ?x_s ?o_s w2.heap.size ?h_s ?t_s ?c_s ?f_s ?d_s ?b_s ?u_s ?s_s ?i_s ?r_s); (case g_s | o_s | h_s => exact rfl); (case b_s => exact Hbl.out); (case u_s => exact Try.underlying33); (case s_s => exact rfl); (case i_s => exact size_graph)) | ((with_reducible refine wpList_store_mid ?g_t 33 ?x_t ?y_t ?o_t (w.heap.size + 1) 26 (graphC (.slice p j c) x) ?h_t ?j_t ?t_t ?i_t ?s_t ?r_t); (case g_t | o_t | h_t | j_t => exact rfl); (case t_t => exact Htg.out); (case i_t => exact size_graph); (case s_t => exact graphC_one _ _ _ _)) | ((with_reducible refine wpList_load_row ?g_u 35 ?x_u ?o_u (w.heap.size + 1) ?h_u ?t_u ?c_u ?f_u ?d_u ?b_u ?u_u ?s_u ?i_u ?r_u); (case g_u | o_u | h_u => exact rfl); (case b_u => exact HB.out); (case u_u => exact Try.underlying35); (case s_u => exact rfl); (case i_u => exact size_look)) | ((with_reducible refine wpList_store_mid ?g2_u 35 ?x2_u ?y_u ?o2_u w.heap.size 0 (lookC { Lk.zero with hasBack := true, back := ⟨[], x⟩ } (.slice none 0 0) (.slice none 0 0) (.slice p j c)) ?h2_u ?j_u ?t2_u ?i2_u ?s2_u ?r2_u); (case g2_u | o2_u | h2_u | j_u => exact rfl); (case t2_u => exact Hth.out); (case i2_u => exact size_look); (case s2_u => exact lookC_one _ _ _ _ _ _ _ _ _ _)) | fail)
    have hd := RLoc.done (cs := lookC { Lk.zero with hasBack := true, back := ⟨[], x⟩ } (.slice none 0 0) (.slice none 0 0) (.slice p j c)) Hl3.out rfl
    refine bodyPost_ret (v := .tuple #[.agg (lookC { Lk.zero with hasBack := true, back := ⟨[], x⟩ } (.slice none 0 0) (.slice none 0 0) (.slice p j c)), .int .i64 0, .bool false]) (results_look _ _ w.heap.size (lookC { Lk.zero with hasBack := true, back := ⟨[], x⟩ } (.slice none 0 0) (.slice none 0 0) (.slice p j c)) rfl _ _ rfl rfl rfl hd.2.1) rfl ?_
    exact lk_fail Hno.out hd.1 _ _ _ _ _ _ _ _ _ _
  rw [ht] at hp
  obtain ⟨p, c, rfl, hnod⟩ := hp
  have Hres : Hid (lookAt bs n 11 = some ({ Lk.zero with hasBack := true, back := gr }, q2)) := Lib.hid (by rw [look11, Hfl.out, Option.bind_some, if_pos rfl, ht]; rfl)
  have Hr : Hid (LookR (fun b => w1.heap.size ≤ b) w2 { Lk.zero with hasBack := true, back := gr } (.slice none 0 0) (.slice none 0 0) (.slice p gr.nodes.length c)) := Lib.hid ⟨PixR.nil _ _, NodesR.nil _ _, hnod⟩
  have Hs0 : Hid (w.heap.size + 2 ≤ w1.heap.size) := Lib.hid (by have := Hl1.out.loc.lt; omega)
  clear ht hnod
  have Hbx := Lib.hid (box_put w2 33 #[.slice none 0 0, .int .i64 0] (graphC (.slice p gr.nodes.length c) gr.out) rfl)
  have Hlb := Lib.hid (Hl2.out.next Hbx.out.1)
  have cl25 : ((w2.alloc (.cells #[.slice none 0 0, .int .i64 0] 33)).setCells w2.heap.size 0 (graphC (.slice p gr.nodes.length c) gr.out).toList).cell? ⟨w.heap.size + 1, 25, none⟩ = some (.bool false) := Hlb.out.loc.cell 25 rfl
  have fl25 : ((w2.alloc (.cells #[.slice none 0 0, .int .i64 0] 33)).setCells w2.heap.size 0 (graphC (.slice p gr.nodes.length c) gr.out).toList).frozen? ⟨w.heap.size + 1, 25, none⟩ = false := Hlb.out.loc.frozen 25
  have Htg := Lib.hid ((Hlb.out.put 25 (.bool true)).loc.there 26 2 (by simp))
  have Hbl : Hid (Blk (((w2.alloc (.cells #[.slice none 0 0, .int .i64 0] 33)).setCells w2.heap.size 0 (graphC (.slice p gr.nodes.length c) gr.out).toList).setCell ⟨w.heap.size + 1, 25, none⟩ (.bool true)) w2.heap.size 33 (graphC (.slice p gr.nodes.length c) gr.out)) := Lib.hid (Hbx.out.2.1.mod (Gou.Mod.setCell _ ⟨w.heap.size + 1, 25, none⟩ _) (by have := Hl2.out.loc.lt; simp; omega))
  have Hl3 : Hid (RLoc w 35 LkZ (lookC { Lk.zero with hasBack := true, back := gr } (.slice none 0 0) (.slice none 0 0) (.slice p gr.nodes.length c)) ((((w2.alloc (.cells #[.slice none 0 0, .int .i64 0] 33)).setCells w2.heap.size 0 (graphC (.slice p gr.nodes.length c) gr.out).toList).setCell ⟨w.heap.size + 1, 25, none⟩ (.bool true)).setCells (w.heap.size + 1) 26 (graphC (.slice p gr.nodes.length c) gr.out).toList)) := Lib.hid ((Hlb.out.put 25 (.bool true)).puts 26 (graphC (.slice p gr.nodes.length c) gr.out).toList)
  have HB : Hid (Blk _ (w.heap.size + 1) 35 (lookC { Lk.zero with hasBack := true, back := gr } (.slice none 0 0) (.slice none 0 0) (.slice p gr.nodes.length c))) := Lib.hid Hl3.out.loc
  have Hth := Lib.hid (Hl3.out.res.there 0 28 (by simp))
  go_wp2_with (first | ((with_reducible refine wpList_store_mid ?g_v 33 ?x_v ?y_v ?o_v w2.heap.size 0 (graphC (.slice p gr.nodes.length c) gr.out) ?h_v ?j_v ?t_v ?i_v ?s_v ?r_v); (case g_v | o_v | h_v | j_v => exact rfl); (case t_v => exact Hbx.out.2.2); (case i_v => exact size_graph); (case s_v => exact graphC_one _ _ _ _); (generalize ((w2.alloc (.cells #[.slice none 0 0, .int .i64 0] 33)).setCells w2.heap.size 0 (graphC (.slice p gr.nodes.length c) gr.out).toList) = w3 at *)) | ((with_reducible refine wpList_load_row ?g_w 33 ?x_w ?o_w w2.heap.size ?h_w ?t_w ?c_w ?f_w ?d_w ?b_w ?u_w ?s_w ?i_w ?r_w); (case g_w | o_w | h_w => exact rfl); (case b_w => exact Hbl.out); (case u_w => exact Try.underlying33); (case s_w => exact rfl); (case i_w => exact size_graph)) | ((with_reducible refine wpList_store_mid ?g_x 33 ?x_x ?y_x ?o_x (w.heap.size + 1) 26 (graphC (.slice p gr.nodes.length c) gr.out) ?h_x ?j_x ?t_x ?i_x ?s_x ?r_x); (case g_x | o_x | h_x | j_x => exact rfl); (case t_x => exact Htg.out); (case i_x => exact size_graph); (case s_x => exact graphC_one _ _ _ _)) | ((with_reducible refine wpList_load_row ?g_y 35 ?x_y ?o_y (w.heap.size + 1) ?h_y ?t_y ?c_y ?f_y ?d_y ?b_y ?u_y ?s_y ?i_y ?r_y); (case g_y | o_y | h_y => exact rfl); (case b_y => exact HB.out); (case u_y => exact Try.underlying35); (case s_y => exact rfl); (case i_y => exact size_look)) | ((with_reducible refine wpList_store_mid ?g2_y 35 ?x2_y ?y_y ?o2_y w.heap.size 0 (lookC { Lk.zero with hasBack := true, back := gr } (.slice none 0 0) (.slice none 0 0) (.slice p gr.nodes.length c)) ?h2_y ?j_y ?t2_y ?i2_y ?s2_y ?r2_y); (case g2_y | o2_y | h2_y | j_y => exact rfl); (case t2_y => exact Hth.out); (case i2_y => exact size_look); (case s2_y => exact lookC_one _ _ _ _ _ _ _ _ _ _)) | fail)
  have hd := RLoc.done (cs := lookC { Lk.zero with hasBack := true, back := gr } (.slice none 0 0) (.slice none 0 0) (.slice p gr.nodes.length c)) Hl3.out rfl
  refine bodyPost_ret (v := .tuple #[.agg (lookC { Lk.zero with hasBack := true, back := gr } (.slice none 0 0) (.slice none 0 0) (.slice p gr.nodes.length c)), .int .i64 q2, .bool true]) (results_look _ _ w.heap.size (lookC { Lk.zero with hasBack := true, back := gr } (.slice none 0 0) (.slice none 0 0) (.slice p gr.nodes.length c)) rfl _ _ rfl rfl rfl hd.2.1) rfl ?_
  exact lk_done Hres.out hd.1 (LookR.far (Hr.out.mod Hbx.out.1 (fun _ _ _ h => h)) (((Gou.Mod.setCell _ ⟨w.heap.size + 1, 25, none⟩ _).imp fun _ _ h => .inl (by simpa using h)).trans' (Mod.two hd.2.2)) (by have := Hs0.out; omega) (by have := Hs0.out; omega) (by have := Hs0.out; omega))

set_option maxHeartbeats 4000000 in
theorem lookR_6 (w : World) (pb : Option Addr) (cb : Nat) (bs : List Nat) (h : BytesAt (fun _ => True) w (.slice pb bs.length cb) bs) (hby : ∀ x ∈ bs, x < 256) (hl : bs.length ≤ 10000000) (n : Nat) (hn : n ≤ bs.length) :
    Calls Try.prog 41 #[.slice pb bs.length cb, .int .i64 n, .int .i64 6] w (LkP w bs n 6) := by
  have H := Lib.hid h
  have Hby := Lib.hid hby
  clear h hby
  go_enter Try.func41, Try.ntmps41
  go_wp2_with (first | ((with_reducible refine wpList_buildTo ?g7 35 ?p7 ?o7 ?d7 ?e7 (LkZ) ?f7 ?r7); (case g7 | o7 | e7 => exact rfl); (case f7 => kernel_rfl)) | ((with_reducible refine wpList_store_mid ?g8 35 ?x8 ?y8 ?o8 (w.heap.size + 1) 0 (LkZ) ?h8 ?j8 ?t8 ?i8 ?s8 ?r8); (case g8 | o8 | h8 | j8 => exact rfl); (case t8 => exact there_look w); (case i8 => exact size_look); (case s8 => exact oneR_look); (have Hl0 := Lib.hid (start_look w)); (generalize ((w.alloc (.cells LkZ 35)).alloc (.cells LkZ 35)).setCells (w.heap.size + 1) 0 (LkZ).toList = w0 at *)) | fail)
  refine (numbersR_any w0 pb cb bs (H.out.mod Hl0.out.mod (fun _ _ _ h => h)) Hby.out hl n 1 hn (by omega)).mono ?_
  rintro e w1 ⟨hm1, hp⟩
  have Hl1 := Lib.hid (Hl0.out.next hm1)
  clear hm1
  rcases ht : timesAt (numAt bs) n 1 with _ | ⟨xs, q⟩
  · rw [ht] at hp
    subst hp
    have Hno : Hid (lookAt bs n 6 = none) := Lib.hid (by rw [look6, flag_none ht]; rfl)
    clear ht
    have HB : Hid (Blk _ (w.heap.size + 1) 35 LkN) := Lib.hid Hl1.out.loc
    have Hth := Lib.hid (Hl1.out.res.there 0 28 (by simp))
    go_wp2_with (first | ((with_reducible refine wpList_load_row ?g_14 35 ?x_14 ?o_14 (w.heap.size + 1) ?h_14 ?t_14 ?c_14 ?f_14 ?d_14 ?b_14 ?u_14 ?s_14 ?i_14 ?r_14); (case g_14 | o_14 | h_14 => exact rfl); (case b_14 => exact HB.out); (case u_14 => exact Try.underlying35); (case s_14 => exact rfl); (case i_14 => exact size_look)) | ((with_reducible refine wpList_store_mid ?g2_14 35 ?x2_14 ?y_14 ?o2_14 w.heap.size 0 LkN ?h2_14 ?j_14 ?t2_14 ?i2_14 ?s2_14 ?r2_14); (case g2_14 | o2_14 | h2_14 | j_14 => exact rfl); (case t2_14 => exact Hth.out); (case i2_14 => exact size_look); (case s2_14 => exact lookC_one _ _ _ _ _ _ _ _ _ _)) | fail)
    have hd := RLoc.done (cs := LkN) Hl1.out rfl
    refine bodyPost_ret (v := .tuple #[.agg LkN, .int .i64 0, .bool false]) (results_look _ _ w.heap.size LkN rfl _ _ rfl rfl rfl hd.2.1) rfl ?_
    exact lk_fail Hno.out hd.1 _ _ _ _ _ _ _ _ _ _
  rw [ht] at hp
  obtain ⟨p, c, rfl, hown, hxl⟩ := hp
  obtain ⟨x, rfl, hx⟩ := times_one ht
  obtain ⟨gh, rfl, hg0, hg1, hc⟩ := own_ints hown (by omega)
  have c0 : w1.cell? ⟨gh, 0, none⟩ = some (.int .i64 x) := hc 0 (by simp)
  have hq := (num_spec Hby.out).end_le hx hn
  have hng : w.heap.size + 1 ≠ gh := by have := Hl0.out.loc.lt; omega
  have Hx := Lib.hid hx
  clear hc hown hxl ht hx hg0 hg1
  by_cases hx0 : x = 0
  · subst hx0
    have Hres : Hid (lookAt bs n 6 = some (Lk.zero, q)) := Lib.hid (by rw [look6, flag_zero Hx.out]; rfl)
    have HB : Hid (Blk _ (w.heap.size + 1) 35 LkN) := Lib.hid Hl1.out.loc
    have Hth := Lib.hid (Hl1.out.res.there 0 28 (by simp))
    go_wp2_with (first | ((with_reducible refine wpList_load_row ?g_15 35 ?x_15 ?o_15 (w.heap.size + 1) ?h_15 ?t_15 ?c_15 ?f_15 ?d_15 ?b_15 ?u_15 ?s_15 ?i_15 ?r_15); (case g_15 | o_15 | h_15 => exact rfl); (case b_15 => exact HB.out); (case u_15 => exact Try.underlying35); (case s_15 => exact rfl); (case i_15 => exact size_look)) | ((with_reducible refine wpList_store_mid ?g2_15 35 ?x2_15 ?y_15 ?o2_15 w.heap.size 0 LkN ?h2_15 ?j_15 ?t2_15 ?i2_15 ?s2_15 ?r2_15); (case g2_15 | o2_15 | h2_15 | j_15 => exact rfl); (case t2_15 => exact Hth.out); (case i2_15 => exact size_look); (case s2_15 => exact lookC_one _ _ _ _ _ _ _ _ _ _)) | fail)
    have hd := RLoc.done (cs := LkN) Hl1.out rfl
    refine bodyPost_ret (v := .tuple #[.agg LkN, .int .i64 q, .bool true]) (results_look _ _ w.heap.size LkN rfl _ _ rfl rfl rfl hd.2.1) rfl ?_
    exact lk_done Hres.out hd.1 (LookR.nil _ _ _ rfl rfl rfl)
  have t0 : (x == 0) = false := by simpa using hx0
  have t0' : (x != 0) = true := by simpa using hx0
  by_cases hx1 : x = 1
  case neg =>
    have t1 : (x == 1) = false := by simpa using hx1
    have t1' : (x != 1) = true := by simpa using hx1
    have Hno : Hid (lookAt bs n 6 = none) := Lib.hid (by rw [look6, flag_bad Hx.out hx0 hx1]; rfl)
    clear hx0 hx1
    have HB : Hid (Blk _ (w.heap.size + 1) 35 LkN) := Lib.hid Hl1.out.loc
    have Hth := Lib.hid (Hl1.out.res.there 0 28 (by simp))
    go_wp2_with (first | ((with_reducible refine wpList_load_row ?g_16 35 ?x_16 ?o_16 (w.heap.size + 1) ?h_16 ?t_16 ?c_16 ?f_16 ?d_16 ?b_16 ?u_16 ?s_16 ?i_16 ?r_16); (case g_16 | o_16 | h_16 => exact rfl); (case b_16 => exact HB.out); (case u_16 => exact Try.underlying35); (case s_16 => exact rfl); (case i_16 => exact size_look)) | ((with_reducible refine wpList_store_mid ?g2_16 35 ?x2_16 ?y_16 ?o2_16 w.heap.size 0 LkN ?h2_16 ?j_16 ?t2_16 ?i2_16 ?s2_16 ?r2_16); (case g2_16 | o2_16 | h2_16 | j_16 => exact rfl); (case t2_16 => exact Hth.out); (case i2_16 => exact size_look); (case s2_16 => exact lookC_one _ _ _ _ _ _ _ _ _ _)) | fail)
    have hd := RLoc.done (cs := LkN) Hl1.out rfl
    refine bodyPost_ret (v := .tuple #[.agg LkN, .int .i64 0, .bool false]) (results_look _ _ w.heap.size LkN rfl _ _ rfl rfl rfl hd.2.1) rfl ?_
    exact lk_fail Hno.out hd.1 _ _ _ _ _ _ _ _ _ _
  subst hx1
  clear hx0 t0 t0'
  have Hfl := Lib.hid (flag_one Hx.out)
  clear Hx
  go_wp2_with fail
  clear c0
  refine (numbersR_any w1 pb cb bs (H.out.mod Hl1.out.mod (fun _ _ _ h => h)) Hby.out hl q 4 hq (by omega)).mono ?_
  rintro e w2 ⟨hm2, hp⟩
  have Hl2 := Lib.hid (Hl1.out.next hm2)
  clear hm2
  rcases ht : timesAt (numAt bs) q 4 with _ | ⟨xs, q2⟩
  · rw [ht] at hp
    subst hp
    have Hno : Hid (lookAt bs n 6 = none) := Lib.hid (by rw [look6, Hfl.out, Option.bind_some, if_pos rfl, boxAt, ht]; rfl)
    clear ht
    have HB : Hid (Blk _ (w.heap.size + 1) 35 LkN) := Lib.hid Hl2.out.loc
    have Hth := Lib.hid (Hl2.out.res.there 0 28 (by simp))
    go_wp2_with (first | ((with_reducible refine wpList_load_row ?g_12 35 ?x_12 ?o_12 (w.heap.size + 1) ?h_12 ?t_12 ?c_12 ?f_12 ?d_12 ?b_12 ?u_12 ?s_12 ?i_12 ?r_12); (case g_12 | o_12 | h_12 => exact rfl); (case b_12 => exact HB.out); (case u_12 => exact Try.underlying35); (case s_12 => exact rfl); (case i_12 => exact size_look)) | ((with_reducible refine wpList_store_mid ?g2_12 35 ?x2_12 ?y_12 ?o2_12 w.heap.size 0 LkN ?h2_12 ?j_12 ?t2_12 ?i2_12 ?s2_12 ?r2_12); (case g2_12 | o2_12 | h2_12 | j_12 => exact rfl); (case t2_12 => exact Hth.out); (case i2_12 => exact size_look); (case s2_12 => exact lookC_one _ _ _ _ _ _ _ _ _ _)) | fail)
    have hd := RLoc.done (cs := LkN) Hl2.out rfl
    refine bodyPost_ret (v := .tuple #[.agg LkN, .int .i64 0, .bool false]) (results_look _ _ w.heap.size LkN rfl _ _ rfl rfl rfl hd.2.1) rfl ?_
    exact lk_fail Hno.out hd.1 _ _ _ _ _ _ _ _ _ _
  rw [ht] at hp
  obtain ⟨p, c2, rfl, hown, hxl⟩ := hp
  obtain ⟨a1, a2, a3, a4, rfl⟩ := times_four ht
  obtain ⟨g2, rfl, hg0, hg1, hc⟩ := own_ints hown (by omega)
  have c0 : w2.cell? ⟨g2, 0, none⟩ = some (.int .i64 a1) := hc 0 (by simp)
  have c1 : w2.cell? ⟨g2, 1, none⟩ = some (.int .i64 a2) := hc 1 (by simp)
  have c2 : w2.cell? ⟨g2, 2, none⟩ = some (.int .i64 a3) := hc 2 (by simp)
  have c3 : w2.cell? ⟨g2, 3, none⟩ = some (.int .i64 a4) := hc 3 (by simp)
  have hng2 : w.heap.size + 1 ≠ g2 := by have := Hl1.out.loc.lt; omega
  have Hres : Hid (lookAt bs n 6 = some ({ Lk.zero with hasClip := true, clip := ⟨a1, a2, a3, a4⟩ }, q2)) := Lib.hid (by rw [look6, Hfl.out, Option.bind_some, if_pos rfl, boxAt, ht]; rfl)
  clear hc hown hxl ht hg0
  have cl2 : w2.cell? ⟨w.heap.size + 1, 2, none⟩ = some (.bool false) := Hl2.out.loc.cell 2 rfl
  have fl2 : w2.frozen? ⟨w.heap.size + 1, 2, none⟩ = false := Hl2.out.loc.frozen 2
  go_wp2_with fail
  have Hl3 := Lib.hid (Hl2.out.put 2 (.bool true))
  have e0 : (w2.setCell ⟨w.heap.size + 1, 2, none⟩ (.bool true)).cell? ⟨g2, 0, none⟩ = some (.int .i64 a1) := ((Gou.Mod.setCell _ _ _).cell (p := ⟨g2, 0, none⟩) hg1 (by simp; omega)).trans c0
  have e1 : (w2.setCell ⟨w.heap.size + 1, 2, none⟩ (.bool true)).cell? ⟨g2, 1, none⟩ = some (.int .i64 a2) := ((Gou.Mod.setCell _ _ _).cell (p := ⟨g2, 1, none⟩) hg1 (by simp; omega)).trans c1
  have e2 : (w2.setCell ⟨w.heap.size + 1, 2, none⟩ (.bool true)).cell? ⟨g2, 2, none⟩ = some (.int .i64 a3) := ((Gou.Mod.setCell _ _ _).cell (p := ⟨g2, 2, none⟩) hg1 (by simp; omega)).trans c2
  have e3 : (w2.setCell ⟨w.heap.size + 1, 2, none⟩ (.bool true)).cell? ⟨g2, 3, none⟩ = some (.int .i64 a4) := ((Gou.Mod.setCell _ _ _).cell (p := ⟨g2, 3, none⟩) hg1 (by simp; omega)).trans c3
  have cl3 : (w2.setCell ⟨w.heap.size + 1, 2, none⟩ (.bool true)).cell? ⟨w.heap.size + 1, 3, none⟩ = some (.int .i64 0) := Hl3.out.loc.cell 3 rfl
  have fl3 : (w2.setCell ⟨w.heap.size + 1, 2, none⟩ (.bool true)).frozen? ⟨w.heap.size + 1, 3, none⟩ = false := Hl3.out.loc.frozen 3
  have cl4 : (w2.setCell ⟨w.heap.size + 1, 2, none⟩ (.bool true)).cell? ⟨w.heap.size + 1, 4, none⟩ = some (.int .i64 0) := Hl3.out.loc.cell 4 rfl
  have fl4 : (w2.setCell ⟨w.heap.size + 1, 2, none⟩ (.bool true)).frozen? ⟨w.heap.size + 1, 4, none⟩ = false := Hl3.out.loc.frozen 4
  have cl5 : (w2.setCell ⟨w.heap.size + 1, 2, none⟩ (.bool true)).cell? ⟨w.heap.size + 1, 5, none⟩ = some (.int .i64 0) := Hl3.out.loc.cell 5 rfl
  have fl5 : (w2.setCell ⟨w.heap.size + 1, 2, none⟩ (.bool true)).frozen? ⟨w.heap.size + 1, 5, none⟩ = false := Hl3.out.loc.frozen 5
  have cl6 : (w2.setCell ⟨w.heap.size + 1, 2, none⟩ (.bool true)).cell? ⟨w.heap.size + 1, 6, none⟩ = some (.int .i64 0) := Hl3.out.loc.cell 6 rfl
  have fl6 : (w2.setCell ⟨w.heap.size + 1, 2, none⟩ (.bool true)).frozen? ⟨w.heap.size + 1, 6, none⟩ = false := Hl3.out.loc.frozen 6
  generalize w2.setCell ⟨w.heap.size + 1, 2, none⟩ (.bool true) = w4 at *
  clear c0 c1 c2 c3 cl2 fl2
  refine wp_region_defer (S := fun w' => w' = (w4).drew) 14 ({ dst := none, op := Op.store 25 (Operand.tmp 126) (Operand.tmp 125), type := 0, pos := "ref.go:197", after := #[gD 13, gD 12, gP 0, gP 1, gP 2, gP 3, gP 4, gP 5, gP 6, gP 7, gP 8, gP 9, gP 10, gP 11, gP 12], guard := none } : Oper) rfl (by kernel_rfl) rfl rfl (by kernel_rfl) (by kernel_rfl) rfl (fun hHeld => ?_)
  refine wpAnyH_take (i := 0) (oi := ({ dst := some 113, op := Op.move (Operand.tmp 16), type := 72, pos := "ref.go:197", after := #[], guard := none } : Oper)) (v := .slice (some ⟨g2, 0, none⟩) 4 c2) rfl (by kernel_rfl) (by kernel_rfl) (by kernel_rfl) (fun _ _ _ h => h) (Or.inl ⟨by rfl, ?_⟩) hHeld ?_
  · (intro w' hSw; (try dsimp only at hSw); subst hSw; clear hHeld; go_simp; (try with_reducible rfl))
  try simp only [Act.put, uSa, uSb, uSc]
  refine wpAnyH_take (i := 1) (oi := ({ dst := some 114, op := Op.indexAddr 72 (Operand.tmp 113) (Operand.const (Value.int IntKind.i64 0)), type := 0, pos := "ref.go:197", after := #[gD 0], guard := none } : Oper)) (v := .pointer (some ⟨g2, 0, none⟩)) rfl (by kernel_rfl) (by kernel_rfl) (by kernel_rfl) (fun _ _ _ h => h) (Or.inl ⟨by rfl, ?_⟩) hHeld ?_
  · (intro w' hSw; (try dsimp only at hSw); subst hSw; clear hHeld; go_simp; (try with_reducible rfl))
  try simp only [Act.put, uSa, uSb, uSc]
  refine wpAnyH_take (i := 2) (oi := ({ dst := some 115, op := Op.load 3 (Operand.tmp 114), type := 3, pos := "ref.go:197", after := #[gD 1], guard := none } : Oper)) (v := .int .i64 a1) rfl (by kernel_rfl) (by kernel_rfl) (by kernel_rfl) (fun _ _ _ h => h) (Or.inl ⟨by rfl, ?_⟩) hHeld ?_
  · (intro w' hSw; (try dsimp only at hSw); subst hSw; clear hHeld; go_simp; (try with_reducible rfl))
  try simp only [Act.put, uSa, uSb, uSc]
  refine wpAnyH_take (i := 3) (oi := ({ dst := some 116, op := Op.move (Operand.tmp 16), type := 72, pos := "ref.go:197", after := #[], guard := none } : Oper)) (v := .slice (some ⟨g2, 0, none⟩) 4 c2) rfl (by kernel_rfl) (by kernel_rfl) (by kernel_rfl) (fun _ _ _ h => h) (Or.inl ⟨by rfl, ?_⟩) hHeld ?_
  · (intro w' hSw; (try dsimp only at hSw); subst hSw; clear hHeld; go_simp; (try with_reducible rfl))
  try simp only [Act.put, uSa, uSb, uSc]
  refine wpAnyH_take (i := 4) (oi := ({ dst := some 117, op := Op.indexAddr 72 (Operand.tmp 116) (Operand.const (Value.int IntKind.i64 1)), type := 0, pos := "ref.go:197", after := #[gD 3], guard := none } : Oper)) (v := .pointer (some ⟨g2, 1, none⟩)) rfl (by kernel_rfl) (by kernel_rfl) (by kernel_rfl) (fun _ _ _ h => h) (Or.inl ⟨by rfl, ?_⟩) hHeld ?_
  · (intro w' hSw; (try dsimp only at hSw); subst hSw; clear hHeld; go_simp; (try with_reducible rfl))
  try simp only [Act.put, uSa, uSb, uSc]
  refine wpAnyH_take (i := 5) (oi := ({ dst := some 118, op := Op.load 3 (Operand.tmp 117), type := 3, pos := "ref.go:197", after := #[gD 4], guard := none } : Oper)) (v := .int .i64 a2) rfl (by kernel_rfl) (by kernel_rfl) (by kernel_rfl) (fun _ _ _ h => h) (Or.inl ⟨by rfl, ?_⟩) hHeld ?_
  · (intro w' hSw; (try dsimp only at hSw); subst hSw; clear hHeld; go_simp; (try with_reducible rfl))
  try simp only [Act.put, uSa, uSb, uSc]
  refine wpAnyH_take (i := 6) (oi := ({ dst := some 119, op := Op.move (Operand.tmp 16), type := 72, pos := "ref.go:197", after := #[], guard := none } : Oper)) (v := .slice (some ⟨g2, 0, none⟩) 4 c2) rfl (by kernel_rfl) (by kernel_rfl) (by kernel_rfl) (fun _ _ _ h => h) (Or.inl ⟨by rfl, ?_⟩) hHeld ?_
  · (intro w' hSw; (try dsimp only at hSw); subst hSw; clear hHeld; go_simp; (try with_reducible rfl))
  try simp only [Act.put, uSa, uSb, uSc]
  refine wpAnyH_take (i := 7) (oi := ({ dst := some 120, op := Op.indexAddr 72 (Operand.tmp 119) (Operand.const (Value.int IntKind.i64 2)), type := 0, pos := "ref.go:197", after := #[gD 6], guard := none } : Oper)) (v := .pointer (some ⟨g2, 2, none⟩)) rfl (by kernel_rfl) (by kernel_rfl) (by kernel_rfl) (fun _ _ _ h => h) (Or.inl ⟨by rfl, ?_⟩) hHeld ?_
  · (intro w' hSw; (try dsimp only at hSw); subst hSw; clear hHeld; go_simp; (try with_reducible rfl))
  try simp only [Act.put, uSa, uSb, uSc]
  refine wpAnyH_take (i := 8) (oi := ({ dst := some 121, op := Op.load 3 (Operand.tmp 120), type := 3, pos := "ref.go:197", after := #[gD 7], guard := none } : Oper)) (v := .int .i64 a3) rfl (by kernel_rfl) (by kernel_rfl) (by kernel_rfl) (fun _ _ _ h => h) (Or.inl ⟨by rfl, ?_⟩) hHeld ?_
  · (intro w' hSw; (try dsimp only at hSw); subst hSw; clear hHeld; go_simp; (try with_reducible rfl))
  try simp only [Act.put, uSa, uSb, uSc]
  refine wpAnyH_take (i := 9) (oi := ({ dst := some 122, op := Op.move (Operand.tmp 16), type := 72, pos := "ref.go:197", after := #[], guard := none } : Oper)) (v := .slice (some ⟨g2, 0, none⟩) 4 c2) rfl (by kernel_rfl) (by kernel_rfl) (by kernel_rfl) (fun _ _ _ h => h) (Or.inl ⟨by rfl, ?_⟩) hHeld ?_
  · (intro w' hSw; (try dsimp only at hSw); subst hSw; clear hHeld; go_simp; (try with_reducible rfl))
  try simp only [Act.put, uSa, uSb, uSc]
  refine wpAnyH_take (i := 10) (oi := ({ dst := some 123, op := Op.indexAddr 72 (Operand.tmp 122) (Operand.const (Value.int IntKind.i64 3)), type := 0, pos := "ref.go:197", after := #[gD 9], guard := none } : Oper)) (v := .pointer (some ⟨g2, 3, none⟩)) rfl (by kernel_rfl) (by kernel_rfl) (by kernel_rfl) (fun _ _ _ h => h) (Or.inl ⟨by rfl, ?_⟩) hHeld ?_
  · (intro w' hSw; (try dsimp only at hSw); subst hSw; clear hHeld; go_simp; (try with_reducible rfl))
  try simp only [Act.put, uSa, uSb, uSc]
  refine wpAnyH_take (i := 11) (oi := ({ dst := some 124, op := Op.load 3 (Operand.tmp 123), type := 3, pos := "ref.go:197", after := #[gD 10], guard := none } : Oper)) (v := .int .i64 a4) rfl (by kernel_rfl) (by kernel_rfl) (by kernel_rfl) (fun _ _ _ h => h) (Or.inl ⟨by rfl, ?_⟩) hHeld ?_
  · (intro w' hSw; (try dsimp only at hSw); subst hSw; clear hHeld; go_simp; (try with_reducible rfl))
  try simp only [Act.put, uSa, uSb, uSc]
  refine wpAnyH_take (i := 12) (oi := ({ dst := some 125, op := Op.build 25 #[(0, Operand.tmp 115), (1, Operand.tmp 118), (2, Operand.tmp 121), (3, Operand.tmp 124)], type := 25, pos := "ref.go:197", after := #[gD 2, gD 5, gD 8, gD 11], guard := none } : Oper)) (v := .agg #[.int .i64 a1, .int .i64 a2, .int .i64 a3, .int .i64 a4]) rfl (by kernel_rfl) (by kernel_rfl) (by kernel_rfl) (fun _ _ _ h => h) (Or.inl ⟨by rfl, ?_⟩) hHeld ?_
  · (intro w' hSw; (try dsimp only at hSw); subst hSw; clear hHeld; go_simp; (try with_reducible rfl))
  try simp only [Act.put, uSa, uSb, uSc]
  refine wpAnyH_take (i := 13) (oi := ({ dst := some 126, op := Op.fieldAddr 35 (Operand.tmp 9) 3, type := 0, pos := "ref.go:197", after := #[gP 0, gP 1, gP 2, gP 3, gP 4, gP 5, gP 6, gP 7, gP 8, gP 9, gP 10, gP 11, gP 12], guard := none } : Oper)) (v := .pointer (some ⟨w.heap.size + 1, 3, none⟩)) rfl (by kernel_rfl) (by kernel_rfl) (by kernel_rfl) (fun _ _ _ h => h) (Or.inl ⟨by rfl, ?_⟩) hHeld ?_
  · (intro w' hSw; (try dsimp only at hSw); subst hSw; clear hHeld; go_simp; (try with_reducible rfl))
  try simp only [Act.put, uSa, uSb, uSc]
  refine wpAnyH_take (i := 14) (oi := ({ dst := none, op := Op.assign (Operand.const (Value.bool true)), type := 0, pos := "ref.go:197", after := #[gD 13, gD 12, gP 0, gP 1, gP 2, gP 3, gP 4, gP 5, gP 6, gP 7, gP 8, gP 9, gP 10, gP 11, gP 12], guard := none } : Oper)) (v := .bool true) rfl (by kernel_rfl) (by kernel_rfl) (by kernel_rfl) (fun _ _ _ h => h) (Or.inl ⟨by rfl, ?_⟩) hHeld ?_
  · (intro w' hSw; clear hSw hHeld; go_simp; (try with_reducible rfl))
  try simp only [Act.put, uSa, uSb, uSc]
  refine wpAnyH_done (by kernel_rfl) ?_ _
  clear hHeld
  show Oper.wp _ _ _ _ _ _
  go_simp
  have hl5 : RLoc w 35 LkZ (lookC { Lk.zero with hasClip := true, clip := ⟨a1, a2, a3, a4⟩ } (.slice none 0 0) (.slice none 0 0) (.slice none 0 0)) ((((w4.setCell ⟨w.heap.size + 1, 3, none⟩ (.int .i64 a1)).setCell ⟨w.heap.size + 1, 4, none⟩ (.int .i64 a2)).setCell ⟨w.heap.size + 1, 5, none⟩ (.int .i64 a3)).setCell ⟨w.heap.size + 1, 6, none⟩ (.int .i64 a4)).drew := (Hl3.out.puts 3 [.int .i64 a1, .int .i64 a2, .int .i64 a3, .int .i64 a4]).next (Gou.Mod.drew _ _)
  clear e0 e1 e2 e3 cl3 cl4 cl5 cl6 fl3 fl4 fl5 fl6
  have hW5 : ∃ w5, w5 = ((((w4.setCell ⟨w.heap.size + 1, 3, none⟩ (.int .i64 a1)).setCell ⟨w.heap.size + 1, 4, none⟩ (.int .i64 a2)).setCell ⟨w.heap.size + 1, 5, none⟩ (.int .i64 a3)).setCell ⟨w.heap.size + 1, 6, none⟩ (.int .i64 a4)).drew := ⟨_, rfl⟩
  obtain ⟨w5, hW5⟩ := hW5
  rw [← hW5] at hl5 ⊢
  clear hW5
  have Hl5 := Lib.hid hl5
  clear hl5
  have HB : Hid (Blk _ (w.heap.size + 1) 35 (lookC { Lk.zero with hasClip := true, clip := ⟨a1, a2, a3, a4⟩ } (.slice none 0 0) (.slice none 0 0) (.slice none 0 0))) := Lib.hid Hl5.out.loc
  have Hth := Lib.hid (Hl5.out.res.there 0 28 (by simp))
  go_wp2_with (first | ((with_reducible refine wpList_load_row ?g_13 35 ?x_13 ?o_13 (w.heap.size + 1) ?h_13 ?t_13 ?c_13 ?f_13 ?d_13 ?b_13 ?u_13 ?s_13 ?i_13 ?r_13); (case g_13 | o_13 | h_13 => exact rfl); (case b_13 => exact HB.out); (case u_13 => exact Try.underlying35); (case s_13 => exact rfl); (case i_13 => exact size_look)) | ((with_reducible refine wpList_store_mid ?g2_13 35 ?x2_13 ?y_13 ?o2_13 w.heap.size 0 (lookC { Lk.zero with hasClip := true, clip := ⟨a1, a2, a3, a4⟩ } (.slice none 0 0) (.slice none 0 0) (.slice none 0 0)) ?h2_13 ?j_13 ?t2_13 ?i2_13 ?s2_13 ?r2_13); (case g2_13 | o2_13 | h2_13 | j_13 => exact rfl); (case t2_13 => exact Hth.out); (case i2_13 => exact size_look); (case s2_13 => exact lookC_one _ _ _ _ _ _ _ _ _ _)) | fail)
  have hd := RLoc.done (cs := lookC { Lk.zero with hasClip := true, clip := ⟨a1, a2, a3, a4⟩ } (.slice none 0 0) (.slice none 0 0) (.slice none 0 0)) Hl5.out rfl
  refine bodyPost_ret (v := .tuple #[.agg (lookC { Lk.zero with hasClip := true, clip := ⟨a1, a2, a3, a4⟩ } (.slice none 0 0) (.slice none 0 0) (.slice none 0 0)), .int .i64 q2, .bool true]) (results_look _ _ w.heap.size (lookC { Lk.zero with hasClip := true, clip := ⟨a1, a2, a3, a4⟩ } (.slice none 0 0) (.slice none 0 0) (.slice none 0 0)) rfl _ _ rfl rfl rfl hd.2.1) rfl ?_
  exact lk_done Hres.out hd.1 (LookR.nil _ _ _ rfl rfl rfl)


end Go.Proofs.Ytnamnmipgpcjjaa

