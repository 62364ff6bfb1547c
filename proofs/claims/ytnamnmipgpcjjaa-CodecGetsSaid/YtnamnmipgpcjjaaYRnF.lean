/- Texts of the codec's proofs, laid together: RnF. -/
import Derived.Test.YtnamnmipgpcjjaaYRnE
set_option linter.unusedSimpArgs false
set_option linter.unusedVariables false
set_option linter.unusedSectionVars false
set_option linter.constructorNameAsVariable false

/- Acts as bytes: the document's looks. -/
namespace Go.Gou
open Go.RowKit

/-- A new box, and what is put into it whole. -/
theorem box_put (w1 : World) (T : TypeId) (z cs : Array Value) (hz : z.size = cs.size) : Mod (fun _ => False) w1 ((w1.alloc (.cells z T)).setCells w1.heap.size 0 cs.toList) ∧ Blk ((w1.alloc (.cells z T)).setCells w1.heap.size 0 cs.toList) w1.heap.size T cs ∧ (w1.alloc (.cells z T)).there w1.heap.size 0 cs.size := by
  have h0 : Blk (w1.alloc (.cells z T)) w1.heap.size T z := heap_alloc_new w1 _
  refine ⟨(Mod.alloc _ _ _).trans (Blk.setMod _ _ _ _) (fun k hk e => by omega), ?_, h0.there 0 cs.size (by omega)⟩
  have h := h0.sets 0 cs.toList
  rw [setMany_all z cs.toList (by simpa using hz)] at h
  exact h

theorem times_two {bs : List Nat} {n q : Nat} {xs : List Int} (h : timesAt (numAt bs) n 2 = some (xs, q)) : ∃ x y m, xs = [x, y] ∧ numAt bs n = some (x, m) ∧ numAt bs m = some (y, q) := by
  obtain ⟨xs, m, y, rfl, h, h2⟩ := times_succ h
  obtain ⟨x, rfl, h1⟩ := times_one h
  exact ⟨x, y, m, rfl, h1, h2⟩
theorem flag_none {bs : List Nat} {n : Nat} (h : timesAt (numAt bs) n 1 = none) : flagAt bs n = none := by
  unfold flagAt withinAt
  rw [times_one_none h]
theorem flag_bad {bs : List Nat} {n m : Nat} {x : Int} (h : numAt bs n = some (x, m)) (h0 : x ≠ 0) (h1 : x ≠ 1) : flagAt bs n = none := by
  unfold flagAt withinAt
  rw [h]
  simp only
  rw [if_neg (by omega)]
theorem flag_zero {bs : List Nat} {n m : Nat} (h : numAt bs n = some (0, m)) : flagAt bs n = some (false, m) := by
  unfold flagAt withinAt
  rw [h]
  rfl
theorem flag_one {bs : List Nat} {n m : Nat} (h : numAt bs n = some (1, m)) : flagAt bs n = some (true, m) := by
  unfold flagAt withinAt
  rw [h]
  rfl
theorem look5_none {bs : List Nat} {n : Nat} (h : timesAt (numAt bs) n 2 = none) : lookAt bs n 5 = none := by
  unfold lookAt
  rw [if_pos rfl]
  rcases hx : numAt bs n with _ | ⟨x, m⟩
  · rfl
  · rcases hy : numAt bs m with _ | ⟨y, q⟩
    · simp [hy]
    · simp [timesAt, hx, hy] at h
theorem look5_some {bs : List Nat} {n m q : Nat} {x y : Int} (h1 : numAt bs n = some (x, m)) (h2 : numAt bs m = some (y, q)) : lookAt bs n 5 = some ({ Lk.zero with dx := x, dy := y }, q) := by
  simp [lookAt, h1, h2]
theorem look6 {bs : List Nat} {n : Nat} : lookAt bs n 6 = (flagAt bs n).bind fun f => if f.1 then (boxAt bs f.2).bind fun b => some ({ Lk.zero with hasClip := true, clip := Rc.of b.1 }, b.2) else some (Lk.zero, f.2) := by
  unfold lookAt
  rw [if_neg (by decide), if_pos rfl]
theorem look7 {bs : List Nat} {n : Nat} : lookAt bs n 7 = (numAt bs n).bind fun x => some ({ Lk.zero with opacity := x.1 }, x.2) := by
  unfold lookAt
  rw [if_neg (by decide), if_neg (by decide), if_pos rfl]
theorem look8 {bs : List Nat} {n : Nat} : lookAt bs n 8 = (numAt bs n).bind fun x => some ({ Lk.zero with mode := x.1 }, x.2) := by
  unfold lookAt
  rw [if_neg (by decide), if_neg (by decide), if_neg (by decide), if_pos rfl]
theorem look9 {bs : List Nat} {n : Nat} : lookAt bs n 9 = (contentAt bs n).bind fun c => some ({ Lk.zero with content := c.1 }, c.2) := by
  unfold lookAt
  rw [if_neg (by decide), if_neg (by decide), if_neg (by decide), if_neg (by decide), if_pos rfl]
theorem look10 {bs : List Nat} {n : Nat} : lookAt bs n 10 = (flagAt bs n).bind fun f => if f.1 then (graphAt bs f.2).bind fun b => some ({ Lk.zero with hasFilt := true, filt := b.1 }, b.2) else some (Lk.zero, f.2) := by
  unfold lookAt
  rw [if_neg (by decide), if_neg (by decide), if_neg (by decide), if_neg (by decide), if_neg (by decide), if_pos rfl]
theorem look11 {bs : List Nat} {n : Nat} : lookAt bs n 11 = (flagAt bs n).bind fun f => if f.1 then (graphAt bs f.2).bind fun b => some ({ Lk.zero with hasBack := true, back := b.1 }, b.2) else some (Lk.zero, f.2) := by
  unfold lookAt
  rw [if_neg (by decide), if_neg (by decide), if_neg (by decide), if_neg (by decide), if_neg (by decide), if_neg (by decide), if_pos rfl]
theorem look_low {bs : List Nat} {n : Nat} {k : Int} (h : k < 5) : lookAt bs n k = some (Lk.zero, n) := by
  unfold lookAt
  rw [if_neg (by omega), if_neg (by omega), if_neg (by omega), if_neg (by omega), if_neg (by omega), if_neg (by omega), if_neg (by omega)]

def graphC (s : Value) (x : Int) : Array Value := #[s, .int .i64 x]
theorem graphC_one (p : Option Addr) (n k : Nat) (x : Int) : (graphC (.slice p n k) x).all (·.oneCell') = true := by simp [graphC, Value.oneCell']

end Go.Gou
namespace Go.Proofs.Ytnamnmipgpcjjaa
open Go.RowKit Go.Gou

/-- What the document's reading of a look comes to. -/
def LkP (w : World) (bs : List Nat) (n : Nat) (k : Int) (e : Ending) (w' : World) : Prop :=
  Gou.Mod (fun _ => False) w w' ∧ match lookAt bs n k with
    | some (l, q) => ∃ p1 n1 k1 p2 n2 k2 p3 n3 k3, e = .returned (.tuple #[.agg (lookC l (.slice p1 n1 k1) (.slice p2 n2 k2) (.slice p3 n3 k3)), .int .i64 q, .bool true]) ∧ LookR (fun b => w.heap.size ≤ b) w' l (.slice p1 n1 k1) (.slice p2 n2 k2) (.slice p3 n3 k3)
    | none => ∃ l p1 n1 k1 p2 n2 k2 p3 n3 k3, e = .returned (.tuple #[.agg (lookC l (.slice p1 n1 k1) (.slice p2 n2 k2) (.slice p3 n3 k3)), .int .i64 0, .bool false])

theorem lk_fail {w w' : World} {bs : List Nat} {n : Nat} {k : Int} (h : lookAt bs n k = none) (hm : Gou.Mod (fun _ => False) w w') (l : Lk) (p1 : Option Addr) (n1 k1 : Nat) (p2 : Option Addr) (n2 k2 : Nat) (p3 : Option Addr) (n3 k3 : Nat) :
    LkP w bs n k (.returned (.tuple #[.agg (lookC l (.slice p1 n1 k1) (.slice p2 n2 k2) (.slice p3 n3 k3)), .int .i64 0, .bool false])) w' :=
  ⟨hm, by rw [h]; exact ⟨l, p1, n1, k1, p2, n2, k2, p3, n3, k3, rfl⟩⟩
theorem lk_done {w w' : World} {bs : List Nat} {n q : Nat} {k : Int} {l : Lk} {p1 : Option Addr} {n1 k1 : Nat} {p2 : Option Addr} {n2 k2 : Nat} {p3 : Option Addr} {n3 k3 : Nat} (h : lookAt bs n k = some (l, q)) (hm : Gou.Mod (fun _ => False) w w') (hr : LookR (fun b => w.heap.size ≤ b) w' l (.slice p1 n1 k1) (.slice p2 n2 k2) (.slice p3 n3 k3)) :
    LkP w bs n k (.returned (.tuple #[.agg (lookC l (.slice p1 n1 k1) (.slice p2 n2 k2) (.slice p3 n3 k3)), .int .i64 q, .bool true])) w' :=
  ⟨hm, by rw [h]; exact ⟨p1, n1, k1, p2, n2, k2, p3, n3, k3, rfl, hr⟩⟩

theorem results_look (w : World) (tmps : Array Value) (N : Nat) (cs : Array Value) (hs : cs.size = 28) (a b : Value) (h4 : tmps.getD 6 undef = .pointer (some ⟨N, 0, none⟩)) (h5 : tmps.getD 7 undef = a) (h6 : tmps.getD 8 undef = b) (hB : Blk w N 35 cs) :
    (results Try.f41 tmps).run Try.prog w = .ok (.tuple #[.agg cs, a, b]) w := by
  have h4' : tmps[6]?.getD undef = .pointer (some ⟨N, 0, none⟩) := by simpa using h4
  have h5' : tmps[7]?.getD undef = a := by simpa using h5
  have h6' : tmps[8]?.getD undef = b := by simpa using h6
  have hl := run_loadVar_row (P := Try.prog) w N 35 35 cs (0, 0) _ hB Try.underlying35 rfl (size_look.trans (by rw [hs]))
  simp [results, Try.results41, h4', h5', h6', asAddr, hl]

set_option linter.constructorNameAsVariable false
set_option maxRecDepth 100000

theorem there_look (w : World) : ((w.alloc (.cells LkZ 35)).alloc (.cells LkZ 35)).there (w.heap.size + 1) 0 28 :=
  (RLoc.start w 35 LkZ LkZ).loc.there 0 28 (by simp)
theorem oneR_look : (LkZ).all (·.oneCell') = true := by simp [Value.oneCell']
theorem start_look (w : World) : RLoc w 35 LkZ LkZ (((w.alloc (.cells LkZ 35)).alloc (.cells LkZ 35)).setCells (w.heap.size + 1) 0 (LkZ).toList) := by
  have h := (RLoc.start w 35 LkZ LkZ).puts 0 (LkZ).toList
  rw [setMany_all _ _ rfl] at h
  exact h

set_option maxHeartbeats 4000000 in
theorem lookR_low (w : World) (pb : Option Addr) (cb : Nat) (bs : List Nat) (h : BytesAt (fun _ => True) w (.slice pb bs.length cb) bs) (hby : ∀ x ∈ bs, x < 256) (hl : bs.length ≤ 10000000) (n : Nat) (hn : n ≤ bs.length) (k : Int) (hk : k < 5) :
    Calls Try.prog 41 #[.slice pb bs.length cb, .int .i64 n, .int .i64 k] w (LkP w bs n k) := by
  have H := Lib.hid h
  have Hby := Lib.hid hby
  clear h hby
  have Hk := Lib.hid hk
  have tk : decide (k < 5) = true := decide_eq_true hk
  clear hk
  go_enter Try.func41, Try.ntmps41
  go_wp2_with (first | ((with_reducible refine wpList_buildTo ?g7 35 ?p7 ?o7 ?d7 ?e7 (LkZ) ?f7 ?r7); (case g7 => exact rfl); (case o7 => exact rfl); (case e7 => exact rfl); (case f7 => kernel_rfl)) | ((with_reducible refine wpList_store_mid ?g8 35 ?x8 ?y8 ?o8 (w.heap.size + 1) 0 (LkZ) ?h8 ?j8 ?t8 ?i8 ?s8 ?r8); (case g8 => exact rfl); (case o8 => exact rfl); (case h8 => exact rfl); (case j8 => exact rfl); (case t8 => exact there_look w); (case i8 => exact size_look); (case s8 => exact oneR_look); (have Hl0 := Lib.hid (start_look w)); (generalize ((w.alloc (.cells LkZ 35)).alloc (.cells LkZ 35)).setCells (w.heap.size + 1) 0 (LkZ).toList = w0 at *); (have HB : Hid (Blk _ (w.heap.size + 1) 35 (lookC Lk.zero (.slice none 0 0) (.slice none 0 0) (.slice none 0 0))) := Lib.hid Hl0.out.loc); (have Hth := Lib.hid (Hl0.out.res.there 0 28 (by simp)))) | ((with_reducible refine wpList_load_row ?g1_1 35 ?x1_1 ?o1_1 (w.heap.size + 1) ?h1_1 ?t1_1 ?c1_1 ?f1_1 ?d1_1 ?b1_1 ?u1_1 ?s1_1 ?i1_1 ?r1_1); (case g1_1 => exact rfl); (case o1_1 => exact rfl); (case h1_1 => exact rfl); (case b1_1 => exact HB.out); (case u1_1 => exact Try.underlying35); (case s1_1 => exact rfl); (case i1_1 => exact size_look)) | ((with_reducible refine wpList_store_mid ?g2_1 35 ?x2_1 ?y2_1 ?o2_1 w.heap.size 0 (lookC Lk.zero (.slice none 0 0) (.slice none 0 0) (.slice none 0 0)) ?h2_1 ?j2_1 ?t2_1 ?i2_1 ?s2_1 ?r2_1); (case g2_1 => exact rfl); (case o2_1 => exact rfl); (case h2_1 => exact rfl); (case j2_1 => exact rfl); (case t2_1 => exact Hth.out); (case i2_1 => exact size_look); (case s2_1 => exact lookC_one _ _ _ _ _ _ _ _ _ _)) | fail)
  have Hres := Lib.hid (look_low (bs := bs) (n := n) Hk.out)
  have hd := RLoc.done (cs := lookC Lk.zero (.slice none 0 0) (.slice none 0 0) (.slice none 0 0)) Hl0.out rfl
  refine bodyPost_ret (v := .tuple #[.agg (lookC Lk.zero (.slice none 0 0) (.slice none 0 0) (.slice none 0 0)), .int .i64 n, .bool true]) (results_look _ _ w.heap.size (lookC Lk.zero (.slice none 0 0) (.slice none 0 0) (.slice none 0 0)) rfl _ _ rfl rfl rfl hd.2.1) rfl ?_
  exact lk_done Hres.out hd.1 (LookR.nil _ _ _ rfl rfl rfl)

set_option maxHeartbeats 4000000 in
theorem lookR_5 (w : World) (pb : Option Addr) (cb : Nat) (bs : List Nat) (h : BytesAt (fun _ => True) w (.slice pb bs.length cb) bs) (hby : ∀ x ∈ bs, x < 256) (hl : bs.length ≤ 10000000) (n : Nat) (hn : n ≤ bs.length) :
    Calls Try.prog 41 #[.slice pb bs.length cb, .int .i64 n, .int .i64 5] w (LkP w bs n 5) := by
  have H := Lib.hid h
  have Hby := Lib.hid hby
  clear h hby
  go_enter Try.func41, Try.ntmps41
  go_wp2_with (first | ((with_reducible refine wpList_buildTo ?g7 35 ?p7 ?o7 ?d7 ?e7 (LkZ) ?f7 ?r7); (case g7 => exact rfl); (case o7 => exact rfl); (case e7 => exact rfl); (case f7 => kernel_rfl)) | ((with_reducible refine wpList_store_mid ?g8 35 ?x8 ?y8 ?o8 (w.heap.size + 1) 0 (LkZ) ?h8 ?j8 ?t8 ?i8 ?s8 ?r8); (case g8 => exact rfl); (case o8 => exact rfl); (case h8 => exact rfl); (case j8 => exact rfl); (case t8 => exact there_look w); (case i8 => exact size_look); (case s8 => exact oneR_look); (have Hl0 := Lib.hid (start_look w)); (generalize ((w.alloc (.cells LkZ 35)).alloc (.cells LkZ 35)).setCells (w.heap.size + 1) 0 (LkZ).toList = w0 at *)) | fail)
  refine (numbersR_any w0 pb cb bs (H.out.mod Hl0.out.mod (fun _ _ _ h => h)) Hby.out hl n 2 hn (by omega)).mono ?_
  rintro e w1 ⟨hm1, hp⟩
  have Hl1 := Lib.hid (Hl0.out.next hm1)
  clear hm1
  rcases ht : timesAt (numAt bs) n 2 with _ | ⟨xs, q⟩
  · rw [ht] at hp
    subst hp
    have Hno : Hid (lookAt bs n 5 = none) := Lib.hid (look5_none ht)
    clear ht
    have HB : Hid (Blk _ (w.heap.size + 1) 35 (lookC Lk.zero (.slice none 0 0) (.slice none 0 0) (.slice none 0 0))) := Lib.hid Hl1.out.loc
    have Hth := Lib.hid (Hl1.out.res.there 0 28 (by simp))
    go_wp2_with (first | ((with_reducible refine wpList_load_row ?g1_2 35 ?x1_2 ?o1_2 (w.heap.size + 1) ?h1_2 ?t1_2 ?c1_2 ?f1_2 ?d1_2 ?b1_2 ?u1_2 ?s1_2 ?i1_2 ?r1_2); (case g1_2 => exact rfl); (case o1_2 => exact rfl); (case h1_2 => exact rfl); (case b1_2 => exact HB.out); (case u1_2 => exact Try.underlying35); (case s1_2 => exact rfl); (case i1_2 => exact size_look)) | ((with_reducible refine wpList_store_mid ?g2_2 35 ?x2_2 ?y2_2 ?o2_2 w.heap.size 0 (lookC Lk.zero (.slice none 0 0) (.slice none 0 0) (.slice none 0 0)) ?h2_2 ?j2_2 ?t2_2 ?i2_2 ?s2_2 ?r2_2); (case g2_2 => exact rfl); (case o2_2 => exact rfl); (case h2_2 => exact rfl); (case j2_2 => exact rfl); (case t2_2 => exact Hth.out); (case i2_2 => exact size_look); (case s2_2 => exact lookC_one _ _ _ _ _ _ _ _ _ _)) | fail)
    have hd := RLoc.done (cs := lookC Lk.zero (.slice none 0 0) (.slice none 0 0) (.slice none 0 0)) Hl1.out rfl
    refine bodyPost_ret (v := .tuple #[.agg (lookC Lk.zero (.slice none 0 0) (.slice none 0 0) (.slice none 0 0)), .int .i64 0, .bool false]) (results_look _ _ w.heap.size (lookC Lk.zero (.slice none 0 0) (.slice none 0 0) (.slice none 0 0)) rfl _ _ rfl rfl rfl hd.2.1) rfl ?_
    exact lk_fail Hno.out hd.1 _ _ _ _ _ _ _ _ _ _
  rw [ht] at hp
  obtain ⟨p, c, rfl, hown, hxl⟩ := hp
  obtain ⟨x, y, m, rfl, hx, hy⟩ := times_two ht
  obtain ⟨gh, rfl, hg0, hg1, hc⟩ := own_ints hown (by omega)
  have c0 : w1.cell? ⟨gh, 0, none⟩ = some (.int .i64 x) := hc 0 (by simp)
  have c1 : w1.cell? ⟨gh, 1, none⟩ = some (.int .i64 y) := hc 1 (by simp)
  have hng : w.heap.size + 1 ≠ gh := by have := Hl0.out.loc.lt; omega
  have Hres := Lib.hid (look5_some hx hy)
  clear hc hown hxl ht hx hy hg0 hg1
  have cl0 : w1.cell? ⟨w.heap.size + 1, 0, none⟩ = some (.int .i64 0) := Hl1.out.loc.cell 0 rfl
  have fl0 : w1.frozen? ⟨w.heap.size + 1, 0, none⟩ = false := Hl1.out.loc.frozen 0
  have cl1 : w1.cell? ⟨w.heap.size + 1, 1, none⟩ = some (.int .i64 0) := Hl1.out.loc.cell 1 rfl
  have fl1 : w1.frozen? ⟨w.heap.size + 1, 1, none⟩ = false := Hl1.out.loc.frozen 1
  have Hl2 : Hid (RLoc w 35 LkZ (lookC { Lk.zero with dx := x, dy := y } (.slice none 0 0) (.slice none 0 0) (.slice none 0 0)) ((w1.setCell ⟨w.heap.size + 1, 0, none⟩ (.int .i64 x)).setCell ⟨w.heap.size + 1, 1, none⟩ (.int .i64 y))) := Lib.hid (Hl1.out.puts 0 [.int .i64 x, .int .i64 y])
  have HB : Hid (Blk _ (w.heap.size + 1) 35 (lookC { Lk.zero with dx := x, dy := y } (.slice none 0 0) (.slice none 0 0) (.slice none 0 0))) := Lib.hid Hl2.out.loc
  have Hth := Lib.hid (Hl2.out.res.there 0 28 (by simp))
  go_wp2_with (first | ((with_reducible refine wpList_load_row ?g1_3 35 ?x1_3 ?o1_3 (w.heap.size + 1) ?h1_3 ?t1_3 ?c1_3 ?f1_3 ?d1_3 ?b1_3 ?u1_3 ?s1_3 ?i1_3 ?r1_3); (case g1_3 => exact rfl); (case o1_3 => exact rfl); (case h1_3 => exact rfl); (case b1_3 => exact HB.out); (case u1_3 => exact Try.underlying35); (case s1_3 => exact rfl); (case i1_3 => exact size_look)) | ((with_reducible refine wpList_store_mid ?g2_3 35 ?x2_3 ?y2_3 ?o2_3 w.heap.size 0 (lookC { Lk.zero with dx := x, dy := y } (.slice none 0 0) (.slice none 0 0) (.slice none 0 0)) ?h2_3 ?j2_3 ?t2_3 ?i2_3 ?s2_3 ?r2_3); (case g2_3 => exact rfl); (case o2_3 => exact rfl); (case h2_3 => exact rfl); (case j2_3 => exact rfl); (case t2_3 => exact Hth.out); (case i2_3 => exact size_look); (case s2_3 => exact lookC_one _ _ _ _ _ _ _ _ _ _)) | fail)
  have hd := RLoc.done (cs := lookC { Lk.zero with dx := x, dy := y } (.slice none 0 0) (.slice none 0 0) (.slice none 0 0)) Hl2.out rfl
  refine bodyPost_ret (v := .tuple #[.agg (lookC { Lk.zero with dx := x, dy := y } (.slice none 0 0) (.slice none 0 0) (.slice none 0 0)), .int .i64 q, .bool true]) (results_look _ _ w.heap.size (lookC { Lk.zero with dx := x, dy := y } (.slice none 0 0) (.slice none 0 0) (.slice none 0 0)) rfl _ _ rfl rfl rfl hd.2.1) rfl ?_
  exact lk_done Hres.out hd.1 (LookR.nil _ _ _ rfl rfl rfl)

set_option maxHeartbeats 4000000 in
theorem lookR_7 (w : World) (pb : Option Addr) (cb : Nat) (bs : List Nat) (h : BytesAt (fun _ => True) w (.slice pb bs.length cb) bs) (hby : ∀ x ∈ bs, x < 256) (hl : bs.length ≤ 10000000) (n : Nat) (hn : n ≤ bs.length) :
    Calls Try.prog 41 #[.slice pb bs.length cb, .int .i64 n, .int .i64 7] w (LkP w bs n 7) := by
  have H := Lib.hid h
  have Hby := Lib.hid hby
  clear h hby
  go_enter Try.func41, Try.ntmps41
  go_wp2_with (first | ((with_reducible refine wpList_buildTo ?g7 35 ?p7 ?o7 ?d7 ?e7 (LkZ) ?f7 ?r7); (case g7 => exact rfl); (case o7 => exact rfl); (case e7 => exact rfl); (case f7 => kernel_rfl)) | ((with_reducible refine wpList_store_mid ?g8 35 ?x8 ?y8 ?o8 (w.heap.size + 1) 0 (LkZ) ?h8 ?j8 ?t8 ?i8 ?s8 ?r8); (case g8 => exact rfl); (case o8 => exact rfl); (case h8 => exact rfl); (case j8 => exact rfl); (case t8 => exact there_look w); (case i8 => exact size_look); (case s8 => exact oneR_look); (have Hl0 := Lib.hid (start_look w)); (generalize ((w.alloc (.cells LkZ 35)).alloc (.cells LkZ 35)).setCells (w.heap.size + 1) 0 (LkZ).toList = w0 at *)) | fail)
  refine (numbersR_any w0 pb cb bs (H.out.mod Hl0.out.mod (fun _ _ _ h => h)) Hby.out hl n 1 hn (by omega)).mono ?_
  rintro e w1 ⟨hm1, hp⟩
  have Hl1 := Lib.hid (Hl0.out.next hm1)
  clear hm1
  rcases ht : timesAt (numAt bs) n 1 with _ | ⟨xs, q⟩
  · rw [ht] at hp
    subst hp
    have Hno : Hid (lookAt bs n 7 = none) := Lib.hid (by rw [look7, times_one_none ht]; rfl)
    clear ht
    have HB : Hid (Blk _ (w.heap.size + 1) 35 (lookC Lk.zero (.slice none 0 0) (.slice none 0 0) (.slice none 0 0))) := Lib.hid Hl1.out.loc
    have Hth := Lib.hid (Hl1.out.res.there 0 28 (by simp))
    go_wp2_with (first | ((with_reducible refine wpList_load_row ?g1_4 35 ?x1_4 ?o1_4 (w.heap.size + 1) ?h1_4 ?t1_4 ?c1_4 ?f1_4 ?d1_4 ?b1_4 ?u1_4 ?s1_4 ?i1_4 ?r1_4); (case g1_4 => exact rfl); (case o1_4 => exact rfl); (case h1_4 => exact rfl); (case b1_4 => exact HB.out); (case u1_4 => exact Try.underlying35); (case s1_4 => exact rfl); (case i1_4 => exact size_look)) | ((with_reducible refine wpList_store_mid ?g2_4 35 ?x2_4 ?y2_4 ?o2_4 w.heap.size 0 (lookC Lk.zero (.slice none 0 0) (.slice none 0 0) (.slice none 0 0)) ?h2_4 ?j2_4 ?t2_4 ?i2_4 ?s2_4 ?r2_4); (case g2_4 => exact rfl); (case o2_4 => exact rfl); (case h2_4 => exact rfl); (case j2_4 => exact rfl); (case t2_4 => exact Hth.out); (case i2_4 => exact size_look); (case s2_4 => exact lookC_one _ _ _ _ _ _ _ _ _ _)) | fail)
    have hd := RLoc.done (cs := lookC Lk.zero (.slice none 0 0) (.slice none 0 0) (.slice none 0 0)) Hl1.out rfl
    refine bodyPost_ret (v := .tuple #[.agg (lookC Lk.zero (.slice none 0 0) (.slice none 0 0) (.slice none 0 0)), .int .i64 0, .bool false]) (results_look _ _ w.heap.size (lookC Lk.zero (.slice none 0 0) (.slice none 0 0) (.slice none 0 0)) rfl _ _ rfl rfl rfl hd.2.1) rfl ?_
    exact lk_fail Hno.out hd.1 _ _ _ _ _ _ _ _ _ _
  rw [ht] at hp
  obtain ⟨p, c, rfl, hown, hxl⟩ := hp
  obtain ⟨x, rfl, hx⟩ := times_one ht
  obtain ⟨gh, rfl, hg0, hg1, hc⟩ := own_ints hown (by omega)
  have c0 : w1.cell? ⟨gh, 0, none⟩ = some (.int .i64 x) := hc 0 (by simp)
  have hq := (num_spec Hby.out).end_le hx hn
  have hng : w.heap.size + 1 ≠ gh := by have := Hl0.out.loc.lt; omega
  have Hx := Lib.hid hx
  clear hc hown hxl ht hx hg0 hg1
  have Hres : Hid (lookAt bs n 7 = some ({ Lk.zero with opacity := x }, q)) := Lib.hid (by rw [look7, Hx.out]; rfl)
  have cl7 : w1.cell? ⟨w.heap.size + 1, 7, none⟩ = some (.int .i64 0) := Hl1.out.loc.cell 7 rfl
  have fl7 : w1.frozen? ⟨w.heap.size + 1, 7, none⟩ = false := Hl1.out.loc.frozen 7
  have Hl2 : Hid (RLoc w 35 LkZ (lookC { Lk.zero with opacity := x } (.slice none 0 0) (.slice none 0 0) (.slice none 0 0)) (w1.setCell ⟨w.heap.size + 1, 7, none⟩ (.int .i64 x))) := Lib.hid (Hl1.out.put 7 (.int .i64 x))
  have HB : Hid (Blk _ (w.heap.size + 1) 35 (lookC { Lk.zero with opacity := x } (.slice none 0 0) (.slice none 0 0) (.slice none 0 0))) := Lib.hid Hl2.out.loc
  have Hth := Lib.hid (Hl2.out.res.there 0 28 (by simp))
  go_wp2_with (first | ((with_reducible refine wpList_load_row ?g1_5 35 ?x1_5 ?o1_5 (w.heap.size + 1) ?h1_5 ?t1_5 ?c1_5 ?f1_5 ?d1_5 ?b1_5 ?u1_5 ?s1_5 ?i1_5 ?r1_5); (case g1_5 => exact rfl); (case o1_5 => exact rfl); (case h1_5 => exact rfl); (case b1_5 => exact HB.out); (case u1_5 => exact Try.underlying35); (case s1_5 => exact rfl); (case i1_5 => exact size_look)) | ((with_reducible refine wpList_store_mid ?g2_5 35 ?x2_5 ?y2_5 ?o2_5 w.heap.size 0 (lookC { Lk.zero with opacity := x } (.slice none 0 0) (.slice none 0 0) (.slice none 0 0)) ?h2_5 ?j2_5 ?t2_5 ?i2_5 ?s2_5 ?r2_5); (case g2_5 => exact rfl); (case o2_5 => exact rfl); (case h2_5 => exact rfl); (case j2_5 => exact rfl); (case t2_5 => exact Hth.out); (case i2_5 => exact size_look); (case s2_5 => exact lookC_one _ _ _ _ _ _ _ _ _ _)) | fail)
  have hd := RLoc.done (cs := lookC { Lk.zero with opacity := x } (.slice none 0 0) (.slice none 0 0) (.slice none 0 0)) Hl2.out rfl
  refine bodyPost_ret (v := .tuple #[.agg (lookC { Lk.zero with opacity := x } (.slice none 0 0) (.slice none 0 0) (.slice none 0 0)), .int .i64 q, .bool true]) (results_look _ _ w.heap.size (lookC { Lk.zero with opacity := x } (.slice none 0 0) (.slice none 0 0) (.slice none 0 0)) rfl _ _ rfl rfl rfl hd.2.1) rfl ?_
  exact lk_done Hres.out hd.1 (LookR.nil _ _ _ rfl rfl rfl)

set_option maxHeartbeats 4000000 in
theorem lookR_8 (w : World) (pb : Option Addr) (cb : Nat) (bs : List Nat) (h : BytesAt (fun _ => True) w (.slice pb bs.length cb) bs) (hby : ∀ x ∈ bs, x < 256) (hl : bs.length ≤ 10000000) (n : Nat) (hn : n ≤ bs.length) :
    Calls Try.prog 41 #[.slice pb bs.length cb, .int .i64 n, .int .i64 8] w (LkP w bs n 8) := by
  have H := Lib.hid h
  have Hby := Lib.hid hby
  clear h hby
  go_enter Try.func41, Try.ntmps41
  go_wp2_with (first | ((with_reducible refine wpList_buildTo ?g7 35 ?p7 ?o7 ?d7 ?e7 (LkZ) ?f7 ?r7); (case g7 => exact rfl); (case o7 => exact rfl); (case e7 => exact rfl); (case f7 => kernel_rfl)) | ((with_reducible refine wpList_store_mid ?g8 35 ?x8 ?y8 ?o8 (w.heap.size + 1) 0 (LkZ) ?h8 ?j8 ?t8 ?i8 ?s8 ?r8); (case g8 => exact rfl); (case o8 => exact rfl); (case h8 => exact rfl); (case j8 => exact rfl); (case t8 => exact there_look w); (case i8 => exact size_look); (case s8 => exact oneR_look); (have Hl0 := Lib.hid (start_look w)); (generalize ((w.alloc (.cells LkZ 35)).alloc (.cells LkZ 35)).setCells (w.heap.size + 1) 0 (LkZ).toList = w0 at *)) | fail)
  refine (numbersR_any w0 pb cb bs (H.out.mod Hl0.out.mod (fun _ _ _ h => h)) Hby.out hl n 1 hn (by omega)).mono ?_
  rintro e w1 ⟨hm1, hp⟩
  have Hl1 := Lib.hid (Hl0.out.next hm1)
  clear hm1
  rcases ht : timesAt (numAt bs) n 1 with _ | ⟨xs, q⟩
  · rw [ht] at hp
    subst hp
    have Hno : Hid (lookAt bs n 8 = none) := Lib.hid (by rw [look8, times_one_none ht]; rfl)
    clear ht
    have HB : Hid (Blk _ (w.heap.size + 1) 35 (lookC Lk.zero (.slice none 0 0) (.slice none 0 0) (.slice none 0 0))) := Lib.hid Hl1.out.loc
    have Hth := Lib.hid (Hl1.out.res.there 0 28 (by simp))
    go_wp2_with (first | ((with_reducible refine wpList_load_row ?g1_6 35 ?x1_6 ?o1_6 (w.heap.size + 1) ?h1_6 ?t1_6 ?c1_6 ?f1_6 ?d1_6 ?b1_6 ?u1_6 ?s1_6 ?i1_6 ?r1_6); (case g1_6 => exact rfl); (case o1_6 => exact rfl); (case h1_6 => exact rfl); (case b1_6 => exact HB.out); (case u1_6 => exact Try.underlying35); (case s1_6 => exact rfl); (case i1_6 => exact size_look)) | ((with_reducible refine wpList_store_mid ?g2_6 35 ?x2_6 ?y2_6 ?o2_6 w.heap.size 0 (lookC Lk.zero (.slice none 0 0) (.slice none 0 0) (.slice none 0 0)) ?h2_6 ?j2_6 ?t2_6 ?i2_6 ?s2_6 ?r2_6); (case g2_6 => exact rfl); (case o2_6 => exact rfl); (case h2_6 => exact rfl); (case j2_6 => exact rfl); (case t2_6 => exact Hth.out); (case i2_6 => exact size_look); (case s2_6 => exact lookC_one _ _ _ _ _ _ _ _ _ _)) | fail)
    have hd := RLoc.done (cs := lookC Lk.zero (.slice none 0 0) (.slice none 0 0) (.slice none 0 0)) Hl1.out rfl
    refine bodyPost_ret (v := .tuple #[.agg (lookC Lk.zero (.slice none 0 0) (.slice none 0 0) (.slice none 0 0)), .int .i64 0, .bool false]) (results_look _ _ w.heap.size (lookC Lk.zero (.slice none 0 0) (.slice none 0 0) (.slice none 0 0)) rfl _ _ rfl rfl rfl hd.2.1) rfl ?_
    exact lk_fail Hno.out hd.1 _ _ _ _ _ _ _ _ _ _
  rw [ht] at hp
  obtain ⟨p, c, rfl, hown, hxl⟩ := hp
  obtain ⟨x, rfl, hx⟩ := times_one ht
  obtain ⟨gh, rfl, hg0, hg1, hc⟩ := own_ints hown (by omega)
  have c0 : w1.cell? ⟨gh, 0, none⟩ = some (.int .i64 x) := hc 0 (by simp)
  have hq := (num_spec Hby.out).end_le hx hn
  have hng : w.heap.size + 1 ≠ gh := by have := Hl0.out.loc.lt; omega
  have Hx := Lib.hid hx
  clear hc hown hxl ht hx hg0 hg1
  have Hres : Hid (lookAt bs n 8 = some ({ Lk.zero with mode := x }, q)) := Lib.hid (by rw [look8, Hx.out]; rfl)
  have cl8 : w1.cell? ⟨w.heap.size + 1, 8, none⟩ = some (.int .i64 0) := Hl1.out.loc.cell 8 rfl
  have fl8 : w1.frozen? ⟨w.heap.size + 1, 8, none⟩ = false := Hl1.out.loc.frozen 8
  have Hl2 : Hid (RLoc w 35 LkZ (lookC { Lk.zero with mode := x } (.slice none 0 0) (.slice none 0 0) (.slice none 0 0)) (w1.setCell ⟨w.heap.size + 1, 8, none⟩ (.int .i64 x))) := Lib.hid (Hl1.out.put 8 (.int .i64 x))
  have HB : Hid (Blk _ (w.heap.size + 1) 35 (lookC { Lk.zero with mode := x } (.slice none 0 0) (.slice none 0 0) (.slice none 0 0))) := Lib.hid Hl2.out.loc
  have Hth := Lib.hid (Hl2.out.res.there 0 28 (by simp))
  go_wp2_with (first | ((with_reducible refine wpList_load_row ?g1_7 35 ?x1_7 ?o1_7 (w.heap.size + 1) ?h1_7 ?t1_7 ?c1_7 ?f1_7 ?d1_7 ?b1_7 ?u1_7 ?s1_7 ?i1_7 ?r1_7); (case g1_7 => exact rfl); (case o1_7 => exact rfl); (case h1_7 => exact rfl); (case b1_7 => exact HB.out); (case u1_7 => exact Try.underlying35); (case s1_7 => exact rfl); (case i1_7 => exact size_look)) | ((with_reducible refine wpList_store_mid ?g2_7 35 ?x2_7 ?y2_7 ?o2_7 w.heap.size 0 (lookC { Lk.zero with mode := x } (.slice none 0 0) (.slice none 0 0) (.slice none 0 0)) ?h2_7 ?j2_7 ?t2_7 ?i2_7 ?s2_7 ?r2_7); (case g2_7 => exact rfl); (case o2_7 => exact rfl); (case h2_7 => exact rfl); (case j2_7 => exact rfl); (case t2_7 => exact Hth.out); (case i2_7 => exact size_look); (case s2_7 => exact lookC_one _ _ _ _ _ _ _ _ _ _)) | fail)
  have hd := RLoc.done (cs := lookC { Lk.zero with mode := x } (.slice none 0 0) (.slice none 0 0) (.slice none 0 0)) Hl2.out rfl
  refine bodyPost_ret (v := .tuple #[.agg (lookC { Lk.zero with mode := x } (.slice none 0 0) (.slice none 0 0) (.slice none 0 0)), .int .i64 q, .bool true]) (results_look _ _ w.heap.size (lookC { Lk.zero with mode := x } (.slice none 0 0) (.slice none 0 0) (.slice none 0 0)) rfl _ _ rfl rfl rfl hd.2.1) rfl ?_
  exact lk_done Hres.out hd.1 (LookR.nil _ _ _ rfl rfl rfl)

set_option maxHeartbeats 4000000 in
theorem lookR_9 (w : World) (pb : Option Addr) (cb : Nat) (bs : List Nat) (h : BytesAt (fun _ => True) w (.slice pb bs.length cb) bs) (hby : ∀ x ∈ bs, x < 256) (hl : bs.length ≤ 10000000) (n : Nat) (hn : n ≤ bs.length) :
    Calls Try.prog 41 #[.slice pb bs.length cb, .int .i64 n, .int .i64 9] w (LkP w bs n 9) := by
  have H := Lib.hid h
  have Hby := Lib.hid hby
  clear h hby
  go_enter Try.func41, Try.ntmps41
  go_wp2_with (first | ((with_reducible refine wpList_buildTo ?g7 35 ?p7 ?o7 ?d7 ?e7 (LkZ) ?f7 ?r7); (case g7 => exact rfl); (case o7 => exact rfl); (case e7 => exact rfl); (case f7 => kernel_rfl)) | ((with_reducible refine wpList_store_mid ?g8 35 ?x8 ?y8 ?o8 (w.heap.size + 1) 0 (LkZ) ?h8 ?j8 ?t8 ?i8 ?s8 ?r8); (case g8 => exact rfl); (case o8 => exact rfl); (case h8 => exact rfl); (case j8 => exact rfl); (case t8 => exact there_look w); (case i8 => exact size_look); (case s8 => exact oneR_look); (have Hl0 := Lib.hid (start_look w)); (generalize ((w.alloc (.cells LkZ 35)).alloc (.cells LkZ 35)).setCells (w.heap.size + 1) 0 (LkZ).toList = w0 at *)) | fail)
  refine (contentR_any w0 pb cb bs (H.out.mod Hl0.out.mod (fun _ _ _ h => h)) Hby.out hl n hn).mono ?_
  rintro e w1 ⟨hm1, hp⟩
  have Hl1 := Lib.hid (Hl0.out.next hm1)
  clear hm1
  rcases ht : contentAt bs n with _ | ⟨c, q⟩
  · rw [ht] at hp
    obtain ⟨c, rfl⟩ := hp
    have Hno : Hid (lookAt bs n 9 = none) := Lib.hid (by rw [look9, ht]; rfl)
    clear ht
    have Hbx := Lib.hid (box_put w1 30 CtZ (contC c (.slice none 0 0)) rfl)
    have Hl1b := Lib.hid (Hl1.out.next Hbx.out.1)
    have Ht1 := Lib.hid (Hl1b.out.loc.there 9 13 (by simp))
    have hl2 := Hl1b.out.puts 9 (contC c (.slice none 0 0)).toList
    rw [setMany_look] at hl2
    have Hl2 := Lib.hid hl2
    clear hl2
    have HB : Hid (Blk _ (w.heap.size + 1) 35 (lookC { Lk.zero with content := c } (.slice none 0 0) (.slice none 0 0) (.slice none 0 0))) := Lib.hid Hl2.out.loc
    have Hth := Lib.hid (Hl2.out.res.there 0 28 (by simp))
    go_wp2_with (first | ((with_reducible refine wpList_store_mid ?g5_8 30 ?x5_8 ?y5_8 ?o5_8 w1.heap.size 0 (contC c (.slice none 0 0)) ?h5_8 ?j5_8 ?t5_8 ?i5_8 ?s5_8 ?r5_8); (case g5_8 => exact rfl); (case o5_8 => exact rfl); (case h5_8 => exact rfl); (case j5_8 => exact rfl); (case t5_8 => exact Hbx.out.2.2); (case i5_8 => exact size_content.trans (by simp [contC])); (case s5_8 => exact contC_one _ _ _ _)) | ((with_reducible refine wpList_load_row ?g5_9 30 ?x5_9 ?o5_9 w1.heap.size ?h5_9 ?t5_9 ?c5_9 ?f5_9 ?d5_9 ?b5_9 ?u5_9 ?s5_9 ?i5_9 ?r5_9); (case g5_9 => exact rfl); (case o5_9 => exact rfl); (case h5_9 => exact rfl); (case b5_9 => exact Hbx.out.2.1); (case u5_9 => exact Try.underlying30); (case s5_9 => exact rfl); (case i5_9 => exact size_content.trans (by simp [contC]))) | ((with_reducible refine wpList_store_mid ?g5_10 30 ?x5_10 ?y5_10 ?o5_10 (w.heap.size + 1) 9 (contC c (.slice none 0 0)) ?h5_10 ?j5_10 ?t5_10 ?i5_10 ?s5_10 ?r5_10); (case g5_10 => exact rfl); (case o5_10 => exact rfl); (case h5_10 => exact rfl); (case j5_10 => exact rfl); (case t5_10 => exact Ht1.out); (case i5_10 => exact size_content.trans (by simp [contC])); (case s5_10 => exact contC_one _ _ _ _)) | ((with_reducible refine wpList_load_row ?g1_11 35 ?x1_11 ?o1_11 (w.heap.size + 1) ?h1_11 ?t1_11 ?c1_11 ?f1_11 ?d1_11 ?b1_11 ?u1_11 ?s1_11 ?i1_11 ?r1_11); (case g1_11 => exact rfl); (case o1_11 => exact rfl); (case h1_11 => exact rfl); (case b1_11 => exact HB.out); (case u1_11 => exact Try.underlying35); (case s1_11 => exact rfl); (case i1_11 => exact size_look)) | ((with_reducible refine wpList_store_mid ?g2_11 35 ?x2_11 ?y2_11 ?o2_11 w.heap.size 0 (lookC { Lk.zero with content := c } (.slice none 0 0) (.slice none 0 0) (.slice none 0 0)) ?h2_11 ?j2_11 ?t2_11 ?i2_11 ?s2_11 ?r2_11); (case g2_11 => exact rfl); (case o2_11 => exact rfl); (case h2_11 => exact rfl); (case j2_11 => exact rfl); (case t2_11 => exact Hth.out); (case i2_11 => exact size_look); (case s2_11 => exact lookC_one _ _ _ _ _ _ _ _ _ _)) | fail)
    have hd := RLoc.done (cs := lookC { Lk.zero with content := c } (.slice none 0 0) (.slice none 0 0) (.slice none 0 0)) Hl2.out rfl
    refine bodyPost_ret (v := .tuple #[.agg (lookC { Lk.zero with content := c } (.slice none 0 0) (.slice none 0 0) (.slice none 0 0)), .int .i64 0, .bool false]) (results_look _ _ w.heap.size (lookC { Lk.zero with content := c } (.slice none 0 0) (.slice none 0 0) (.slice none 0 0)) rfl _ _ rfl rfl rfl hd.2.1) rfl ?_
    exact lk_fail Hno.out hd.1 _ _ _ _ _ _ _ _ _ _
  rw [ht] at hp
  obtain ⟨p, j, rfl, hpix⟩ := hp
  have Hres : Hid (lookAt bs n 9 = some ({ Lk.zero with content := c }, q)) := Lib.hid (by rw [look9, ht]; rfl)
  have Hr : Hid (LookR (fun b => w0.heap.size ≤ b) w1 { Lk.zero with content := c } (.slice p c.pix.length j) (.slice none 0 0) (.slice none 0 0)) := Lib.hid ⟨hpix, NodesR.nil _ _, NodesR.nil _ _⟩
  have Hs0 := Lib.hid Hl0.out.loc.lt
  clear ht hpix
  have Hbx := Lib.hid (box_put w1 30 CtZ (contC c (.slice p c.pix.length j)) rfl)
  have Hl1b := Lib.hid (Hl1.out.next Hbx.out.1)
  have Ht1 := Lib.hid (Hl1b.out.loc.there 9 13 (by simp))
  have hl2 := Hl1b.out.puts 9 (contC c (.slice p c.pix.length j)).toList
  rw [setMany_look] at hl2
  have Hl2 := Lib.hid hl2
  clear hl2
  have HB : Hid (Blk _ (w.heap.size + 1) 35 (lookC { Lk.zero with content := c } (.slice p c.pix.length j) (.slice none 0 0) (.slice none 0 0))) := Lib.hid Hl2.out.loc
  have Hth := Lib.hid (Hl2.out.res.there 0 28 (by simp))
  go_wp2_with (first | ((with_reducible refine wpList_store_mid ?g5_12 30 ?x5_12 ?y5_12 ?o5_12 w1.heap.size 0 (contC c (.slice p c.pix.length j)) ?h5_12 ?j5_12 ?t5_12 ?i5_12 ?s5_12 ?r5_12); (case g5_12 => exact rfl); (case o5_12 => exact rfl); (case h5_12 => exact rfl); (case j5_12 => exact rfl); (case t5_12 => exact Hbx.out.2.2); (case i5_12 => exact size_content.trans (by simp [contC])); (case s5_12 => exact contC_one _ _ _ _)) | ((with_reducible refine wpList_load_row ?g5_13 30 ?x5_13 ?o5_13 w1.heap.size ?h5_13 ?t5_13 ?c5_13 ?f5_13 ?d5_13 ?b5_13 ?u5_13 ?s5_13 ?i5_13 ?r5_13); (case g5_13 => exact rfl); (case o5_13 => exact rfl); (case h5_13 => exact rfl); (case b5_13 => exact Hbx.out.2.1); (case u5_13 => exact Try.underlying30); (case s5_13 => exact rfl); (case i5_13 => exact size_content.trans (by simp [contC]))) | ((with_reducible refine wpList_store_mid ?g5_14 30 ?x5_14 ?y5_14 ?o5_14 (w.heap.size + 1) 9 (contC c (.slice p c.pix.length j)) ?h5_14 ?j5_14 ?t5_14 ?i5_14 ?s5_14 ?r5_14); (case g5_14 => exact rfl); (case o5_14 => exact rfl); (case h5_14 => exact rfl); (case j5_14 => exact rfl); (case t5_14 => exact Ht1.out); (case i5_14 => exact size_content.trans (by simp [contC])); (case s5_14 => exact contC_one _ _ _ _)) | ((with_reducible refine wpList_load_row ?g1_15 35 ?x1_15 ?o1_15 (w.heap.size + 1) ?h1_15 ?t1_15 ?c1_15 ?f1_15 ?d1_15 ?b1_15 ?u1_15 ?s1_15 ?i1_15 ?r1_15); (case g1_15 => exact rfl); (case o1_15 => exact rfl); (case h1_15 => exact rfl); (case b1_15 => exact HB.out); (case u1_15 => exact Try.underlying35); (case s1_15 => exact rfl); (case i1_15 => exact size_look)) | ((with_reducible refine wpList_store_mid ?g2_15 35 ?x2_15 ?y2_15 ?o2_15 w.heap.size 0 (lookC { Lk.zero with content := c } (.slice p c.pix.length j) (.slice none 0 0) (.slice none 0 0)) ?h2_15 ?j2_15 ?t2_15 ?i2_15 ?s2_15 ?r2_15); (case g2_15 => exact rfl); (case o2_15 => exact rfl); (case h2_15 => exact rfl); (case j2_15 => exact rfl); (case t2_15 => exact Hth.out); (case i2_15 => exact size_look); (case s2_15 => exact lookC_one _ _ _ _ _ _ _ _ _ _)) | fail)
  have hd := RLoc.done (cs := lookC { Lk.zero with content := c } (.slice p c.pix.length j) (.slice none 0 0) (.slice none 0 0)) Hl2.out rfl
  refine bodyPost_ret (v := .tuple #[.agg (lookC { Lk.zero with content := c } (.slice p c.pix.length j) (.slice none 0 0) (.slice none 0 0)), .int .i64 q, .bool true]) (results_look _ _ w.heap.size (lookC { Lk.zero with content := c } (.slice p c.pix.length j) (.slice none 0 0) (.slice none 0 0)) rfl _ _ rfl rfl rfl hd.2.1) rfl ?_
  exact lk_done Hres.out hd.1 (LookR.far (Hr.out.mod Hbx.out.1 (fun _ _ _ h => h)) (Mod.two hd.2.2) (by have := Hs0.out; omega) (by have := Hs0.out; omega) (by have := Hs0.out; omega))

set_option maxHeartbeats 4000000 in
theorem lookR_10 (w : World) (pb : Option Addr) (cb : Nat) (bs : List Nat) (h : BytesAt (fun _ => True) w (.slice pb bs.length cb) bs) (hby : ∀ x ∈ bs, x < 256) (hl : bs.length ≤ 10000000) (n : Nat) (hn : n ≤ bs.length) :
    Calls Try.prog 41 #[.slice pb bs.length cb, .int .i64 n, .int .i64 10] w (LkP w bs n 10) := by
  have H := Lib.hid h
  have Hby := Lib.hid hby
  clear h hby
  go_enter Try.func41, Try.ntmps41
  go_wp2_with (first | ((with_reducible refine wpList_buildTo ?g7 35 ?p7 ?o7 ?d7 ?e7 (LkZ) ?f7 ?r7); (case g7 => exact rfl); (case o7 => exact rfl); (case e7 => exact rfl); (case f7 => kernel_rfl)) | ((with_reducible refine wpList_store_mid ?g8 35 ?x8 ?y8 ?o8 (w.heap.size + 1) 0 (LkZ) ?h8 ?j8 ?t8 ?i8 ?s8 ?r8); (case g8 => exact rfl); (case o8 => exact rfl); (case h8 => exact rfl); (case j8 => exact rfl); (case t8 => exact there_look w); (case i8 => exact size_look); (case s8 => exact oneR_look); (have Hl0 := Lib.hid (start_look w)); (generalize ((w.alloc (.cells LkZ 35)).alloc (.cells LkZ 35)).setCells (w.heap.size + 1) 0 (LkZ).toList = w0 at *)) | fail)
  refine (numbersR_any w0 pb cb bs (H.out.mod Hl0.out.mod (fun _ _ _ h => h)) Hby.out hl n 1 hn (by omega)).mono ?_
  rintro e w1 ⟨hm1, hp⟩
  have Hl1 := Lib.hid (Hl0.out.next hm1)
  clear hm1
  rcases ht : timesAt (numAt bs) n 1 with _ | ⟨xs, q⟩
  · rw [ht] at hp
    subst hp
    have Hno : Hid (lookAt bs n 10 = none) := Lib.hid (by rw [look10, flag_none ht]; rfl)
    clear ht
    have HB : Hid (Blk _ (w.heap.size + 1) 35 (lookC Lk.zero (.slice none 0 0) (.slice none 0 0) (.slice none 0 0))) := Lib.hid Hl1.out.loc
    have Hth := Lib.hid (Hl1.out.res.there 0 28 (by simp))
    go_wp2_with (first | ((with_reducible refine wpList_load_row ?g1_24 35 ?x1_24 ?o1_24 (w.heap.size + 1) ?h1_24 ?t1_24 ?c1_24 ?f1_24 ?d1_24 ?b1_24 ?u1_24 ?s1_24 ?i1_24 ?r1_24); (case g1_24 => exact rfl); (case o1_24 => exact rfl); (case h1_24 => exact rfl); (case b1_24 => exact HB.out); (case u1_24 => exact Try.underlying35); (case s1_24 => exact rfl); (case i1_24 => exact size_look)) | ((with_reducible refine wpList_store_mid ?g2_24 35 ?x2_24 ?y2_24 ?o2_24 w.heap.size 0 (lookC Lk.zero (.slice none 0 0) (.slice none 0 0) (.slice none 0 0)) ?h2_24 ?j2_24 ?t2_24 ?i2_24 ?s2_24 ?r2_24); (case g2_24 => exact rfl); (case o2_24 => exact rfl); (case h2_24 => exact rfl); (case j2_24 => exact rfl); (case t2_24 => exact Hth.out); (case i2_24 => exact size_look); (case s2_24 => exact lookC_one _ _ _ _ _ _ _ _ _ _)) | fail)
    have hd := RLoc.done (cs := lookC Lk.zero (.slice none 0 0) (.slice none 0 0) (.slice none 0 0)) Hl1.out rfl
    refine bodyPost_ret (v := .tuple #[.agg (lookC Lk.zero (.slice none 0 0) (.slice none 0 0) (.slice none 0 0)), .int .i64 0, .bool false]) (results_look _ _ w.heap.size (lookC Lk.zero (.slice none 0 0) (.slice none 0 0) (.slice none 0 0)) rfl _ _ rfl rfl rfl hd.2.1) rfl ?_
    exact lk_fail Hno.out hd.1 _ _ _ _ _ _ _ _ _ _
  rw [ht] at hp
  obtain ⟨p, c, rfl, hown, hxl⟩ := hp
  obtain ⟨x, rfl, hx⟩ := times_one ht
  obtain ⟨gh, rfl, hg0, hg1, hc⟩ := own_ints hown (by omega)
  have c0 : w1.cell? ⟨gh, 0, none⟩ = some (.int .i64 x) := hc 0 (by simp)
  have hq := (num_spec Hby.out).end_le hx hn
  have hng : w.heap.size + 1 ≠ gh := by have := Hl0.out.loc.lt; omega
  have Hx := Lib.hid hx
  clear hc hown hxl ht hx hg0 hg1
  by_cases hx0 : x = 0
  · subst hx0
    have Hres : Hid (lookAt bs n 10 = some (Lk.zero, q)) := Lib.hid (by rw [look10, flag_zero Hx.out]; rfl)
    have HB : Hid (Blk _ (w.heap.size + 1) 35 (lookC Lk.zero (.slice none 0 0) (.slice none 0 0) (.slice none 0 0))) := Lib.hid Hl1.out.loc
    have Hth := Lib.hid (Hl1.out.res.there 0 28 (by simp))
    go_wp2_with (first | ((with_reducible refine wpList_load_row ?g1_25 35 ?x1_25 ?o1_25 (w.heap.size + 1) ?h1_25 ?t1_25 ?c1_25 ?f1_25 ?d1_25 ?b1_25 ?u1_25 ?s1_25 ?i1_25 ?r1_25); (case g1_25 => exact rfl); (case o1_25 => exact rfl); (case h1_25 => exact rfl); (case b1_25 => exact HB.out); (case u1_25 => exact Try.underlying35); (case s1_25 => exact rfl); (case i1_25 => exact size_look)) | ((with_reducible refine wpList_store_mid ?g2_25 35 ?x2_25 ?y2_25 ?o2_25 w.heap.size 0 (lookC Lk.zero (.slice none 0 0) (.slice none 0 0) (.slice none 0 0)) ?h2_25 ?j2_25 ?t2_25 ?i2_25 ?s2_25 ?r2_25); (case g2_25 => exact rfl); (case o2_25 => exact rfl); (case h2_25 => exact rfl); (case j2_25 => exact rfl); (case t2_25 => exact Hth.out); (case i2_25 => exact size_look); (case s2_25 => exact lookC_one _ _ _ _ _ _ _ _ _ _)) | fail)
    have hd := RLoc.done (cs := lookC Lk.zero (.slice none 0 0) (.slice none 0 0) (.slice none 0 0)) Hl1.out rfl
    refine bodyPost_ret (v := .tuple #[.agg (lookC Lk.zero (.slice none 0 0) (.slice none 0 0) (.slice none 0 0)), .int .i64 q, .bool true]) (results_look _ _ w.heap.size (lookC Lk.zero (.slice none 0 0) (.slice none 0 0) (.slice none 0 0)) rfl _ _ rfl rfl rfl hd.2.1) rfl ?_
    exact lk_done Hres.out hd.1 (LookR.nil _ _ _ rfl rfl rfl)
  have t0 : (x == 0) = false := by simpa using hx0
  have t0' : (x != 0) = true := by simpa using hx0
  by_cases hx1 : x = 1
  case neg =>
    have t1 : (x == 1) = false := by simpa using hx1
    have t1' : (x != 1) = true := by simpa using hx1
    have Hno : Hid (lookAt bs n 10 = none) := Lib.hid (by rw [look10, flag_bad Hx.out hx0 hx1]; rfl)
    clear hx0 hx1
    have HB : Hid (Blk _ (w.heap.size + 1) 35 (lookC Lk.zero (.slice none 0 0) (.slice none 0 0) (.slice none 0 0))) := Lib.hid Hl1.out.loc
    have Hth := Lib.hid (Hl1.out.res.there 0 28 (by simp))
    go_wp2_with (first | ((with_reducible refine wpList_load_row ?g1_26 35 ?x1_26 ?o1_26 (w.heap.size + 1) ?h1_26 ?t1_26 ?c1_26 ?f1_26 ?d1_26 ?b1_26 ?u1_26 ?s1_26 ?i1_26 ?r1_26); (case g1_26 => exact rfl); (case o1_26 => exact rfl); (case h1_26 => exact rfl); (case b1_26 => exact HB.out); (case u1_26 => exact Try.underlying35); (case s1_26 => exact rfl); (case i1_26 => exact size_look)) | ((with_reducible refine wpList_store_mid ?g2_26 35 ?x2_26 ?y2_26 ?o2_26 w.heap.size 0 (lookC Lk.zero (.slice none 0 0) (.slice none 0 0) (.slice none 0 0)) ?h2_26 ?j2_26 ?t2_26 ?i2_26 ?s2_26 ?r2_26); (case g2_26 => exact rfl); (case o2_26 => exact rfl); (case h2_26 => exact rfl); (case j2_26 => exact rfl); (case t2_26 => exact Hth.out); (case i2_26 => exact size_look); (case s2_26 => exact lookC_one _ _ _ _ _ _ _ _ _ _)) | fail)
    have hd := RLoc.done (cs := lookC Lk.zero (.slice none 0 0) (.slice none 0 0) (.slice none 0 0)) Hl1.out rfl
    refine bodyPost_ret (v := .tuple #[.agg (lookC Lk.zero (.slice none 0 0) (.slice none 0 0) (.slice none 0 0)), .int .i64 0, .bool false]) (results_look _ _ w.heap.size (lookC Lk.zero (.slice none 0 0) (.slice none 0 0) (.slice none 0 0)) rfl _ _ rfl rfl rfl hd.2.1) rfl ?_
    exact lk_fail Hno.out hd.1 _ _ _ _ _ _ _ _ _ _
  subst hx1
  clear hx0 t0 t0'
  have Hfl := Lib.hid (flag_one Hx.out)
  clear Hx
  go_wp2_with fail
  clear c0
  refine (graphR_any w1 pb cb bs (H.out.mod Hl1.out.mod (fun _ _ _ h => h)) Hby.out hl q hq).mono ?_
  rintro e w2 ⟨hm2, hp⟩
  have Hl2 := Lib.hid (Hl1.out.next hm2)
  clear hm2
  rcases ht : graphAt bs q with _ | ⟨gr, q2⟩
  · rw [ht] at hp
    obtain ⟨p, j, c, x, rfl⟩ := hp
    have Hno : Hid (lookAt bs n 10 = none) := Lib.hid (by rw [look10, Hfl.out, Option.bind_some, if_pos rfl, ht]; rfl)
    clear ht
    have Hbx := Lib.hid (box_put w2 33 #[.slice none 0 0, .int .i64 0] (graphC (.slice p j c) x) rfl)
    have Hlb := Lib.hid (Hl2.out.next Hbx.out.1)
    have cl22 : ((w2.alloc (.cells #[.slice none 0 0, .int .i64 0] 33)).setCells w2.heap.size 0 (graphC (.slice p j c) x).toList).cell? ⟨w.heap.size + 1, 22, none⟩ = some (.bool false) := Hlb.out.loc.cell 22 rfl
    have fl22 : ((w2.alloc (.cells #[.slice none 0 0, .int .i64 0] 33)).setCells w2.heap.size 0 (graphC (.slice p j c) x).toList).frozen? ⟨w.heap.size + 1, 22, none⟩ = false := Hlb.out.loc.frozen 22
    have Htg := Lib.hid ((Hlb.out.put 22 (.bool true)).loc.there 23 2 (by simp))
    have Hbl : Hid (Blk (((w2.alloc (.cells #[.slice none 0 0, .int .i64 0] 33)).setCells w2.heap.size 0 (graphC (.slice p j c) x).toList).setCell ⟨w.heap.size + 1, 22, none⟩ (.bool true)) w2.heap.size 33 (graphC (.slice p j c) x)) := Lib.hid (Hbx.out.2.1.mod (Gou.Mod.setCell _ ⟨w.heap.size + 1, 22, none⟩ _) (by have := Hl2.out.loc.lt; simp; omega))
    have Hl3 : Hid (RLoc w 35 LkZ (lookC { Lk.zero with hasFilt := true, filt := ⟨[], x⟩ } (.slice none 0 0) (.slice p j c) (.slice none 0 0)) ((((w2.alloc (.cells #[.slice none 0 0, .int .i64 0] 33)).setCells w2.heap.size 0 (graphC (.slice p j c) x).toList).setCell ⟨w.heap.size + 1, 22, none⟩ (.bool true)).setCells (w.heap.size + 1) 23 (graphC (.slice p j c) x).toList)) := Lib.hid ((Hlb.out.put 22 (.bool true)).puts 23 (graphC (.slice p j c) x).toList)
    have HB : Hid (Blk _ (w.heap.size + 1) 35 (lookC { Lk.zero with hasFilt := true, filt := ⟨[], x⟩ } (.slice none 0 0) (.slice p j c) (.slice none 0 0))) := Lib.hid Hl3.out.loc
    have Hth := Lib.hid (Hl3.out.res.there 0 28 (by simp))
    go_wp2_with (first | ((with_reducible refine wpList_store_mid ?g5_16 33 ?x5_16 ?y5_16 ?o5_16 w2.heap.size 0 (graphC (.slice p j c) x) ?h5_16 ?j5_16 ?t5_16 ?i5_16 ?s5_16 ?r5_16); (case g5_16 => exact rfl); (case o5_16 => exact rfl); (case h5_16 => exact rfl); (case j5_16 => exact rfl); (case t5_16 => exact Hbx.out.2.2); (case i5_16 => exact size_graph); (case s5_16 => exact graphC_one _ _ _ _); (generalize ((w2.alloc (.cells #[.slice none 0 0, .int .i64 0] 33)).setCells w2.heap.size 0 (graphC (.slice p j c) x).toList) = w3 at *)) | ((with_reducible refine wpList_load_row ?g5_17 33 ?x5_17 ?o5_17 w2.heap.size ?h5_17 ?t5_17 ?c5_17 ?f5_17 ?d5_17 ?b5_17 ?u5_17 ?s5_17 ?i5_17 ?r5_17); (case g5_17 => exact rfl); (case o5_17 => exact rfl); (case h5_17 => exact rfl); (case b5_17 => exact Hbl.out); (case u5_17 => exact Try.underlying33); (case s5_17 => exact rfl); (case i5_17 => exact size_graph)) | ((with_reducible refine wpList_store_mid ?g5_18 33 ?x5_18 ?y5_18 ?o5_18 (w.heap.size + 1) 23 (graphC (.slice p j c) x) ?h5_18 ?j5_18 ?t5_18 ?i5_18 ?s5_18 ?r5_18); (case g5_18 => exact rfl); (case o5_18 => exact rfl); (case h5_18 => exact rfl); (case j5_18 => exact rfl); (case t5_18 => exact Htg.out); (case i5_18 => exact size_graph); (case s5_18 => exact graphC_one _ _ _ _)) | ((with_reducible refine wpList_load_row ?g1_19 35 ?x1_19 ?o1_19 (w.heap.size + 1) ?h1_19 ?t1_19 ?c1_19 ?f1_19 ?d1_19 ?b1_19 ?u1_19 ?s1_19 ?i1_19 ?r1_19); (case g1_19 => exact rfl); (case o1_19 => exact rfl); (case h1_19 => exact rfl); (case b1_19 => exact HB.out); (case u1_19 => exact Try.underlying35); (case s1_19 => exact rfl); (case i1_19 => exact size_look)) | ((with_reducible refine wpList_store_mid ?g2_19 35 ?x2_19 ?y2_19 ?o2_19 w.heap.size 0 (lookC { Lk.zero with hasFilt := true, filt := ⟨[], x⟩ } (.slice none 0 0) (.slice p j c) (.slice none 0 0)) ?h2_19 ?j2_19 ?t2_19 ?i2_19 ?s2_19 ?r2_19); (case g2_19 => exact rfl); (case o2_19 => exact rfl); (case h2_19 => exact rfl); (case j2_19 => exact rfl); (case t2_19 => exact Hth.out); (case i2_19 => exact size_look); (case s2_19 => exact lookC_one _ _ _ _ _ _ _ _ _ _)) | fail)
    have hd := RLoc.done (cs := lookC { Lk.zero with hasFilt := true, filt := ⟨[], x⟩ } (.slice none 0 0) (.slice p j c) (.slice none 0 0)) Hl3.out rfl
    refine bodyPost_ret (v := .tuple #[.agg (lookC { Lk.zero with hasFilt := true, filt := ⟨[], x⟩ } (.slice none 0 0) (.slice p j c) (.slice none 0 0)), .int .i64 0, .bool false]) (results_look _ _ w.heap.size (lookC { Lk.zero with hasFilt := true, filt := ⟨[], x⟩ } (.slice none 0 0) (.slice p j c) (.slice none 0 0)) rfl _ _ rfl rfl rfl hd.2.1) rfl ?_
    exact lk_fail Hno.out hd.1 _ _ _ _ _ _ _ _ _ _
  rw [ht] at hp
  obtain ⟨p, c, rfl, hnod⟩ := hp
  have Hres : Hid (lookAt bs n 10 = some ({ Lk.zero with hasFilt := true, filt := gr }, q2)) := Lib.hid (by rw [look10, Hfl.out, Option.bind_some, if_pos rfl, ht]; rfl)
  have Hr : Hid (LookR (fun b => w1.heap.size ≤ b) w2 { Lk.zero with hasFilt := true, filt := gr } (.slice none 0 0) (.slice p gr.nodes.length c) (.slice none 0 0)) := Lib.hid ⟨PixR.nil _ _, hnod, NodesR.nil _ _⟩
  have Hs0 : Hid (w.heap.size + 2 ≤ w1.heap.size) := Lib.hid (by have := Hl1.out.loc.lt; omega)
  clear ht hnod
  have Hbx := Lib.hid (box_put w2 33 #[.slice none 0 0, .int .i64 0] (graphC (.slice p gr.nodes.length c) gr.out) rfl)
  have Hlb := Lib.hid (Hl2.out.next Hbx.out.1)
  have cl22 : ((w2.alloc (.cells #[.slice none 0 0, .int .i64 0] 33)).setCells w2.heap.size 0 (graphC (.slice p gr.nodes.length c) gr.out).toList).cell? ⟨w.heap.size + 1, 22, none⟩ = some (.bool false) := Hlb.out.loc.cell 22 rfl
  have fl22 : ((w2.alloc (.cells #[.slice none 0 0, .int .i64 0] 33)).setCells w2.heap.size 0 (graphC (.slice p gr.nodes.length c) gr.out).toList).frozen? ⟨w.heap.size + 1, 22, none⟩ = false := Hlb.out.loc.frozen 22
  have Htg := Lib.hid ((Hlb.out.put 22 (.bool true)).loc.there 23 2 (by simp))
  have Hbl : Hid (Blk (((w2.alloc (.cells #[.slice none 0 0, .int .i64 0] 33)).setCells w2.heap.size 0 (graphC (.slice p gr.nodes.length c) gr.out).toList).setCell ⟨w.heap.size + 1, 22, none⟩ (.bool true)) w2.heap.size 33 (graphC (.slice p gr.nodes.length c) gr.out)) := Lib.hid (Hbx.out.2.1.mod (Gou.Mod.setCell _ ⟨w.heap.size + 1, 22, none⟩ _) (by have := Hl2.out.loc.lt; simp; omega))
  have Hl3 : Hid (RLoc w 35 LkZ (lookC { Lk.zero with hasFilt := true, filt := gr } (.slice none 0 0) (.slice p gr.nodes.length c) (.slice none 0 0)) ((((w2.alloc (.cells #[.slice none 0 0, .int .i64 0] 33)).setCells w2.heap.size 0 (graphC (.slice p gr.nodes.length c) gr.out).toList).setCell ⟨w.heap.size + 1, 22, none⟩ (.bool true)).setCells (w.heap.size + 1) 23 (graphC (.slice p gr.nodes.length c) gr.out).toList)) := Lib.hid ((Hlb.out.put 22 (.bool true)).puts 23 (graphC (.slice p gr.nodes.length c) gr.out).toList)
  have HB : Hid (Blk _ (w.heap.size + 1) 35 (lookC { Lk.zero with hasFilt := true, filt := gr } (.slice none 0 0) (.slice p gr.nodes.length c) (.slice none 0 0))) := Lib.hid Hl3.out.loc
  have Hth := Lib.hid (Hl3.out.res.there 0 28 (by simp))
  go_wp2_with (first | ((with_reducible refine wpList_store_mid ?g5_20 33 ?x5_20 ?y5_20 ?o5_20 w2.heap.size 0 (graphC (.slice p gr.nodes.length c) gr.out) ?h5_20 ?j5_20 ?t5_20 ?i5_20 ?s5_20 ?r5_20); (case g5_20 => exact rfl); (case o5_20 => exact rfl); (case h5_20 => exact rfl); (case j5_20 => exact rfl); (case t5_20 => exact Hbx.out.2.2); (case i5_20 => exact size_graph); (case s5_20 => exact graphC_one _ _ _ _); (generalize ((w2.alloc (.cells #[.slice none 0 0, .int .i64 0] 33)).setCells w2.heap.size 0 (graphC (.slice p gr.nodes.length c) gr.out).toList) = w3 at *)) | ((with_reducible refine wpList_load_row ?g5_21 33 ?x5_21 ?o5_21 w2.heap.size ?h5_21 ?t5_21 ?c5_21 ?f5_21 ?d5_21 ?b5_21 ?u5_21 ?s5_21 ?i5_21 ?r5_21); (case g5_21 => exact rfl); (case o5_21 => exact rfl); (case h5_21 => exact rfl); (case b5_21 => exact Hbl.out); (case u5_21 => exact Try.underlying33); (case s5_21 => exact rfl); (case i5_21 => exact size_graph)) | ((with_reducible refine wpList_store_mid ?g5_22 33 ?x5_22 ?y5_22 ?o5_22 (w.heap.size + 1) 23 (graphC (.slice p gr.nodes.length c) gr.out) ?h5_22 ?j5_22 ?t5_22 ?i5_22 ?s5_22 ?r5_22); (case g5_22 => exact rfl); (case o5_22 => exact rfl); (case h5_22 => exact rfl); (case j5_22 => exact rfl); (case t5_22 => exact Htg.out); (case i5_22 => exact size_graph); (case s5_22 => exact graphC_one _ _ _ _)) | ((with_reducible refine wpList_load_row ?g1_23 35 ?x1_23 ?o1_23 (w.heap.size + 1) ?h1_23 ?t1_23 ?c1_23 ?f1_23 ?d1_23 ?b1_23 ?u1_23 ?s1_23 ?i1_23 ?r1_23); (case g1_23 => exact rfl); (case o1_23 => exact rfl); (case h1_23 => exact rfl); (case b1_23 => exact HB.out); (case u1_23 => exact Try.underlying35); (case s1_23 => exact rfl); (case i1_23 => exact size_look)) | ((with_reducible refine wpList_store_mid ?g2_23 35 ?x2_23 ?y2_23 ?o2_23 w.heap.size 0 (lookC { Lk.zero with hasFilt := true, filt := gr } (.slice none 0 0) (.slice p gr.nodes.length c) (.slice none 0 0)) ?h2_23 ?j2_23 ?t2_23 ?i2_23 ?s2_23 ?r2_23); (case g2_23 => exact rfl); (case o2_23 => exact rfl); (case h2_23 => exact rfl); (case j2_23 => exact rfl); (case t2_23 => exact Hth.out); (case i2_23 => exact size_look); (case s2_23 => exact lookC_one _ _ _ _ _ _ _ _ _ _)) | fail)
  have hd := RLoc.done (cs := lookC { Lk.zero with hasFilt := true, filt := gr } (.slice none 0 0) (.slice p gr.nodes.length c) (.slice none 0 0)) Hl3.out rfl
  refine bodyPost_ret (v := .tuple #[.agg (lookC { Lk.zero with hasFilt := true, filt := gr } (.slice none 0 0) (.slice p gr.nodes.length c) (.slice none 0 0)), .int .i64 q2, .bool true]) (results_look _ _ w.heap.size (lookC { Lk.zero with hasFilt := true, filt := gr } (.slice none 0 0) (.slice p gr.nodes.length c) (.slice none 0 0)) rfl _ _ rfl rfl rfl hd.2.1) rfl ?_
  exact lk_done Hres.out hd.1 (LookR.far (Hr.out.mod Hbx.out.1 (fun _ _ _ h => h)) (((Gou.Mod.setCell _ ⟨w.heap.size + 1, 22, none⟩ _).imp fun _ _ h => .inl (by simpa using h)).trans' (Mod.two hd.2.2)) (by have := Hs0.out; omega) (by have := Hs0.out; omega) (by have := Hs0.out; omega))

set_option maxHeartbeats 4000000 in
theorem lookR_11 (w : World) (pb : Option Addr) (cb : Nat) (bs : List Nat) (h : BytesAt (fun _ => True) w (.slice pb bs.length cb) bs) (hby : ∀ x ∈ bs, x < 256) (hl : bs.length ≤ 10000000) (n : Nat) (hn : n ≤ bs.length) :
    Calls Try.prog 41 #[.slice pb bs.length cb, .int .i64 n, .int .i64 11] w (LkP w bs n 11) := by
  have H := Lib.hid h
  have Hby := Lib.hid hby
  clear h hby
  go_enter Try.func41, Try.ntmps41
  go_wp2_with (first | ((with_reducible refine wpList_buildTo ?g7 35 ?p7 ?o7 ?d7 ?e7 (LkZ) ?f7 ?r7); (case g7 => exact rfl); (case o7 => exact rfl); (case e7 => exact rfl); (case f7 => kernel_rfl)) | ((with_reducible refine wpList_store_mid ?g8 35 ?x8 ?y8 ?o8 (w.heap.size + 1) 0 (LkZ) ?h8 ?j8 ?t8 ?i8 ?s8 ?r8); (case g8 => exact rfl); (case o8 => exact rfl); (case h8 => exact rfl); (case j8 => exact rfl); (case t8 => exact there_look w); (case i8 => exact size_look); (case s8 => exact oneR_look); (have Hl0 := Lib.hid (start_look w)); (generalize ((w.alloc (.cells LkZ 35)).alloc (.cells LkZ 35)).setCells (w.heap.size + 1) 0 (LkZ).toList = w0 at *)) | fail)
  refine (numbersR_any w0 pb cb bs (H.out.mod Hl0.out.mod (fun _ _ _ h => h)) Hby.out hl n 1 hn (by omega)).mono ?_
  rintro e w1 ⟨hm1, hp⟩
  have Hl1 := Lib.hid (Hl0.out.next hm1)
  clear hm1
  rcases ht : timesAt (numAt bs) n 1 with _ | ⟨xs, q⟩
  · rw [ht] at hp
    subst hp
    have Hno : Hid (lookAt bs n 11 = none) := Lib.hid (by rw [look11, flag_none ht]; rfl)
    clear ht
    have HB : Hid (Blk _ (w.heap.size + 1) 35 (lookC Lk.zero (.slice none 0 0) (.slice none 0 0) (.slice none 0 0))) := Lib.hid Hl1.out.loc
    have Hth := Lib.hid (Hl1.out.res.there 0 28 (by simp))
    go_wp2_with (first | ((with_reducible refine wpList_load_row ?g1_35 35 ?x1_35 ?o1_35 (w.heap.size + 1) ?h1_35 ?t1_35 ?c1_35 ?f1_35 ?d1_35 ?b1_35 ?u1_35 ?s1_35 ?i1_35 ?r1_35); (case g1_35 => exact rfl); (case o1_35 => exact rfl); (case h1_35 => exact rfl); (case b1_35 => exact HB.out); (case u1_35 => exact Try.underlying35); (case s1_35 => exact rfl); (case i1_35 => exact size_look)) | ((with_reducible refine wpList_store_mid ?g2_35 35 ?x2_35 ?y2_35 ?o2_35 w.heap.size 0 (lookC Lk.zero (.slice none 0 0) (.slice none 0 0) (.slice none 0 0)) ?h2_35 ?j2_35 ?t2_35 ?i2_35 ?s2_35 ?r2_35); (case g2_35 => exact rfl); (case o2_35 => exact rfl); (case h2_35 => exact rfl); (case j2_35 => exact rfl); (case t2_35 => exact Hth.out); (case i2_35 => exact size_look); (case s2_35 => exact lookC_one _ _ _ _ _ _ _ _ _ _)) | fail)
    have hd := RLoc.done (cs := lookC Lk.zero (.slice none 0 0) (.slice none 0 0) (.slice none 0 0)) Hl1.out rfl
    refine bodyPost_ret (v := .tuple #[.agg (lookC Lk.zero (.slice none 0 0) (.slice none 0 0) (.slice none 0 0)), .int .i64 0, .bool false]) (results_look _ _ w.heap.size (lookC Lk.zero (.slice none 0 0) (.slice none 0 0) (.slice none 0 0)) rfl _ _ rfl rfl rfl hd.2.1) rfl ?_
    exact lk_fail Hno.out hd.1 _ _ _ _ _ _ _ _ _ _
  rw [ht] at hp
  obtain ⟨p, c, rfl, hown, hxl⟩ := hp
  obtain ⟨x, rfl, hx⟩ := times_one ht
  obtain ⟨gh, rfl, hg0, hg1, hc⟩ := own_ints hown (by omega)
  have c0 : w1.cell? ⟨gh, 0, none⟩ = some (.int .i64 x) := hc 0 (by simp)
  have hq := (num_spec Hby.out).end_le hx hn
  have hng : w.heap.size + 1 ≠ gh := by have := Hl0.out.loc.lt; omega
  have Hx := Lib.hid hx
  clear hc hown hxl ht hx hg0 hg1
  by_cases hx0 : x = 0
  · subst hx0
    have Hres : Hid (lookAt bs n 11 = some (Lk.zero, q)) := Lib.hid (by rw [look11, flag_zero Hx.out]; rfl)
    have HB : Hid (Blk _ (w.heap.size + 1) 35 (lookC Lk.zero (.slice none 0 0) (.slice none 0 0) (.slice none 0 0))) := Lib.hid Hl1.out.loc
    have Hth := Lib.hid (Hl1.out.res.there 0 28 (by simp))
    go_wp2_with (first | ((with_reducible refine wpList_load_row ?g1_36 35 ?x1_36 ?o1_36 (w.heap.size + 1) ?h1_36 ?t1_36 ?c1_36 ?f1_36 ?d1_36 ?b1_36 ?u1_36 ?s1_36 ?i1_36 ?r1_36); (case g1_36 => exact rfl); (case o1_36 => exact rfl); (case h1_36 => exact rfl); (case b1_36 => exact HB.out); (case u1_36 => exact Try.underlying35); (case s1_36 => exact rfl); (case i1_36 => exact size_look)) | ((with_reducible refine wpList_store_mid ?g2_36 35 ?x2_36 ?y2_36 ?o2_36 w.heap.size 0 (lookC Lk.zero (.slice none 0 0) (.slice none 0 0) (.slice none 0 0)) ?h2_36 ?j2_36 ?t2_36 ?i2_36 ?s2_36 ?r2_36); (case g2_36 => exact rfl); (case o2_36 => exact rfl); (case h2_36 => exact rfl); (case j2_36 => exact rfl); (case t2_36 => exact Hth.out); (case i2_36 => exact size_look); (case s2_36 => exact lookC_one _ _ _ _ _ _ _ _ _ _)) | fail)
    have hd := RLoc.done (cs := lookC Lk.zero (.slice none 0 0) (.slice none 0 0) (.slice none 0 0)) Hl1.out rfl
    refine bodyPost_ret (v := .tuple #[.agg (lookC Lk.zero (.slice none 0 0) (.slice none 0 0) (.slice none 0 0)), .int .i64 q, .bool true]) (results_look _ _ w.heap.size (lookC Lk.zero (.slice none 0 0) (.slice none 0 0) (.slice none 0 0)) rfl _ _ rfl rfl rfl hd.2.1) rfl ?_
    exact lk_done Hres.out hd.1 (LookR.nil _ _ _ rfl rfl rfl)
  have t0 : (x == 0) = false := by simpa using hx0
  have t0' : (x != 0) = true := by simpa using hx0
  by_cases hx1 : x = 1
  case neg =>
    have t1 : (x == 1) = false := by simpa using hx1
    have t1' : (x != 1) = true := by simpa using hx1
    have Hno : Hid (lookAt bs n 11 = none) := Lib.hid (by rw [look11, flag_bad Hx.out hx0 hx1]; rfl)
    clear hx0 hx1
    have HB : Hid (Blk _ (w.heap.size + 1) 35 (lookC Lk.zero (.slice none 0 0) (.slice none 0 0) (.slice none 0 0))) := Lib.hid Hl1.out.loc
    have Hth := Lib.hid (Hl1.out.res.there 0 28 (by simp))
    go_wp2_with (first | ((with_reducible refine wpList_load_row ?g1_37 35 ?x1_37 ?o1_37 (w.heap.size + 1) ?h1_37 ?t1_37 ?c1_37 ?f1_37 ?d1_37 ?b1_37 ?u1_37 ?s1_37 ?i1_37 ?r1_37); (case g1_37 => exact rfl); (case o1_37 => exact rfl); (case h1_37 => exact rfl); (case b1_37 => exact HB.out); (case u1_37 => exact Try.underlying35); (case s1_37 => exact rfl); (case i1_37 => exact size_look)) | ((with_reducible refine wpList_store_mid ?g2_37 35 ?x2_37 ?y2_37 ?o2_37 w.heap.size 0 (lookC Lk.zero (.slice none 0 0) (.slice none 0 0) (.slice none 0 0)) ?h2_37 ?j2_37 ?t2_37 ?i2_37 ?s2_37 ?r2_37); (case g2_37 => exact rfl); (case o2_37 => exact rfl); (case h2_37 => exact rfl); (case j2_37 => exact rfl); (case t2_37 => exact Hth.out); (case i2_37 => exact size_look); (case s2_37 => exact lookC_one _ _ _ _ _ _ _ _ _ _)) | fail)
    have hd := RLoc.done (cs := lookC Lk.zero (.slice none 0 0) (.slice none 0 0) (.slice none 0 0)) Hl1.out rfl
    refine bodyPost_ret (v := .tuple #[.agg (lookC Lk.zero (.slice none 0 0) (.slice none 0 0) (.slice none 0 0)), .int .i64 0, .bool false]) (results_look _ _ w.heap.size (lookC Lk.zero (.slice none 0 0) (.slice none 0 0) (.slice none 0 0)) rfl _ _ rfl rfl rfl hd.2.1) rfl ?_
    exact lk_fail Hno.out hd.1 _ _ _ _ _ _ _ _ _ _
  subst hx1
  clear hx0 t0 t0'
  have Hfl := Lib.hid (flag_one Hx.out)
  clear Hx
  go_wp2_with fail
  clear c0
  refine (graphR_any w1 pb cb bs (H.out.mod Hl1.out.mod (fun _ _ _ h => h)) Hby.out hl q hq).mono ?_
  rintro e w2 ⟨hm2, hp⟩
  have Hl2 := Lib.hid (Hl1.out.next hm2)
  clear hm2
  rcases ht : graphAt bs q with _ | ⟨gr, q2⟩
  · rw [ht] at hp
    obtain ⟨p, j, c, x, rfl⟩ := hp
    have Hno : Hid (lookAt bs n 11 = none) := Lib.hid (by rw [look11, Hfl.out, Option.bind_some, if_pos rfl, ht]; rfl)
    clear ht
    have Hbx := Lib.hid (box_put w2 33 #[.slice none 0 0, .int .i64 0] (graphC (.slice p j c) x) rfl)
    have Hlb := Lib.hid (Hl2.out.next Hbx.out.1)
    have cl25 : ((w2.alloc (.cells #[.slice none 0 0, .int .i64 0] 33)).setCells w2.heap.size 0 (graphC (.slice p j c) x).toList).cell? ⟨w.heap.size + 1, 25, none⟩ = some (.bool false) := Hlb.out.loc.cell 25 rfl
    have fl25 : ((w2.alloc (.cells #[.slice none 0 0, .int .i64 0] 33)).setCells w2.heap.size 0 (graphC (.slice p j c) x).toList).frozen? ⟨w.heap.size + 1, 25, none⟩ = false := Hlb.out.loc.frozen 25
    have Htg := Lib.hid ((Hlb.out.put 25 (.bool true)).loc.there 26 2 (by simp))
    have Hbl : Hid (Blk (((w2.alloc (.cells #[.slice none 0 0, .int .i64 0] 33)).setCells w2.heap.size 0 (graphC (.slice p j c) x).toList).setCell ⟨w.heap.size + 1, 25, none⟩ (.bool true)) w2.heap.size 33 (graphC (.slice p j c) x)) := Lib.hid (Hbx.out.2.1.mod (Gou.Mod.setCell _ ⟨w.heap.size + 1, 25, none⟩ _) (by have := Hl2.out.loc.lt; simp; omega))
    have Hl3 : Hid (RLoc w 35 LkZ (lookC { Lk.zero with hasBack := true, back := ⟨[], x⟩ } (.slice none 0 0) (.slice none 0 0) (.slice p j c)) ((((w2.alloc (.cells #[.slice none 0 0, .int .i64 0] 33)).setCells w2.heap.size 0 (graphC (.slice p j c) x).toList).setCell ⟨w.heap.size + 1, 25, none⟩ (.bool true)).setCells (w.heap.size + 1) 26 (graphC (.slice p j c) x).toList)) := Lib.hid ((Hlb.out.put 25 (.bool true)).puts 26 (graphC (.slice p j c) x).toList)
    have HB : Hid (Blk _ (w.heap.size + 1) 35 (lookC { Lk.zero with hasBack := true, back := ⟨[], x⟩ } (.slice none 0 0) (.slice none 0 0) (.slice p j c))) := Lib.hid Hl3.out.loc
    have Hth := Lib.hid (Hl3.out.res.there 0 28 (by simp))
    go_wp2_with (first | ((with_reducible refine wpList_store_mid ?g5_27 33 ?x5_27 ?y5_27 ?o5_27 w2.heap.size 0 (graphC (.slice p j c) x) ?h5_27 ?j5_27 ?t5_27 ?i5_27 ?s5_27 ?r5_27); (case g5_27 => exact rfl); (case o5_27 => exact rfl); (case h5_27 => exact rfl); (case j5_27 => exact rfl); (case t5_27 => exact Hbx.out.2.2); (case i5_27 => exact size_graph); (case s5_27 => exact graphC_one _ _ _ _); (generalize ((w2.alloc (.cells #[.slice none 0 0, .int .i64 0] 33)).setCells w2.heap.size 0 (graphC (.slice p j c) x).toList) = w3 at *)) | ((with_reducible refine wpList_load_row ?g5_28 33 ?x5_28 ?o5_28 w2.heap.size ?h5_28 ?t5_28 ?c5_28 ?f5_28 ?d5_28 ?b5_28 ?u5_28 ?s5_28 ?i5_28 ?r5_28); (case g5_28 => exact rfl); (case o5_28 => exact rfl); (case h5_28 => exact rfl); (case b5_28 => exact Hbl.out); (case u5_28 => exact Try.underlying33); (case s5_28 => exact rfl); (case i5_28 => exact size_graph)) | ((with_reducible refine wpList_store_mid ?g5_29 33 ?x5_29 ?y5_29 ?o5_29 (w.heap.size + 1) 26 (graphC (.slice p j c) x) ?h5_29 ?j5_29 ?t5_29 ?i5_29 ?s5_29 ?r5_29); (case g5_29 => exact rfl); (case o5_29 => exact rfl); (case h5_29 => exact rfl); (case j5_29 => exact rfl); (case t5_29 => exact Htg.out); (case i5_29 => exact size_graph); (case s5_29 => exact graphC_one _ _ _ _)) | ((with_reducible refine wpList_load_row ?g1_30 35 ?x1_30 ?o1_30 (w.heap.size + 1) ?h1_30 ?t1_30 ?c1_30 ?f1_30 ?d1_30 ?b1_30 ?u1_30 ?s1_30 ?i1_30 ?r1_30); (case g1_30 => exact rfl); (case o1_30 => exact rfl); (case h1_30 => exact rfl); (case b1_30 => exact HB.out); (case u1_30 => exact Try.underlying35); (case s1_30 => exact rfl); (case i1_30 => exact size_look)) | ((with_reducible refine wpList_store_mid ?g2_30 35 ?x2_30 ?y2_30 ?o2_30 w.heap.size 0 (lookC { Lk.zero with hasBack := true, back := ⟨[], x⟩ } (.slice none 0 0) (.slice none 0 0) (.slice p j c)) ?h2_30 ?j2_30 ?t2_30 ?i2_30 ?s2_30 ?r2_30); (case g2_30 => exact rfl); (case o2_30 => exact rfl); (case h2_30 => exact rfl); (case j2_30 => exact rfl); (case t2_30 => exact Hth.out); (case i2_30 => exact size_look); (case s2_30 => exact lookC_one _ _ _ _ _ _ _ _ _ _)) | fail)
    have hd := RLoc.done (cs := lookC { Lk.zero with hasBack := true, back := ⟨[], x⟩ } (.slice none 0 0) (.slice none 0 0) (.slice p j c)) Hl3.out rfl
    refine bodyPost_ret (v := .tuple #[.agg (lookC { Lk.zero with hasBack := true, back := ⟨[], x⟩ } (.slice none 0 0) (.slice none 0 0) (.slice p j c)), .int .i64 0, .bool false]) (results_look _ _ w.heap.size (lookC { Lk.zero with hasBack := true, back := ⟨[], x⟩ } (.slice none 0 0) (.slice none 0 0) (.slice p j c)) rfl _ _ rfl rfl rfl hd.2.1) rfl ?_
    exact lk_fail Hno.out hd.1 _ _ _ _ _ _ _ _ _ _
  rw [ht] at hp
  obtain ⟨p, c, rfl, hnod⟩ := hp
  have Hres : Hid (lookAt bs n 11 = some ({ Lk.zero with hasBack := true, back := gr }, q2)) := Lib.hid (by rw [look11, Hfl.out, Option.bind_some, if_pos rfl, ht]; rfl)
  have Hr : Hid (LookR (fun b => w1.heap.size ≤ b) w2 { Lk.zero with hasBack := true, back := gr } (.slice none 0 0) (.slice none 0 0) (.slice p gr.nodes.length c)) := Lib.hid ⟨PixR.nil _ _, NodesR.nil _ _, hnod⟩
  have Hs0 : Hid (w.heap.size + 2 ≤ w1.heap.size) := Lib.hid (by have := Hl1.out.loc.lt; omega)
  clear ht hnod
  have Hbx := Lib.hid (box_put w2 33 #[.slice none 0 0, .int .i64 0] (graphC (.slice p gr.nodes.length c) gr.out) rfl)
  have Hlb := Lib.hid (Hl2.out.next Hbx.out.1)
  have cl25 : ((w2.alloc (.cells #[.slice none 0 0, .int .i64 0] 33)).setCells w2.heap.size 0 (graphC (.slice p gr.nodes.length c) gr.out).toList).cell? ⟨w.heap.size + 1, 25, none⟩ = some (.bool false) := Hlb.out.loc.cell 25 rfl
  have fl25 : ((w2.alloc (.cells #[.slice none 0 0, .int .i64 0] 33)).setCells w2.heap.size 0 (graphC (.slice p gr.nodes.length c) gr.out).toList).frozen? ⟨w.heap.size + 1, 25, none⟩ = false := Hlb.out.loc.frozen 25
  have Htg := Lib.hid ((Hlb.out.put 25 (.bool true)).loc.there 26 2 (by simp))
  have Hbl : Hid (Blk (((w2.alloc (.cells #[.slice none 0 0, .int .i64 0] 33)).setCells w2.heap.size 0 (graphC (.slice p gr.nodes.length c) gr.out).toList).setCell ⟨w.heap.size + 1, 25, none⟩ (.bool true)) w2.heap.size 33 (graphC (.slice p gr.nodes.length c) gr.out)) := Lib.hid (Hbx.out.2.1.mod (Gou.Mod.setCell _ ⟨w.heap.size + 1, 25, none⟩ _) (by have := Hl2.out.loc.lt; simp; omega))
  have Hl3 : Hid (RLoc w 35 LkZ (lookC { Lk.zero with hasBack := true, back := gr } (.slice none 0 0) (.slice none 0 0) (.slice p gr.nodes.length c)) ((((w2.alloc (.cells #[.slice none 0 0, .int .i64 0] 33)).setCells w2.heap.size 0 (graphC (.slice p gr.nodes.length c) gr.out).toList).setCell ⟨w.heap.size + 1, 25, none⟩ (.bool true)).setCells (w.heap.size + 1) 26 (graphC (.slice p gr.nodes.length c) gr.out).toList)) := Lib.hid ((Hlb.out.put 25 (.bool true)).puts 26 (graphC (.slice p gr.nodes.length c) gr.out).toList)
  have HB : Hid (Blk _ (w.heap.size + 1) 35 (lookC { Lk.zero with hasBack := true, back := gr } (.slice none 0 0) (.slice none 0 0) (.slice p gr.nodes.length c))) := Lib.hid Hl3.out.loc
  have Hth := Lib.hid (Hl3.out.res.there 0 28 (by simp))
  go_wp2_with (first | ((with_reducible refine wpList_store_mid ?g5_31 33 ?x5_31 ?y5_31 ?o5_31 w2.heap.size 0 (graphC (.slice p gr.nodes.length c) gr.out) ?h5_31 ?j5_31 ?t5_31 ?i5_31 ?s5_31 ?r5_31); (case g5_31 => exact rfl); (case o5_31 => exact rfl); (case h5_31 => exact rfl); (case j5_31 => exact rfl); (case t5_31 => exact Hbx.out.2.2); (case i5_31 => exact size_graph); (case s5_31 => exact graphC_one _ _ _ _); (generalize ((w2.alloc (.cells #[.slice none 0 0, .int .i64 0] 33)).setCells w2.heap.size 0 (graphC (.slice p gr.nodes.length c) gr.out).toList) = w3 at *)) | ((with_reducible refine wpList_load_row ?g5_32 33 ?x5_32 ?o5_32 w2.heap.size ?h5_32 ?t5_32 ?c5_32 ?f5_32 ?d5_32 ?b5_32 ?u5_32 ?s5_32 ?i5_32 ?r5_32); (case g5_32 => exact rfl); (case o5_32 => exact rfl); (case h5_32 => exact rfl); (case b5_32 => exact Hbl.out); (case u5_32 => exact Try.underlying33); (case s5_32 => exact rfl); (case i5_32 => exact size_graph)) | ((with_reducible refine wpList_store_mid ?g5_33 33 ?x5_33 ?y5_33 ?o5_33 (w.heap.size + 1) 26 (graphC (.slice p gr.nodes.length c) gr.out) ?h5_33 ?j5_33 ?t5_33 ?i5_33 ?s5_33 ?r5_33); (case g5_33 => exact rfl); (case o5_33 => exact rfl); (case h5_33 => exact rfl); (case j5_33 => exact rfl); (case t5_33 => exact Htg.out); (case i5_33 => exact size_graph); (case s5_33 => exact graphC_one _ _ _ _)) | ((with_reducible refine wpList_load_row ?g1_34 35 ?x1_34 ?o1_34 (w.heap.size + 1) ?h1_34 ?t1_34 ?c1_34 ?f1_34 ?d1_34 ?b1_34 ?u1_34 ?s1_34 ?i1_34 ?r1_34); (case g1_34 => exact rfl); (case o1_34 => exact rfl); (case h1_34 => exact rfl); (case b1_34 => exact HB.out); (case u1_34 => exact Try.underlying35); (case s1_34 => exact rfl); (case i1_34 => exact size_look)) | ((with_reducible refine wpList_store_mid ?g2_34 35 ?x2_34 ?y2_34 ?o2_34 w.heap.size 0 (lookC { Lk.zero with hasBack := true, back := gr } (.slice none 0 0) (.slice none 0 0) (.slice p gr.nodes.length c)) ?h2_34 ?j2_34 ?t2_34 ?i2_34 ?s2_34 ?r2_34); (case g2_34 => exact rfl); (case o2_34 => exact rfl); (case h2_34 => exact rfl); (case j2_34 => exact rfl); (case t2_34 => exact Hth.out); (case i2_34 => exact size_look); (case s2_34 => exact lookC_one _ _ _ _ _ _ _ _ _ _)) | fail)
  have hd := RLoc.done (cs := lookC { Lk.zero with hasBack := true, back := gr } (.slice none 0 0) (.slice none 0 0) (.slice p gr.nodes.length c)) Hl3.out rfl
  refine bodyPost_ret (v := .tuple #[.agg (lookC { Lk.zero with hasBack := true, back := gr } (.slice none 0 0) (.slice none 0 0) (.slice p gr.nodes.length c)), .int .i64 q2, .bool true]) (results_look _ _ w.heap.size (lookC { Lk.zero with hasBack := true, back := gr } (.slice none 0 0) (.slice none 0 0) (.slice p gr.nodes.length c)) rfl _ _ rfl rfl rfl hd.2.1) rfl ?_
  exact lk_done Hres.out hd.1 (LookR.far (Hr.out.mod Hbx.out.1 (fun _ _ _ h => h)) (((Gou.Mod.setCell _ ⟨w.heap.size + 1, 25, none⟩ _).imp fun _ _ h => .inl (by simpa using h)).trans' (Mod.two hd.2.2)) (by have := Hs0.out; omega) (by have := Hs0.out; omega) (by have := Hs0.out; omega))

set_option maxHeartbeats 4000000 in
theorem lookR_6 (w : World) (pb : Option Addr) (cb : Nat) (bs : List Nat) (h : BytesAt (fun _ => True) w (.slice pb bs.length cb) bs) (hby : ∀ x ∈ bs, x < 256) (hl : bs.length ≤ 10000000) (n : Nat) (hn : n ≤ bs.length) :
    Calls Try.prog 41 #[.slice pb bs.length cb, .int .i64 n, .int .i64 6] w (LkP w bs n 6) := by
  have H := Lib.hid h
  have Hby := Lib.hid hby
  clear h hby
  go_enter Try.func41, Try.ntmps41
  go_wp2_with (first | ((with_reducible refine wpList_buildTo ?g7 35 ?p7 ?o7 ?d7 ?e7 (LkZ) ?f7 ?r7); (case g7 => exact rfl); (case o7 => exact rfl); (case e7 => exact rfl); (case f7 => kernel_rfl)) | ((with_reducible refine wpList_store_mid ?g8 35 ?x8 ?y8 ?o8 (w.heap.size + 1) 0 (LkZ) ?h8 ?j8 ?t8 ?i8 ?s8 ?r8); (case g8 => exact rfl); (case o8 => exact rfl); (case h8 => exact rfl); (case j8 => exact rfl); (case t8 => exact there_look w); (case i8 => exact size_look); (case s8 => exact oneR_look); (have Hl0 := Lib.hid (start_look w)); (generalize ((w.alloc (.cells LkZ 35)).alloc (.cells LkZ 35)).setCells (w.heap.size + 1) 0 (LkZ).toList = w0 at *)) | fail)
  refine (numbersR_any w0 pb cb bs (H.out.mod Hl0.out.mod (fun _ _ _ h => h)) Hby.out hl n 1 hn (by omega)).mono ?_
  rintro e w1 ⟨hm1, hp⟩
  have Hl1 := Lib.hid (Hl0.out.next hm1)
  clear hm1
  rcases ht : timesAt (numAt bs) n 1 with _ | ⟨xs, q⟩
  · rw [ht] at hp
    subst hp
    have Hno : Hid (lookAt bs n 6 = none) := Lib.hid (by rw [look6, flag_none ht]; rfl)
    clear ht
    have HB : Hid (Blk _ (w.heap.size + 1) 35 (lookC Lk.zero (.slice none 0 0) (.slice none 0 0) (.slice none 0 0))) := Lib.hid Hl1.out.loc
    have Hth := Lib.hid (Hl1.out.res.there 0 28 (by simp))
    go_wp2_with (first | ((with_reducible refine wpList_load_row ?g1_40 35 ?x1_40 ?o1_40 (w.heap.size + 1) ?h1_40 ?t1_40 ?c1_40 ?f1_40 ?d1_40 ?b1_40 ?u1_40 ?s1_40 ?i1_40 ?r1_40); (case g1_40 => exact rfl); (case o1_40 => exact rfl); (case h1_40 => exact rfl); (case b1_40 => exact HB.out); (case u1_40 => exact Try.underlying35); (case s1_40 => exact rfl); (case i1_40 => exact size_look)) | ((with_reducible refine wpList_store_mid ?g2_40 35 ?x2_40 ?y2_40 ?o2_40 w.heap.size 0 (lookC Lk.zero (.slice none 0 0) (.slice none 0 0) (.slice none 0 0)) ?h2_40 ?j2_40 ?t2_40 ?i2_40 ?s2_40 ?r2_40); (case g2_40 => exact rfl); (case o2_40 => exact rfl); (case h2_40 => exact rfl); (case j2_40 => exact rfl); (case t2_40 => exact Hth.out); (case i2_40 => exact size_look); (case s2_40 => exact lookC_one _ _ _ _ _ _ _ _ _ _)) | fail)
    have hd := RLoc.done (cs := lookC Lk.zero (.slice none 0 0) (.slice none 0 0) (.slice none 0 0)) Hl1.out rfl
    refine bodyPost_ret (v := .tuple #[.agg (lookC Lk.zero (.slice none 0 0) (.slice none 0 0) (.slice none 0 0)), .int .i64 0, .bool false]) (results_look _ _ w.heap.size (lookC Lk.zero (.slice none 0 0) (.slice none 0 0) (.slice none 0 0)) rfl _ _ rfl rfl rfl hd.2.1) rfl ?_
    exact lk_fail Hno.out hd.1 _ _ _ _ _ _ _ _ _ _
  rw [ht] at hp
  obtain ⟨p, c, rfl, hown, hxl⟩ := hp
  obtain ⟨x, rfl, hx⟩ := times_one ht
  obtain ⟨gh, rfl, hg0, hg1, hc⟩ := own_ints hown (by omega)
  have c0 : w1.cell? ⟨gh, 0, none⟩ = some (.int .i64 x) := hc 0 (by simp)
  have hq := (num_spec Hby.out).end_le hx hn
  have hng : w.heap.size + 1 ≠ gh := by have := Hl0.out.loc.lt; omega
  have Hx := Lib.hid hx
  clear hc hown hxl ht hx hg0 hg1
  by_cases hx0 : x = 0
  · subst hx0
    have Hres : Hid (lookAt bs n 6 = some (Lk.zero, q)) := Lib.hid (by rw [look6, flag_zero Hx.out]; rfl)
    have HB : Hid (Blk _ (w.heap.size + 1) 35 (lookC Lk.zero (.slice none 0 0) (.slice none 0 0) (.slice none 0 0))) := Lib.hid Hl1.out.loc
    have Hth := Lib.hid (Hl1.out.res.there 0 28 (by simp))
    go_wp2_with (first | ((with_reducible refine wpList_load_row ?g1_41 35 ?x1_41 ?o1_41 (w.heap.size + 1) ?h1_41 ?t1_41 ?c1_41 ?f1_41 ?d1_41 ?b1_41 ?u1_41 ?s1_41 ?i1_41 ?r1_41); (case g1_41 => exact rfl); (case o1_41 => exact rfl); (case h1_41 => exact rfl); (case b1_41 => exact HB.out); (case u1_41 => exact Try.underlying35); (case s1_41 => exact rfl); (case i1_41 => exact size_look)) | ((with_reducible refine wpList_store_mid ?g2_41 35 ?x2_41 ?y2_41 ?o2_41 w.heap.size 0 (lookC Lk.zero (.slice none 0 0) (.slice none 0 0) (.slice none 0 0)) ?h2_41 ?j2_41 ?t2_41 ?i2_41 ?s2_41 ?r2_41); (case g2_41 => exact rfl); (case o2_41 => exact rfl); (case h2_41 => exact rfl); (case j2_41 => exact rfl); (case t2_41 => exact Hth.out); (case i2_41 => exact size_look); (case s2_41 => exact lookC_one _ _ _ _ _ _ _ _ _ _)) | fail)
    have hd := RLoc.done (cs := lookC Lk.zero (.slice none 0 0) (.slice none 0 0) (.slice none 0 0)) Hl1.out rfl
    refine bodyPost_ret (v := .tuple #[.agg (lookC Lk.zero (.slice none 0 0) (.slice none 0 0) (.slice none 0 0)), .int .i64 q, .bool true]) (results_look _ _ w.heap.size (lookC Lk.zero (.slice none 0 0) (.slice none 0 0) (.slice none 0 0)) rfl _ _ rfl rfl rfl hd.2.1) rfl ?_
    exact lk_done Hres.out hd.1 (LookR.nil _ _ _ rfl rfl rfl)
  have t0 : (x == 0) = false := by simpa using hx0
  have t0' : (x != 0) = true := by simpa using hx0
  by_cases hx1 : x = 1
  case neg =>
    have t1 : (x == 1) = false := by simpa using hx1
    have t1' : (x != 1) = true := by simpa using hx1
    have Hno : Hid (lookAt bs n 6 = none) := Lib.hid (by rw [look6, flag_bad Hx.out hx0 hx1]; rfl)
    clear hx0 hx1
    have HB : Hid (Blk _ (w.heap.size + 1) 35 (lookC Lk.zero (.slice none 0 0) (.slice none 0 0) (.slice none 0 0))) := Lib.hid Hl1.out.loc
    have Hth := Lib.hid (Hl1.out.res.there 0 28 (by simp))
    go_wp2_with (first | ((with_reducible refine wpList_load_row ?g1_42 35 ?x1_42 ?o1_42 (w.heap.size + 1) ?h1_42 ?t1_42 ?c1_42 ?f1_42 ?d1_42 ?b1_42 ?u1_42 ?s1_42 ?i1_42 ?r1_42); (case g1_42 => exact rfl); (case o1_42 => exact rfl); (case h1_42 => exact rfl); (case b1_42 => exact HB.out); (case u1_42 => exact Try.underlying35); (case s1_42 => exact rfl); (case i1_42 => exact size_look)) | ((with_reducible refine wpList_store_mid ?g2_42 35 ?x2_42 ?y2_42 ?o2_42 w.heap.size 0 (lookC Lk.zero (.slice none 0 0) (.slice none 0 0) (.slice none 0 0)) ?h2_42 ?j2_42 ?t2_42 ?i2_42 ?s2_42 ?r2_42); (case g2_42 => exact rfl); (case o2_42 => exact rfl); (case h2_42 => exact rfl); (case j2_42 => exact rfl); (case t2_42 => exact Hth.out); (case i2_42 => exact size_look); (case s2_42 => exact lookC_one _ _ _ _ _ _ _ _ _ _)) | fail)
    have hd := RLoc.done (cs := lookC Lk.zero (.slice none 0 0) (.slice none 0 0) (.slice none 0 0)) Hl1.out rfl
    refine bodyPost_ret (v := .tuple #[.agg (lookC Lk.zero (.slice none 0 0) (.slice none 0 0) (.slice none 0 0)), .int .i64 0, .bool false]) (results_look _ _ w.heap.size (lookC Lk.zero (.slice none 0 0) (.slice none 0 0) (.slice none 0 0)) rfl _ _ rfl rfl rfl hd.2.1) rfl ?_
    exact lk_fail Hno.out hd.1 _ _ _ _ _ _ _ _ _ _
  subst hx1
  clear hx0 t0 t0'
  have Hfl := Lib.hid (flag_one Hx.out)
  clear Hx
  go_wp2_with fail
  clear c0
  refine (numbersR_any w1 pb cb bs (H.out.mod Hl1.out.mod (fun _ _ _ h => h)) Hby.out hl q 4 hq (by omega)).mono ?_
  rintro e w2 ⟨hm2, hp⟩
  have Hl2 := Lib.hid (Hl1.out.next hm2)
  clear hm2
  rcases ht : timesAt (numAt bs) q 4 with _ | ⟨xs, q2⟩
  · rw [ht] at hp
    subst hp
    have Hno : Hid (lookAt bs n 6 = none) := Lib.hid (by rw [look6, Hfl.out, Option.bind_some, if_pos rfl, boxAt, ht]; rfl)
    clear ht
    have HB : Hid (Blk _ (w.heap.size + 1) 35 (lookC Lk.zero (.slice none 0 0) (.slice none 0 0) (.slice none 0 0))) := Lib.hid Hl2.out.loc
    have Hth := Lib.hid (Hl2.out.res.there 0 28 (by simp))
    go_wp2_with (first | ((with_reducible refine wpList_load_row ?g1_38 35 ?x1_38 ?o1_38 (w.heap.size + 1) ?h1_38 ?t1_38 ?c1_38 ?f1_38 ?d1_38 ?b1_38 ?u1_38 ?s1_38 ?i1_38 ?r1_38); (case g1_38 => exact rfl); (case o1_38 => exact rfl); (case h1_38 => exact rfl); (case b1_38 => exact HB.out); (case u1_38 => exact Try.underlying35); (case s1_38 => exact rfl); (case i1_38 => exact size_look)) | ((with_reducible refine wpList_store_mid ?g2_38 35 ?x2_38 ?y2_38 ?o2_38 w.heap.size 0 (lookC Lk.zero (.slice none 0 0) (.slice none 0 0) (.slice none 0 0)) ?h2_38 ?j2_38 ?t2_38 ?i2_38 ?s2_38 ?r2_38); (case g2_38 => exact rfl); (case o2_38 => exact rfl); (case h2_38 => exact rfl); (case j2_38 => exact rfl); (case t2_38 => exact Hth.out); (case i2_38 => exact size_look); (case s2_38 => exact lookC_one _ _ _ _ _ _ _ _ _ _)) | fail)
    have hd := RLoc.done (cs := lookC Lk.zero (.slice none 0 0) (.slice none 0 0) (.slice none 0 0)) Hl2.out rfl
    refine bodyPost_ret (v := .tuple #[.agg (lookC Lk.zero (.slice none 0 0) (.slice none 0 0) (.slice none 0 0)), .int .i64 0, .bool false]) (results_look _ _ w.heap.size (lookC Lk.zero (.slice none 0 0) (.slice none 0 0) (.slice none 0 0)) rfl _ _ rfl rfl rfl hd.2.1) rfl ?_
    exact lk_fail Hno.out hd.1 _ _ _ _ _ _ _ _ _ _
  rw [ht] at hp
  obtain ⟨p, c2, rfl, hown, hxl⟩ := hp
  obtain ⟨a1, a2, a3, a4, rfl⟩ := times_four ht
  obtain ⟨g2, rfl, hg0, hg1, hc⟩ := own_ints hown (by omega)
  have c0 : w2.cell? ⟨g2, 0, none⟩ = some (.int .i64 a1) := hc 0 (by simp)
  have c1 : w2.cell? ⟨g2, 1, none⟩ = some (.int .i64 a2) := hc 1 (by simp)
  have c2 : w2.cell? ⟨g2, 2, none⟩ = some (.int .i64 a3) := hc 2 (by simp)
  have c3 : w2.cell? ⟨g2, 3, none⟩ = some (.int .i64 a4) := hc 3 (by simp)
  have hng2 : w.heap.size + 1 ≠ g2 := by have := Hl1.out.loc.lt; omega
  have Hres : Hid (lookAt bs n 6 = some ({ Lk.zero with hasClip := true, clip := ⟨a1, a2, a3, a4⟩ }, q2)) := Lib.hid (by rw [look6, Hfl.out, Option.bind_some, if_pos rfl, boxAt, ht]; rfl)
  clear hc hown hxl ht hg0
  have cl2 : w2.cell? ⟨w.heap.size + 1, 2, none⟩ = some (.bool false) := Hl2.out.loc.cell 2 rfl
  have fl2 : w2.frozen? ⟨w.heap.size + 1, 2, none⟩ = false := Hl2.out.loc.frozen 2
  go_wp2_with fail
  have Hl3 := Lib.hid (Hl2.out.put 2 (.bool true))
  have e0 : (w2.setCell ⟨w.heap.size + 1, 2, none⟩ (.bool true)).cell? ⟨g2, 0, none⟩ = some (.int .i64 a1) := ((Gou.Mod.setCell _ _ _).cell (p := ⟨g2, 0, none⟩) hg1 (by simp; omega)).trans c0
  have e1 : (w2.setCell ⟨w.heap.size + 1, 2, none⟩ (.bool true)).cell? ⟨g2, 1, none⟩ = some (.int .i64 a2) := ((Gou.Mod.setCell _ _ _).cell (p := ⟨g2, 1, none⟩) hg1 (by simp; omega)).trans c1
  have e2 : (w2.setCell ⟨w.heap.size + 1, 2, none⟩ (.bool true)).cell? ⟨g2, 2, none⟩ = some (.int .i64 a3) := ((Gou.Mod.setCell _ _ _).cell (p := ⟨g2, 2, none⟩) hg1 (by simp; omega)).trans c2
  have e3 : (w2.setCell ⟨w.heap.size + 1, 2, none⟩ (.bool true)).cell? ⟨g2, 3, none⟩ = some (.int .i64 a4) := ((Gou.Mod.setCell _ _ _).cell (p := ⟨g2, 3, none⟩) hg1 (by simp; omega)).trans c3
  have cl3 : (w2.setCell ⟨w.heap.size + 1, 2, none⟩ (.bool true)).cell? ⟨w.heap.size + 1, 3, none⟩ = some (.int .i64 0) := Hl3.out.loc.cell 3 rfl
  have fl3 : (w2.setCell ⟨w.heap.size + 1, 2, none⟩ (.bool true)).frozen? ⟨w.heap.size + 1, 3, none⟩ = false := Hl3.out.loc.frozen 3
  have cl4 : (w2.setCell ⟨w.heap.size + 1, 2, none⟩ (.bool true)).cell? ⟨w.heap.size + 1, 4, none⟩ = some (.int .i64 0) := Hl3.out.loc.cell 4 rfl
  have fl4 : (w2.setCell ⟨w.heap.size + 1, 2, none⟩ (.bool true)).frozen? ⟨w.heap.size + 1, 4, none⟩ = false := Hl3.out.loc.frozen 4
  have cl5 : (w2.setCell ⟨w.heap.size + 1, 2, none⟩ (.bool true)).cell? ⟨w.heap.size + 1, 5, none⟩ = some (.int .i64 0) := Hl3.out.loc.cell 5 rfl
  have fl5 : (w2.setCell ⟨w.heap.size + 1, 2, none⟩ (.bool true)).frozen? ⟨w.heap.size + 1, 5, none⟩ = false := Hl3.out.loc.frozen 5
  have cl6 : (w2.setCell ⟨w.heap.size + 1, 2, none⟩ (.bool true)).cell? ⟨w.heap.size + 1, 6, none⟩ = some (.int .i64 0) := Hl3.out.loc.cell 6 rfl
  have fl6 : (w2.setCell ⟨w.heap.size + 1, 2, none⟩ (.bool true)).frozen? ⟨w.heap.size + 1, 6, none⟩ = false := Hl3.out.loc.frozen 6
  generalize w2.setCell ⟨w.heap.size + 1, 2, none⟩ (.bool true) = w4 at *
  clear c0 c1 c2 c3 cl2 fl2
  refine wp_region_defer (S := fun w' => w' = (w4).drew) 14 ({ dst := none, op := Op.store 25 (Operand.tmp 126) (Operand.tmp 125), type := 0, pos := "ref.go:197", after := #[{ on := 13, ground := Ground.data }, { on := 12, ground := Ground.data }, { on := 0, ground := Ground.phase }, { on := 1, ground := Ground.phase }, { on := 2, ground := Ground.phase }, { on := 3, ground := Ground.phase }, { on := 4, ground := Ground.phase }, { on := 5, ground := Ground.phase }, { on := 6, ground := Ground.phase }, { on := 7, ground := Ground.phase }, { on := 8, ground := Ground.phase }, { on := 9, ground := Ground.phase }, { on := 10, ground := Ground.phase }, { on := 11, ground := Ground.phase }, { on := 12, ground := Ground.phase }], guard := none } : Oper) rfl (by kernel_rfl) rfl rfl (by kernel_rfl) (by kernel_rfl) rfl (fun hHeld => ?_)
  refine wpAnyH_take (i := 0) (oi := ({ dst := some 113, op := Op.move (Operand.tmp 16), type := 72, pos := "ref.go:197", after := #[], guard := none } : Oper)) (v := .slice (some ⟨g2, 0, none⟩) 4 c2) rfl (by kernel_rfl) (by kernel_rfl) (by kernel_rfl) (fun _ _ _ h => h) (Or.inl ⟨by rfl, ?_⟩) hHeld ?_
  · (intro w' hSw; (try dsimp only at hSw); subst hSw; clear hHeld; go_simp; (try with_reducible rfl))
  try simp only [Act.put, List.setIfInBounds_toArray, List.set_cons_zero, List.set_cons_succ]
  refine wpAnyH_take (i := 1) (oi := ({ dst := some 114, op := Op.indexAddr 72 (Operand.tmp 113) (Operand.const (Value.int IntKind.i64 0)), type := 0, pos := "ref.go:197", after := #[{ on := 0, ground := Ground.data }], guard := none } : Oper)) (v := .pointer (some ⟨g2, 0, none⟩)) rfl (by kernel_rfl) (by kernel_rfl) (by kernel_rfl) (fun _ _ _ h => h) (Or.inl ⟨by rfl, ?_⟩) hHeld ?_
  · (intro w' hSw; (try dsimp only at hSw); subst hSw; clear hHeld; go_simp; (try with_reducible rfl))
  try simp only [Act.put, List.setIfInBounds_toArray, List.set_cons_zero, List.set_cons_succ]
  refine wpAnyH_take (i := 2) (oi := ({ dst := some 115, op := Op.load 3 (Operand.tmp 114), type := 3, pos := "ref.go:197", after := #[{ on := 1, ground := Ground.data }], guard := none } : Oper)) (v := .int .i64 a1) rfl (by kernel_rfl) (by kernel_rfl) (by kernel_rfl) (fun _ _ _ h => h) (Or.inl ⟨by rfl, ?_⟩) hHeld ?_
  · (intro w' hSw; (try dsimp only at hSw); subst hSw; clear hHeld; go_simp; (try with_reducible rfl))
  try simp only [Act.put, List.setIfInBounds_toArray, List.set_cons_zero, List.set_cons_succ]
  refine wpAnyH_take (i := 3) (oi := ({ dst := some 116, op := Op.move (Operand.tmp 16), type := 72, pos := "ref.go:197", after := #[], guard := none } : Oper)) (v := .slice (some ⟨g2, 0, none⟩) 4 c2) rfl (by kernel_rfl) (by kernel_rfl) (by kernel_rfl) (fun _ _ _ h => h) (Or.inl ⟨by rfl, ?_⟩) hHeld ?_
  · (intro w' hSw; (try dsimp only at hSw); subst hSw; clear hHeld; go_simp; (try with_reducible rfl))
  try simp only [Act.put, List.setIfInBounds_toArray, List.set_cons_zero, List.set_cons_succ]
  refine wpAnyH_take (i := 4) (oi := ({ dst := some 117, op := Op.indexAddr 72 (Operand.tmp 116) (Operand.const (Value.int IntKind.i64 1)), type := 0, pos := "ref.go:197", after := #[{ on := 3, ground := Ground.data }], guard := none } : Oper)) (v := .pointer (some ⟨g2, 1, none⟩)) rfl (by kernel_rfl) (by kernel_rfl) (by kernel_rfl) (fun _ _ _ h => h) (Or.inl ⟨by rfl, ?_⟩) hHeld ?_
  · (intro w' hSw; (try dsimp only at hSw); subst hSw; clear hHeld; go_simp; (try with_reducible rfl))
  try simp only [Act.put, List.setIfInBounds_toArray, List.set_cons_zero, List.set_cons_succ]
  refine wpAnyH_take (i := 5) (oi := ({ dst := some 118, op := Op.load 3 (Operand.tmp 117), type := 3, pos := "ref.go:197", after := #[{ on := 4, ground := Ground.data }], guard := none } : Oper)) (v := .int .i64 a2) rfl (by kernel_rfl) (by kernel_rfl) (by kernel_rfl) (fun _ _ _ h => h) (Or.inl ⟨by rfl, ?_⟩) hHeld ?_
  · (intro w' hSw; (try dsimp only at hSw); subst hSw; clear hHeld; go_simp; (try with_reducible rfl))
  try simp only [Act.put, List.setIfInBounds_toArray, List.set_cons_zero, List.set_cons_succ]
  refine wpAnyH_take (i := 6) (oi := ({ dst := some 119, op := Op.move (Operand.tmp 16), type := 72, pos := "ref.go:197", after := #[], guard := none } : Oper)) (v := .slice (some ⟨g2, 0, none⟩) 4 c2) rfl (by kernel_rfl) (by kernel_rfl) (by kernel_rfl) (fun _ _ _ h => h) (Or.inl ⟨by rfl, ?_⟩) hHeld ?_
  · (intro w' hSw; (try dsimp only at hSw); subst hSw; clear hHeld; go_simp; (try with_reducible rfl))
  try simp only [Act.put, List.setIfInBounds_toArray, List.set_cons_zero, List.set_cons_succ]
  refine wpAnyH_take (i := 7) (oi := ({ dst := some 120, op := Op.indexAddr 72 (Operand.tmp 119) (Operand.const (Value.int IntKind.i64 2)), type := 0, pos := "ref.go:197", after := #[{ on := 6, ground := Ground.data }], guard := none } : Oper)) (v := .pointer (some ⟨g2, 2, none⟩)) rfl (by kernel_rfl) (by kernel_rfl) (by kernel_rfl) (fun _ _ _ h => h) (Or.inl ⟨by rfl, ?_⟩) hHeld ?_
  · (intro w' hSw; (try dsimp only at hSw); subst hSw; clear hHeld; go_simp; (try with_reducible rfl))
  try simp only [Act.put, List.setIfInBounds_toArray, List.set_cons_zero, List.set_cons_succ]
  refine wpAnyH_take (i := 8) (oi := ({ dst := some 121, op := Op.load 3 (Operand.tmp 120), type := 3, pos := "ref.go:197", after := #[{ on := 7, ground := Ground.data }], guard := none } : Oper)) (v := .int .i64 a3) rfl (by kernel_rfl) (by kernel_rfl) (by kernel_rfl) (fun _ _ _ h => h) (Or.inl ⟨by rfl, ?_⟩) hHeld ?_
  · (intro w' hSw; (try dsimp only at hSw); subst hSw; clear hHeld; go_simp; (try with_reducible rfl))
  try simp only [Act.put, List.setIfInBounds_toArray, List.set_cons_zero, List.set_cons_succ]
  refine wpAnyH_take (i := 9) (oi := ({ dst := some 122, op := Op.move (Operand.tmp 16), type := 72, pos := "ref.go:197", after := #[], guard := none } : Oper)) (v := .slice (some ⟨g2, 0, none⟩) 4 c2) rfl (by kernel_rfl) (by kernel_rfl) (by kernel_rfl) (fun _ _ _ h => h) (Or.inl ⟨by rfl, ?_⟩) hHeld ?_
  · (intro w' hSw; (try dsimp only at hSw); subst hSw; clear hHeld; go_simp; (try with_reducible rfl))
  try simp only [Act.put, List.setIfInBounds_toArray, List.set_cons_zero, List.set_cons_succ]
  refine wpAnyH_take (i := 10) (oi := ({ dst := some 123, op := Op.indexAddr 72 (Operand.tmp 122) (Operand.const (Value.int IntKind.i64 3)), type := 0, pos := "ref.go:197", after := #[{ on := 9, ground := Ground.data }], guard := none } : Oper)) (v := .pointer (some ⟨g2, 3, none⟩)) rfl (by kernel_rfl) (by kernel_rfl) (by kernel_rfl) (fun _ _ _ h => h) (Or.inl ⟨by rfl, ?_⟩) hHeld ?_
  · (intro w' hSw; (try dsimp only at hSw); subst hSw; clear hHeld; go_simp; (try with_reducible rfl))
  try simp only [Act.put, List.setIfInBounds_toArray, List.set_cons_zero, List.set_cons_succ]
  refine wpAnyH_take (i := 11) (oi := ({ dst := some 124, op := Op.load 3 (Operand.tmp 123), type := 3, pos := "ref.go:197", after := #[{ on := 10, ground := Ground.data }], guard := none } : Oper)) (v := .int .i64 a4) rfl (by kernel_rfl) (by kernel_rfl) (by kernel_rfl) (fun _ _ _ h => h) (Or.inl ⟨by rfl, ?_⟩) hHeld ?_
  · (intro w' hSw; (try dsimp only at hSw); subst hSw; clear hHeld; go_simp; (try with_reducible rfl))
  try simp only [Act.put, List.setIfInBounds_toArray, List.set_cons_zero, List.set_cons_succ]
  refine wpAnyH_take (i := 12) (oi := ({ dst := some 125, op := Op.build 25 #[(0, Operand.tmp 115), (1, Operand.tmp 118), (2, Operand.tmp 121), (3, Operand.tmp 124)], type := 25, pos := "ref.go:197", after := #[{ on := 2, ground := Ground.data }, { on := 5, ground := Ground.data }, { on := 8, ground := Ground.data }, { on := 11, ground := Ground.data }], guard := none } : Oper)) (v := .agg #[.int .i64 a1, .int .i64 a2, .int .i64 a3, .int .i64 a4]) rfl (by kernel_rfl) (by kernel_rfl) (by kernel_rfl) (fun _ _ _ h => h) (Or.inl ⟨by rfl, ?_⟩) hHeld ?_
  · (intro w' hSw; (try dsimp only at hSw); subst hSw; clear hHeld; go_simp; (try with_reducible rfl))
  try simp only [Act.put, List.setIfInBounds_toArray, List.set_cons_zero, List.set_cons_succ]
  refine wpAnyH_take (i := 13) (oi := ({ dst := some 126, op := Op.fieldAddr 35 (Operand.tmp 9) 3, type := 0, pos := "ref.go:197", after := #[{ on := 0, ground := Ground.phase }, { on := 1, ground := Ground.phase }, { on := 2, ground := Ground.phase }, { on := 3, ground := Ground.phase }, { on := 4, ground := Ground.phase }, { on := 5, ground := Ground.phase }, { on := 6, ground := Ground.phase }, { on := 7, ground := Ground.phase }, { on := 8, ground := Ground.phase }, { on := 9, ground := Ground.phase }, { on := 10, ground := Ground.phase }, { on := 11, ground := Ground.phase }, { on := 12, ground := Ground.phase }], guard := none } : Oper)) (v := .pointer (some ⟨w.heap.size + 1, 3, none⟩)) rfl (by kernel_rfl) (by kernel_rfl) (by kernel_rfl) (fun _ _ _ h => h) (Or.inl ⟨by rfl, ?_⟩) hHeld ?_
  · (intro w' hSw; (try dsimp only at hSw); subst hSw; clear hHeld; go_simp; (try with_reducible rfl))
  try simp only [Act.put, List.setIfInBounds_toArray, List.set_cons_zero, List.set_cons_succ]
  refine wpAnyH_take (i := 14) (oi := ({ dst := none, op := Op.assign (Operand.const (Value.bool true)), type := 0, pos := "ref.go:197", after := #[{ on := 13, ground := Ground.data }, { on := 12, ground := Ground.data }, { on := 0, ground := Ground.phase }, { on := 1, ground := Ground.phase }, { on := 2, ground := Ground.phase }, { on := 3, ground := Ground.phase }, { on := 4, ground := Ground.phase }, { on := 5, ground := Ground.phase }, { on := 6, ground := Ground.phase }, { on := 7, ground := Ground.phase }, { on := 8, ground := Ground.phase }, { on := 9, ground := Ground.phase }, { on := 10, ground := Ground.phase }, { on := 11, ground := Ground.phase }, { on := 12, ground := Ground.phase }], guard := none } : Oper)) (v := .bool true) rfl (by kernel_rfl) (by kernel_rfl) (by kernel_rfl) (fun _ _ _ h => h) (Or.inl ⟨by rfl, ?_⟩) hHeld ?_
  · (intro w' hSw; clear hSw hHeld; go_simp; (try with_reducible rfl))
  try simp only [Act.put, List.setIfInBounds_toArray, List.set_cons_zero, List.set_cons_succ]
  refine wpAnyH_done (by kernel_rfl) ?_ _
  clear hHeld
  show Oper.wp _ _ _ _ _ _
  go_simp
  have hl5 : RLoc w 35 LkZ (lookC { Lk.zero with hasClip := true, clip := ⟨a1, a2, a3, a4⟩ } (.slice none 0 0) (.slice none 0 0) (.slice none 0 0)) ((((w4.setCell ⟨w.heap.size + 1, 3, none⟩ (.int .i64 a1)).setCell ⟨w.heap.size + 1, 4, none⟩ (.int .i64 a2)).setCell ⟨w.heap.size + 1, 5, none⟩ (.int .i64 a3)).setCell ⟨w.heap.size + 1, 6, none⟩ (.int .i64 a4)).drew := (Hl3.out.puts 3 [.int .i64 a1, .int .i64 a2, .int .i64 a3, .int .i64 a4]).next (Gou.Mod.drew _ _)
  clear e0 e1 e2 e3 cl3 cl4 cl5 cl6 fl3 fl4 fl5 fl6
  have hW5 : ∃ w5, w5 = ((((w4.setCell ⟨w.heap.size + 1, 3, none⟩ (.int .i64 a1)).setCell ⟨w.heap.size + 1, 4, none⟩ (.int .i64 a2)).setCell ⟨w.heap.size + 1, 5, none⟩ (.int .i64 a3)).setCell ⟨w.heap.size + 1, 6, none⟩ (.int .i64 a4)).drew := ⟨_, rfl⟩
  obtain ⟨w5, hW5⟩ := hW5
  rw [← hW5] at hl5 ⊢
  clear hW5
  have Hl5 := Lib.hid hl5
  clear hl5
  have HB : Hid (Blk _ (w.heap.size + 1) 35 (lookC { Lk.zero with hasClip := true, clip := ⟨a1, a2, a3, a4⟩ } (.slice none 0 0) (.slice none 0 0) (.slice none 0 0))) := Lib.hid Hl5.out.loc
  have Hth := Lib.hid (Hl5.out.res.there 0 28 (by simp))
  go_wp2_with (first | ((with_reducible refine wpList_load_row ?g1_39 35 ?x1_39 ?o1_39 (w.heap.size + 1) ?h1_39 ?t1_39 ?c1_39 ?f1_39 ?d1_39 ?b1_39 ?u1_39 ?s1_39 ?i1_39 ?r1_39); (case g1_39 => exact rfl); (case o1_39 => exact rfl); (case h1_39 => exact rfl); (case b1_39 => exact HB.out); (case u1_39 => exact Try.underlying35); (case s1_39 => exact rfl); (case i1_39 => exact size_look)) | ((with_reducible refine wpList_store_mid ?g2_39 35 ?x2_39 ?y2_39 ?o2_39 w.heap.size 0 (lookC { Lk.zero with hasClip := true, clip := ⟨a1, a2, a3, a4⟩ } (.slice none 0 0) (.slice none 0 0) (.slice none 0 0)) ?h2_39 ?j2_39 ?t2_39 ?i2_39 ?s2_39 ?r2_39); (case g2_39 => exact rfl); (case o2_39 => exact rfl); (case h2_39 => exact rfl); (case j2_39 => exact rfl); (case t2_39 => exact Hth.out); (case i2_39 => exact size_look); (case s2_39 => exact lookC_one _ _ _ _ _ _ _ _ _ _)) | fail)
  have hd := RLoc.done (cs := lookC { Lk.zero with hasClip := true, clip := ⟨a1, a2, a3, a4⟩ } (.slice none 0 0) (.slice none 0 0) (.slice none 0 0)) Hl5.out rfl
  refine bodyPost_ret (v := .tuple #[.agg (lookC { Lk.zero with hasClip := true, clip := ⟨a1, a2, a3, a4⟩ } (.slice none 0 0) (.slice none 0 0) (.slice none 0 0)), .int .i64 q2, .bool true]) (results_look _ _ w.heap.size (lookC { Lk.zero with hasClip := true, clip := ⟨a1, a2, a3, a4⟩ } (.slice none 0 0) (.slice none 0 0) (.slice none 0 0)) rfl _ _ rfl rfl rfl hd.2.1) rfl ?_
  exact lk_done Hres.out hd.1 (LookR.nil _ _ _ rfl rfl rfl)


end Go.Proofs.Ytnamnmipgpcjjaa

