/- Texts of the codec's proofs, laid together: RnH. -/
import Derived.Test.YtnamnmipgpcjjaaYRnG
set_option linter.unusedSimpArgs false
set_option linter.unusedVariables false
set_option linter.unusedSectionVars false
set_option linter.constructorNameAsVariable false

/- Acts as bytes: the document's acts. -/
namespace Go.Proofs.Ytnamnmipgpcjjaa
open Go.RowKit Go.Gou

set_option linter.constructorNameAsVariable false
set_option maxRecDepth 100000

set_option maxHeartbeats 4000000 in
theorem oneR_1 (w : World) (pb : Option Addr) (cb : Nat) (bs : List Nat) (h : BytesAt (fun _ => True) w (.slice pb bs.length cb) bs) (hby : ∀ x ∈ bs, x < 256) (hl : bs.length ≤ 10000000) (n : Nat) (hn : n ≤ bs.length) (hlt : n < bs.length) (hbk : bs[n] = 1) :
    Calls Try.prog 27 #[.slice pb bs.length cb, .int .i64 n] w (OnP w bs n) := by
  have H := Lib.hid h
  have Hby := Lib.hid hby
  clear h hby
  have t0 : decide ((bs.length : Int) ≤ (n : Int)) = false := decide_eq_false (by omega)
  have t0' : decide (bs.length ≤ n) = false := decide_eq_false (by omega)
  obtain ⟨-, b, o, rfl, hb, -, hc⟩ := H.out.celz (by omega)
  have Hcw : Hid (w.cell? ⟨b, o + n, none⟩ = some (.int .u8 1)) := Lib.hid (by
    have := hc n hlt
    rw [hbk] at this
    exact this)
  have hni : (n : Int) < (bs.length : Int) := by omega
  have Hb := Lib.hid hb
  clear hc hb
  have Hbk := Lib.hid hbk
  clear hbk
  go_enter Try.func27, Try.ntmps27
  go_wp2_with (first | ((with_reducible refine wpList_buildTo ?g7 41 ?p7 ?o7 ?d7 ?e7 (AcZ) ?f7 ?r7); (case g7 => exact rfl); (case o7 => exact rfl); (case e7 => exact rfl); (case f7 => kernel_rfl)) | ((with_reducible refine wpList_store_mid ?g8 41 ?x8 ?y8 ?o8 (w.heap.size + 1) 0 (AcZ) ?h8 ?j8 ?t8 ?i8 ?s8 ?r8); (case g8 => exact rfl); (case o8 => exact rfl); (case h8 => exact rfl); (case j8 => exact rfl); (case t8 => exact there_act w); (case i8 => exact size_act); (case s8 => exact oneR_act); (have Hl0 := Lib.hid (start_act w)); (generalize ((w.alloc (.cells AcZ 41)).alloc (.cells AcZ 41)).setCells (w.heap.size + 1) 0 (AcZ).toList = w0 at *); (have hcell : w0.cell? ⟨b, o + n, none⟩ = some (.int .u8 1) := (Hl0.out.mod.cell (p := ⟨b, o + n, none⟩) Hb.out (fun h => h)).trans Hcw.out); (have cl0 : w0.cell? ⟨w.heap.size + 1, 0, none⟩ = some (.int .i64 0) := Hl0.out.loc.cell 0 rfl); (have fl0 : w0.frozen? ⟨w.heap.size + 1, 0, none⟩ = false := Hl0.out.loc.frozen 0); (have hsz : w.heap.size + 1 < w0.heap.size := Hl0.out.loc.lt); (have hne : w.heap.size + 1 ≠ w0.heap.size := Nat.ne_of_lt hsz)) | fail)
  have Hl1 : Hid (RLoc w 41 AcZ (actC ⟨1, Opr.zero, 0, 0, Cf.zero⟩ (.slice none 0 0) (.slice none 0 0) (.slice none 0 0)) ((w0.setCell ⟨w.heap.size + 1, 0, none⟩ (.int .i64 1)).alloc (.cells #[.int .i64 0, .int .i64 3, .int .i64 2, .int .i64 5, .int .i64 3, .int .i64 2, .int .i64 2, .int .i64 2, .int .i64 2, .int .i64 2, .int .i64 2, .int .i64 2, .int .i64 2, .int .i64 2] 95))) := Lib.hid ((Hl0.out.put 0 (.int .i64 1)).next (Gou.Mod.alloc _ _ _))
  generalize hW1 : ((w0.setCell ⟨w.heap.size + 1, 0, none⟩ (.int .i64 1)).alloc (.cells #[.int .i64 0, .int .i64 3, .int .i64 2, .int .i64 5, .int .i64 3, .int .i64 2, .int .i64 2, .int .i64 2, .int .i64 2, .int .i64 2, .int .i64 2, .int .i64 2, .int .i64 2, .int .i64 2] 95)) = w1 at *
  clear hW1 hcell cl0 fl0 hsz hne
  rw [show (n : Int) + 1 = ((n + 1 : Nat) : Int) from by push_cast; rfl]
  refine (numbersR_any w1 (some ⟨b, o, none⟩) cb bs (H.out.mod Hl1.out.mod (fun _ _ _ h => h)) Hby.out hl (n + 1) 3 (by omega) (by omega)).mono ?_
  rintro e w2 ⟨hm2, hp⟩
  have Hl2 := Lib.hid (Hl1.out.next hm2)
  clear hm2
  have ck : w2.cell? ⟨w.heap.size + 1, 0, none⟩ = some (.int .i64 1) := Hl2.out.loc.cell 0 rfl
  rcases ht : timesAt (numAt bs) (n + 1) 3 with _ | ⟨xs, q⟩
  · rw [ht] at hp
    subst hp
    have Hno : Hid (actAt bs n = none) := Lib.hid (by rw [act_opr hlt Hbk.out (by omega) (by omega)]; exact congrArg (Option.bind · _) (opr1_none ht))
    clear ht
    have HB : Hid (Blk _ (w.heap.size + 1) 41 (actC ⟨1, Opr.zero, 0, 0, Cf.zero⟩ (.slice none 0 0) (.slice none 0 0) (.slice none 0 0))) := Lib.hid Hl2.out.loc
    have Hth := Lib.hid (Hl2.out.res.there 0 42 (by simp))
    go_wp2_with (first | ((with_reducible refine wpList_load_row ?g1_4 41 ?x1_4 ?o1_4 (w.heap.size + 1) ?h1_4 ?t1_4 ?c1_4 ?f1_4 ?d1_4 ?b1_4 ?u1_4 ?s1_4 ?i1_4 ?r1_4); (case g1_4 => exact rfl); (case o1_4 => exact rfl); (case h1_4 => exact rfl); (case b1_4 => exact HB.out); (case u1_4 => exact Try.underlying41); (case s1_4 => exact rfl); (case i1_4 => exact size_act)) | ((with_reducible refine wpList_store_mid ?g2_4 41 ?x2_4 ?y2_4 ?o2_4 w.heap.size 0 (actC ⟨1, Opr.zero, 0, 0, Cf.zero⟩ (.slice none 0 0) (.slice none 0 0) (.slice none 0 0)) ?h2_4 ?j2_4 ?t2_4 ?i2_4 ?s2_4 ?r2_4); (case g2_4 => exact rfl); (case o2_4 => exact rfl); (case h2_4 => exact rfl); (case j2_4 => exact rfl); (case t2_4 => exact Hth.out); (case i2_4 => exact size_act); (case s2_4 => exact actC_one _ _ _ _ _ _ _ _ _ _)) | fail)
    have hd := RLoc.done (cs := actC ⟨1, Opr.zero, 0, 0, Cf.zero⟩ (.slice none 0 0) (.slice none 0 0) (.slice none 0 0)) Hl2.out rfl
    refine bodyPost_ret (v := .tuple #[.agg (actC ⟨1, Opr.zero, 0, 0, Cf.zero⟩ (.slice none 0 0) (.slice none 0 0) (.slice none 0 0)), .int .i64 0, .bool false]) (results_one _ _ w.heap.size (actC ⟨1, Opr.zero, 0, 0, Cf.zero⟩ (.slice none 0 0) (.slice none 0 0) (.slice none 0 0)) rfl _ _ rfl rfl rfl hd.2.1) rfl ?_
    exact on_fail Hno.out hd.1 _ _ _ _ _ _ _ _ _ _
  rw [ht] at hp
  obtain ⟨p, c, rfl, hown, hxl⟩ := hp
  obtain ⟨x, y, z, rfl⟩ := times_three ht
  obtain ⟨g2, rfl, hg0, hg1, hc⟩ := own_ints hown (by omega)
  have hq : q ≤ bs.length := (times_spec (num_spec Hby.out) 3).end_le ht (by omega)
  have hng : w.heap.size + 1 ≠ g2 := by have := Hl1.out.loc.lt; omega
  have c0 : w2.cell? ⟨g2, 0, none⟩ = some (.int .i64 x) := hc 0 (by simp)
  have c1 : w2.cell? ⟨g2, 1, none⟩ = some (.int .i64 y) := hc 1 (by simp)
  have c2 : w2.cell? ⟨g2, 2, none⟩ = some (.int .i64 z) := hc 2 (by simp)
  have Ht := Lib.hid ht
  clear hc hown hxl hg0 ht
  have cl1 : w2.cell? ⟨w.heap.size + 1, 1, none⟩ = some (.int .i64 0) := Hl2.out.loc.cell 1 rfl
  have fl1 : w2.frozen? ⟨w.heap.size + 1, 1, none⟩ = false := Hl2.out.loc.frozen 1
  go_wp2_with fail
  have Hl3 := Lib.hid (Hl2.out.put 1 (.int .i64 1))
  have d0 : (w2.setCell ⟨w.heap.size + 1, 1, none⟩ (.int .i64 1)).cell? ⟨g2, 0, none⟩ = some (.int .i64 x) := ((Gou.Mod.setCell _ ⟨w.heap.size + 1, 1, none⟩ _).cell (p := ⟨g2, 0, none⟩) hg1 (by simp; omega)).trans c0
  have d1 : (w2.setCell ⟨w.heap.size + 1, 1, none⟩ (.int .i64 1)).cell? ⟨g2, 1, none⟩ = some (.int .i64 y) := ((Gou.Mod.setCell _ ⟨w.heap.size + 1, 1, none⟩ _).cell (p := ⟨g2, 1, none⟩) hg1 (by simp; omega)).trans c1
  have d2 : (w2.setCell ⟨w.heap.size + 1, 1, none⟩ (.int .i64 1)).cell? ⟨g2, 2, none⟩ = some (.int .i64 z) := ((Gou.Mod.setCell _ ⟨w.heap.size + 1, 1, none⟩ _).cell (p := ⟨g2, 2, none⟩) hg1 (by simp; omega)).trans c2
  have hg3 : g2 < (w2.setCell ⟨w.heap.size + 1, 1, none⟩ (.int .i64 1)).heap.size := by simpa using hg1
  generalize (w2.setCell ⟨w.heap.size + 1, 1, none⟩ (.int .i64 1)) = w3 at *
  clear c0 c1 c2 ck cl1 fl1 hg1
  have HS : Hid (∀ w' : World, Gou.Mod (fun _ => False) w3 w' → w'.cell? ⟨g2, 0, none⟩ = some (.int .i64 x) ∧ w'.cell? ⟨g2, 1, none⟩ = some (.int .i64 y) ∧ w'.cell? ⟨g2, 2, none⟩ = some (.int .i64 z)) := Lib.hid (fun w' hm => ⟨(hm.cell (p := ⟨g2, 0, none⟩) hg3 (fun h => h)).trans d0, (hm.cell (p := ⟨g2, 1, none⟩) hg3 (fun h => h)).trans d1, (hm.cell (p := ⟨g2, 2, none⟩) hg3 (fun h => h)).trans d2⟩)
  clear d0 d1 d2
  have Hg3 := Lib.hid hg3
  clear hg3
  refine wp_region_held_drew (S := fun w' => Gou.Mod (fun _ => False) w3 w') (by kernel_rfl) (Gou.Mod.drew _ _) (fun hHeld => ?_)
  refine wpAnyH_take (i := 0) (oi := ({ dst := some 123, op := Op.move (Operand.tmp 9), type := 72, pos := "ref.go:240", after := #[], guard := none } : Oper)) (v := .slice (some ⟨g2, 0, none⟩) 3 c) rfl (by kernel_rfl) (by kernel_rfl) (by kernel_rfl) (fun _ _ _ h => h) (Or.inl ⟨by rfl, ?_⟩) hHeld ?_
  · (intro w' hSw; (try dsimp only at hSw); obtain ⟨s0, s1, s2⟩ := HS.out w' hSw; clear hSw; go_simp; (try with_reducible rfl))
  try simp only [Act.put, List.setIfInBounds_toArray, List.set_cons_zero, List.set_cons_succ]
  refine wpAnyH_take (i := 1) (oi := ({ dst := some 124, op := Op.indexAddr 72 (Operand.tmp 123) (Operand.const (Value.int IntKind.i64 0)), type := 0, pos := "ref.go:240", after := #[{ on := 0, ground := Ground.data }], guard := none } : Oper)) (v := .pointer (some ⟨g2, 0, none⟩)) rfl (by kernel_rfl) (by kernel_rfl) (by kernel_rfl) (fun _ _ _ h => h) (Or.inl ⟨by rfl, ?_⟩) hHeld ?_
  · (intro w' hSw; (try dsimp only at hSw); obtain ⟨s0, s1, s2⟩ := HS.out w' hSw; clear hSw; go_simp; (try with_reducible rfl))
  try simp only [Act.put, List.setIfInBounds_toArray, List.set_cons_zero, List.set_cons_succ]
  refine wpAnyH_take (i := 2) (oi := ({ dst := some 125, op := Op.load 3 (Operand.tmp 124), type := 3, pos := "ref.go:240", after := #[{ on := 1, ground := Ground.data }], guard := none } : Oper)) (v := .int .i64 x) rfl (by kernel_rfl) (by kernel_rfl) (by kernel_rfl) (fun _ _ _ h => h) (Or.inl ⟨by rfl, ?_⟩) hHeld ?_
  · (intro w' hSw; (try dsimp only at hSw); obtain ⟨s0, s1, s2⟩ := HS.out w' hSw; clear hSw; go_simp; (try with_reducible rfl))
  try simp only [Act.put, List.setIfInBounds_toArray, List.set_cons_zero, List.set_cons_succ]
  refine wpAnyH_take (i := 3) (oi := ({ dst := some 126, op := Op.move (Operand.tmp 9), type := 72, pos := "ref.go:240", after := #[], guard := none } : Oper)) (v := .slice (some ⟨g2, 0, none⟩) 3 c) rfl (by kernel_rfl) (by kernel_rfl) (by kernel_rfl) (fun _ _ _ h => h) (Or.inl ⟨by rfl, ?_⟩) hHeld ?_
  · (intro w' hSw; (try dsimp only at hSw); obtain ⟨s0, s1, s2⟩ := HS.out w' hSw; clear hSw; go_simp; (try with_reducible rfl))
  try simp only [Act.put, List.setIfInBounds_toArray, List.set_cons_zero, List.set_cons_succ]
  refine wpAnyH_take (i := 4) (oi := ({ dst := some 127, op := Op.indexAddr 72 (Operand.tmp 126) (Operand.const (Value.int IntKind.i64 1)), type := 0, pos := "ref.go:240", after := #[{ on := 3, ground := Ground.data }], guard := none } : Oper)) (v := .pointer (some ⟨g2, 1, none⟩)) rfl (by kernel_rfl) (by kernel_rfl) (by kernel_rfl) (fun _ _ _ h => h) (Or.inl ⟨by rfl, ?_⟩) hHeld ?_
  · (intro w' hSw; (try dsimp only at hSw); obtain ⟨s0, s1, s2⟩ := HS.out w' hSw; clear hSw; go_simp; (try with_reducible rfl))
  try simp only [Act.put, List.setIfInBounds_toArray, List.set_cons_zero, List.set_cons_succ]
  refine wpAnyH_take (i := 5) (oi := ({ dst := some 128, op := Op.load 3 (Operand.tmp 127), type := 3, pos := "ref.go:240", after := #[{ on := 4, ground := Ground.data }], guard := none } : Oper)) (v := .int .i64 y) rfl (by kernel_rfl) (by kernel_rfl) (by kernel_rfl) (fun _ _ _ h => h) (Or.inl ⟨by rfl, ?_⟩) hHeld ?_
  · (intro w' hSw; (try dsimp only at hSw); obtain ⟨s0, s1, s2⟩ := HS.out w' hSw; clear hSw; go_simp; (try with_reducible rfl))
  try simp only [Act.put, List.setIfInBounds_toArray, List.set_cons_zero, List.set_cons_succ]
  refine wpAnyH_take (i := 6) (oi := ({ dst := some 129, op := Op.build 23 #[(0, Operand.tmp 125), (1, Operand.tmp 128)], type := 23, pos := "ref.go:240", after := #[{ on := 2, ground := Ground.data }, { on := 5, ground := Ground.data }], guard := none } : Oper)) (v := .agg #[.int .i64 x, .int .i64 y]) rfl (by kernel_rfl) (by kernel_rfl) (by kernel_rfl) (fun _ _ _ h => h) (Or.inl ⟨by rfl, ?_⟩) hHeld ?_
  · (intro w' hSw; (try dsimp only at hSw); obtain ⟨s0, s1, s2⟩ := HS.out w' hSw; clear hSw; go_simp; (try with_reducible rfl))
  try simp only [Act.put, List.setIfInBounds_toArray, List.set_cons_zero, List.set_cons_succ]
  refine wpAnyH_ready (rs := [7]) (by kernel_rfl) (by simp) (AllReadyH.cons (o := ({ dst := some 11, op := Op.alloc 23, type := 0, pos := "ref.go:240", after := #[], guard := none } : Oper)) rfl (fun K9 hK => ?_) AllReadyH.nil)
  go_simp
  have BA : Blk ((w3.alloc (.cells #[.int .i64 0, .int .i64 0] 23)).drew) w3.heap.size 23 #[.int .i64 0, .int .i64 0] := (show Blk (w3.alloc (.cells #[.int .i64 0, .int .i64 0] 23)) w3.heap.size 23 _ from heap_alloc_new w3 _).mod (Gou.Mod.drew (fun _ => False) _) (fun h => h)
  have MA : Gou.Mod (fun _ => False) w3 ((w3.alloc (.cells #[.int .i64 0, .int .i64 0] 23)).drew) := (Gou.Mod.alloc _ _ _).trans' (Gou.Mod.drew _ _)
  clear hHeld
  refine hK _ _ MA (fun hHeld => ?_)
  clear hK K9
  try simp only [Act.put, List.setIfInBounds_toArray, List.set_cons_zero, List.set_cons_succ]
  clear hHeld
  have hA : ∃ wA, wA = ((w3.alloc (.cells #[.int .i64 0, .int .i64 0] 23)).drew) := ⟨_, rfl⟩
  obtain ⟨wA, hA⟩ := hA
  rw [← hA] at MA BA ⊢
  clear hA
  have hHeld := MA
  have ia0 : wA.cell? ⟨w3.heap.size, 0, none⟩ = some (.int .i64 0) := BA.cell 0 rfl
  have ia1 : wA.cell? ⟨w3.heap.size, 1, none⟩ = some (.int .i64 0) := BA.cell 1 rfl
  have ja0 : wA.frozen? ⟨w3.heap.size, 0, none⟩ = false := BA.frozen 0
  have ja1 : wA.frozen? ⟨w3.heap.size, 1, none⟩ = false := BA.frozen 1
  refine wpAnyH_ready (rs := [8]) (by kernel_rfl) (by simp) (AllReadyH.cons (o := ({ dst := none, op := Op.store 23 (Operand.tmp 11) (Operand.tmp 129), type := 0, pos := "ref.go:240", after := #[{ on := 7, ground := Ground.data }, { on := 6, ground := Ground.data }, { on := 0, ground := Ground.phase }, { on := 1, ground := Ground.phase }, { on := 2, ground := Ground.phase }, { on := 3, ground := Ground.phase }, { on := 4, ground := Ground.phase }, { on := 5, ground := Ground.phase }, { on := 6, ground := Ground.phase }, { on := 7, ground := Ground.phase }], guard := none } : Oper)) rfl (fun K9 hK => ?_) AllReadyH.nil)
  go_simp
  have MB := id_box MA BA x y
  clear hHeld ia0 ia1 ja0 ja1
  refine hK _ _ MB.1 (fun hHeld => ?_)
  clear hK K9
  try simp only [Act.put, List.setIfInBounds_toArray, List.set_cons_zero, List.set_cons_succ]
  refine wpAnyH_done (by kernel_rfl) ?_ _
  clear hHeld
  have hA : ∃ w5, w5 = ((wA.setCell ⟨w3.heap.size, 0, none⟩ (.int .i64 x)).setCell ⟨w3.heap.size, 1, none⟩ (.int .i64 y)) := ⟨_, rfl⟩
  obtain ⟨w5, hA⟩ := hA
  rw [← hA] at MB ⊢
  clear hA MA BA
  have hD : w3.heap.size ≠ w.heap.size + 1 := by have := Hl3.out.loc.lt; omega
  have hl5 := Hl3.out.next MB.1
  have Hg5 : Hid (g2 < w5.heap.size) := Lib.hid (Nat.lt_of_lt_of_le Hg3.out MB.1.size)
  obtain ⟨d0, d1, d2⟩ := HS.out w5 MB.1
  have ib0 : w5.cell? ⟨w3.heap.size, 0, none⟩ = some (.int .i64 x) := MB.2.cell 0 rfl
  have ib1 : w5.cell? ⟨w3.heap.size, 1, none⟩ = some (.int .i64 y) := MB.2.cell 1 rfl
  have ck : w5.cell? ⟨w.heap.size + 1, 0, none⟩ = some (.int .i64 1) := hl5.loc.cell 0 rfl
  have cl4 : w5.cell? ⟨w.heap.size + 1, 4, none⟩ = some (.int .i64 0) := hl5.loc.cell 4 rfl
  have fl4 : w5.frozen? ⟨w.heap.size + 1, 4, none⟩ = false := hl5.loc.frozen 4
  have cl5 : w5.cell? ⟨w.heap.size + 1, 5, none⟩ = some (.int .i64 0) := hl5.loc.cell 5 rfl
  have fl5 : w5.frozen? ⟨w.heap.size + 1, 5, none⟩ = false := hl5.loc.frozen 5
  have cl6 : w5.cell? ⟨w.heap.size + 1, 6, none⟩ = some (.int .i64 0) := hl5.loc.cell 6 rfl
  have fl6 : w5.frozen? ⟨w.heap.size + 1, 6, none⟩ = false := hl5.loc.frozen 6
  have Hl5 := Lib.hid hl5
  clear hl5 MB HS
  generalize w3.heap.size = D at *
  go_wp2_with fail
  have HlA : Hid (RLoc w 41 AcZ (actC ⟨1, ⟨1, (0, 0), (x, y), z, Lk.zero⟩, 0, 0, Cf.zero⟩ (.slice none 0 0) (.slice none 0 0) (.slice none 0 0)) (((w5.setCell ⟨w.heap.size + 1, 4, none⟩ (.int .i64 x)).setCell ⟨w.heap.size + 1, 5, none⟩ (.int .i64 y)).setCell ⟨w.heap.size + 1, 6, none⟩ (.int .i64 z))) := Lib.hid (Hl5.out.puts 4 [.int .i64 x, .int .i64 y, .int .i64 z])
  clear d0 d1 d2 cl4 cl5 cl6 fl4 fl5 fl6 ib0 ib1 ck
  have hA : ∃ wB, wB = (((w5.setCell ⟨w.heap.size + 1, 4, none⟩ (.int .i64 x)).setCell ⟨w.heap.size + 1, 5, none⟩ (.int .i64 y)).setCell ⟨w.heap.size + 1, 6, none⟩ (.int .i64 z)) := ⟨_, rfl⟩
  obtain ⟨wB, hA⟩ := hA
  rw [← hA] at HlA ⊢
  clear hA
  have Hact : Hid (actAt bs n = (lookAt bs q 1).bind fun l => some (⟨1, ⟨1, (0, 0), (x, y), z, l.1⟩, 0, 0, Cf.zero⟩, l.2)) := Lib.hid (by
    rw [act_opr hlt Hbk.out (by omega) (by omega)]
    refine (congrArg (Option.bind · _) (opr1 Ht.out)).trans ?_
    cases lookAt bs q 1 <;> rfl)
  refine (lookR_low wB (some ⟨b, o, none⟩) cb bs (H.out.mod HlA.out.mod (fun _ _ _ h => h)) Hby.out hl q hq 1 (by omega)).mono ?_
  rintro e w7 ⟨hm7, hp⟩
  have Hl7 := Lib.hid (HlA.out.next hm7)
  clear hm7
  rcases ht : lookAt bs q 1 with _ | ⟨l, q2⟩
  · rw [ht] at hp
    obtain ⟨l, p1, n1, k1, p2, n2, k2, p3, n3, k3, rfl⟩ := hp
    have Hno : Hid (actAt bs n = none) := Lib.hid (by rw [Hact.out, ht]; rfl)
    clear ht
    have Hbx := Lib.hid (box_put w7 35 LkZ (lookC l (.slice p1 n1 k1) (.slice p2 n2 k2) (.slice p3 n3 k3)) rfl)
    have Hlb := Lib.hid (Hl7.out.next Hbx.out.1)
    have Htl := Lib.hid (Hlb.out.loc.there 7 28 (by simp [actC]))
    have hl8 := Hlb.out.puts 7 (lookC l (.slice p1 n1 k1) (.slice p2 n2 k2) (.slice p3 n3 k3)).toList
    rw [setMany_actl] at hl8
    have Hl8 := Lib.hid hl8
    clear hl8
    have HB : Hid (Blk _ (w.heap.size + 1) 41 (actC ⟨1, ⟨1, (0, 0), (x, y), z, l⟩, 0, 0, Cf.zero⟩ (.slice p1 n1 k1) (.slice p2 n2 k2) (.slice p3 n3 k3))) := Lib.hid Hl8.out.loc
    have Hth := Lib.hid (Hl8.out.res.there 0 42 (by simp))
    go_wp2_with (first | ((with_reducible refine wpList_store_mid ?g5_5 35 ?x5_5 ?y5_5 ?o5_5 w7.heap.size 0 (lookC l (.slice p1 n1 k1) (.slice p2 n2 k2) (.slice p3 n3 k3)) ?h5_5 ?j5_5 ?t5_5 ?i5_5 ?s5_5 ?r5_5); (case g5_5 => exact rfl); (case o5_5 => exact rfl); (case h5_5 => exact rfl); (case j5_5 => exact rfl); (case t5_5 => exact Hbx.out.2.2); (case i5_5 => exact size_look); (case s5_5 => exact lookC_one _ _ _ _ _ _ _ _ _ _)) | ((with_reducible refine wpList_load_row ?g5_6 35 ?x5_6 ?o5_6 w7.heap.size ?h5_6 ?t5_6 ?c5_6 ?f5_6 ?d5_6 ?b5_6 ?u5_6 ?s5_6 ?i5_6 ?r5_6); (case g5_6 => exact rfl); (case o5_6 => exact rfl); (case h5_6 => exact rfl); (case b5_6 => exact Hbx.out.2.1); (case u5_6 => exact Try.underlying35); (case s5_6 => exact rfl); (case i5_6 => exact size_look)) | ((with_reducible refine wpList_store_mid ?g5_7 35 ?x5_7 ?y5_7 ?o5_7 (w.heap.size + 1) 7 (lookC l (.slice p1 n1 k1) (.slice p2 n2 k2) (.slice p3 n3 k3)) ?h5_7 ?j5_7 ?t5_7 ?i5_7 ?s5_7 ?r5_7); (case g5_7 => exact rfl); (case o5_7 => exact rfl); (case h5_7 => exact rfl); (case j5_7 => exact rfl); (case t5_7 => exact Htl.out); (case i5_7 => exact size_look); (case s5_7 => exact lookC_one _ _ _ _ _ _ _ _ _ _)) | ((with_reducible refine wpList_load_row ?g1_8 41 ?x1_8 ?o1_8 (w.heap.size + 1) ?h1_8 ?t1_8 ?c1_8 ?f1_8 ?d1_8 ?b1_8 ?u1_8 ?s1_8 ?i1_8 ?r1_8); (case g1_8 => exact rfl); (case o1_8 => exact rfl); (case h1_8 => exact rfl); (case b1_8 => exact HB.out); (case u1_8 => exact Try.underlying41); (case s1_8 => exact rfl); (case i1_8 => exact size_act)) | ((with_reducible refine wpList_store_mid ?g2_8 41 ?x2_8 ?y2_8 ?o2_8 w.heap.size 0 (actC ⟨1, ⟨1, (0, 0), (x, y), z, l⟩, 0, 0, Cf.zero⟩ (.slice p1 n1 k1) (.slice p2 n2 k2) (.slice p3 n3 k3)) ?h2_8 ?j2_8 ?t2_8 ?i2_8 ?s2_8 ?r2_8); (case g2_8 => exact rfl); (case o2_8 => exact rfl); (case h2_8 => exact rfl); (case j2_8 => exact rfl); (case t2_8 => exact Hth.out); (case i2_8 => exact size_act); (case s2_8 => exact actC_one _ _ _ _ _ _ _ _ _ _)) | fail)
    have hd := RLoc.done (cs := actC ⟨1, ⟨1, (0, 0), (x, y), z, l⟩, 0, 0, Cf.zero⟩ (.slice p1 n1 k1) (.slice p2 n2 k2) (.slice p3 n3 k3)) Hl8.out rfl
    refine bodyPost_ret (v := .tuple #[.agg (actC ⟨1, ⟨1, (0, 0), (x, y), z, l⟩, 0, 0, Cf.zero⟩ (.slice p1 n1 k1) (.slice p2 n2 k2) (.slice p3 n3 k3)), .int .i64 0, .bool false]) (results_one _ _ w.heap.size (actC ⟨1, ⟨1, (0, 0), (x, y), z, l⟩, 0, 0, Cf.zero⟩ (.slice p1 n1 k1) (.slice p2 n2 k2) (.slice p3 n3 k3)) rfl _ _ rfl rfl rfl hd.2.1) rfl ?_
    exact on_fail Hno.out hd.1 _ _ _ _ _ _ _ _ _ _
  rw [ht] at hp
  obtain ⟨p1, n1, k1, p2, n2, k2, p3, n3, k3, rfl, hr⟩ := hp
  have Hres : Hid (actAt bs n = some (⟨1, ⟨1, (0, 0), (x, y), z, l⟩, 0, 0, Cf.zero⟩, q2)) := Lib.hid (by rw [Hact.out, ht]; rfl)
  have Hr := Lib.hid hr
  have Hs0 : Hid (w.heap.size + 1 < wB.heap.size) := Lib.hid HlA.out.loc.lt
  clear ht hr
  have Hbx := Lib.hid (box_put w7 35 LkZ (lookC l (.slice p1 n1 k1) (.slice p2 n2 k2) (.slice p3 n3 k3)) rfl)
  have Hlb := Lib.hid (Hl7.out.next Hbx.out.1)
  have Htl := Lib.hid (Hlb.out.loc.there 7 28 (by simp [actC]))
  have hl8 := Hlb.out.puts 7 (lookC l (.slice p1 n1 k1) (.slice p2 n2 k2) (.slice p3 n3 k3)).toList
  rw [setMany_actl] at hl8
  have Hl8 := Lib.hid hl8
  clear hl8
  have HB : Hid (Blk _ (w.heap.size + 1) 41 (actC ⟨1, ⟨1, (0, 0), (x, y), z, l⟩, 0, 0, Cf.zero⟩ (.slice p1 n1 k1) (.slice p2 n2 k2) (.slice p3 n3 k3))) := Lib.hid Hl8.out.loc
  have Hth := Lib.hid (Hl8.out.res.there 0 42 (by simp))
  go_wp2_with (first | ((with_reducible refine wpList_store_mid ?g5_9 35 ?x5_9 ?y5_9 ?o5_9 w7.heap.size 0 (lookC l (.slice p1 n1 k1) (.slice p2 n2 k2) (.slice p3 n3 k3)) ?h5_9 ?j5_9 ?t5_9 ?i5_9 ?s5_9 ?r5_9); (case g5_9 => exact rfl); (case o5_9 => exact rfl); (case h5_9 => exact rfl); (case j5_9 => exact rfl); (case t5_9 => exact Hbx.out.2.2); (case i5_9 => exact size_look); (case s5_9 => exact lookC_one _ _ _ _ _ _ _ _ _ _)) | ((with_reducible refine wpList_load_row ?g5_10 35 ?x5_10 ?o5_10 w7.heap.size ?h5_10 ?t5_10 ?c5_10 ?f5_10 ?d5_10 ?b5_10 ?u5_10 ?s5_10 ?i5_10 ?r5_10); (case g5_10 => exact rfl); (case o5_10 => exact rfl); (case h5_10 => exact rfl); (case b5_10 => exact Hbx.out.2.1); (case u5_10 => exact Try.underlying35); (case s5_10 => exact rfl); (case i5_10 => exact size_look)) | ((with_reducible refine wpList_store_mid ?g5_11 35 ?x5_11 ?y5_11 ?o5_11 (w.heap.size + 1) 7 (lookC l (.slice p1 n1 k1) (.slice p2 n2 k2) (.slice p3 n3 k3)) ?h5_11 ?j5_11 ?t5_11 ?i5_11 ?s5_11 ?r5_11); (case g5_11 => exact rfl); (case o5_11 => exact rfl); (case h5_11 => exact rfl); (case j5_11 => exact rfl); (case t5_11 => exact Htl.out); (case i5_11 => exact size_look); (case s5_11 => exact lookC_one _ _ _ _ _ _ _ _ _ _)) | ((with_reducible refine wpList_load_row ?g1_12 41 ?x1_12 ?o1_12 (w.heap.size + 1) ?h1_12 ?t1_12 ?c1_12 ?f1_12 ?d1_12 ?b1_12 ?u1_12 ?s1_12 ?i1_12 ?r1_12); (case g1_12 => exact rfl); (case o1_12 => exact rfl); (case h1_12 => exact rfl); (case b1_12 => exact HB.out); (case u1_12 => exact Try.underlying41); (case s1_12 => exact rfl); (case i1_12 => exact size_act)) | ((with_reducible refine wpList_store_mid ?g2_12 41 ?x2_12 ?y2_12 ?o2_12 w.heap.size 0 (actC ⟨1, ⟨1, (0, 0), (x, y), z, l⟩, 0, 0, Cf.zero⟩ (.slice p1 n1 k1) (.slice p2 n2 k2) (.slice p3 n3 k3)) ?h2_12 ?j2_12 ?t2_12 ?i2_12 ?s2_12 ?r2_12); (case g2_12 => exact rfl); (case o2_12 => exact rfl); (case h2_12 => exact rfl); (case j2_12 => exact rfl); (case t2_12 => exact Hth.out); (case i2_12 => exact size_act); (case s2_12 => exact actC_one _ _ _ _ _ _ _ _ _ _)) | fail)
  have hd := RLoc.done (cs := actC ⟨1, ⟨1, (0, 0), (x, y), z, l⟩, 0, 0, Cf.zero⟩ (.slice p1 n1 k1) (.slice p2 n2 k2) (.slice p3 n3 k3)) Hl8.out rfl
  refine bodyPost_ret (v := .tuple #[.agg (actC ⟨1, ⟨1, (0, 0), (x, y), z, l⟩, 0, 0, Cf.zero⟩ (.slice p1 n1 k1) (.slice p2 n2 k2) (.slice p3 n3 k3)), .int .i64 q2, .bool true]) (results_one _ _ w.heap.size (actC ⟨1, ⟨1, (0, 0), (x, y), z, l⟩, 0, 0, Cf.zero⟩ (.slice p1 n1 k1) (.slice p2 n2 k2) (.slice p3 n3 k3)) rfl _ _ rfl rfl rfl hd.2.1) rfl ?_
  exact on_done Hres.out hd.1 (LookR.far (Hr.out.mod Hbx.out.1 (fun _ _ _ h => h)) (Mod.two hd.2.2) (by have := Hs0.out; omega) (by have := Hs0.out; omega) (by have := Hs0.out; omega))

set_option maxHeartbeats 4000000 in
theorem oneR_3 (w : World) (pb : Option Addr) (cb : Nat) (bs : List Nat) (h : BytesAt (fun _ => True) w (.slice pb bs.length cb) bs) (hby : ∀ x ∈ bs, x < 256) (hl : bs.length ≤ 10000000) (n : Nat) (hn : n ≤ bs.length) (hlt : n < bs.length) (hbk : bs[n] = 3) :
    Calls Try.prog 27 #[.slice pb bs.length cb, .int .i64 n] w (OnP w bs n) := by
  have H := Lib.hid h
  have Hby := Lib.hid hby
  clear h hby
  have t0 : decide ((bs.length : Int) ≤ (n : Int)) = false := decide_eq_false (by omega)
  have t0' : decide (bs.length ≤ n) = false := decide_eq_false (by omega)
  obtain ⟨-, b, o, rfl, hb, -, hc⟩ := H.out.celz (by omega)
  have Hcw : Hid (w.cell? ⟨b, o + n, none⟩ = some (.int .u8 3)) := Lib.hid (by
    have := hc n hlt
    rw [hbk] at this
    exact this)
  have hni : (n : Int) < (bs.length : Int) := by omega
  have Hb := Lib.hid hb
  clear hc hb
  have Hbk := Lib.hid hbk
  clear hbk
  go_enter Try.func27, Try.ntmps27
  go_wp2_with (first | ((with_reducible refine wpList_buildTo ?g7 41 ?p7 ?o7 ?d7 ?e7 (AcZ) ?f7 ?r7); (case g7 => exact rfl); (case o7 => exact rfl); (case e7 => exact rfl); (case f7 => kernel_rfl)) | ((with_reducible refine wpList_store_mid ?g8 41 ?x8 ?y8 ?o8 (w.heap.size + 1) 0 (AcZ) ?h8 ?j8 ?t8 ?i8 ?s8 ?r8); (case g8 => exact rfl); (case o8 => exact rfl); (case h8 => exact rfl); (case j8 => exact rfl); (case t8 => exact there_act w); (case i8 => exact size_act); (case s8 => exact oneR_act); (have Hl0 := Lib.hid (start_act w)); (generalize ((w.alloc (.cells AcZ 41)).alloc (.cells AcZ 41)).setCells (w.heap.size + 1) 0 (AcZ).toList = w0 at *); (have hcell : w0.cell? ⟨b, o + n, none⟩ = some (.int .u8 3) := (Hl0.out.mod.cell (p := ⟨b, o + n, none⟩) Hb.out (fun h => h)).trans Hcw.out); (have cl0 : w0.cell? ⟨w.heap.size + 1, 0, none⟩ = some (.int .i64 0) := Hl0.out.loc.cell 0 rfl); (have fl0 : w0.frozen? ⟨w.heap.size + 1, 0, none⟩ = false := Hl0.out.loc.frozen 0); (have hsz : w.heap.size + 1 < w0.heap.size := Hl0.out.loc.lt); (have hne : w.heap.size + 1 ≠ w0.heap.size := Nat.ne_of_lt hsz)) | fail)
  have Hl1 : Hid (RLoc w 41 AcZ (actC ⟨3, Opr.zero, 0, 0, Cf.zero⟩ (.slice none 0 0) (.slice none 0 0) (.slice none 0 0)) ((w0.setCell ⟨w.heap.size + 1, 0, none⟩ (.int .i64 3)).alloc (.cells #[.int .i64 0, .int .i64 3, .int .i64 2, .int .i64 5, .int .i64 3, .int .i64 2, .int .i64 2, .int .i64 2, .int .i64 2, .int .i64 2, .int .i64 2, .int .i64 2, .int .i64 2, .int .i64 2] 95))) := Lib.hid ((Hl0.out.put 0 (.int .i64 3)).next (Gou.Mod.alloc _ _ _))
  generalize hW1 : ((w0.setCell ⟨w.heap.size + 1, 0, none⟩ (.int .i64 3)).alloc (.cells #[.int .i64 0, .int .i64 3, .int .i64 2, .int .i64 5, .int .i64 3, .int .i64 2, .int .i64 2, .int .i64 2, .int .i64 2, .int .i64 2, .int .i64 2, .int .i64 2, .int .i64 2, .int .i64 2] 95)) = w1 at *
  clear hW1 hcell cl0 fl0 hsz hne
  rw [show (n : Int) + 1 = ((n + 1 : Nat) : Int) from by push_cast; rfl]
  refine (numbersR_any w1 (some ⟨b, o, none⟩) cb bs (H.out.mod Hl1.out.mod (fun _ _ _ h => h)) Hby.out hl (n + 1) 5 (by omega) (by omega)).mono ?_
  rintro e w2 ⟨hm2, hp⟩
  have Hl2 := Lib.hid (Hl1.out.next hm2)
  clear hm2
  have ck : w2.cell? ⟨w.heap.size + 1, 0, none⟩ = some (.int .i64 3) := Hl2.out.loc.cell 0 rfl
  rcases ht : timesAt (numAt bs) (n + 1) 5 with _ | ⟨xs, q⟩
  · rw [ht] at hp
    subst hp
    have Hno : Hid (actAt bs n = none) := Lib.hid (by rw [act_opr hlt Hbk.out (by omega) (by omega)]; exact congrArg (Option.bind · _) (opr3_none ht))
    clear ht
    have HB : Hid (Blk _ (w.heap.size + 1) 41 (actC ⟨3, Opr.zero, 0, 0, Cf.zero⟩ (.slice none 0 0) (.slice none 0 0) (.slice none 0 0))) := Lib.hid Hl2.out.loc
    have Hth := Lib.hid (Hl2.out.res.there 0 42 (by simp))
    go_wp2_with (first | ((with_reducible refine wpList_load_row ?g1_13 41 ?x1_13 ?o1_13 (w.heap.size + 1) ?h1_13 ?t1_13 ?c1_13 ?f1_13 ?d1_13 ?b1_13 ?u1_13 ?s1_13 ?i1_13 ?r1_13); (case g1_13 => exact rfl); (case o1_13 => exact rfl); (case h1_13 => exact rfl); (case b1_13 => exact HB.out); (case u1_13 => exact Try.underlying41); (case s1_13 => exact rfl); (case i1_13 => exact size_act)) | ((with_reducible refine wpList_store_mid ?g2_13 41 ?x2_13 ?y2_13 ?o2_13 w.heap.size 0 (actC ⟨3, Opr.zero, 0, 0, Cf.zero⟩ (.slice none 0 0) (.slice none 0 0) (.slice none 0 0)) ?h2_13 ?j2_13 ?t2_13 ?i2_13 ?s2_13 ?r2_13); (case g2_13 => exact rfl); (case o2_13 => exact rfl); (case h2_13 => exact rfl); (case j2_13 => exact rfl); (case t2_13 => exact Hth.out); (case i2_13 => exact size_act); (case s2_13 => exact actC_one _ _ _ _ _ _ _ _ _ _)) | fail)
    have hd := RLoc.done (cs := actC ⟨3, Opr.zero, 0, 0, Cf.zero⟩ (.slice none 0 0) (.slice none 0 0) (.slice none 0 0)) Hl2.out rfl
    refine bodyPost_ret (v := .tuple #[.agg (actC ⟨3, Opr.zero, 0, 0, Cf.zero⟩ (.slice none 0 0) (.slice none 0 0) (.slice none 0 0)), .int .i64 0, .bool false]) (results_one _ _ w.heap.size (actC ⟨3, Opr.zero, 0, 0, Cf.zero⟩ (.slice none 0 0) (.slice none 0 0) (.slice none 0 0)) rfl _ _ rfl rfl rfl hd.2.1) rfl ?_
    exact on_fail Hno.out hd.1 _ _ _ _ _ _ _ _ _ _
  rw [ht] at hp
  obtain ⟨p, c, rfl, hown, hxl⟩ := hp
  obtain ⟨x, y, z, u, v, m1, m2, m3, m4, rfl, -, -, -, -, -⟩ := times_five ht
  obtain ⟨g2, rfl, hg0, hg1, hc⟩ := own_ints hown (by omega)
  have hq : q ≤ bs.length := (times_spec (num_spec Hby.out) 5).end_le ht (by omega)
  have hng : w.heap.size + 1 ≠ g2 := by have := Hl1.out.loc.lt; omega
  have c0 : w2.cell? ⟨g2, 0, none⟩ = some (.int .i64 x) := hc 0 (by simp)
  have c1 : w2.cell? ⟨g2, 1, none⟩ = some (.int .i64 y) := hc 1 (by simp)
  have c2 : w2.cell? ⟨g2, 2, none⟩ = some (.int .i64 z) := hc 2 (by simp)
  have c3 : w2.cell? ⟨g2, 3, none⟩ = some (.int .i64 u) := hc 3 (by simp)
  have c4 : w2.cell? ⟨g2, 4, none⟩ = some (.int .i64 v) := hc 4 (by simp)
  have Ht := Lib.hid ht
  clear hc hown hxl hg0 ht
  have cl1 : w2.cell? ⟨w.heap.size + 1, 1, none⟩ = some (.int .i64 0) := Hl2.out.loc.cell 1 rfl
  have fl1 : w2.frozen? ⟨w.heap.size + 1, 1, none⟩ = false := Hl2.out.loc.frozen 1
  go_wp2_with fail
  have Hl3 := Lib.hid (Hl2.out.put 1 (.int .i64 3))
  have d0 : (w2.setCell ⟨w.heap.size + 1, 1, none⟩ (.int .i64 3)).cell? ⟨g2, 0, none⟩ = some (.int .i64 x) := ((Gou.Mod.setCell _ ⟨w.heap.size + 1, 1, none⟩ _).cell (p := ⟨g2, 0, none⟩) hg1 (by simp; omega)).trans c0
  have d1 : (w2.setCell ⟨w.heap.size + 1, 1, none⟩ (.int .i64 3)).cell? ⟨g2, 1, none⟩ = some (.int .i64 y) := ((Gou.Mod.setCell _ ⟨w.heap.size + 1, 1, none⟩ _).cell (p := ⟨g2, 1, none⟩) hg1 (by simp; omega)).trans c1
  have d2 : (w2.setCell ⟨w.heap.size + 1, 1, none⟩ (.int .i64 3)).cell? ⟨g2, 2, none⟩ = some (.int .i64 z) := ((Gou.Mod.setCell _ ⟨w.heap.size + 1, 1, none⟩ _).cell (p := ⟨g2, 2, none⟩) hg1 (by simp; omega)).trans c2
  have d3 : (w2.setCell ⟨w.heap.size + 1, 1, none⟩ (.int .i64 3)).cell? ⟨g2, 3, none⟩ = some (.int .i64 u) := ((Gou.Mod.setCell _ ⟨w.heap.size + 1, 1, none⟩ _).cell (p := ⟨g2, 3, none⟩) hg1 (by simp; omega)).trans c3
  have d4 : (w2.setCell ⟨w.heap.size + 1, 1, none⟩ (.int .i64 3)).cell? ⟨g2, 4, none⟩ = some (.int .i64 v) := ((Gou.Mod.setCell _ ⟨w.heap.size + 1, 1, none⟩ _).cell (p := ⟨g2, 4, none⟩) hg1 (by simp; omega)).trans c4
  have hg3 : g2 < (w2.setCell ⟨w.heap.size + 1, 1, none⟩ (.int .i64 3)).heap.size := by simpa using hg1
  generalize (w2.setCell ⟨w.heap.size + 1, 1, none⟩ (.int .i64 3)) = w3 at *
  clear c0 c1 c2 c3 c4 ck cl1 fl1 hg1
  have HS : Hid (∀ w' : World, Gou.Mod (fun _ => False) w3 w' → w'.cell? ⟨g2, 0, none⟩ = some (.int .i64 x) ∧ w'.cell? ⟨g2, 1, none⟩ = some (.int .i64 y) ∧ w'.cell? ⟨g2, 2, none⟩ = some (.int .i64 z) ∧ w'.cell? ⟨g2, 3, none⟩ = some (.int .i64 u) ∧ w'.cell? ⟨g2, 4, none⟩ = some (.int .i64 v)) := Lib.hid (fun w' hm => ⟨(hm.cell (p := ⟨g2, 0, none⟩) hg3 (fun h => h)).trans d0, (hm.cell (p := ⟨g2, 1, none⟩) hg3 (fun h => h)).trans d1, (hm.cell (p := ⟨g2, 2, none⟩) hg3 (fun h => h)).trans d2, (hm.cell (p := ⟨g2, 3, none⟩) hg3 (fun h => h)).trans d3, (hm.cell (p := ⟨g2, 4, none⟩) hg3 (fun h => h)).trans d4⟩)
  clear d0 d1 d2 d3 d4
  have Hg3 := Lib.hid hg3
  clear hg3
  refine wp_region_held_drew (S := fun w' => Gou.Mod (fun _ => False) w3 w') (by kernel_rfl) (Gou.Mod.drew _ _) (fun hHeld => ?_)
  refine wpAnyH_take (i := 0) (oi := ({ dst := some 123, op := Op.move (Operand.tmp 9), type := 72, pos := "ref.go:240", after := #[], guard := none } : Oper)) (v := .slice (some ⟨g2, 0, none⟩) 5 c) rfl (by kernel_rfl) (by kernel_rfl) (by kernel_rfl) (fun _ _ _ h => h) (Or.inl ⟨by rfl, ?_⟩) hHeld ?_
  · (intro w' hSw; (try dsimp only at hSw); obtain ⟨s0, s1, s2, s3, s4⟩ := HS.out w' hSw; clear hSw; go_simp; (try with_reducible rfl))
  try simp only [Act.put, List.setIfInBounds_toArray, List.set_cons_zero, List.set_cons_succ]
  refine wpAnyH_take (i := 1) (oi := ({ dst := some 124, op := Op.indexAddr 72 (Operand.tmp 123) (Operand.const (Value.int IntKind.i64 0)), type := 0, pos := "ref.go:240", after := #[{ on := 0, ground := Ground.data }], guard := none } : Oper)) (v := .pointer (some ⟨g2, 0, none⟩)) rfl (by kernel_rfl) (by kernel_rfl) (by kernel_rfl) (fun _ _ _ h => h) (Or.inl ⟨by rfl, ?_⟩) hHeld ?_
  · (intro w' hSw; (try dsimp only at hSw); obtain ⟨s0, s1, s2, s3, s4⟩ := HS.out w' hSw; clear hSw; go_simp; (try with_reducible rfl))
  try simp only [Act.put, List.setIfInBounds_toArray, List.set_cons_zero, List.set_cons_succ]
  refine wpAnyH_take (i := 2) (oi := ({ dst := some 125, op := Op.load 3 (Operand.tmp 124), type := 3, pos := "ref.go:240", after := #[{ on := 1, ground := Ground.data }], guard := none } : Oper)) (v := .int .i64 x) rfl (by kernel_rfl) (by kernel_rfl) (by kernel_rfl) (fun _ _ _ h => h) (Or.inl ⟨by rfl, ?_⟩) hHeld ?_
  · (intro w' hSw; (try dsimp only at hSw); obtain ⟨s0, s1, s2, s3, s4⟩ := HS.out w' hSw; clear hSw; go_simp; (try with_reducible rfl))
  try simp only [Act.put, List.setIfInBounds_toArray, List.set_cons_zero, List.set_cons_succ]
  refine wpAnyH_take (i := 3) (oi := ({ dst := some 126, op := Op.move (Operand.tmp 9), type := 72, pos := "ref.go:240", after := #[], guard := none } : Oper)) (v := .slice (some ⟨g2, 0, none⟩) 5 c) rfl (by kernel_rfl) (by kernel_rfl) (by kernel_rfl) (fun _ _ _ h => h) (Or.inl ⟨by rfl, ?_⟩) hHeld ?_
  · (intro w' hSw; (try dsimp only at hSw); obtain ⟨s0, s1, s2, s3, s4⟩ := HS.out w' hSw; clear hSw; go_simp; (try with_reducible rfl))
  try simp only [Act.put, List.setIfInBounds_toArray, List.set_cons_zero, List.set_cons_succ]
  refine wpAnyH_take (i := 4) (oi := ({ dst := some 127, op := Op.indexAddr 72 (Operand.tmp 126) (Operand.const (Value.int IntKind.i64 1)), type := 0, pos := "ref.go:240", after := #[{ on := 3, ground := Ground.data }], guard := none } : Oper)) (v := .pointer (some ⟨g2, 1, none⟩)) rfl (by kernel_rfl) (by kernel_rfl) (by kernel_rfl) (fun _ _ _ h => h) (Or.inl ⟨by rfl, ?_⟩) hHeld ?_
  · (intro w' hSw; (try dsimp only at hSw); obtain ⟨s0, s1, s2, s3, s4⟩ := HS.out w' hSw; clear hSw; go_simp; (try with_reducible rfl))
  try simp only [Act.put, List.setIfInBounds_toArray, List.set_cons_zero, List.set_cons_succ]
  refine wpAnyH_take (i := 5) (oi := ({ dst := some 128, op := Op.load 3 (Operand.tmp 127), type := 3, pos := "ref.go:240", after := #[{ on := 4, ground := Ground.data }], guard := none } : Oper)) (v := .int .i64 y) rfl (by kernel_rfl) (by kernel_rfl) (by kernel_rfl) (fun _ _ _ h => h) (Or.inl ⟨by rfl, ?_⟩) hHeld ?_
  · (intro w' hSw; (try dsimp only at hSw); obtain ⟨s0, s1, s2, s3, s4⟩ := HS.out w' hSw; clear hSw; go_simp; (try with_reducible rfl))
  try simp only [Act.put, List.setIfInBounds_toArray, List.set_cons_zero, List.set_cons_succ]
  refine wpAnyH_take (i := 6) (oi := ({ dst := some 129, op := Op.build 23 #[(0, Operand.tmp 125), (1, Operand.tmp 128)], type := 23, pos := "ref.go:240", after := #[{ on := 2, ground := Ground.data }, { on := 5, ground := Ground.data }], guard := none } : Oper)) (v := .agg #[.int .i64 x, .int .i64 y]) rfl (by kernel_rfl) (by kernel_rfl) (by kernel_rfl) (fun _ _ _ h => h) (Or.inl ⟨by rfl, ?_⟩) hHeld ?_
  · (intro w' hSw; (try dsimp only at hSw); obtain ⟨s0, s1, s2, s3, s4⟩ := HS.out w' hSw; clear hSw; go_simp; (try with_reducible rfl))
  try simp only [Act.put, List.setIfInBounds_toArray, List.set_cons_zero, List.set_cons_succ]
  refine wpAnyH_ready (rs := [7]) (by kernel_rfl) (by simp) (AllReadyH.cons (o := ({ dst := some 11, op := Op.alloc 23, type := 0, pos := "ref.go:240", after := #[], guard := none } : Oper)) rfl (fun K9 hK => ?_) AllReadyH.nil)
  go_simp
  have BA : Blk ((w3.alloc (.cells #[.int .i64 0, .int .i64 0] 23)).drew) w3.heap.size 23 #[.int .i64 0, .int .i64 0] := (show Blk (w3.alloc (.cells #[.int .i64 0, .int .i64 0] 23)) w3.heap.size 23 _ from heap_alloc_new w3 _).mod (Gou.Mod.drew (fun _ => False) _) (fun h => h)
  have MA : Gou.Mod (fun _ => False) w3 ((w3.alloc (.cells #[.int .i64 0, .int .i64 0] 23)).drew) := (Gou.Mod.alloc _ _ _).trans' (Gou.Mod.drew _ _)
  clear hHeld
  refine hK _ _ MA (fun hHeld => ?_)
  clear hK K9
  try simp only [Act.put, List.setIfInBounds_toArray, List.set_cons_zero, List.set_cons_succ]
  clear hHeld
  have hA : ∃ wA, wA = ((w3.alloc (.cells #[.int .i64 0, .int .i64 0] 23)).drew) := ⟨_, rfl⟩
  obtain ⟨wA, hA⟩ := hA
  rw [← hA] at MA BA ⊢
  clear hA
  have hHeld := MA
  have ia0 : wA.cell? ⟨w3.heap.size, 0, none⟩ = some (.int .i64 0) := BA.cell 0 rfl
  have ia1 : wA.cell? ⟨w3.heap.size, 1, none⟩ = some (.int .i64 0) := BA.cell 1 rfl
  have ja0 : wA.frozen? ⟨w3.heap.size, 0, none⟩ = false := BA.frozen 0
  have ja1 : wA.frozen? ⟨w3.heap.size, 1, none⟩ = false := BA.frozen 1
  refine wpAnyH_ready (rs := [8]) (by kernel_rfl) (by simp) (AllReadyH.cons (o := ({ dst := none, op := Op.store 23 (Operand.tmp 11) (Operand.tmp 129), type := 0, pos := "ref.go:240", after := #[{ on := 7, ground := Ground.data }, { on := 6, ground := Ground.data }, { on := 0, ground := Ground.phase }, { on := 1, ground := Ground.phase }, { on := 2, ground := Ground.phase }, { on := 3, ground := Ground.phase }, { on := 4, ground := Ground.phase }, { on := 5, ground := Ground.phase }, { on := 6, ground := Ground.phase }, { on := 7, ground := Ground.phase }], guard := none } : Oper)) rfl (fun K9 hK => ?_) AllReadyH.nil)
  go_simp
  have MB := id_box MA BA x y
  clear hHeld ia0 ia1 ja0 ja1
  refine hK _ _ MB.1 (fun hHeld => ?_)
  clear hK K9
  try simp only [Act.put, List.setIfInBounds_toArray, List.set_cons_zero, List.set_cons_succ]
  refine wpAnyH_done (by kernel_rfl) ?_ _
  clear hHeld
  have hA : ∃ w5, w5 = ((wA.setCell ⟨w3.heap.size, 0, none⟩ (.int .i64 x)).setCell ⟨w3.heap.size, 1, none⟩ (.int .i64 y)) := ⟨_, rfl⟩
  obtain ⟨w5, hA⟩ := hA
  rw [← hA] at MB ⊢
  clear hA MA BA
  have hD : w3.heap.size ≠ w.heap.size + 1 := by have := Hl3.out.loc.lt; omega
  have hl5 := Hl3.out.next MB.1
  have Hg5 : Hid (g2 < w5.heap.size) := Lib.hid (Nat.lt_of_lt_of_le Hg3.out MB.1.size)
  obtain ⟨d0, d1, d2, d3, d4⟩ := HS.out w5 MB.1
  have ib0 : w5.cell? ⟨w3.heap.size, 0, none⟩ = some (.int .i64 x) := MB.2.cell 0 rfl
  have ib1 : w5.cell? ⟨w3.heap.size, 1, none⟩ = some (.int .i64 y) := MB.2.cell 1 rfl
  have ck : w5.cell? ⟨w.heap.size + 1, 0, none⟩ = some (.int .i64 3) := hl5.loc.cell 0 rfl
  have cl2 : w5.cell? ⟨w.heap.size + 1, 2, none⟩ = some (.int .i64 0) := hl5.loc.cell 2 rfl
  have fl2 : w5.frozen? ⟨w.heap.size + 1, 2, none⟩ = false := hl5.loc.frozen 2
  have cl3 : w5.cell? ⟨w.heap.size + 1, 3, none⟩ = some (.int .i64 0) := hl5.loc.cell 3 rfl
  have fl3 : w5.frozen? ⟨w.heap.size + 1, 3, none⟩ = false := hl5.loc.frozen 3
  have cl4 : w5.cell? ⟨w.heap.size + 1, 4, none⟩ = some (.int .i64 0) := hl5.loc.cell 4 rfl
  have fl4 : w5.frozen? ⟨w.heap.size + 1, 4, none⟩ = false := hl5.loc.frozen 4
  have cl5 : w5.cell? ⟨w.heap.size + 1, 5, none⟩ = some (.int .i64 0) := hl5.loc.cell 5 rfl
  have fl5 : w5.frozen? ⟨w.heap.size + 1, 5, none⟩ = false := hl5.loc.frozen 5
  have cl6 : w5.cell? ⟨w.heap.size + 1, 6, none⟩ = some (.int .i64 0) := hl5.loc.cell 6 rfl
  have fl6 : w5.frozen? ⟨w.heap.size + 1, 6, none⟩ = false := hl5.loc.frozen 6
  have Hl5 := Lib.hid hl5
  clear hl5 MB HS
  generalize w3.heap.size = D at *
  go_wp2_with fail
  have hg5 := Hg5.out
  have e2 : ((w5.setCell ⟨w.heap.size + 1, 2, none⟩ (.int .i64 x)).setCell ⟨w.heap.size + 1, 3, none⟩ (.int .i64 y)).cell? ⟨g2, 2, none⟩ = some (.int .i64 z) := (((Gou.Mod.setCell w5 ⟨w.heap.size + 1, 2, none⟩ (.int .i64 x)).trans' (Gou.Mod.setCell _ ⟨w.heap.size + 1, 3, none⟩ (.int .i64 y))).cell (p := ⟨g2, 2, none⟩) hg5 (by simp; omega)).trans d2
  have e3 : ((w5.setCell ⟨w.heap.size + 1, 2, none⟩ (.int .i64 x)).setCell ⟨w.heap.size + 1, 3, none⟩ (.int .i64 y)).cell? ⟨g2, 3, none⟩ = some (.int .i64 u) := (((Gou.Mod.setCell w5 ⟨w.heap.size + 1, 2, none⟩ (.int .i64 x)).trans' (Gou.Mod.setCell _ ⟨w.heap.size + 1, 3, none⟩ (.int .i64 y))).cell (p := ⟨g2, 3, none⟩) hg5 (by simp; omega)).trans d3
  have e4 : ((w5.setCell ⟨w.heap.size + 1, 2, none⟩ (.int .i64 x)).setCell ⟨w.heap.size + 1, 3, none⟩ (.int .i64 y)).cell? ⟨g2, 4, none⟩ = some (.int .i64 v) := (((Gou.Mod.setCell w5 ⟨w.heap.size + 1, 2, none⟩ (.int .i64 x)).trans' (Gou.Mod.setCell _ ⟨w.heap.size + 1, 3, none⟩ (.int .i64 y))).cell (p := ⟨g2, 4, none⟩) hg5 (by simp; omega)).trans d4
  have hl6 := Hl5.out.puts 2 [.int .i64 x, .int .i64 y]
  have k0 : ((w5.setCell ⟨w.heap.size + 1, 2, none⟩ (.int .i64 x)).setCell ⟨w.heap.size + 1, 3, none⟩ (.int .i64 y)).cell? ⟨w.heap.size + 1, 0, none⟩ = some (.int .i64 3) := hl6.loc.cell 0 rfl
  have m0 : ((w5.setCell ⟨w.heap.size + 1, 2, none⟩ (.int .i64 x)).setCell ⟨w.heap.size + 1, 3, none⟩ (.int .i64 y)).frozen? ⟨w.heap.size + 1, 0, none⟩ = false := hl6.loc.frozen 0
  have k4 : ((w5.setCell ⟨w.heap.size + 1, 2, none⟩ (.int .i64 x)).setCell ⟨w.heap.size + 1, 3, none⟩ (.int .i64 y)).cell? ⟨w.heap.size + 1, 4, none⟩ = some (.int .i64 0) := hl6.loc.cell 4 rfl
  have m4 : ((w5.setCell ⟨w.heap.size + 1, 2, none⟩ (.int .i64 x)).setCell ⟨w.heap.size + 1, 3, none⟩ (.int .i64 y)).frozen? ⟨w.heap.size + 1, 4, none⟩ = false := hl6.loc.frozen 4
  have k5 : ((w5.setCell ⟨w.heap.size + 1, 2, none⟩ (.int .i64 x)).setCell ⟨w.heap.size + 1, 3, none⟩ (.int .i64 y)).cell? ⟨w.heap.size + 1, 5, none⟩ = some (.int .i64 0) := hl6.loc.cell 5 rfl
  have m5 : ((w5.setCell ⟨w.heap.size + 1, 2, none⟩ (.int .i64 x)).setCell ⟨w.heap.size + 1, 3, none⟩ (.int .i64 y)).frozen? ⟨w.heap.size + 1, 5, none⟩ = false := hl6.loc.frozen 5
  have k6 : ((w5.setCell ⟨w.heap.size + 1, 2, none⟩ (.int .i64 x)).setCell ⟨w.heap.size + 1, 3, none⟩ (.int .i64 y)).cell? ⟨w.heap.size + 1, 6, none⟩ = some (.int .i64 0) := hl6.loc.cell 6 rfl
  have m6 : ((w5.setCell ⟨w.heap.size + 1, 2, none⟩ (.int .i64 x)).setCell ⟨w.heap.size + 1, 3, none⟩ (.int .i64 y)).frozen? ⟨w.heap.size + 1, 6, none⟩ = false := hl6.loc.frozen 6
  have hg6 : g2 < ((w5.setCell ⟨w.heap.size + 1, 2, none⟩ (.int .i64 x)).setCell ⟨w.heap.size + 1, 3, none⟩ (.int .i64 y)).heap.size := by simpa using hg5
  have Hl6 : Hid (RLoc w 41 AcZ _ ((w5.setCell ⟨w.heap.size + 1, 2, none⟩ (.int .i64 x)).setCell ⟨w.heap.size + 1, 3, none⟩ (.int .i64 y))) := Lib.hid hl6
  clear hl6 d0 d1 d2 d3 d4 cl2 cl3 cl4 cl5 cl6 fl2 fl3 fl4 fl5 fl6 ib0 ib1 ck
  generalize ((w5.setCell ⟨w.heap.size + 1, 2, none⟩ (.int .i64 x)).setCell ⟨w.heap.size + 1, 3, none⟩ (.int .i64 y)) = w6 at *
  have HS : Hid (∀ w' : World, Gou.Mod (fun k => k = w.heap.size + 1) w6 w' → w'.cell? ⟨g2, 2, none⟩ = some (.int .i64 z) ∧ w'.cell? ⟨g2, 3, none⟩ = some (.int .i64 u)) := Lib.hid (fun w' hm => ⟨(hm.cell (p := ⟨g2, 2, none⟩) hg6 (fun h => hng h.symm)).trans e2, (hm.cell (p := ⟨g2, 3, none⟩) hg6 (fun h => hng h.symm)).trans e3⟩)
  refine wp_region_held_drew (S := fun w' => Gou.Mod (fun k => k = w.heap.size + 1) w6 w') (by kernel_rfl) (Gou.Mod.drew _ _) (fun hHeld => ?_)
  refine wpAnyH_take (i := 0) (oi := ({ dst := some 147, op := Op.move (Operand.tmp 9), type := 72, pos := "ref.go:248", after := #[], guard := none } : Oper)) (v := .slice (some ⟨g2, 0, none⟩) 5 c) rfl (by kernel_rfl) (by kernel_rfl) (by kernel_rfl) (fun _ _ _ h => h) (Or.inl ⟨by rfl, ?_⟩) hHeld ?_
  · (intro w' hSw; (try dsimp only at hSw); obtain ⟨s2, s3⟩ := HS.out w' hSw; clear hSw; go_simp; (try with_reducible rfl))
  try simp only [Act.put, List.setIfInBounds_toArray, List.set_cons_zero, List.set_cons_succ]
  refine wpAnyH_take (i := 1) (oi := ({ dst := some 148, op := Op.indexAddr 72 (Operand.tmp 147) (Operand.const (Value.int IntKind.i64 2)), type := 0, pos := "ref.go:248", after := #[{ on := 0, ground := Ground.data }], guard := none } : Oper)) (v := .pointer (some ⟨g2, 2, none⟩)) rfl (by kernel_rfl) (by kernel_rfl) (by kernel_rfl) (fun _ _ _ h => h) (Or.inl ⟨by rfl, ?_⟩) hHeld ?_
  · (intro w' hSw; (try dsimp only at hSw); obtain ⟨s2, s3⟩ := HS.out w' hSw; clear hSw; go_simp; (try with_reducible rfl))
  try simp only [Act.put, List.setIfInBounds_toArray, List.set_cons_zero, List.set_cons_succ]
  refine wpAnyH_take (i := 2) (oi := ({ dst := some 149, op := Op.load 3 (Operand.tmp 148), type := 3, pos := "ref.go:248", after := #[{ on := 1, ground := Ground.data }], guard := none } : Oper)) (v := .int .i64 z) rfl (by kernel_rfl) (by kernel_rfl) (by kernel_rfl) (fun _ _ _ h => h) (Or.inl ⟨by rfl, ?_⟩) hHeld ?_
  · (intro w' hSw; (try dsimp only at hSw); obtain ⟨s2, s3⟩ := HS.out w' hSw; clear hSw; go_simp; (try with_reducible rfl))
  try simp only [Act.put, List.setIfInBounds_toArray, List.set_cons_zero, List.set_cons_succ]
  refine wpAnyH_take (i := 3) (oi := ({ dst := some 150, op := Op.move (Operand.tmp 9), type := 72, pos := "ref.go:248", after := #[], guard := none } : Oper)) (v := .slice (some ⟨g2, 0, none⟩) 5 c) rfl (by kernel_rfl) (by kernel_rfl) (by kernel_rfl) (fun _ _ _ h => h) (Or.inl ⟨by rfl, ?_⟩) hHeld ?_
  · (intro w' hSw; (try dsimp only at hSw); obtain ⟨s2, s3⟩ := HS.out w' hSw; clear hSw; go_simp; (try with_reducible rfl))
  try simp only [Act.put, List.setIfInBounds_toArray, List.set_cons_zero, List.set_cons_succ]
  refine wpAnyH_take (i := 4) (oi := ({ dst := some 151, op := Op.indexAddr 72 (Operand.tmp 150) (Operand.const (Value.int IntKind.i64 3)), type := 0, pos := "ref.go:248", after := #[{ on := 3, ground := Ground.data }], guard := none } : Oper)) (v := .pointer (some ⟨g2, 3, none⟩)) rfl (by kernel_rfl) (by kernel_rfl) (by kernel_rfl) (fun _ _ _ h => h) (Or.inl ⟨by rfl, ?_⟩) hHeld ?_
  · (intro w' hSw; (try dsimp only at hSw); obtain ⟨s2, s3⟩ := HS.out w' hSw; clear hSw; go_simp; (try with_reducible rfl))
  try simp only [Act.put, List.setIfInBounds_toArray, List.set_cons_zero, List.set_cons_succ]
  refine wpAnyH_take (i := 5) (oi := ({ dst := some 152, op := Op.load 3 (Operand.tmp 151), type := 3, pos := "ref.go:248", after := #[{ on := 4, ground := Ground.data }], guard := none } : Oper)) (v := .int .i64 u) rfl (by kernel_rfl) (by kernel_rfl) (by kernel_rfl) (fun _ _ _ h => h) (Or.inl ⟨by rfl, ?_⟩) hHeld ?_
  · (intro w' hSw; (try dsimp only at hSw); obtain ⟨s2, s3⟩ := HS.out w' hSw; clear hSw; go_simp; (try with_reducible rfl))
  try simp only [Act.put, List.setIfInBounds_toArray, List.set_cons_zero, List.set_cons_succ]
  refine wpAnyH_take (i := 6) (oi := ({ dst := some 153, op := Op.build 23 #[(0, Operand.tmp 149), (1, Operand.tmp 152)], type := 23, pos := "ref.go:248", after := #[{ on := 2, ground := Ground.data }, { on := 5, ground := Ground.data }], guard := none } : Oper)) (v := .agg #[.int .i64 z, .int .i64 u]) rfl (by kernel_rfl) (by kernel_rfl) (by kernel_rfl) (fun _ _ _ h => h) (Or.inl ⟨by rfl, ?_⟩) hHeld ?_
  · (intro w' hSw; (try dsimp only at hSw); obtain ⟨s2, s3⟩ := HS.out w' hSw; clear hSw; go_simp; (try with_reducible rfl))
  try simp only [Act.put, List.setIfInBounds_toArray, List.set_cons_zero, List.set_cons_succ]
  refine wpAnyH_take (i := 7) (oi := ({ dst := some 154, op := Op.fieldAddr 41 (Operand.tmp 7) 1, type := 0, pos := "ref.go:248", after := #[{ on := 0, ground := Ground.phase }, { on := 1, ground := Ground.phase }, { on := 2, ground := Ground.phase }, { on := 3, ground := Ground.phase }, { on := 4, ground := Ground.phase }, { on := 5, ground := Ground.phase }, { on := 6, ground := Ground.phase }], guard := none } : Oper)) (v := .pointer (some ⟨w.heap.size + 1, 1, none⟩)) rfl (by kernel_rfl) (by kernel_rfl) (by kernel_rfl) (fun _ _ _ h => h) (Or.inl ⟨by rfl, ?_⟩) hHeld ?_
  · (intro w' hSw; (try dsimp only at hSw); obtain ⟨s2, s3⟩ := HS.out w' hSw; clear hSw; go_simp; (try with_reducible rfl))
  try simp only [Act.put, List.setIfInBounds_toArray, List.set_cons_zero, List.set_cons_succ]
  refine wpAnyH_take (i := 8) (oi := ({ dst := some 155, op := Op.fieldAddr 37 (Operand.tmp 154) 2, type := 0, pos := "ref.go:248", after := #[{ on := 7, ground := Ground.data }, { on := 0, ground := Ground.phase }, { on := 1, ground := Ground.phase }, { on := 2, ground := Ground.phase }, { on := 3, ground := Ground.phase }, { on := 4, ground := Ground.phase }, { on := 5, ground := Ground.phase }, { on := 6, ground := Ground.phase }], guard := none } : Oper)) (v := .pointer (some ⟨w.heap.size + 1, 4, none⟩)) rfl (by kernel_rfl) (by kernel_rfl) (by kernel_rfl) (fun _ _ _ h => h) (Or.inl ⟨by rfl, ?_⟩) hHeld ?_
  · (intro w' hSw; (try dsimp only at hSw); obtain ⟨s2, s3⟩ := HS.out w' hSw; clear hSw; go_simp; (try with_reducible rfl))
  try simp only [Act.put, List.setIfInBounds_toArray, List.set_cons_zero, List.set_cons_succ]
  refine wpAnyH_ready (rs := [9]) (by kernel_rfl) (by simp) (AllReadyH.cons (o := ({ dst := none, op := Op.store 23 (Operand.tmp 155) (Operand.tmp 153), type := 0, pos := "ref.go:248", after := #[{ on := 8, ground := Ground.data }, { on := 6, ground := Ground.data }, { on := 0, ground := Ground.phase }, { on := 1, ground := Ground.phase }, { on := 2, ground := Ground.phase }, { on := 3, ground := Ground.phase }, { on := 4, ground := Ground.phase }, { on := 5, ground := Ground.phase }, { on := 6, ground := Ground.phase }], guard := none } : Oper)) rfl (fun K9 hK => ?_) AllReadyH.nil)
  go_simp
  refine hK _ _ ((Gou.Mod.setCell w6 ⟨w.heap.size + 1, 4, none⟩ (.int .i64 z)).trans' ((Gou.Mod.setCell _ ⟨w.heap.size + 1, 5, none⟩ (.int .i64 u)).trans' (Gou.Mod.drew _ _))) (fun hHeld => ?_)
  clear hK K9
  try simp only [Act.put, List.setIfInBounds_toArray, List.set_cons_zero, List.set_cons_succ]
  refine wpAnyH_done (by kernel_rfl) ?_ _
  clear hHeld
  have hl7 : RLoc w 41 AcZ _ (((w6.setCell ⟨w.heap.size + 1, 4, none⟩ (.int .i64 z)).setCell ⟨w.heap.size + 1, 5, none⟩ (.int .i64 u)).drew) := (Hl6.out.puts 4 [.int .i64 z, .int .i64 u]).next (Gou.Mod.drew _ _)
  have d4 : (((w6.setCell ⟨w.heap.size + 1, 4, none⟩ (.int .i64 z)).setCell ⟨w.heap.size + 1, 5, none⟩ (.int .i64 u)).drew).cell? ⟨g2, 4, none⟩ = some (.int .i64 v) := (((Gou.Mod.setCell w6 ⟨w.heap.size + 1, 4, none⟩ (.int .i64 z)).trans' ((Gou.Mod.setCell _ ⟨w.heap.size + 1, 5, none⟩ (.int .i64 u)).trans' (Gou.Mod.drew _ _))).cell (p := ⟨g2, 4, none⟩) hg6 (by simp; omega)).trans e4
  have ck : (((w6.setCell ⟨w.heap.size + 1, 4, none⟩ (.int .i64 z)).setCell ⟨w.heap.size + 1, 5, none⟩ (.int .i64 u)).drew).cell? ⟨w.heap.size + 1, 0, none⟩ = some (.int .i64 3) := hl7.loc.cell 0 rfl
  have cl6 : (((w6.setCell ⟨w.heap.size + 1, 4, none⟩ (.int .i64 z)).setCell ⟨w.heap.size + 1, 5, none⟩ (.int .i64 u)).drew).cell? ⟨w.heap.size + 1, 6, none⟩ = some (.int .i64 0) := hl7.loc.cell 6 rfl
  have fl6 : (((w6.setCell ⟨w.heap.size + 1, 4, none⟩ (.int .i64 z)).setCell ⟨w.heap.size + 1, 5, none⟩ (.int .i64 u)).drew).frozen? ⟨w.heap.size + 1, 6, none⟩ = false := hl7.loc.frozen 6
  clear e2 e3 e4 k0 k4 k5 k6 m0 m4 m5 m6
  have hA : ∃ w9, w9 = (((w6.setCell ⟨w.heap.size + 1, 4, none⟩ (.int .i64 z)).setCell ⟨w.heap.size + 1, 5, none⟩ (.int .i64 u)).drew) := ⟨_, rfl⟩
  obtain ⟨w9, hA⟩ := hA
  rw [← hA] at hl7 d4 ck cl6 fl6 ⊢
  clear hA
  have Hl7 := Lib.hid hl7
  clear hl7
  go_wp2_with fail
  have HlA : Hid (RLoc w 41 AcZ (actC ⟨3, ⟨3, (x, y), (z, u), v, Lk.zero⟩, 0, 0, Cf.zero⟩ (.slice none 0 0) (.slice none 0 0) (.slice none 0 0)) (w9.setCell ⟨w.heap.size + 1, 6, none⟩ (.int .i64 v))) := Lib.hid (Hl7.out.put 6 (.int .i64 v))
  clear d4 ck cl6 fl6
  have hA : ∃ wB, wB = (w9.setCell ⟨w.heap.size + 1, 6, none⟩ (.int .i64 v)) := ⟨_, rfl⟩
  obtain ⟨wB, hA⟩ := hA
  rw [← hA] at HlA ⊢
  clear hA
  have Hact : Hid (actAt bs n = (lookAt bs q 3).bind fun l => some (⟨3, ⟨3, (x, y), (z, u), v, l.1⟩, 0, 0, Cf.zero⟩, l.2)) := Lib.hid (by
    rw [act_opr hlt Hbk.out (by omega) (by omega)]
    refine (congrArg (Option.bind · _) (opr3 Ht.out)).trans ?_
    cases lookAt bs q 3 <;> rfl)
  refine (lookR_low wB (some ⟨b, o, none⟩) cb bs (H.out.mod HlA.out.mod (fun _ _ _ h => h)) Hby.out hl q hq 3 (by omega)).mono ?_
  rintro e w7 ⟨hm7, hp⟩
  have Hl7 := Lib.hid (HlA.out.next hm7)
  clear hm7
  rcases ht : lookAt bs q 3 with _ | ⟨l, q2⟩
  · rw [ht] at hp
    obtain ⟨l, p1, n1, k1, p2, n2, k2, p3, n3, k3, rfl⟩ := hp
    have Hno : Hid (actAt bs n = none) := Lib.hid (by rw [Hact.out, ht]; rfl)
    clear ht
    have Hbx := Lib.hid (box_put w7 35 LkZ (lookC l (.slice p1 n1 k1) (.slice p2 n2 k2) (.slice p3 n3 k3)) rfl)
    have Hlb := Lib.hid (Hl7.out.next Hbx.out.1)
    have Htl := Lib.hid (Hlb.out.loc.there 7 28 (by simp [actC]))
    have hl8 := Hlb.out.puts 7 (lookC l (.slice p1 n1 k1) (.slice p2 n2 k2) (.slice p3 n3 k3)).toList
    rw [setMany_actl] at hl8
    have Hl8 := Lib.hid hl8
    clear hl8
    have HB : Hid (Blk _ (w.heap.size + 1) 41 (actC ⟨3, ⟨3, (x, y), (z, u), v, l⟩, 0, 0, Cf.zero⟩ (.slice p1 n1 k1) (.slice p2 n2 k2) (.slice p3 n3 k3))) := Lib.hid Hl8.out.loc
    have Hth := Lib.hid (Hl8.out.res.there 0 42 (by simp))
    go_wp2_with (first | ((with_reducible refine wpList_store_mid ?g5_14 35 ?x5_14 ?y5_14 ?o5_14 w7.heap.size 0 (lookC l (.slice p1 n1 k1) (.slice p2 n2 k2) (.slice p3 n3 k3)) ?h5_14 ?j5_14 ?t5_14 ?i5_14 ?s5_14 ?r5_14); (case g5_14 => exact rfl); (case o5_14 => exact rfl); (case h5_14 => exact rfl); (case j5_14 => exact rfl); (case t5_14 => exact Hbx.out.2.2); (case i5_14 => exact size_look); (case s5_14 => exact lookC_one _ _ _ _ _ _ _ _ _ _)) | ((with_reducible refine wpList_load_row ?g5_15 35 ?x5_15 ?o5_15 w7.heap.size ?h5_15 ?t5_15 ?c5_15 ?f5_15 ?d5_15 ?b5_15 ?u5_15 ?s5_15 ?i5_15 ?r5_15); (case g5_15 => exact rfl); (case o5_15 => exact rfl); (case h5_15 => exact rfl); (case b5_15 => exact Hbx.out.2.1); (case u5_15 => exact Try.underlying35); (case s5_15 => exact rfl); (case i5_15 => exact size_look)) | ((with_reducible refine wpList_store_mid ?g5_16 35 ?x5_16 ?y5_16 ?o5_16 (w.heap.size + 1) 7 (lookC l (.slice p1 n1 k1) (.slice p2 n2 k2) (.slice p3 n3 k3)) ?h5_16 ?j5_16 ?t5_16 ?i5_16 ?s5_16 ?r5_16); (case g5_16 => exact rfl); (case o5_16 => exact rfl); (case h5_16 => exact rfl); (case j5_16 => exact rfl); (case t5_16 => exact Htl.out); (case i5_16 => exact size_look); (case s5_16 => exact lookC_one _ _ _ _ _ _ _ _ _ _)) | ((with_reducible refine wpList_load_row ?g1_17 41 ?x1_17 ?o1_17 (w.heap.size + 1) ?h1_17 ?t1_17 ?c1_17 ?f1_17 ?d1_17 ?b1_17 ?u1_17 ?s1_17 ?i1_17 ?r1_17); (case g1_17 => exact rfl); (case o1_17 => exact rfl); (case h1_17 => exact rfl); (case b1_17 => exact HB.out); (case u1_17 => exact Try.underlying41); (case s1_17 => exact rfl); (case i1_17 => exact size_act)) | ((with_reducible refine wpList_store_mid ?g2_17 41 ?x2_17 ?y2_17 ?o2_17 w.heap.size 0 (actC ⟨3, ⟨3, (x, y), (z, u), v, l⟩, 0, 0, Cf.zero⟩ (.slice p1 n1 k1) (.slice p2 n2 k2) (.slice p3 n3 k3)) ?h2_17 ?j2_17 ?t2_17 ?i2_17 ?s2_17 ?r2_17); (case g2_17 => exact rfl); (case o2_17 => exact rfl); (case h2_17 => exact rfl); (case j2_17 => exact rfl); (case t2_17 => exact Hth.out); (case i2_17 => exact size_act); (case s2_17 => exact actC_one _ _ _ _ _ _ _ _ _ _)) | fail)
    have hd := RLoc.done (cs := actC ⟨3, ⟨3, (x, y), (z, u), v, l⟩, 0, 0, Cf.zero⟩ (.slice p1 n1 k1) (.slice p2 n2 k2) (.slice p3 n3 k3)) Hl8.out rfl
    refine bodyPost_ret (v := .tuple #[.agg (actC ⟨3, ⟨3, (x, y), (z, u), v, l⟩, 0, 0, Cf.zero⟩ (.slice p1 n1 k1) (.slice p2 n2 k2) (.slice p3 n3 k3)), .int .i64 0, .bool false]) (results_one _ _ w.heap.size (actC ⟨3, ⟨3, (x, y), (z, u), v, l⟩, 0, 0, Cf.zero⟩ (.slice p1 n1 k1) (.slice p2 n2 k2) (.slice p3 n3 k3)) rfl _ _ rfl rfl rfl hd.2.1) rfl ?_
    exact on_fail Hno.out hd.1 _ _ _ _ _ _ _ _ _ _
  rw [ht] at hp
  obtain ⟨p1, n1, k1, p2, n2, k2, p3, n3, k3, rfl, hr⟩ := hp
  have Hres : Hid (actAt bs n = some (⟨3, ⟨3, (x, y), (z, u), v, l⟩, 0, 0, Cf.zero⟩, q2)) := Lib.hid (by rw [Hact.out, ht]; rfl)
  have Hr := Lib.hid hr
  have Hs0 : Hid (w.heap.size + 1 < wB.heap.size) := Lib.hid HlA.out.loc.lt
  clear ht hr
  have Hbx := Lib.hid (box_put w7 35 LkZ (lookC l (.slice p1 n1 k1) (.slice p2 n2 k2) (.slice p3 n3 k3)) rfl)
  have Hlb := Lib.hid (Hl7.out.next Hbx.out.1)
  have Htl := Lib.hid (Hlb.out.loc.there 7 28 (by simp [actC]))
  have hl8 := Hlb.out.puts 7 (lookC l (.slice p1 n1 k1) (.slice p2 n2 k2) (.slice p3 n3 k3)).toList
  rw [setMany_actl] at hl8
  have Hl8 := Lib.hid hl8
  clear hl8
  have HB : Hid (Blk _ (w.heap.size + 1) 41 (actC ⟨3, ⟨3, (x, y), (z, u), v, l⟩, 0, 0, Cf.zero⟩ (.slice p1 n1 k1) (.slice p2 n2 k2) (.slice p3 n3 k3))) := Lib.hid Hl8.out.loc
  have Hth := Lib.hid (Hl8.out.res.there 0 42 (by simp))
  go_wp2_with (first | ((with_reducible refine wpList_store_mid ?g5_18 35 ?x5_18 ?y5_18 ?o5_18 w7.heap.size 0 (lookC l (.slice p1 n1 k1) (.slice p2 n2 k2) (.slice p3 n3 k3)) ?h5_18 ?j5_18 ?t5_18 ?i5_18 ?s5_18 ?r5_18); (case g5_18 => exact rfl); (case o5_18 => exact rfl); (case h5_18 => exact rfl); (case j5_18 => exact rfl); (case t5_18 => exact Hbx.out.2.2); (case i5_18 => exact size_look); (case s5_18 => exact lookC_one _ _ _ _ _ _ _ _ _ _)) | ((with_reducible refine wpList_load_row ?g5_19 35 ?x5_19 ?o5_19 w7.heap.size ?h5_19 ?t5_19 ?c5_19 ?f5_19 ?d5_19 ?b5_19 ?u5_19 ?s5_19 ?i5_19 ?r5_19); (case g5_19 => exact rfl); (case o5_19 => exact rfl); (case h5_19 => exact rfl); (case b5_19 => exact Hbx.out.2.1); (case u5_19 => exact Try.underlying35); (case s5_19 => exact rfl); (case i5_19 => exact size_look)) | ((with_reducible refine wpList_store_mid ?g5_20 35 ?x5_20 ?y5_20 ?o5_20 (w.heap.size + 1) 7 (lookC l (.slice p1 n1 k1) (.slice p2 n2 k2) (.slice p3 n3 k3)) ?h5_20 ?j5_20 ?t5_20 ?i5_20 ?s5_20 ?r5_20); (case g5_20 => exact rfl); (case o5_20 => exact rfl); (case h5_20 => exact rfl); (case j5_20 => exact rfl); (case t5_20 => exact Htl.out); (case i5_20 => exact size_look); (case s5_20 => exact lookC_one _ _ _ _ _ _ _ _ _ _)) | ((with_reducible refine wpList_load_row ?g1_21 41 ?x1_21 ?o1_21 (w.heap.size + 1) ?h1_21 ?t1_21 ?c1_21 ?f1_21 ?d1_21 ?b1_21 ?u1_21 ?s1_21 ?i1_21 ?r1_21); (case g1_21 => exact rfl); (case o1_21 => exact rfl); (case h1_21 => exact rfl); (case b1_21 => exact HB.out); (case u1_21 => exact Try.underlying41); (case s1_21 => exact rfl); (case i1_21 => exact size_act)) | ((with_reducible refine wpList_store_mid ?g2_21 41 ?x2_21 ?y2_21 ?o2_21 w.heap.size 0 (actC ⟨3, ⟨3, (x, y), (z, u), v, l⟩, 0, 0, Cf.zero⟩ (.slice p1 n1 k1) (.slice p2 n2 k2) (.slice p3 n3 k3)) ?h2_21 ?j2_21 ?t2_21 ?i2_21 ?s2_21 ?r2_21); (case g2_21 => exact rfl); (case o2_21 => exact rfl); (case h2_21 => exact rfl); (case j2_21 => exact rfl); (case t2_21 => exact Hth.out); (case i2_21 => exact size_act); (case s2_21 => exact actC_one _ _ _ _ _ _ _ _ _ _)) | fail)
  have hd := RLoc.done (cs := actC ⟨3, ⟨3, (x, y), (z, u), v, l⟩, 0, 0, Cf.zero⟩ (.slice p1 n1 k1) (.slice p2 n2 k2) (.slice p3 n3 k3)) Hl8.out rfl
  refine bodyPost_ret (v := .tuple #[.agg (actC ⟨3, ⟨3, (x, y), (z, u), v, l⟩, 0, 0, Cf.zero⟩ (.slice p1 n1 k1) (.slice p2 n2 k2) (.slice p3 n3 k3)), .int .i64 q2, .bool true]) (results_one _ _ w.heap.size (actC ⟨3, ⟨3, (x, y), (z, u), v, l⟩, 0, 0, Cf.zero⟩ (.slice p1 n1 k1) (.slice p2 n2 k2) (.slice p3 n3 k3)) rfl _ _ rfl rfl rfl hd.2.1) rfl ?_
  exact on_done Hres.out hd.1 (LookR.far (Hr.out.mod Hbx.out.1 (fun _ _ _ h => h)) (Mod.two hd.2.2) (by have := Hs0.out; omega) (by have := Hs0.out; omega) (by have := Hs0.out; omega))

set_option maxHeartbeats 4000000 in
theorem oneR_4 (w : World) (pb : Option Addr) (cb : Nat) (bs : List Nat) (h : BytesAt (fun _ => True) w (.slice pb bs.length cb) bs) (hby : ∀ x ∈ bs, x < 256) (hl : bs.length ≤ 10000000) (n : Nat) (hn : n ≤ bs.length) (hlt : n < bs.length) (hbk : bs[n] = 4) :
    Calls Try.prog 27 #[.slice pb bs.length cb, .int .i64 n] w (OnP w bs n) := by
  have H := Lib.hid h
  have Hby := Lib.hid hby
  clear h hby
  have t0 : decide ((bs.length : Int) ≤ (n : Int)) = false := decide_eq_false (by omega)
  have t0' : decide (bs.length ≤ n) = false := decide_eq_false (by omega)
  obtain ⟨-, b, o, rfl, hb, -, hc⟩ := H.out.celz (by omega)
  have Hcw : Hid (w.cell? ⟨b, o + n, none⟩ = some (.int .u8 4)) := Lib.hid (by
    have := hc n hlt
    rw [hbk] at this
    exact this)
  have hni : (n : Int) < (bs.length : Int) := by omega
  have Hb := Lib.hid hb
  clear hc hb
  have Hbk := Lib.hid hbk
  clear hbk
  go_enter Try.func27, Try.ntmps27
  go_wp2_with (first | ((with_reducible refine wpList_buildTo ?g7 41 ?p7 ?o7 ?d7 ?e7 (AcZ) ?f7 ?r7); (case g7 => exact rfl); (case o7 => exact rfl); (case e7 => exact rfl); (case f7 => kernel_rfl)) | ((with_reducible refine wpList_store_mid ?g8 41 ?x8 ?y8 ?o8 (w.heap.size + 1) 0 (AcZ) ?h8 ?j8 ?t8 ?i8 ?s8 ?r8); (case g8 => exact rfl); (case o8 => exact rfl); (case h8 => exact rfl); (case j8 => exact rfl); (case t8 => exact there_act w); (case i8 => exact size_act); (case s8 => exact oneR_act); (have Hl0 := Lib.hid (start_act w)); (generalize ((w.alloc (.cells AcZ 41)).alloc (.cells AcZ 41)).setCells (w.heap.size + 1) 0 (AcZ).toList = w0 at *); (have hcell : w0.cell? ⟨b, o + n, none⟩ = some (.int .u8 4) := (Hl0.out.mod.cell (p := ⟨b, o + n, none⟩) Hb.out (fun h => h)).trans Hcw.out); (have cl0 : w0.cell? ⟨w.heap.size + 1, 0, none⟩ = some (.int .i64 0) := Hl0.out.loc.cell 0 rfl); (have fl0 : w0.frozen? ⟨w.heap.size + 1, 0, none⟩ = false := Hl0.out.loc.frozen 0); (have hsz : w.heap.size + 1 < w0.heap.size := Hl0.out.loc.lt); (have hne : w.heap.size + 1 ≠ w0.heap.size := Nat.ne_of_lt hsz)) | fail)
  have Hl1 : Hid (RLoc w 41 AcZ (actC ⟨4, Opr.zero, 0, 0, Cf.zero⟩ (.slice none 0 0) (.slice none 0 0) (.slice none 0 0)) ((w0.setCell ⟨w.heap.size + 1, 0, none⟩ (.int .i64 4)).alloc (.cells #[.int .i64 0, .int .i64 3, .int .i64 2, .int .i64 5, .int .i64 3, .int .i64 2, .int .i64 2, .int .i64 2, .int .i64 2, .int .i64 2, .int .i64 2, .int .i64 2, .int .i64 2, .int .i64 2] 95))) := Lib.hid ((Hl0.out.put 0 (.int .i64 4)).next (Gou.Mod.alloc _ _ _))
  generalize hW1 : ((w0.setCell ⟨w.heap.size + 1, 0, none⟩ (.int .i64 4)).alloc (.cells #[.int .i64 0, .int .i64 3, .int .i64 2, .int .i64 5, .int .i64 3, .int .i64 2, .int .i64 2, .int .i64 2, .int .i64 2, .int .i64 2, .int .i64 2, .int .i64 2, .int .i64 2, .int .i64 2] 95)) = w1 at *
  clear hW1 hcell cl0 fl0 hsz hne
  rw [show (n : Int) + 1 = ((n + 1 : Nat) : Int) from by push_cast; rfl]
  refine (numbersR_any w1 (some ⟨b, o, none⟩) cb bs (H.out.mod Hl1.out.mod (fun _ _ _ h => h)) Hby.out hl (n + 1) 3 (by omega) (by omega)).mono ?_
  rintro e w2 ⟨hm2, hp⟩
  have Hl2 := Lib.hid (Hl1.out.next hm2)
  clear hm2
  have ck : w2.cell? ⟨w.heap.size + 1, 0, none⟩ = some (.int .i64 4) := Hl2.out.loc.cell 0 rfl
  rcases ht : timesAt (numAt bs) (n + 1) 3 with _ | ⟨xs, q⟩
  · rw [ht] at hp
    subst hp
    have Hno : Hid (actAt bs n = none) := Lib.hid (by rw [act_opr hlt Hbk.out (by omega) (by omega)]; exact congrArg (Option.bind · _) (opr4_none ht))
    clear ht
    have HB : Hid (Blk _ (w.heap.size + 1) 41 (actC ⟨4, Opr.zero, 0, 0, Cf.zero⟩ (.slice none 0 0) (.slice none 0 0) (.slice none 0 0))) := Lib.hid Hl2.out.loc
    have Hth := Lib.hid (Hl2.out.res.there 0 42 (by simp))
    go_wp2_with (first | ((with_reducible refine wpList_load_row ?g1_22 41 ?x1_22 ?o1_22 (w.heap.size + 1) ?h1_22 ?t1_22 ?c1_22 ?f1_22 ?d1_22 ?b1_22 ?u1_22 ?s1_22 ?i1_22 ?r1_22); (case g1_22 => exact rfl); (case o1_22 => exact rfl); (case h1_22 => exact rfl); (case b1_22 => exact HB.out); (case u1_22 => exact Try.underlying41); (case s1_22 => exact rfl); (case i1_22 => exact size_act)) | ((with_reducible refine wpList_store_mid ?g2_22 41 ?x2_22 ?y2_22 ?o2_22 w.heap.size 0 (actC ⟨4, Opr.zero, 0, 0, Cf.zero⟩ (.slice none 0 0) (.slice none 0 0) (.slice none 0 0)) ?h2_22 ?j2_22 ?t2_22 ?i2_22 ?s2_22 ?r2_22); (case g2_22 => exact rfl); (case o2_22 => exact rfl); (case h2_22 => exact rfl); (case j2_22 => exact rfl); (case t2_22 => exact Hth.out); (case i2_22 => exact size_act); (case s2_22 => exact actC_one _ _ _ _ _ _ _ _ _ _)) | fail)
    have hd := RLoc.done (cs := actC ⟨4, Opr.zero, 0, 0, Cf.zero⟩ (.slice none 0 0) (.slice none 0 0) (.slice none 0 0)) Hl2.out rfl
    refine bodyPost_ret (v := .tuple #[.agg (actC ⟨4, Opr.zero, 0, 0, Cf.zero⟩ (.slice none 0 0) (.slice none 0 0) (.slice none 0 0)), .int .i64 0, .bool false]) (results_one _ _ w.heap.size (actC ⟨4, Opr.zero, 0, 0, Cf.zero⟩ (.slice none 0 0) (.slice none 0 0) (.slice none 0 0)) rfl _ _ rfl rfl rfl hd.2.1) rfl ?_
    exact on_fail Hno.out hd.1 _ _ _ _ _ _ _ _ _ _
  rw [ht] at hp
  obtain ⟨p, c, rfl, hown, hxl⟩ := hp
  obtain ⟨x, y, z, rfl⟩ := times_three ht
  obtain ⟨g2, rfl, hg0, hg1, hc⟩ := own_ints hown (by omega)
  have hq : q ≤ bs.length := (times_spec (num_spec Hby.out) 3).end_le ht (by omega)
  have hng : w.heap.size + 1 ≠ g2 := by have := Hl1.out.loc.lt; omega
  have c0 : w2.cell? ⟨g2, 0, none⟩ = some (.int .i64 x) := hc 0 (by simp)
  have c1 : w2.cell? ⟨g2, 1, none⟩ = some (.int .i64 y) := hc 1 (by simp)
  have c2 : w2.cell? ⟨g2, 2, none⟩ = some (.int .i64 z) := hc 2 (by simp)
  have Ht := Lib.hid ht
  clear hc hown hxl hg0 ht
  have cl1 : w2.cell? ⟨w.heap.size + 1, 1, none⟩ = some (.int .i64 0) := Hl2.out.loc.cell 1 rfl
  have fl1 : w2.frozen? ⟨w.heap.size + 1, 1, none⟩ = false := Hl2.out.loc.frozen 1
  go_wp2_with fail
  have Hl3 := Lib.hid (Hl2.out.put 1 (.int .i64 4))
  have d0 : (w2.setCell ⟨w.heap.size + 1, 1, none⟩ (.int .i64 4)).cell? ⟨g2, 0, none⟩ = some (.int .i64 x) := ((Gou.Mod.setCell _ ⟨w.heap.size + 1, 1, none⟩ _).cell (p := ⟨g2, 0, none⟩) hg1 (by simp; omega)).trans c0
  have d1 : (w2.setCell ⟨w.heap.size + 1, 1, none⟩ (.int .i64 4)).cell? ⟨g2, 1, none⟩ = some (.int .i64 y) := ((Gou.Mod.setCell _ ⟨w.heap.size + 1, 1, none⟩ _).cell (p := ⟨g2, 1, none⟩) hg1 (by simp; omega)).trans c1
  have d2 : (w2.setCell ⟨w.heap.size + 1, 1, none⟩ (.int .i64 4)).cell? ⟨g2, 2, none⟩ = some (.int .i64 z) := ((Gou.Mod.setCell _ ⟨w.heap.size + 1, 1, none⟩ _).cell (p := ⟨g2, 2, none⟩) hg1 (by simp; omega)).trans c2
  have hg3 : g2 < (w2.setCell ⟨w.heap.size + 1, 1, none⟩ (.int .i64 4)).heap.size := by simpa using hg1
  generalize (w2.setCell ⟨w.heap.size + 1, 1, none⟩ (.int .i64 4)) = w3 at *
  clear c0 c1 c2 ck cl1 fl1 hg1
  have HS : Hid (∀ w' : World, Gou.Mod (fun _ => False) w3 w' → w'.cell? ⟨g2, 0, none⟩ = some (.int .i64 x) ∧ w'.cell? ⟨g2, 1, none⟩ = some (.int .i64 y) ∧ w'.cell? ⟨g2, 2, none⟩ = some (.int .i64 z)) := Lib.hid (fun w' hm => ⟨(hm.cell (p := ⟨g2, 0, none⟩) hg3 (fun h => h)).trans d0, (hm.cell (p := ⟨g2, 1, none⟩) hg3 (fun h => h)).trans d1, (hm.cell (p := ⟨g2, 2, none⟩) hg3 (fun h => h)).trans d2⟩)
  clear d0 d1 d2
  have Hg3 := Lib.hid hg3
  clear hg3
  refine wp_region_held_drew (S := fun w' => Gou.Mod (fun _ => False) w3 w') (by kernel_rfl) (Gou.Mod.drew _ _) (fun hHeld => ?_)
  refine wpAnyH_take (i := 0) (oi := ({ dst := some 123, op := Op.move (Operand.tmp 9), type := 72, pos := "ref.go:240", after := #[], guard := none } : Oper)) (v := .slice (some ⟨g2, 0, none⟩) 3 c) rfl (by kernel_rfl) (by kernel_rfl) (by kernel_rfl) (fun _ _ _ h => h) (Or.inl ⟨by rfl, ?_⟩) hHeld ?_
  · (intro w' hSw; (try dsimp only at hSw); obtain ⟨s0, s1, s2⟩ := HS.out w' hSw; clear hSw; go_simp; (try with_reducible rfl))
  try simp only [Act.put, List.setIfInBounds_toArray, List.set_cons_zero, List.set_cons_succ]
  refine wpAnyH_take (i := 1) (oi := ({ dst := some 124, op := Op.indexAddr 72 (Operand.tmp 123) (Operand.const (Value.int IntKind.i64 0)), type := 0, pos := "ref.go:240", after := #[{ on := 0, ground := Ground.data }], guard := none } : Oper)) (v := .pointer (some ⟨g2, 0, none⟩)) rfl (by kernel_rfl) (by kernel_rfl) (by kernel_rfl) (fun _ _ _ h => h) (Or.inl ⟨by rfl, ?_⟩) hHeld ?_
  · (intro w' hSw; (try dsimp only at hSw); obtain ⟨s0, s1, s2⟩ := HS.out w' hSw; clear hSw; go_simp; (try with_reducible rfl))
  try simp only [Act.put, List.setIfInBounds_toArray, List.set_cons_zero, List.set_cons_succ]
  refine wpAnyH_take (i := 2) (oi := ({ dst := some 125, op := Op.load 3 (Operand.tmp 124), type := 3, pos := "ref.go:240", after := #[{ on := 1, ground := Ground.data }], guard := none } : Oper)) (v := .int .i64 x) rfl (by kernel_rfl) (by kernel_rfl) (by kernel_rfl) (fun _ _ _ h => h) (Or.inl ⟨by rfl, ?_⟩) hHeld ?_
  · (intro w' hSw; (try dsimp only at hSw); obtain ⟨s0, s1, s2⟩ := HS.out w' hSw; clear hSw; go_simp; (try with_reducible rfl))
  try simp only [Act.put, List.setIfInBounds_toArray, List.set_cons_zero, List.set_cons_succ]
  refine wpAnyH_take (i := 3) (oi := ({ dst := some 126, op := Op.move (Operand.tmp 9), type := 72, pos := "ref.go:240", after := #[], guard := none } : Oper)) (v := .slice (some ⟨g2, 0, none⟩) 3 c) rfl (by kernel_rfl) (by kernel_rfl) (by kernel_rfl) (fun _ _ _ h => h) (Or.inl ⟨by rfl, ?_⟩) hHeld ?_
  · (intro w' hSw; (try dsimp only at hSw); obtain ⟨s0, s1, s2⟩ := HS.out w' hSw; clear hSw; go_simp; (try with_reducible rfl))
  try simp only [Act.put, List.setIfInBounds_toArray, List.set_cons_zero, List.set_cons_succ]
  refine wpAnyH_take (i := 4) (oi := ({ dst := some 127, op := Op.indexAddr 72 (Operand.tmp 126) (Operand.const (Value.int IntKind.i64 1)), type := 0, pos := "ref.go:240", after := #[{ on := 3, ground := Ground.data }], guard := none } : Oper)) (v := .pointer (some ⟨g2, 1, none⟩)) rfl (by kernel_rfl) (by kernel_rfl) (by kernel_rfl) (fun _ _ _ h => h) (Or.inl ⟨by rfl, ?_⟩) hHeld ?_
  · (intro w' hSw; (try dsimp only at hSw); obtain ⟨s0, s1, s2⟩ := HS.out w' hSw; clear hSw; go_simp; (try with_reducible rfl))
  try simp only [Act.put, List.setIfInBounds_toArray, List.set_cons_zero, List.set_cons_succ]
  refine wpAnyH_take (i := 5) (oi := ({ dst := some 128, op := Op.load 3 (Operand.tmp 127), type := 3, pos := "ref.go:240", after := #[{ on := 4, ground := Ground.data }], guard := none } : Oper)) (v := .int .i64 y) rfl (by kernel_rfl) (by kernel_rfl) (by kernel_rfl) (fun _ _ _ h => h) (Or.inl ⟨by rfl, ?_⟩) hHeld ?_
  · (intro w' hSw; (try dsimp only at hSw); obtain ⟨s0, s1, s2⟩ := HS.out w' hSw; clear hSw; go_simp; (try with_reducible rfl))
  try simp only [Act.put, List.setIfInBounds_toArray, List.set_cons_zero, List.set_cons_succ]
  refine wpAnyH_take (i := 6) (oi := ({ dst := some 129, op := Op.build 23 #[(0, Operand.tmp 125), (1, Operand.tmp 128)], type := 23, pos := "ref.go:240", after := #[{ on := 2, ground := Ground.data }, { on := 5, ground := Ground.data }], guard := none } : Oper)) (v := .agg #[.int .i64 x, .int .i64 y]) rfl (by kernel_rfl) (by kernel_rfl) (by kernel_rfl) (fun _ _ _ h => h) (Or.inl ⟨by rfl, ?_⟩) hHeld ?_
  · (intro w' hSw; (try dsimp only at hSw); obtain ⟨s0, s1, s2⟩ := HS.out w' hSw; clear hSw; go_simp; (try with_reducible rfl))
  try simp only [Act.put, List.setIfInBounds_toArray, List.set_cons_zero, List.set_cons_succ]
  refine wpAnyH_ready (rs := [7]) (by kernel_rfl) (by simp) (AllReadyH.cons (o := ({ dst := some 11, op := Op.alloc 23, type := 0, pos := "ref.go:240", after := #[], guard := none } : Oper)) rfl (fun K9 hK => ?_) AllReadyH.nil)
  go_simp
  have BA : Blk ((w3.alloc (.cells #[.int .i64 0, .int .i64 0] 23)).drew) w3.heap.size 23 #[.int .i64 0, .int .i64 0] := (show Blk (w3.alloc (.cells #[.int .i64 0, .int .i64 0] 23)) w3.heap.size 23 _ from heap_alloc_new w3 _).mod (Gou.Mod.drew (fun _ => False) _) (fun h => h)
  have MA : Gou.Mod (fun _ => False) w3 ((w3.alloc (.cells #[.int .i64 0, .int .i64 0] 23)).drew) := (Gou.Mod.alloc _ _ _).trans' (Gou.Mod.drew _ _)
  clear hHeld
  refine hK _ _ MA (fun hHeld => ?_)
  clear hK K9
  try simp only [Act.put, List.setIfInBounds_toArray, List.set_cons_zero, List.set_cons_succ]
  clear hHeld
  have hA : ∃ wA, wA = ((w3.alloc (.cells #[.int .i64 0, .int .i64 0] 23)).drew) := ⟨_, rfl⟩
  obtain ⟨wA, hA⟩ := hA
  rw [← hA] at MA BA ⊢
  clear hA
  have hHeld := MA
  have ia0 : wA.cell? ⟨w3.heap.size, 0, none⟩ = some (.int .i64 0) := BA.cell 0 rfl
  have ia1 : wA.cell? ⟨w3.heap.size, 1, none⟩ = some (.int .i64 0) := BA.cell 1 rfl
  have ja0 : wA.frozen? ⟨w3.heap.size, 0, none⟩ = false := BA.frozen 0
  have ja1 : wA.frozen? ⟨w3.heap.size, 1, none⟩ = false := BA.frozen 1
  refine wpAnyH_ready (rs := [8]) (by kernel_rfl) (by simp) (AllReadyH.cons (o := ({ dst := none, op := Op.store 23 (Operand.tmp 11) (Operand.tmp 129), type := 0, pos := "ref.go:240", after := #[{ on := 7, ground := Ground.data }, { on := 6, ground := Ground.data }, { on := 0, ground := Ground.phase }, { on := 1, ground := Ground.phase }, { on := 2, ground := Ground.phase }, { on := 3, ground := Ground.phase }, { on := 4, ground := Ground.phase }, { on := 5, ground := Ground.phase }, { on := 6, ground := Ground.phase }, { on := 7, ground := Ground.phase }], guard := none } : Oper)) rfl (fun K9 hK => ?_) AllReadyH.nil)
  go_simp
  have MB := id_box MA BA x y
  clear hHeld ia0 ia1 ja0 ja1
  refine hK _ _ MB.1 (fun hHeld => ?_)
  clear hK K9
  try simp only [Act.put, List.setIfInBounds_toArray, List.set_cons_zero, List.set_cons_succ]
  refine wpAnyH_done (by kernel_rfl) ?_ _
  clear hHeld
  have hA : ∃ w5, w5 = ((wA.setCell ⟨w3.heap.size, 0, none⟩ (.int .i64 x)).setCell ⟨w3.heap.size, 1, none⟩ (.int .i64 y)) := ⟨_, rfl⟩
  obtain ⟨w5, hA⟩ := hA
  rw [← hA] at MB ⊢
  clear hA MA BA
  have hD : w3.heap.size ≠ w.heap.size + 1 := by have := Hl3.out.loc.lt; omega
  have hl5 := Hl3.out.next MB.1
  have Hg5 : Hid (g2 < w5.heap.size) := Lib.hid (Nat.lt_of_lt_of_le Hg3.out MB.1.size)
  obtain ⟨d0, d1, d2⟩ := HS.out w5 MB.1
  have ib0 : w5.cell? ⟨w3.heap.size, 0, none⟩ = some (.int .i64 x) := MB.2.cell 0 rfl
  have ib1 : w5.cell? ⟨w3.heap.size, 1, none⟩ = some (.int .i64 y) := MB.2.cell 1 rfl
  have ck : w5.cell? ⟨w.heap.size + 1, 0, none⟩ = some (.int .i64 4) := hl5.loc.cell 0 rfl
  have cl2 : w5.cell? ⟨w.heap.size + 1, 2, none⟩ = some (.int .i64 0) := hl5.loc.cell 2 rfl
  have fl2 : w5.frozen? ⟨w.heap.size + 1, 2, none⟩ = false := hl5.loc.frozen 2
  have cl3 : w5.cell? ⟨w.heap.size + 1, 3, none⟩ = some (.int .i64 0) := hl5.loc.cell 3 rfl
  have fl3 : w5.frozen? ⟨w.heap.size + 1, 3, none⟩ = false := hl5.loc.frozen 3
  have cl6 : w5.cell? ⟨w.heap.size + 1, 6, none⟩ = some (.int .i64 0) := hl5.loc.cell 6 rfl
  have fl6 : w5.frozen? ⟨w.heap.size + 1, 6, none⟩ = false := hl5.loc.frozen 6
  have Hl5 := Lib.hid hl5
  clear hl5 MB HS
  generalize w3.heap.size = D at *
  go_wp2_with fail
  have HlA : Hid (RLoc w 41 AcZ (actC ⟨4, ⟨4, (x, y), (0, 0), z, Lk.zero⟩, 0, 0, Cf.zero⟩ (.slice none 0 0) (.slice none 0 0) (.slice none 0 0)) (((w5.setCell ⟨w.heap.size + 1, 2, none⟩ (.int .i64 x)).setCell ⟨w.heap.size + 1, 3, none⟩ (.int .i64 y)).setCell ⟨w.heap.size + 1, 6, none⟩ (.int .i64 z))) := Lib.hid ((Hl5.out.puts 2 [.int .i64 x, .int .i64 y]).put 6 (.int .i64 z))
  clear d0 d1 d2 cl2 cl3 cl6 fl2 fl3 fl6 ib0 ib1 ck
  have hA : ∃ wB, wB = (((w5.setCell ⟨w.heap.size + 1, 2, none⟩ (.int .i64 x)).setCell ⟨w.heap.size + 1, 3, none⟩ (.int .i64 y)).setCell ⟨w.heap.size + 1, 6, none⟩ (.int .i64 z)) := ⟨_, rfl⟩
  obtain ⟨wB, hA⟩ := hA
  rw [← hA] at HlA ⊢
  clear hA
  have Hact : Hid (actAt bs n = (lookAt bs q 4).bind fun l => some (⟨4, ⟨4, (x, y), (0, 0), z, l.1⟩, 0, 0, Cf.zero⟩, l.2)) := Lib.hid (by
    rw [act_opr hlt Hbk.out (by omega) (by omega)]
    refine (congrArg (Option.bind · _) (opr4 Ht.out)).trans ?_
    cases lookAt bs q 4 <;> rfl)
  refine (lookR_low wB (some ⟨b, o, none⟩) cb bs (H.out.mod HlA.out.mod (fun _ _ _ h => h)) Hby.out hl q hq 4 (by omega)).mono ?_
  rintro e w7 ⟨hm7, hp⟩
  have Hl7 := Lib.hid (HlA.out.next hm7)
  clear hm7
  rcases ht : lookAt bs q 4 with _ | ⟨l, q2⟩
  · rw [ht] at hp
    obtain ⟨l, p1, n1, k1, p2, n2, k2, p3, n3, k3, rfl⟩ := hp
    have Hno : Hid (actAt bs n = none) := Lib.hid (by rw [Hact.out, ht]; rfl)
    clear ht
    have Hbx := Lib.hid (box_put w7 35 LkZ (lookC l (.slice p1 n1 k1) (.slice p2 n2 k2) (.slice p3 n3 k3)) rfl)
    have Hlb := Lib.hid (Hl7.out.next Hbx.out.1)
    have Htl := Lib.hid (Hlb.out.loc.there 7 28 (by simp [actC]))
    have hl8 := Hlb.out.puts 7 (lookC l (.slice p1 n1 k1) (.slice p2 n2 k2) (.slice p3 n3 k3)).toList
    rw [setMany_actl] at hl8
    have Hl8 := Lib.hid hl8
    clear hl8
    have HB : Hid (Blk _ (w.heap.size + 1) 41 (actC ⟨4, ⟨4, (x, y), (0, 0), z, l⟩, 0, 0, Cf.zero⟩ (.slice p1 n1 k1) (.slice p2 n2 k2) (.slice p3 n3 k3))) := Lib.hid Hl8.out.loc
    have Hth := Lib.hid (Hl8.out.res.there 0 42 (by simp))
    go_wp2_with (first | ((with_reducible refine wpList_store_mid ?g5_23 35 ?x5_23 ?y5_23 ?o5_23 w7.heap.size 0 (lookC l (.slice p1 n1 k1) (.slice p2 n2 k2) (.slice p3 n3 k3)) ?h5_23 ?j5_23 ?t5_23 ?i5_23 ?s5_23 ?r5_23); (case g5_23 => exact rfl); (case o5_23 => exact rfl); (case h5_23 => exact rfl); (case j5_23 => exact rfl); (case t5_23 => exact Hbx.out.2.2); (case i5_23 => exact size_look); (case s5_23 => exact lookC_one _ _ _ _ _ _ _ _ _ _)) | ((with_reducible refine wpList_load_row ?g5_24 35 ?x5_24 ?o5_24 w7.heap.size ?h5_24 ?t5_24 ?c5_24 ?f5_24 ?d5_24 ?b5_24 ?u5_24 ?s5_24 ?i5_24 ?r5_24); (case g5_24 => exact rfl); (case o5_24 => exact rfl); (case h5_24 => exact rfl); (case b5_24 => exact Hbx.out.2.1); (case u5_24 => exact Try.underlying35); (case s5_24 => exact rfl); (case i5_24 => exact size_look)) | ((with_reducible refine wpList_store_mid ?g5_25 35 ?x5_25 ?y5_25 ?o5_25 (w.heap.size + 1) 7 (lookC l (.slice p1 n1 k1) (.slice p2 n2 k2) (.slice p3 n3 k3)) ?h5_25 ?j5_25 ?t5_25 ?i5_25 ?s5_25 ?r5_25); (case g5_25 => exact rfl); (case o5_25 => exact rfl); (case h5_25 => exact rfl); (case j5_25 => exact rfl); (case t5_25 => exact Htl.out); (case i5_25 => exact size_look); (case s5_25 => exact lookC_one _ _ _ _ _ _ _ _ _ _)) | ((with_reducible refine wpList_load_row ?g1_26 41 ?x1_26 ?o1_26 (w.heap.size + 1) ?h1_26 ?t1_26 ?c1_26 ?f1_26 ?d1_26 ?b1_26 ?u1_26 ?s1_26 ?i1_26 ?r1_26); (case g1_26 => exact rfl); (case o1_26 => exact rfl); (case h1_26 => exact rfl); (case b1_26 => exact HB.out); (case u1_26 => exact Try.underlying41); (case s1_26 => exact rfl); (case i1_26 => exact size_act)) | ((with_reducible refine wpList_store_mid ?g2_26 41 ?x2_26 ?y2_26 ?o2_26 w.heap.size 0 (actC ⟨4, ⟨4, (x, y), (0, 0), z, l⟩, 0, 0, Cf.zero⟩ (.slice p1 n1 k1) (.slice p2 n2 k2) (.slice p3 n3 k3)) ?h2_26 ?j2_26 ?t2_26 ?i2_26 ?s2_26 ?r2_26); (case g2_26 => exact rfl); (case o2_26 => exact rfl); (case h2_26 => exact rfl); (case j2_26 => exact rfl); (case t2_26 => exact Hth.out); (case i2_26 => exact size_act); (case s2_26 => exact actC_one _ _ _ _ _ _ _ _ _ _)) | fail)
    have hd := RLoc.done (cs := actC ⟨4, ⟨4, (x, y), (0, 0), z, l⟩, 0, 0, Cf.zero⟩ (.slice p1 n1 k1) (.slice p2 n2 k2) (.slice p3 n3 k3)) Hl8.out rfl
    refine bodyPost_ret (v := .tuple #[.agg (actC ⟨4, ⟨4, (x, y), (0, 0), z, l⟩, 0, 0, Cf.zero⟩ (.slice p1 n1 k1) (.slice p2 n2 k2) (.slice p3 n3 k3)), .int .i64 0, .bool false]) (results_one _ _ w.heap.size (actC ⟨4, ⟨4, (x, y), (0, 0), z, l⟩, 0, 0, Cf.zero⟩ (.slice p1 n1 k1) (.slice p2 n2 k2) (.slice p3 n3 k3)) rfl _ _ rfl rfl rfl hd.2.1) rfl ?_
    exact on_fail Hno.out hd.1 _ _ _ _ _ _ _ _ _ _
  rw [ht] at hp
  obtain ⟨p1, n1, k1, p2, n2, k2, p3, n3, k3, rfl, hr⟩ := hp
  have Hres : Hid (actAt bs n = some (⟨4, ⟨4, (x, y), (0, 0), z, l⟩, 0, 0, Cf.zero⟩, q2)) := Lib.hid (by rw [Hact.out, ht]; rfl)
  have Hr := Lib.hid hr
  have Hs0 : Hid (w.heap.size + 1 < wB.heap.size) := Lib.hid HlA.out.loc.lt
  clear ht hr
  have Hbx := Lib.hid (box_put w7 35 LkZ (lookC l (.slice p1 n1 k1) (.slice p2 n2 k2) (.slice p3 n3 k3)) rfl)
  have Hlb := Lib.hid (Hl7.out.next Hbx.out.1)
  have Htl := Lib.hid (Hlb.out.loc.there 7 28 (by simp [actC]))
  have hl8 := Hlb.out.puts 7 (lookC l (.slice p1 n1 k1) (.slice p2 n2 k2) (.slice p3 n3 k3)).toList
  rw [setMany_actl] at hl8
  have Hl8 := Lib.hid hl8
  clear hl8
  have HB : Hid (Blk _ (w.heap.size + 1) 41 (actC ⟨4, ⟨4, (x, y), (0, 0), z, l⟩, 0, 0, Cf.zero⟩ (.slice p1 n1 k1) (.slice p2 n2 k2) (.slice p3 n3 k3))) := Lib.hid Hl8.out.loc
  have Hth := Lib.hid (Hl8.out.res.there 0 42 (by simp))
  go_wp2_with (first | ((with_reducible refine wpList_store_mid ?g5_27 35 ?x5_27 ?y5_27 ?o5_27 w7.heap.size 0 (lookC l (.slice p1 n1 k1) (.slice p2 n2 k2) (.slice p3 n3 k3)) ?h5_27 ?j5_27 ?t5_27 ?i5_27 ?s5_27 ?r5_27); (case g5_27 => exact rfl); (case o5_27 => exact rfl); (case h5_27 => exact rfl); (case j5_27 => exact rfl); (case t5_27 => exact Hbx.out.2.2); (case i5_27 => exact size_look); (case s5_27 => exact lookC_one _ _ _ _ _ _ _ _ _ _)) | ((with_reducible refine wpList_load_row ?g5_28 35 ?x5_28 ?o5_28 w7.heap.size ?h5_28 ?t5_28 ?c5_28 ?f5_28 ?d5_28 ?b5_28 ?u5_28 ?s5_28 ?i5_28 ?r5_28); (case g5_28 => exact rfl); (case o5_28 => exact rfl); (case h5_28 => exact rfl); (case b5_28 => exact Hbx.out.2.1); (case u5_28 => exact Try.underlying35); (case s5_28 => exact rfl); (case i5_28 => exact size_look)) | ((with_reducible refine wpList_store_mid ?g5_29 35 ?x5_29 ?y5_29 ?o5_29 (w.heap.size + 1) 7 (lookC l (.slice p1 n1 k1) (.slice p2 n2 k2) (.slice p3 n3 k3)) ?h5_29 ?j5_29 ?t5_29 ?i5_29 ?s5_29 ?r5_29); (case g5_29 => exact rfl); (case o5_29 => exact rfl); (case h5_29 => exact rfl); (case j5_29 => exact rfl); (case t5_29 => exact Htl.out); (case i5_29 => exact size_look); (case s5_29 => exact lookC_one _ _ _ _ _ _ _ _ _ _)) | ((with_reducible refine wpList_load_row ?g1_30 41 ?x1_30 ?o1_30 (w.heap.size + 1) ?h1_30 ?t1_30 ?c1_30 ?f1_30 ?d1_30 ?b1_30 ?u1_30 ?s1_30 ?i1_30 ?r1_30); (case g1_30 => exact rfl); (case o1_30 => exact rfl); (case h1_30 => exact rfl); (case b1_30 => exact HB.out); (case u1_30 => exact Try.underlying41); (case s1_30 => exact rfl); (case i1_30 => exact size_act)) | ((with_reducible refine wpList_store_mid ?g2_30 41 ?x2_30 ?y2_30 ?o2_30 w.heap.size 0 (actC ⟨4, ⟨4, (x, y), (0, 0), z, l⟩, 0, 0, Cf.zero⟩ (.slice p1 n1 k1) (.slice p2 n2 k2) (.slice p3 n3 k3)) ?h2_30 ?j2_30 ?t2_30 ?i2_30 ?s2_30 ?r2_30); (case g2_30 => exact rfl); (case o2_30 => exact rfl); (case h2_30 => exact rfl); (case j2_30 => exact rfl); (case t2_30 => exact Hth.out); (case i2_30 => exact size_act); (case s2_30 => exact actC_one _ _ _ _ _ _ _ _ _ _)) | fail)
  have hd := RLoc.done (cs := actC ⟨4, ⟨4, (x, y), (0, 0), z, l⟩, 0, 0, Cf.zero⟩ (.slice p1 n1 k1) (.slice p2 n2 k2) (.slice p3 n3 k3)) Hl8.out rfl
  refine bodyPost_ret (v := .tuple #[.agg (actC ⟨4, ⟨4, (x, y), (0, 0), z, l⟩, 0, 0, Cf.zero⟩ (.slice p1 n1 k1) (.slice p2 n2 k2) (.slice p3 n3 k3)), .int .i64 q2, .bool true]) (results_one _ _ w.heap.size (actC ⟨4, ⟨4, (x, y), (0, 0), z, l⟩, 0, 0, Cf.zero⟩ (.slice p1 n1 k1) (.slice p2 n2 k2) (.slice p3 n3 k3)) rfl _ _ rfl rfl rfl hd.2.1) rfl ?_
  exact on_done Hres.out hd.1 (LookR.far (Hr.out.mod Hbx.out.1 (fun _ _ _ h => h)) (Mod.two hd.2.2) (by have := Hs0.out; omega) (by have := Hs0.out; omega) (by have := Hs0.out; omega))

set_option maxHeartbeats 4000000 in
theorem oneR_gen (w : World) (pb : Option Addr) (cb : Nat) (bs : List Nat) (h : BytesAt (fun _ => True) w (.slice pb bs.length cb) bs) (hby : ∀ x ∈ bs, x < 256) (hl : bs.length ≤ 10000000) (n : Nat) (hn : n ≤ bs.length) (hlt : n < bs.length) (k : Nat) (hbk : bs[n] = k) (hk : k = 2 ∨ 5 ≤ k ∧ k ≤ 11) :
    Calls Try.prog 27 #[.slice pb bs.length cb, .int .i64 n] w (OnP w bs n) := by
  have H := Lib.hid h
  have Hby := Lib.hid hby
  clear h hby
  have t0 : decide ((bs.length : Int) ≤ (n : Int)) = false := decide_eq_false (by omega)
  have t0' : decide (bs.length ≤ n) = false := decide_eq_false (by omega)
  obtain ⟨-, b, o, rfl, hb, -, hc⟩ := H.out.celz (by omega)
  have Hcw : Hid (w.cell? ⟨b, o + n, none⟩ = some (.int .u8 (k : Nat))) := Lib.hid (by
    have := hc n hlt
    rw [hbk] at this
    exact this)
  have hni : (n : Int) < (bs.length : Int) := by omega
  have Hb := Lib.hid hb
  clear hc hb
  have Hbk := Lib.hid hbk
  clear hbk
  have Hk := Lib.hid hk
  obtain ⟨t1, t2, t3, t4, t5, t6, t7, t8, t1', t2', u1, u2⟩ := gen_facts hk
  clear hk
  go_enter Try.func27, Try.ntmps27
  go_wp2_with (first | ((with_reducible refine wpList_buildTo ?g7 41 ?p7 ?o7 ?d7 ?e7 (AcZ) ?f7 ?r7); (case g7 => exact rfl); (case o7 => exact rfl); (case e7 => exact rfl); (case f7 => kernel_rfl)) | ((with_reducible refine wpList_store_mid ?g8 41 ?x8 ?y8 ?o8 (w.heap.size + 1) 0 (AcZ) ?h8 ?j8 ?t8 ?i8 ?s8 ?r8); (case g8 => exact rfl); (case o8 => exact rfl); (case h8 => exact rfl); (case j8 => exact rfl); (case t8 => exact there_act w); (case i8 => exact size_act); (case s8 => exact oneR_act); (have Hl0 := Lib.hid (start_act w)); (generalize ((w.alloc (.cells AcZ 41)).alloc (.cells AcZ 41)).setCells (w.heap.size + 1) 0 (AcZ).toList = w0 at *); (have hcell : w0.cell? ⟨b, o + n, none⟩ = some (.int .u8 (k : Nat)) := (Hl0.out.mod.cell (p := ⟨b, o + n, none⟩) Hb.out (fun h => h)).trans Hcw.out); (have cl0 : w0.cell? ⟨w.heap.size + 1, 0, none⟩ = some (.int .i64 0) := Hl0.out.loc.cell 0 rfl); (have fl0 : w0.frozen? ⟨w.heap.size + 1, 0, none⟩ = false := Hl0.out.loc.frozen 0); (have hsz : w.heap.size + 1 < w0.heap.size := Hl0.out.loc.lt); (have hne : w.heap.size + 1 ≠ w0.heap.size := Nat.ne_of_lt hsz); (have hch := heads_cell w0 (w0.setCell ⟨w.heap.size + 1, 0, none⟩ (.int .i64 (k : Nat))) (by simp) Hk.out)) | fail)
  have Hl1 : Hid (RLoc w 41 AcZ (actC ⟨(k : Nat), Opr.zero, 0, 0, Cf.zero⟩ (.slice none 0 0) (.slice none 0 0) (.slice none 0 0)) ((w0.setCell ⟨w.heap.size + 1, 0, none⟩ (.int .i64 (k : Nat))).alloc (.cells #[.int .i64 0, .int .i64 3, .int .i64 2, .int .i64 5, .int .i64 3, .int .i64 2, .int .i64 2, .int .i64 2, .int .i64 2, .int .i64 2, .int .i64 2, .int .i64 2, .int .i64 2, .int .i64 2] 95))) := Lib.hid ((Hl0.out.put 0 (.int .i64 (k : Nat))).next (Gou.Mod.alloc _ _ _))
  generalize hW1 : ((w0.setCell ⟨w.heap.size + 1, 0, none⟩ (.int .i64 (k : Nat))).alloc (.cells #[.int .i64 0, .int .i64 3, .int .i64 2, .int .i64 5, .int .i64 3, .int .i64 2, .int .i64 2, .int .i64 2, .int .i64 2, .int .i64 2, .int .i64 2, .int .i64 2, .int .i64 2, .int .i64 2] 95)) = w1 at *
  clear hW1 hch hcell cl0 fl0 hsz hne
  rw [show (n : Int) + 1 = ((n + 1 : Nat) : Int) from by push_cast; rfl]
  refine (numbersR_any w1 (some ⟨b, o, none⟩) cb bs (H.out.mod Hl1.out.mod (fun _ _ _ h => h)) Hby.out hl (n + 1) 2 (by omega) (by omega)).mono ?_
  rintro e w2 ⟨hm2, hp⟩
  have Hl2 := Lib.hid (Hl1.out.next hm2)
  clear hm2
  have ck : w2.cell? ⟨w.heap.size + 1, 0, none⟩ = some (.int .i64 (k : Nat)) := Hl2.out.loc.cell 0 rfl
  rcases ht : timesAt (numAt bs) (n + 1) 2 with _ | ⟨xs, q⟩
  · rw [ht] at hp
    subst hp
    have Hno : Hid (actAt bs n = none) := Lib.hid (by rw [act_opr hlt Hbk.out (by have := Hk.out; omega) (by have := Hk.out; omega)]; exact congrArg (Option.bind · _) (oprI_none (by have := Hk.out; omega) ht))
    clear ht
    have HB : Hid (Blk _ (w.heap.size + 1) 41 (actC ⟨(k : Nat), Opr.zero, 0, 0, Cf.zero⟩ (.slice none 0 0) (.slice none 0 0) (.slice none 0 0))) := Lib.hid Hl2.out.loc
    have Hth := Lib.hid (Hl2.out.res.there 0 42 (by simp))
    go_wp2_with (first | ((with_reducible refine wpList_load_row ?g1_56 41 ?x1_56 ?o1_56 (w.heap.size + 1) ?h1_56 ?t1_56 ?c1_56 ?f1_56 ?d1_56 ?b1_56 ?u1_56 ?s1_56 ?i1_56 ?r1_56); (case g1_56 => exact rfl); (case o1_56 => exact rfl); (case h1_56 => exact rfl); (case b1_56 => exact HB.out); (case u1_56 => exact Try.underlying41); (case s1_56 => exact rfl); (case i1_56 => exact size_act)) | ((with_reducible refine wpList_store_mid ?g2_56 41 ?x2_56 ?y2_56 ?o2_56 w.heap.size 0 (actC ⟨(k : Nat), Opr.zero, 0, 0, Cf.zero⟩ (.slice none 0 0) (.slice none 0 0) (.slice none 0 0)) ?h2_56 ?j2_56 ?t2_56 ?i2_56 ?s2_56 ?r2_56); (case g2_56 => exact rfl); (case o2_56 => exact rfl); (case h2_56 => exact rfl); (case j2_56 => exact rfl); (case t2_56 => exact Hth.out); (case i2_56 => exact size_act); (case s2_56 => exact actC_one _ _ _ _ _ _ _ _ _ _)) | fail)
    have hd := RLoc.done (cs := actC ⟨(k : Nat), Opr.zero, 0, 0, Cf.zero⟩ (.slice none 0 0) (.slice none 0 0) (.slice none 0 0)) Hl2.out rfl
    refine bodyPost_ret (v := .tuple #[.agg (actC ⟨(k : Nat), Opr.zero, 0, 0, Cf.zero⟩ (.slice none 0 0) (.slice none 0 0) (.slice none 0 0)), .int .i64 0, .bool false]) (results_one _ _ w.heap.size (actC ⟨(k : Nat), Opr.zero, 0, 0, Cf.zero⟩ (.slice none 0 0) (.slice none 0 0) (.slice none 0 0)) rfl _ _ rfl rfl rfl hd.2.1) rfl ?_
    exact on_fail Hno.out hd.1 _ _ _ _ _ _ _ _ _ _
  rw [ht] at hp
  obtain ⟨p, c, rfl, hown, hxl⟩ := hp
  obtain ⟨x, y, m, rfl, -, -⟩ := times_two ht
  obtain ⟨g2, rfl, hg0, hg1, hc⟩ := own_ints hown (by omega)
  have hq : q ≤ bs.length := (times_spec (num_spec Hby.out) 2).end_le ht (by omega)
  have hng : w.heap.size + 1 ≠ g2 := by have := Hl1.out.loc.lt; omega
  have c0 : w2.cell? ⟨g2, 0, none⟩ = some (.int .i64 x) := hc 0 (by simp)
  have c1 : w2.cell? ⟨g2, 1, none⟩ = some (.int .i64 y) := hc 1 (by simp)
  have Ht := Lib.hid ht
  clear hc hown hxl hg0 ht
  have cl1 : w2.cell? ⟨w.heap.size + 1, 1, none⟩ = some (.int .i64 0) := Hl2.out.loc.cell 1 rfl
  have fl1 : w2.frozen? ⟨w.heap.size + 1, 1, none⟩ = false := Hl2.out.loc.frozen 1
  go_wp2_with fail
  have Hl3 := Lib.hid (Hl2.out.put 1 (.int .i64 (k : Nat)))
  have d0 : (w2.setCell ⟨w.heap.size + 1, 1, none⟩ (.int .i64 (k : Nat))).cell? ⟨g2, 0, none⟩ = some (.int .i64 x) := ((Gou.Mod.setCell _ ⟨w.heap.size + 1, 1, none⟩ _).cell (p := ⟨g2, 0, none⟩) hg1 (by simp; omega)).trans c0
  have d1 : (w2.setCell ⟨w.heap.size + 1, 1, none⟩ (.int .i64 (k : Nat))).cell? ⟨g2, 1, none⟩ = some (.int .i64 y) := ((Gou.Mod.setCell _ ⟨w.heap.size + 1, 1, none⟩ _).cell (p := ⟨g2, 1, none⟩) hg1 (by simp; omega)).trans c1
  have hg3 : g2 < (w2.setCell ⟨w.heap.size + 1, 1, none⟩ (.int .i64 (k : Nat))).heap.size := by simpa using hg1
  generalize (w2.setCell ⟨w.heap.size + 1, 1, none⟩ (.int .i64 (k : Nat))) = w3 at *
  clear c0 c1 ck cl1 fl1 hg1
  have HS : Hid (∀ w' : World, Gou.Mod (fun _ => False) w3 w' → w'.cell? ⟨g2, 0, none⟩ = some (.int .i64 x) ∧ w'.cell? ⟨g2, 1, none⟩ = some (.int .i64 y)) := Lib.hid (fun w' hm => ⟨(hm.cell (p := ⟨g2, 0, none⟩) hg3 (fun h => h)).trans d0, (hm.cell (p := ⟨g2, 1, none⟩) hg3 (fun h => h)).trans d1⟩)
  clear d0 d1
  have Hg3 := Lib.hid hg3
  clear hg3
  refine wp_region_held_drew (S := fun w' => Gou.Mod (fun _ => False) w3 w') (by kernel_rfl) (Gou.Mod.drew _ _) (fun hHeld => ?_)
  refine wpAnyH_take (i := 0) (oi := ({ dst := some 123, op := Op.move (Operand.tmp 9), type := 72, pos := "ref.go:240", after := #[], guard := none } : Oper)) (v := .slice (some ⟨g2, 0, none⟩) 2 c) rfl (by kernel_rfl) (by kernel_rfl) (by kernel_rfl) (fun _ _ _ h => h) (Or.inl ⟨by rfl, ?_⟩) hHeld ?_
  · (intro w' hSw; (try dsimp only at hSw); obtain ⟨s0, s1⟩ := HS.out w' hSw; clear hSw; go_simp; (try with_reducible rfl))
  try simp only [Act.put, List.setIfInBounds_toArray, List.set_cons_zero, List.set_cons_succ]
  refine wpAnyH_take (i := 1) (oi := ({ dst := some 124, op := Op.indexAddr 72 (Operand.tmp 123) (Operand.const (Value.int IntKind.i64 0)), type := 0, pos := "ref.go:240", after := #[{ on := 0, ground := Ground.data }], guard := none } : Oper)) (v := .pointer (some ⟨g2, 0, none⟩)) rfl (by kernel_rfl) (by kernel_rfl) (by kernel_rfl) (fun _ _ _ h => h) (Or.inl ⟨by rfl, ?_⟩) hHeld ?_
  · (intro w' hSw; (try dsimp only at hSw); obtain ⟨s0, s1⟩ := HS.out w' hSw; clear hSw; go_simp; (try with_reducible rfl))
  try simp only [Act.put, List.setIfInBounds_toArray, List.set_cons_zero, List.set_cons_succ]
  refine wpAnyH_take (i := 2) (oi := ({ dst := some 125, op := Op.load 3 (Operand.tmp 124), type := 3, pos := "ref.go:240", after := #[{ on := 1, ground := Ground.data }], guard := none } : Oper)) (v := .int .i64 x) rfl (by kernel_rfl) (by kernel_rfl) (by kernel_rfl) (fun _ _ _ h => h) (Or.inl ⟨by rfl, ?_⟩) hHeld ?_
  · (intro w' hSw; (try dsimp only at hSw); obtain ⟨s0, s1⟩ := HS.out w' hSw; clear hSw; go_simp; (try with_reducible rfl))
  try simp only [Act.put, List.setIfInBounds_toArray, List.set_cons_zero, List.set_cons_succ]
  refine wpAnyH_take (i := 3) (oi := ({ dst := some 126, op := Op.move (Operand.tmp 9), type := 72, pos := "ref.go:240", after := #[], guard := none } : Oper)) (v := .slice (some ⟨g2, 0, none⟩) 2 c) rfl (by kernel_rfl) (by kernel_rfl) (by kernel_rfl) (fun _ _ _ h => h) (Or.inl ⟨by rfl, ?_⟩) hHeld ?_
  · (intro w' hSw; (try dsimp only at hSw); obtain ⟨s0, s1⟩ := HS.out w' hSw; clear hSw; go_simp; (try with_reducible rfl))
  try simp only [Act.put, List.setIfInBounds_toArray, List.set_cons_zero, List.set_cons_succ]
  refine wpAnyH_take (i := 4) (oi := ({ dst := some 127, op := Op.indexAddr 72 (Operand.tmp 126) (Operand.const (Value.int IntKind.i64 1)), type := 0, pos := "ref.go:240", after := #[{ on := 3, ground := Ground.data }], guard := none } : Oper)) (v := .pointer (some ⟨g2, 1, none⟩)) rfl (by kernel_rfl) (by kernel_rfl) (by kernel_rfl) (fun _ _ _ h => h) (Or.inl ⟨by rfl, ?_⟩) hHeld ?_
  · (intro w' hSw; (try dsimp only at hSw); obtain ⟨s0, s1⟩ := HS.out w' hSw; clear hSw; go_simp; (try with_reducible rfl))
  try simp only [Act.put, List.setIfInBounds_toArray, List.set_cons_zero, List.set_cons_succ]
  refine wpAnyH_take (i := 5) (oi := ({ dst := some 128, op := Op.load 3 (Operand.tmp 127), type := 3, pos := "ref.go:240", after := #[{ on := 4, ground := Ground.data }], guard := none } : Oper)) (v := .int .i64 y) rfl (by kernel_rfl) (by kernel_rfl) (by kernel_rfl) (fun _ _ _ h => h) (Or.inl ⟨by rfl, ?_⟩) hHeld ?_
  · (intro w' hSw; (try dsimp only at hSw); obtain ⟨s0, s1⟩ := HS.out w' hSw; clear hSw; go_simp; (try with_reducible rfl))
  try simp only [Act.put, List.setIfInBounds_toArray, List.set_cons_zero, List.set_cons_succ]
  refine wpAnyH_take (i := 6) (oi := ({ dst := some 129, op := Op.build 23 #[(0, Operand.tmp 125), (1, Operand.tmp 128)], type := 23, pos := "ref.go:240", after := #[{ on := 2, ground := Ground.data }, { on := 5, ground := Ground.data }], guard := none } : Oper)) (v := .agg #[.int .i64 x, .int .i64 y]) rfl (by kernel_rfl) (by kernel_rfl) (by kernel_rfl) (fun _ _ _ h => h) (Or.inl ⟨by rfl, ?_⟩) hHeld ?_
  · (intro w' hSw; (try dsimp only at hSw); obtain ⟨s0, s1⟩ := HS.out w' hSw; clear hSw; go_simp; (try with_reducible rfl))
  try simp only [Act.put, List.setIfInBounds_toArray, List.set_cons_zero, List.set_cons_succ]
  refine wpAnyH_ready (rs := [7]) (by kernel_rfl) (by simp) (AllReadyH.cons (o := ({ dst := some 11, op := Op.alloc 23, type := 0, pos := "ref.go:240", after := #[], guard := none } : Oper)) rfl (fun K9 hK => ?_) AllReadyH.nil)
  go_simp
  have BA : Blk ((w3.alloc (.cells #[.int .i64 0, .int .i64 0] 23)).drew) w3.heap.size 23 #[.int .i64 0, .int .i64 0] := (show Blk (w3.alloc (.cells #[.int .i64 0, .int .i64 0] 23)) w3.heap.size 23 _ from heap_alloc_new w3 _).mod (Gou.Mod.drew (fun _ => False) _) (fun h => h)
  have MA : Gou.Mod (fun _ => False) w3 ((w3.alloc (.cells #[.int .i64 0, .int .i64 0] 23)).drew) := (Gou.Mod.alloc _ _ _).trans' (Gou.Mod.drew _ _)
  clear hHeld
  refine hK _ _ MA (fun hHeld => ?_)
  clear hK K9
  try simp only [Act.put, List.setIfInBounds_toArray, List.set_cons_zero, List.set_cons_succ]
  clear hHeld
  have hA : ∃ wA, wA = ((w3.alloc (.cells #[.int .i64 0, .int .i64 0] 23)).drew) := ⟨_, rfl⟩
  obtain ⟨wA, hA⟩ := hA
  rw [← hA] at MA BA ⊢
  clear hA
  have hHeld := MA
  have ia0 : wA.cell? ⟨w3.heap.size, 0, none⟩ = some (.int .i64 0) := BA.cell 0 rfl
  have ia1 : wA.cell? ⟨w3.heap.size, 1, none⟩ = some (.int .i64 0) := BA.cell 1 rfl
  have ja0 : wA.frozen? ⟨w3.heap.size, 0, none⟩ = false := BA.frozen 0
  have ja1 : wA.frozen? ⟨w3.heap.size, 1, none⟩ = false := BA.frozen 1
  refine wpAnyH_ready (rs := [8]) (by kernel_rfl) (by simp) (AllReadyH.cons (o := ({ dst := none, op := Op.store 23 (Operand.tmp 11) (Operand.tmp 129), type := 0, pos := "ref.go:240", after := #[{ on := 7, ground := Ground.data }, { on := 6, ground := Ground.data }, { on := 0, ground := Ground.phase }, { on := 1, ground := Ground.phase }, { on := 2, ground := Ground.phase }, { on := 3, ground := Ground.phase }, { on := 4, ground := Ground.phase }, { on := 5, ground := Ground.phase }, { on := 6, ground := Ground.phase }, { on := 7, ground := Ground.phase }], guard := none } : Oper)) rfl (fun K9 hK => ?_) AllReadyH.nil)
  go_simp
  have MB := id_box MA BA x y
  clear hHeld ia0 ia1 ja0 ja1
  refine hK _ _ MB.1 (fun hHeld => ?_)
  clear hK K9
  try simp only [Act.put, List.setIfInBounds_toArray, List.set_cons_zero, List.set_cons_succ]
  refine wpAnyH_done (by kernel_rfl) ?_ _
  clear hHeld
  have hA : ∃ w5, w5 = ((wA.setCell ⟨w3.heap.size, 0, none⟩ (.int .i64 x)).setCell ⟨w3.heap.size, 1, none⟩ (.int .i64 y)) := ⟨_, rfl⟩
  obtain ⟨w5, hA⟩ := hA
  rw [← hA] at MB ⊢
  clear hA MA BA
  have hD : w3.heap.size ≠ w.heap.size + 1 := by have := Hl3.out.loc.lt; omega
  have hl5 := Hl3.out.next MB.1
  have Hg5 : Hid (g2 < w5.heap.size) := Lib.hid (Nat.lt_of_lt_of_le Hg3.out MB.1.size)
  obtain ⟨d0, d1⟩ := HS.out w5 MB.1
  have ib0 : w5.cell? ⟨w3.heap.size, 0, none⟩ = some (.int .i64 x) := MB.2.cell 0 rfl
  have ib1 : w5.cell? ⟨w3.heap.size, 1, none⟩ = some (.int .i64 y) := MB.2.cell 1 rfl
  have ck : w5.cell? ⟨w.heap.size + 1, 0, none⟩ = some (.int .i64 (k : Nat)) := hl5.loc.cell 0 rfl
  have cl2 : w5.cell? ⟨w.heap.size + 1, 2, none⟩ = some (.int .i64 0) := hl5.loc.cell 2 rfl
  have fl2 : w5.frozen? ⟨w.heap.size + 1, 2, none⟩ = false := hl5.loc.frozen 2
  have cl3 : w5.cell? ⟨w.heap.size + 1, 3, none⟩ = some (.int .i64 0) := hl5.loc.cell 3 rfl
  have fl3 : w5.frozen? ⟨w.heap.size + 1, 3, none⟩ = false := hl5.loc.frozen 3
  have Hl5 := Lib.hid hl5
  clear hl5 MB HS
  generalize w3.heap.size = D at *
  go_wp2_with fail
  have HlA : Hid (RLoc w 41 AcZ (actC ⟨(k : Nat), ⟨(k : Nat), (x, y), (0, 0), 0, Lk.zero⟩, 0, 0, Cf.zero⟩ (.slice none 0 0) (.slice none 0 0) (.slice none 0 0)) ((w5.setCell ⟨w.heap.size + 1, 2, none⟩ (.int .i64 x)).setCell ⟨w.heap.size + 1, 3, none⟩ (.int .i64 y))) := Lib.hid (Hl5.out.puts 2 [.int .i64 x, .int .i64 y])
  clear d0 d1 cl2 cl3 fl2 fl3 ib0 ib1 ck
  have hA : ∃ wB, wB = ((w5.setCell ⟨w.heap.size + 1, 2, none⟩ (.int .i64 x)).setCell ⟨w.heap.size + 1, 3, none⟩ (.int .i64 y)) := ⟨_, rfl⟩
  obtain ⟨wB, hA⟩ := hA
  rw [← hA] at HlA ⊢
  clear hA
  have Hact : Hid (actAt bs n = (lookAt bs q (k : Nat)).bind fun l => some (⟨(k : Nat), ⟨(k : Nat), (x, y), (0, 0), 0, l.1⟩, 0, 0, Cf.zero⟩, l.2)) := Lib.hid (by
    rw [act_opr hlt Hbk.out (by have := Hk.out; omega) (by have := Hk.out; omega)]
    refine (congrArg (Option.bind · _) (oprI (by have := Hk.out; omega) Ht.out)).trans ?_
    cases lookAt bs q (k : Nat) <;> rfl)
  refine (lookR_gen wB (some ⟨b, o, none⟩) cb bs (H.out.mod HlA.out.mod (fun _ _ _ h => h)) Hby.out hl q hq k Hk.out).mono ?_
  rintro e w7 ⟨hm7, hp⟩
  have Hl7 := Lib.hid (HlA.out.next hm7)
  clear hm7
  rcases ht : lookAt bs q (k : Nat) with _ | ⟨l, q2⟩
  · rw [ht] at hp
    obtain ⟨l, p1, n1, k1, p2, n2, k2, p3, n3, k3, rfl⟩ := hp
    have Hno : Hid (actAt bs n = none) := Lib.hid (by rw [Hact.out, ht]; rfl)
    clear ht
    have Hbx := Lib.hid (box_put w7 35 LkZ (lookC l (.slice p1 n1 k1) (.slice p2 n2 k2) (.slice p3 n3 k3)) rfl)
    have Hlb := Lib.hid (Hl7.out.next Hbx.out.1)
    have Htl := Lib.hid (Hlb.out.loc.there 7 28 (by simp [actC]))
    have hl8 := Hlb.out.puts 7 (lookC l (.slice p1 n1 k1) (.slice p2 n2 k2) (.slice p3 n3 k3)).toList
    rw [setMany_actl] at hl8
    have Hl8 := Lib.hid hl8
    clear hl8
    have HB : Hid (Blk _ (w.heap.size + 1) 41 (actC ⟨(k : Nat), ⟨(k : Nat), (x, y), (0, 0), 0, l⟩, 0, 0, Cf.zero⟩ (.slice p1 n1 k1) (.slice p2 n2 k2) (.slice p3 n3 k3))) := Lib.hid Hl8.out.loc
    have Hth := Lib.hid (Hl8.out.res.there 0 42 (by simp))
    go_wp2_with (first | ((with_reducible refine wpList_store_mid ?g5_48 35 ?x5_48 ?y5_48 ?o5_48 w7.heap.size 0 (lookC l (.slice p1 n1 k1) (.slice p2 n2 k2) (.slice p3 n3 k3)) ?h5_48 ?j5_48 ?t5_48 ?i5_48 ?s5_48 ?r5_48); (case g5_48 => exact rfl); (case o5_48 => exact rfl); (case h5_48 => exact rfl); (case j5_48 => exact rfl); (case t5_48 => exact Hbx.out.2.2); (case i5_48 => exact size_look); (case s5_48 => exact lookC_one _ _ _ _ _ _ _ _ _ _)) | ((with_reducible refine wpList_load_row ?g5_49 35 ?x5_49 ?o5_49 w7.heap.size ?h5_49 ?t5_49 ?c5_49 ?f5_49 ?d5_49 ?b5_49 ?u5_49 ?s5_49 ?i5_49 ?r5_49); (case g5_49 => exact rfl); (case o5_49 => exact rfl); (case h5_49 => exact rfl); (case b5_49 => exact Hbx.out.2.1); (case u5_49 => exact Try.underlying35); (case s5_49 => exact rfl); (case i5_49 => exact size_look)) | ((with_reducible refine wpList_store_mid ?g5_50 35 ?x5_50 ?y5_50 ?o5_50 (w.heap.size + 1) 7 (lookC l (.slice p1 n1 k1) (.slice p2 n2 k2) (.slice p3 n3 k3)) ?h5_50 ?j5_50 ?t5_50 ?i5_50 ?s5_50 ?r5_50); (case g5_50 => exact rfl); (case o5_50 => exact rfl); (case h5_50 => exact rfl); (case j5_50 => exact rfl); (case t5_50 => exact Htl.out); (case i5_50 => exact size_look); (case s5_50 => exact lookC_one _ _ _ _ _ _ _ _ _ _)) | ((with_reducible refine wpList_load_row ?g1_51 41 ?x1_51 ?o1_51 (w.heap.size + 1) ?h1_51 ?t1_51 ?c1_51 ?f1_51 ?d1_51 ?b1_51 ?u1_51 ?s1_51 ?i1_51 ?r1_51); (case g1_51 => exact rfl); (case o1_51 => exact rfl); (case h1_51 => exact rfl); (case b1_51 => exact HB.out); (case u1_51 => exact Try.underlying41); (case s1_51 => exact rfl); (case i1_51 => exact size_act)) | ((with_reducible refine wpList_store_mid ?g2_51 41 ?x2_51 ?y2_51 ?o2_51 w.heap.size 0 (actC ⟨(k : Nat), ⟨(k : Nat), (x, y), (0, 0), 0, l⟩, 0, 0, Cf.zero⟩ (.slice p1 n1 k1) (.slice p2 n2 k2) (.slice p3 n3 k3)) ?h2_51 ?j2_51 ?t2_51 ?i2_51 ?s2_51 ?r2_51); (case g2_51 => exact rfl); (case o2_51 => exact rfl); (case h2_51 => exact rfl); (case j2_51 => exact rfl); (case t2_51 => exact Hth.out); (case i2_51 => exact size_act); (case s2_51 => exact actC_one _ _ _ _ _ _ _ _ _ _)) | fail)
    have hd := RLoc.done (cs := actC ⟨(k : Nat), ⟨(k : Nat), (x, y), (0, 0), 0, l⟩, 0, 0, Cf.zero⟩ (.slice p1 n1 k1) (.slice p2 n2 k2) (.slice p3 n3 k3)) Hl8.out rfl
    refine bodyPost_ret (v := .tuple #[.agg (actC ⟨(k : Nat), ⟨(k : Nat), (x, y), (0, 0), 0, l⟩, 0, 0, Cf.zero⟩ (.slice p1 n1 k1) (.slice p2 n2 k2) (.slice p3 n3 k3)), .int .i64 0, .bool false]) (results_one _ _ w.heap.size (actC ⟨(k : Nat), ⟨(k : Nat), (x, y), (0, 0), 0, l⟩, 0, 0, Cf.zero⟩ (.slice p1 n1 k1) (.slice p2 n2 k2) (.slice p3 n3 k3)) rfl _ _ rfl rfl rfl hd.2.1) rfl ?_
    exact on_fail Hno.out hd.1 _ _ _ _ _ _ _ _ _ _
  rw [ht] at hp
  obtain ⟨p1, n1, k1, p2, n2, k2, p3, n3, k3, rfl, hr⟩ := hp
  have Hres : Hid (actAt bs n = some (⟨(k : Nat), ⟨(k : Nat), (x, y), (0, 0), 0, l⟩, 0, 0, Cf.zero⟩, q2)) := Lib.hid (by rw [Hact.out, ht]; rfl)
  have Hr := Lib.hid hr
  have Hs0 : Hid (w.heap.size + 1 < wB.heap.size) := Lib.hid HlA.out.loc.lt
  clear ht hr
  have Hbx := Lib.hid (box_put w7 35 LkZ (lookC l (.slice p1 n1 k1) (.slice p2 n2 k2) (.slice p3 n3 k3)) rfl)
  have Hlb := Lib.hid (Hl7.out.next Hbx.out.1)
  have Htl := Lib.hid (Hlb.out.loc.there 7 28 (by simp [actC]))
  have hl8 := Hlb.out.puts 7 (lookC l (.slice p1 n1 k1) (.slice p2 n2 k2) (.slice p3 n3 k3)).toList
  rw [setMany_actl] at hl8
  have Hl8 := Lib.hid hl8
  clear hl8
  have HB : Hid (Blk _ (w.heap.size + 1) 41 (actC ⟨(k : Nat), ⟨(k : Nat), (x, y), (0, 0), 0, l⟩, 0, 0, Cf.zero⟩ (.slice p1 n1 k1) (.slice p2 n2 k2) (.slice p3 n3 k3))) := Lib.hid Hl8.out.loc
  have Hth := Lib.hid (Hl8.out.res.there 0 42 (by simp))
  go_wp2_with (first | ((with_reducible refine wpList_store_mid ?g5_52 35 ?x5_52 ?y5_52 ?o5_52 w7.heap.size 0 (lookC l (.slice p1 n1 k1) (.slice p2 n2 k2) (.slice p3 n3 k3)) ?h5_52 ?j5_52 ?t5_52 ?i5_52 ?s5_52 ?r5_52); (case g5_52 => exact rfl); (case o5_52 => exact rfl); (case h5_52 => exact rfl); (case j5_52 => exact rfl); (case t5_52 => exact Hbx.out.2.2); (case i5_52 => exact size_look); (case s5_52 => exact lookC_one _ _ _ _ _ _ _ _ _ _)) | ((with_reducible refine wpList_load_row ?g5_53 35 ?x5_53 ?o5_53 w7.heap.size ?h5_53 ?t5_53 ?c5_53 ?f5_53 ?d5_53 ?b5_53 ?u5_53 ?s5_53 ?i5_53 ?r5_53); (case g5_53 => exact rfl); (case o5_53 => exact rfl); (case h5_53 => exact rfl); (case b5_53 => exact Hbx.out.2.1); (case u5_53 => exact Try.underlying35); (case s5_53 => exact rfl); (case i5_53 => exact size_look)) | ((with_reducible refine wpList_store_mid ?g5_54 35 ?x5_54 ?y5_54 ?o5_54 (w.heap.size + 1) 7 (lookC l (.slice p1 n1 k1) (.slice p2 n2 k2) (.slice p3 n3 k3)) ?h5_54 ?j5_54 ?t5_54 ?i5_54 ?s5_54 ?r5_54); (case g5_54 => exact rfl); (case o5_54 => exact rfl); (case h5_54 => exact rfl); (case j5_54 => exact rfl); (case t5_54 => exact Htl.out); (case i5_54 => exact size_look); (case s5_54 => exact lookC_one _ _ _ _ _ _ _ _ _ _)) | ((with_reducible refine wpList_load_row ?g1_55 41 ?x1_55 ?o1_55 (w.heap.size + 1) ?h1_55 ?t1_55 ?c1_55 ?f1_55 ?d1_55 ?b1_55 ?u1_55 ?s1_55 ?i1_55 ?r1_55); (case g1_55 => exact rfl); (case o1_55 => exact rfl); (case h1_55 => exact rfl); (case b1_55 => exact HB.out); (case u1_55 => exact Try.underlying41); (case s1_55 => exact rfl); (case i1_55 => exact size_act)) | ((with_reducible refine wpList_store_mid ?g2_55 41 ?x2_55 ?y2_55 ?o2_55 w.heap.size 0 (actC ⟨(k : Nat), ⟨(k : Nat), (x, y), (0, 0), 0, l⟩, 0, 0, Cf.zero⟩ (.slice p1 n1 k1) (.slice p2 n2 k2) (.slice p3 n3 k3)) ?h2_55 ?j2_55 ?t2_55 ?i2_55 ?s2_55 ?r2_55); (case g2_55 => exact rfl); (case o2_55 => exact rfl); (case h2_55 => exact rfl); (case j2_55 => exact rfl); (case t2_55 => exact Hth.out); (case i2_55 => exact size_act); (case s2_55 => exact actC_one _ _ _ _ _ _ _ _ _ _)) | fail)
  have hd := RLoc.done (cs := actC ⟨(k : Nat), ⟨(k : Nat), (x, y), (0, 0), 0, l⟩, 0, 0, Cf.zero⟩ (.slice p1 n1 k1) (.slice p2 n2 k2) (.slice p3 n3 k3)) Hl8.out rfl
  refine bodyPost_ret (v := .tuple #[.agg (actC ⟨(k : Nat), ⟨(k : Nat), (x, y), (0, 0), 0, l⟩, 0, 0, Cf.zero⟩ (.slice p1 n1 k1) (.slice p2 n2 k2) (.slice p3 n3 k3)), .int .i64 q2, .bool true]) (results_one _ _ w.heap.size (actC ⟨(k : Nat), ⟨(k : Nat), (x, y), (0, 0), 0, l⟩, 0, 0, Cf.zero⟩ (.slice p1 n1 k1) (.slice p2 n2 k2) (.slice p3 n3 k3)) rfl _ _ rfl rfl rfl hd.2.1) rfl ?_
  exact on_done Hres.out hd.1 (LookR.far (Hr.out.mod Hbx.out.1 (fun _ _ _ h => h)) (Mod.two hd.2.2) (by have := Hs0.out; omega) (by have := Hs0.out; omega) (by have := Hs0.out; omega))

theorem oneR_any (w : World) (pb : Option Addr) (cb : Nat) (bs : List Nat) (h : BytesAt (fun _ => True) w (.slice pb bs.length cb) bs) (hby : ∀ x ∈ bs, x < 256) (hl : bs.length ≤ 10000000) (n : Nat) (hn : n ≤ bs.length) :
    Calls Try.prog 27 #[.slice pb bs.length cb, .int .i64 n] w (OnP w bs n) := by
  by_cases hlt : n < bs.length
  case neg => exact oneR_out w pb cb bs h hby hl n hn hlt
  obtain ⟨k, hk⟩ : ∃ k, bs[n] = k := ⟨_, rfl⟩
  by_cases h15 : 14 < k
  · exact oneR_bad w pb cb bs h hby hl n hn hlt k hk h15
  by_cases hg : k = 2 ∨ 5 ≤ k ∧ k ≤ 11
  · exact oneR_gen w pb cb bs h hby hl n hn hlt k hk hg
  have : k = 0 ∨ k = 1 ∨ k = 3 ∨ k = 4 ∨ k = 12 ∨ k = 13 ∨ k = 14 := by omega
  rcases this with rfl | rfl | rfl | rfl | rfl | rfl | rfl
  · exact oneR_zero w pb cb bs h hby hl n hn hlt hk
  · exact oneR_1 w pb cb bs h hby hl n hn hlt hk
  · exact oneR_3 w pb cb bs h hby hl n hn hlt hk
  · exact oneR_4 w pb cb bs h hby hl n hn hlt hk
  · exact oneR_12 w pb cb bs h hby hl n hn hlt hk
  · exact oneR_13 w pb cb bs h hby hl n hn hlt hk
  · exact oneR_14 w pb cb bs h hby hl n hn hlt hk

end Go.Proofs.Ytnamnmipgpcjjaa

