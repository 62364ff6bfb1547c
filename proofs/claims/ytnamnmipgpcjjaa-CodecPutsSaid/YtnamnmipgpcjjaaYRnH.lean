/- Texts of the codec's proofs, laid together: RnH. -/
import Derived.Test.YtnamnmipgpcjjaaYRnG
set_option linter.unusedSimpArgs false
set_option linter.unusedVariables false
set_option linter.unusedSectionVars false
set_option linter.constructorNameAsVariable false

/- Acts as bytes: the document's acts. -/
namespace Go.Proofs.Ytnamnmipgpcjjaa
open Go.RowKit Go.Gou

set_option linter.constructorNameAsVariable false
set_option maxRecDepth 100000

set_option maxHeartbeats 4000000 in
theorem oneR_1 (w : World) (pb : Option Addr) (cb : Nat) (bs : List Nat) (h : BytesAt (fun _ => True) w (.slice pb bs.length cb) bs) (hby : ∀ x ∈ bs, x < 256) (hl : bs.length ≤ 10000000) (n : Nat) (hn : n ≤ bs.length) (hlt : n < bs.length) (hbk : bs[n] = 1) :
    Calls Try.prog 27 #[.slice pb bs.length cb, .int .i64 n] w (OnP w bs n) := by
  have H := Lib.hid h
  have Hby := Lib.hid hby
  clear h hby
  have t0 : decide ((bs.length : Int) ≤ (n : Int)) = false := decide_eq_false (by omega)
  have t0' : decide (bs.length ≤ n) = false := decide_eq_false (by omega)
  obtain ⟨-, b, o, rfl, hb, -, hc⟩ := H.out.celz (by omega)
  have Hcw : Hid (w.cell? ⟨b, o + n, none⟩ = some (.int .u8 1)) := Lib.hid (by
    have := hc n hlt
    rw [hbk] at this
    exact this)
  have hni : (n : Int) < (bs.length : Int) := by omega
  have Hb := Lib.hid hb
  clear hc hb
  have Hbk := Lib.hid hbk
  clear hbk
  go_enter Try.func27, Try.ntmps27
  go_wp2_with (first | ((with_reducible refine wpList_buildTo ?g7 41 ?p7 ?o7 ?d7 ?e7 (AcZ) ?f7 ?r7); (case g7 | o7 | e7 => exact rfl); (case f7 => kernel_rfl)) | ((with_reducible refine wpList_store_mid ?g8 41 ?x8 ?y8 ?o8 (w.heap.size + 1) 0 (AcZ) ?h8 ?j8 ?t8 ?i8 ?s8 ?r8); (case g8 | o8 | h8 | j8 => exact rfl); (case t8 => exact there_act w); (case i8 => exact size_act); (case s8 => exact oneR_act); (have Hl0 := Lib.hid (start_act w)); (generalize ((w.alloc (.cells AcZ 41)).alloc (.cells AcZ 41)).setCells (w.heap.size + 1) 0 (AcZ).toList = w0 at *); (have hcell : w0.cell? ⟨b, o + n, none⟩ = some (.int .u8 1) := (Hl0.out.mod.cell (p := ⟨b, o + n, none⟩) Hb.out (fun h => h)).trans Hcw.out); (have cl0 : w0.cell? ⟨w.heap.size + 1, 0, none⟩ = some (.int .i64 0) := Hl0.out.loc.cell 0 rfl); (have fl0 : w0.frozen? ⟨w.heap.size + 1, 0, none⟩ = false := Hl0.out.loc.frozen 0); (have hsz : w.heap.size + 1 < w0.heap.size := Hl0.out.loc.lt); (have hne : w.heap.size + 1 ≠ w0.heap.size := Nat.ne_of_lt hsz)) | fail)
  have Hl1 : Hid (RLoc w 41 AcZ (actC ⟨1, Opr.zero, 0, 0, Cf.zero⟩ (.slice none 0 0) (.slice none 0 0) (.slice none 0 0)) ((w0.setCell ⟨w.heap.size + 1, 0, none⟩ (.int .i64 1)).alloc (.cells #[.int .i64 0, .int .i64 3, .int .i64 2, .int .i64 5, .int .i64 3, .int .i64 2, .int .i64 2, .int .i64 2, .int .i64 2, .int .i64 2, .int .i64 2, .int .i64 2, .int .i64 2, .int .i64 2] 95))) := Lib.hid ((Hl0.out.put 0 (.int .i64 1)).next (Gou.Mod.alloc _ _ _))
  generalize hW1 : ((w0.setCell ⟨w.heap.size + 1, 0, none⟩ (.int .i64 1)).alloc (.cells #[.int .i64 0, .int .i64 3, .int .i64 2, .int .i64 5, .int .i64 3, .int .i64 2, .int .i64 2, .int .i64 2, .int .i64 2, .int .i64 2, .int .i64 2, .int .i64 2, .int .i64 2, .int .i64 2] 95)) = w1 at *
  clear hW1 hcell cl0 fl0 hsz hne
  rw [show (n : Int) + 1 = ((n + 1 : Nat) : Int) from by push_cast; rfl]
  refine (numbersR_any w1 (some ⟨b, o, none⟩) cb bs (H.out.mod Hl1.out.mod (fun _ _ _ h => h)) Hby.out hl (n + 1) 3 (by omega) (by omega)).mono ?_
  rintro e w2 ⟨hm2, hp⟩
  have Hl2 := Lib.hid (Hl1.out.next hm2)
  clear hm2
  have ck : w2.cell? ⟨w.heap.size + 1, 0, none⟩ = some (.int .i64 1) := Hl2.out.loc.cell 0 rfl
  rcases ht : timesAt (numAt bs) (n + 1) 3 with _ | ⟨xs, q⟩
  · rw [ht] at hp
    subst hp
    have Hno : Hid (actAt bs n = none) := Lib.hid (by rw [act_opr hlt Hbk.out (by omega) (by omega)]; exact congrArg (Option.bind · _) (opr1_none ht))
    clear ht
    have HB : Hid (Blk _ (w.heap.size + 1) 41 (actC ⟨1, Opr.zero, 0, 0, Cf.zero⟩ (.slice none 0 0) (.slice none 0 0) (.slice none 0 0))) := Lib.hid Hl2.out.loc
    have Hth := Lib.hid (Hl2.out.res.there 0 42 (by simp))
    go_wp2_with (first | ((with_reducible refine wpList_load_row ?g_4 41 ?x_4 ?o_4 (w.heap.size + 1) ?h_4 ?t_4 ?c_4 ?f_4 ?d_4 ?b_4 ?u_4 ?s_4 ?i_4 ?r_4); (case g_4 | o_4 | h_4 => exact rfl); (case b_4 => exact HB.out); (case u_4 => exact Try.underlying41); (case s_4 => exact rfl); (case i_4 => exact size_act)) | ((with_reducible refine wpList_store_mid ?g2_4 41 ?x2_4 ?y_4 ?o2_4 w.heap.size 0 (actC ⟨1, Opr.zero, 0, 0, Cf.zero⟩ (.slice none 0 0) (.slice none 0 0) (.slice none 0 0)) ?h2_4 ?j_4 ?t2_4 ?i2_4 ?s2_4 ?r2_4); (case g2_4 | o2_4 | h2_4 | j_4 => exact rfl); (case t2_4 => exact Hth.out); (case i2_4 => exact size_act); (case s2_4 => exact actC_one _ _ _ _ _ _ _ _ _ _)) | fail)
    have hd := RLoc.done (cs := actC ⟨1, Opr.zero, 0, 0, Cf.zero⟩ (.slice none 0 0) (.slice none 0 0) (.slice none 0 0)) Hl2.out rfl
    refine bodyPost_ret (v := .tuple #[.agg (actC ⟨1, Opr.zero, 0, 0, Cf.zero⟩ (.slice none 0 0) (.slice none 0 0) (.slice none 0 0)), .int .i64 0, .bool false]) (results_one _ _ w.heap.size (actC ⟨1, Opr.zero, 0, 0, Cf.zero⟩ (.slice none 0 0) (.slice none 0 0) (.slice none 0 0)) rfl _ _ rfl rfl rfl hd.2.1) rfl ?_
    exact on_fail Hno.out hd.1 _ _ _ _ _ _ _ _ _ _
  rw [ht] at hp
  obtain ⟨p, c, rfl, hown, hxl⟩ := hp
  obtain ⟨x, y, z, rfl⟩ := times_three ht
  obtain ⟨g2, rfl, hg0, hg1, hc⟩ := own_ints hown (by omega)
  have hq : q ≤ bs.length := (times_spec (num_spec Hby.out) 3).end_le ht (by omega)
  have hng : w.heap.size + 1 ≠ g2 := by have := Hl1.out.loc.lt; omega
  have c0 : w2.cell? ⟨g2, 0, none⟩ = some (.int .i64 x) := hc 0 (by simp)
  have c1 : w2.cell? ⟨g2, 1, none⟩ = some (.int .i64 y) := hc 1 (by simp)
  have c2 : w2.cell? ⟨g2, 2, none⟩ = some (.int .i64 z) := hc 2 (by simp)
  have Ht := Lib.hid ht
  clear hc hown hxl hg0 ht
  have cl1 : w2.cell? ⟨w.heap.size + 1, 1, none⟩ = some (.int .i64 0) := Hl2.out.loc.cell 1 rfl
  have fl1 : w2.frozen? ⟨w.heap.size + 1, 1, none⟩ = false := Hl2.out.loc.frozen 1
  go_wp2_with fail
  have Hl3 := Lib.hid (Hl2.out.put 1 (.int .i64 1))
  have d0 : (w2.setCell ⟨w.heap.size + 1, 1, none⟩ (.int .i64 1)).cell? ⟨g2, 0, none⟩ = some (.int .i64 x) := ((Gou.Mod.setCell _ ⟨w.heap.size + 1, 1, none⟩ _).cell (p := ⟨g2, 0, none⟩) hg1 (by simp; omega)).trans c0
  have d1 : (w2.setCell ⟨w.heap.size + 1, 1, none⟩ (.int .i64 1)).cell? ⟨g2, 1, none⟩ = some (.int .i64 y) := ((Gou.Mod.setCell _ ⟨w.heap.size + 1, 1, none⟩ _).cell (p := ⟨g2, 1, none⟩) hg1 (by simp; omega)).trans c1
  have d2 : (w2.setCell ⟨w.heap.size + 1, 1, none⟩ (.int .i64 1)).cell? ⟨g2, 2, none⟩ = some (.int .i64 z) := ((Gou.Mod.setCell _ ⟨w.heap.size + 1, 1, none⟩ _).cell (p := ⟨g2, 2, none⟩) hg1 (by simp; omega)).trans c2
  have hg3 : g2 < (w2.setCell ⟨w.heap.size + 1, 1, none⟩ (.int .i64 1)).heap.size := by simpa using hg1
  generalize (w2.setCell ⟨w.heap.size + 1, 1, none⟩ (.int .i64 1)) = w3 at *
  clear c0 c1 c2 ck cl1 fl1 hg1
  have HS : Hid (∀ w' : World, Gou.Mod (fun _ => False) w3 w' → w'.cell? ⟨g2, 0, none⟩ = some (.int .i64 x) ∧ w'.cell? ⟨g2, 1, none⟩ = some (.int .i64 y) ∧ w'.cell? ⟨g2, 2, none⟩ = some (.int .i64 z)) := Lib.hid (fun w' hm => ⟨(hm.cell (p := ⟨g2, 0, none⟩) hg3 (fun h => h)).trans d0, (hm.cell (p := ⟨g2, 1, none⟩) hg3 (fun h => h)).trans d1, (hm.cell (p := ⟨g2, 2, none⟩) hg3 (fun h => h)).trans d2⟩)
  clear d0 d1 d2
  have Hg3 := Lib.hid hg3
  clear hg3
  refine wp_region_held_drew (S := fun w' => Gou.Mod (fun _ => False) w3 w') (by kernel_rfl) (Gou.Mod.drew _ _) (fun hHeld => ?_)
  refine wpAnyH_take (i := 0) (oi := ({ dst := some 123, op := Op.move (Operand.tmp 9), type := 72, pos := "ref.go:240", after := #[], guard := none } : Oper)) (v := .slice (some ⟨g2, 0, none⟩) 3 c) rfl (by kernel_rfl) (by kernel_rfl) (by kernel_rfl) (fun _ _ _ h => h) (Or.inl ⟨by rfl, ?_⟩) hHeld ?_
  · (intro w' hSw; (try dsimp only at hSw); obtain ⟨s0, s1, s2⟩ := HS.out w' hSw; clear hSw; go_simp; (try with_reducible rfl))
  try simp only [Act.put, uSa, uSb, uSc]
  refine wpAnyH_take (i := 1) (oi := ({ dst := some 124, op := Op.indexAddr 72 (Operand.tmp 123) (Operand.const (Value.int IntKind.i64 0)), type := 0, pos := "ref.go:240", after := #[gD 0], guard := none } : Oper)) (v := .pointer (some ⟨g2, 0, none⟩)) rfl (by kernel_rfl) (by kernel_rfl) (by kernel_rfl) (fun _ _ _ h => h) (Or.inl ⟨by rfl, ?_⟩) hHeld ?_
  · (intro w' hSw; (try dsimp only at hSw); obtain ⟨s0, s1, s2⟩ := HS.out w' hSw; clear hSw; go_simp; (try with_reducible rfl))
  try simp only [Act.put, uSa, uSb, uSc]
  refine wpAnyH_take (i := 2) (oi := ({ dst := some 125, op := Op.load 3 (Operand.tmp 124), type := 3, pos := "ref.go:240", after := #[gD 1], guard := none } : Oper)) (v := .int .i64 x) rfl (by kernel_rfl) (by kernel_rfl) (by kernel_rfl) (fun _ _ _ h => h) (Or.inl ⟨by rfl, ?_⟩) hHeld ?_
  · (intro w' hSw; (try dsimp only at hSw); obtain ⟨s0, s1, s2⟩ := HS.out w' hSw; clear hSw; go_simp; (try with_reducible rfl))
  try simp only [Act.put, uSa, uSb, uSc]
  refine wpAnyH_take (i := 3) (oi := ({ dst := some 126, op := Op.move (Operand.tmp 9), type := 72, pos := "ref.go:240", after := #[], guard := none } : Oper)) (v := .slice (some ⟨g2, 0, none⟩) 3 c) rfl (by kernel_rfl) (by kernel_rfl) (by kernel_rfl) (fun _ _ _ h => h) (Or.inl ⟨by rfl, ?_⟩) hHeld ?_
  · (intro w' hSw; (try dsimp only at hSw); obtain ⟨s0, s1, s2⟩ := HS.out w' hSw; clear hSw; go_simp; (try with_reducible rfl))
  try simp only [Act.put, uSa, uSb, uSc]
  refine wpAnyH_take (i := 4) (oi := ({ dst := some 127, op := Op.indexAddr 72 (Operand.tmp 126) (Operand.const (Value.int IntKind.i64 1)), type := 0, pos := "ref.go:240", after := #[gD 3], guard := none } : Oper)) (v := .pointer (some ⟨g2, 1, none⟩)) rfl (by kernel_rfl) (by kernel_rfl) (by kernel_rfl) (fun _ _ _ h => h) (Or.inl ⟨by rfl, ?_⟩) hHeld ?_
  · (intro w' hSw; (try dsimp only at hSw); obtain ⟨s0, s1, s2⟩ := HS.out w' hSw; clear hSw; go_simp; (try with_reducible rfl))
  try simp only [Act.put, uSa, uSb, uSc]
  refine wpAnyH_take (i := 5) (oi := ({ dst := some 128, op := Op.load 3 (Operand.tmp 127), type := 3, pos := "ref.go:240", after := #[gD 4], guard := none } : Oper)) (v := .int .i64 y) rfl (by kernel_rfl) (by kernel_rfl) (by kernel_rfl) (fun _ _ _ h => h) (Or.inl ⟨by rfl, ?_⟩) hHeld ?_
  · (intro w' hSw; (try dsimp only at hSw); obtain ⟨s0, s1, s2⟩ := HS.out w' hSw; clear hSw; go_simp; (try with_reducible rfl))
  try simp only [Act.put, uSa, uSb, uSc]
  refine wpAnyH_take (i := 6) (oi := ({ dst := some 129, op := Op.build 23 #[(0, Operand.tmp 125), (1, Operand.tmp 128)], type := 23, pos := "ref.go:240", after := #[gD 2, gD 5], guard := none } : Oper)) (v := .agg #[.int .i64 x, .int .i64 y]) rfl (by kernel_rfl) (by kernel_rfl) (by kernel_rfl) (fun _ _ _ h => h) (Or.inl ⟨by rfl, ?_⟩) hHeld ?_
  · (intro w' hSw; (try dsimp only at hSw); obtain ⟨s0, s1, s2⟩ := HS.out w' hSw; clear hSw; go_simp; (try with_reducible rfl))
  try simp only [Act.put, uSa, uSb, uSc]
  refine wpAnyH_ready (rs := [7]) (by kernel_rfl) (by simp) (AllReadyH.cons (o := ({ dst := some 11, op := Op.alloc 23, type := 0, pos := "ref.go:240", after := #[], guard := none } : Oper)) rfl (fun K9 hK => ?_) AllReadyH.nil)
  go_simp
  have BA : Blk ((w3.alloc (.cells #[.int .i64 0, .int .i64 0] 23)).drew) w3.heap.size 23 #[.int .i64 0, .int .i64 0] := (show Blk (w3.alloc (.cells #[.int .i64 0, .int .i64 0] 23)) w3.heap.size 23 _ from heap_alloc_new w3 _).mod (Gou.Mod.drew (fun _ => False) _) (fun h => h)
  have MA : Gou.Mod (fun _ => False) w3 ((w3.alloc (.cells #[.int .i64 0, .int .i64 0] 23)).drew) := (Gou.Mod.alloc _ _ _).trans' (Gou.Mod.drew _ _)
  clear hHeld
  refine hK _ _ MA (fun hHeld => ?_)
  clear hK K9
  try simp only [Act.put, uSa, uSb, uSc]
  clear hHeld
  have hA : ∃ wA, wA = ((w3.alloc (.cells #[.int .i64 0, .int .i64 0] 23)).drew) := ⟨_, rfl⟩
  obtain ⟨wA, hA⟩ := hA
  rw [← hA] at MA BA ⊢
  clear hA
  have hHeld := MA
  have ia0 : wA.cell? ⟨w3.heap.size, 0, none⟩ = some (.int .i64 0) := BA.cell 0 rfl
  have ia1 : wA.cell? ⟨w3.heap.size, 1, none⟩ = some (.int .i64 0) := BA.cell 1 rfl
  have ja0 : wA.frozen? ⟨w3.heap.size, 0, none⟩ = false := BA.frozen 0
  have ja1 : wA.frozen? ⟨w3.heap.size, 1, none⟩ = false := BA.frozen 1
  refine wpAnyH_ready (rs := [8]) (by kernel_rfl) (by simp) (AllReadyH.cons (o := ({ dst := none, op := Op.store 23 (Operand.tmp 11) (Operand.tmp 129), type := 0, pos := "ref.go:240", after := #[gD 7, gD 6, gP 0, gP 1, gP 2, gP 3, gP 4, gP 5, gP 6, gP 7], guard := none } : Oper)) rfl (fun K9 hK => ?_) AllReadyH.nil)
  go_simp
  have MB := id_box MA BA x y
  clear hHeld ia0 ia1 ja0 ja1
  refine hK _ _ MB.1 (fun hHeld => ?_)
  clear hK K9
  try simp only [Act.put, uSa, uSb, uSc]
  refine wpAnyH_done (by kernel_rfl) ?_ _
  clear hHeld
  have hA : ∃ w5, w5 = ((wA.setCell ⟨w3.heap.size, 0, none⟩ (.int .i64 x)).setCell ⟨w3.heap.size, 1, none⟩ (.int .i64 y)) := ⟨_, rfl⟩
  obtain ⟨w5, hA⟩ := hA
  rw [← hA] at MB ⊢
  clear hA MA BA
  have hD : w3.heap.size ≠ w.heap.size + 1 := by have := Hl3.out.loc.lt; omega
  have hl5 := Hl3.out.next MB.1
  have Hg5 : Hid (g2 < w5.heap.size) := Lib.hid (Nat.lt_of_lt_of_le Hg3.out MB.1.size)
  obtain ⟨d0, d1, d2⟩ := HS.out w5 MB.1
  have ib0 : w5.cell? ⟨w3.heap.size, 0, none⟩ = some (.int .i64 x) := MB.2.cell 0 rfl
  have ib1 : w5.cell? ⟨w3.heap.size, 1, none⟩ = some (.int .i64 y) := MB.2.cell 1 rfl
  have ck : w5.cell? ⟨w.heap.size + 1, 0, none⟩ = some (.int .i64 1) := hl5.loc.cell 0 rfl
  have cl4 : w5.cell? ⟨w.heap.size + 1, 4, none⟩ = some (.int .i64 0) := hl5.loc.cell 4 rfl
  have fl4 : w5.frozen? ⟨w.heap.size + 1, 4, none⟩ = false := hl5.loc.frozen 4
  have cl5 : w5.cell? ⟨w.heap.size + 1, 5, none⟩ = some (.int .i64 0) := hl5.loc.cell 5 rfl
  have fl5 : w5.frozen? ⟨w.heap.size + 1, 5, none⟩ = false := hl5.loc.frozen 5
  have cl6 : w5.cell? ⟨w.heap.size + 1, 6, none⟩ = some (.int .i64 0) := hl5.loc.cell 6 rfl
  have fl6 : w5.frozen? ⟨w.heap.size + 1, 6, none⟩ = false := hl5.loc.frozen 6
  have Hl5 := Lib.hid hl5
  clear hl5 MB HS
  generalize w3.heap.size = D at *
  go_wp2_with fail
  have HlA : Hid (RLoc w 41 AcZ (actC ⟨1, ⟨1, (0, 0), (x, y), z, Lk.zero⟩, 0, 0, Cf.zero⟩ (.slice none 0 0) (.slice none 0 0) (.slice none 0 0)) (((w5.setCell ⟨w.heap.size + 1, 4, none⟩ (.int .i64 x)).setCell ⟨w.heap.size + 1, 5, none⟩ (.int .i64 y)).setCell ⟨w.heap.size + 1, 6, none⟩ (.int .i64 z))) := Lib.hid (Hl5.out.puts 4 [.int .i64 x, .int .i64 y, .int .i64 z])
  clear d0 d1 d2 cl4 cl5 cl6 fl4 fl5 fl6 ib0 ib1 ck
  have hA : ∃ wB, wB = (((w5.setCell ⟨w.heap.size + 1, 4, none⟩ (.int .i64 x)).setCell ⟨w.heap.size + 1, 5, none⟩ (.int .i64 y)).setCell ⟨w.heap.size + 1, 6, none⟩ (.int .i64 z)) := ⟨_, rfl⟩
  obtain ⟨wB, hA⟩ := hA
  rw [← hA] at HlA ⊢
  clear hA
  have Hact : Hid (actAt bs n = (lookAt bs q 1).bind fun l => some (⟨1, ⟨1, (0, 0), (x, y), z, l.1⟩, 0, 0, Cf.zero⟩, l.2)) := Lib.hid (by
    rw [act_opr hlt Hbk.out (by omega) (by omega)]
    refine (congrArg (Option.bind · _) (opr1 Ht.out)).trans ?_
    cases lookAt bs q 1 <;> rfl)
  refine (lookR_low wB (some ⟨b, o, none⟩) cb bs (H.out.mod HlA.out.mod (fun _ _ _ h => h)) Hby.out hl q hq 1 (by omega)).mono ?_
  rintro e w7 ⟨hm7, hp⟩
  have Hl7 := Lib.hid (HlA.out.next hm7)
  clear hm7
  rcases ht : lookAt bs q 1 with _ | ⟨l, q2⟩
  · rw [ht] at hp
    obtain ⟨l, p1, n1, k1, p2, n2, k2, p3, n3, k3, rfl⟩ := hp
    have Hno : Hid (actAt bs n = none) := Lib.hid (by rw [Hact.out, ht]; rfl)
    clear ht
    have Hbx := Lib.hid (box_put w7 35 LkZ (lookC l (.slice p1 n1 k1) (.slice p2 n2 k2) (.slice p3 n3 k3)) rfl)
    have Hlb := Lib.hid (Hl7.out.next Hbx.out.1)
    have Htl := Lib.hid (Hlb.out.loc.there 7 28 (by simp [actC]))
    have hl8 := Hlb.out.puts 7 (lookC l (.slice p1 n1 k1) (.slice p2 n2 k2) (.slice p3 n3 k3)).toList
    rw [setMany_actl] at hl8
    have Hl8 := Lib.hid hl8
    clear hl8
    have HB : Hid (Blk _ (w.heap.size + 1) 41 (actC ⟨1, ⟨1, (0, 0), (x, y), z, l⟩, 0, 0, Cf.zero⟩ (.slice p1 n1 k1) (.slice p2 n2 k2) (.slice p3 n3 k3))) := Lib.hid Hl8.out.loc
    have Hth := Lib.hid (Hl8.out.res.there 0 42 (by simp))
    go_wp2_with (first | ((with_reducible refine wpList_store_mid ?g_5 35 ?x_5 ?y_5 ?o_5 w7.heap.size 0 (lookC l (.slice p1 n1 k1) (.slice p2 n2 k2) (.slice p3 n3 k3)) ?h_5 ?j_5 ?t_5 ?i_5 ?s_5 ?r_5); (case g_5 | o_5 | h_5 | j_5 => exact rfl); (case t_5 => exact Hbx.out.2.2); (case i_5 => exact size_look); (case s_5 => exact lookC_one _ _ _ _ _ _ _ _ _ _)) | ((with_reducible refine wpList_load_row ?g_6 35 ?x_6 ?o_6 w7.heap.size ?h_6 ?t_6 ?c_6 ?f_6 ?d_6 ?b_6 ?u_6 ?s_6 ?i_6 ?r_6); (case g_6 | o_6 | h_6 => exact rfl); (case b_6 => exact Hbx.out.2.1); (case u_6 => exact Try.underlying35); (case s_6 => exact rfl); (case i_6 => exact size_look)) | ((with_reducible refine wpList_store_mid ?g_7 35 ?x_7 ?y_7 ?o_7 (w.heap.size + 1) 7 (lookC l (.slice p1 n1 k1) (.slice p2 n2 k2) (.slice p3 n3 k3)) ?h_7 ?j_7 ?t_7 ?i_7 ?s_7 ?r_7); (case g_7 | o_7 | h_7 | j_7 => exact rfl); (case t_7 => exact Htl.out); (case i_7 => exact size_look); (case s_7 => exact lookC_one _ _ _ _ _ _ _ _ _ _)) | ((with_reducible refine wpList_load_row ?g_8 41 ?x_8 ?o_8 (w.heap.size + 1) ?h_8 ?t_8 ?c_8 ?f_8 ?d_8 ?b_8 ?u_8 ?s_8 ?i_8 ?r_8); (case g_8 | o_8 | h_8 => exact rfl); (case b_8 => exact HB.out); (case u_8 => exact Try.underlying41); (case s_8 => exact rfl); (case i_8 => exact size_act)) | ((with_reducible refine wpList_store_mid ?g2_8 41 ?x2_8 ?y_8 ?o2_8 w.heap.size 0 (actC ⟨1, ⟨1, (0, 0), (x, y), z, l⟩, 0, 0, Cf.zero⟩ (.slice p1 n1 k1) (.slice p2 n2 k2) (.slice p3 n3 k3)) ?h2_8 ?j_8 ?t2_8 ?i2_8 ?s2_8 ?r2_8); (case g2_8 | o2_8 | h2_8 | j_8 => exact rfl); (case t2_8 => exact Hth.out); (case i2_8 => exact size_act); (case s2_8 => exact actC_one _ _ _ _ _ _ _ _ _ _)) | fail)
    have hd := RLoc.done (cs := actC ⟨1, ⟨1, (0, 0), (x, y), z, l⟩, 0, 0, Cf.zero⟩ (.slice p1 n1 k1) (.slice p2 n2 k2) (.slice p3 n3 k3)) Hl8.out rfl
    refine bodyPost_ret (v := .tuple #[.agg (actC ⟨1, ⟨1, (0, 0), (x, y), z, l⟩, 0, 0, Cf.zero⟩ (.slice p1 n1 k1) (.slice p2 n2 k2) (.slice p3 n3 k3)), .int .i64 0, .bool false]) (results_one _ _ w.heap.size (actC ⟨1, ⟨1, (0, 0), (x, y), z, l⟩, 0, 0, Cf.zero⟩ (.slice p1 n1 k1) (.slice p2 n2 k2) (.slice p3 n3 k3)) rfl _ _ rfl rfl rfl hd.2.1) rfl ?_
    exact on_fail Hno.out hd.1 _ _ _ _ _ _ _ _ _ _
  rw [ht] at hp
  obtain ⟨p1, n1, k1, p2, n2, k2, p3, n3, k3, rfl, hr⟩ := hp
  have Hres : Hid (actAt bs n = some (⟨1, ⟨1, (0, 0), (x, y), z, l⟩, 0, 0, Cf.zero⟩, q2)) := Lib.hid (by rw [Hact.out, ht]; rfl)
  have Hr := Lib.hid hr
  have Hs0 : Hid (w.heap.size + 1 < wB.heap.size) := Lib.hid HlA.out.loc.lt
  clear ht hr
  have Hbx := Lib.hid (box_put w7 35 LkZ (lookC l (.slice p1 n1 k1) (.slice p2 n2 k2) (.slice p3 n3 k3)) rfl)
  have Hlb := Lib.hid (Hl7.out.next Hbx.out.1)
  have Htl := Lib.hid (Hlb.out.loc.there 7 28 (by simp [actC]))
  have hl8 := Hlb.out.puts 7 (lookC l (.slice p1 n1 k1) (.slice p2 n2 k2) (.slice p3 n3 k3)).toList
  rw [setMany_actl] at hl8
  have Hl8 := Lib.hid hl8
  clear hl8
  have HB : Hid (Blk _ (w.heap.size + 1) 41 (actC ⟨1, ⟨1, (0, 0), (x, y), z, l⟩, 0, 0, Cf.zero⟩ (.slice p1 n1 k1) (.slice p2 n2 k2) (.slice p3 n3 k3))) := Lib.hid Hl8.out.loc
  have Hth := Lib.hid (Hl8.out.res.there 0 42 (by simp))
  go_wp2_with (first | ((with_reducible refine wpList_store_mid ?g_9 35 ?x_9 ?y_9 ?o_9 w7.heap.size 0 (lookC l (.slice p1 n1 k1) (.slice p2 n2 k2) (.slice p3 n3 k3)) ?h_9 ?j_9 ?t_9 ?i_9 ?s_9 ?r_9); (case g_9 | o_9 | h_9 | j_9 => exact rfl); (case t_9 => exact Hbx.out.2.2); (case i_9 => exact size_look); (case s_9 => exact lookC_one _ _ _ _ _ _ _ _ _ _)) | ((with_reducible refine wpList_load_row ?g_a 35 ?x_a ?o_a w7.heap.size ?h_a ?t_a ?c_a ?f_a ?d_a ?b_a ?u_a ?s_a ?i_a ?r_a); (case g_a | o_a | h_a => exact rfl); (case b_a => exact Hbx.out.2.1); (case u_a => exact Try.underlying35); (case s_a => exact rfl); (case i_a => exact size_look)) | ((with_reducible refine wpList_store_mid ?g_b 35 ?x_b ?y_b ?o_b (w.heap.size + 1) 7 (lookC l (.slice p1 n1 k1) (.slice p2 n2 k2) (.slice p3 n3 k3)) ?h_b ?j_b ?t_b ?i_b ?s_b ?r_b); (case g_b | o_b | h_b | j_b => exact rfl); (case t_b => exact Htl.out); (case i_b => exact size_look); (case s_b => exact lookC_one _ _ _ _ _ _ _ _ _ _)) | ((with_reducible refine wpList_load_row ?g_c 41 ?x_c ?o_c (w.heap.size + 1) ?h_c ?t_c ?c_c ?f_c ?d_c ?b_c ?u_c ?s_c ?i_c ?r_c); (case g_c | o_c | h_c => exact rfl); (case b_c => exact HB.out); (case u_c => exact Try.underlying41); (case s_c => exact rfl); (case i_c => exact size_act)) | ((with_reducible refine wpList_store_mid ?g2_c 41 ?x2_c ?y_c ?o2_c w.heap.size 0 (actC ⟨1, ⟨1, (0, 0), (x, y), z, l⟩, 0, 0, Cf.zero⟩ (.slice p1 n1 k1) (.slice p2 n2 k2) (.slice p3 n3 k3)) ?h2_c ?j_c ?t2_c ?i2_c ?s2_c ?r2_c); (case g2_c | o2_c | h2_c | j_c => exact rfl); (case t2_c => exact Hth.out); (case i2_c => exact size_act); (case s2_c => exact actC_one _ _ _ _ _ _ _ _ _ _)) | fail)
  have hd := RLoc.done (cs := actC ⟨1, ⟨1, (0, 0), (x, y), z, l⟩, 0, 0, Cf.zero⟩ (.slice p1 n1 k1) (.slice p2 n2 k2) (.slice p3 n3 k3)) Hl8.out rfl
  refine bodyPost_ret (v := .tuple #[.agg (actC ⟨1, ⟨1, (0, 0), (x, y), z, l⟩, 0, 0, Cf.zero⟩ (.slice p1 n1 k1) (.slice p2 n2 k2) (.slice p3 n3 k3)), .int .i64 q2, .bool true]) (results_one _ _ w.heap.size (actC ⟨1, ⟨1, (0, 0), (x, y), z, l⟩, 0, 0, Cf.zero⟩ (.slice p1 n1 k1) (.slice p2 n2 k2) (.slice p3 n3 k3)) rfl _ _ rfl rfl rfl hd.2.1) rfl ?_
  exact on_done Hres.out hd.1 (LookR.far (Hr.out.mod Hbx.out.1 (fun _ _ _ h => h)) (Mod.two hd.2.2) (by have := Hs0.out; omega) (by have := Hs0.out; omega) (by have := Hs0.out; omega))

set_option maxHeartbeats 4000000 in
theorem oneR_3 (w : World) (pb : Option Addr) (cb : Nat) (bs : List Nat) (h : BytesAt (fun _ => True) w (.slice pb bs.length cb) bs) (hby : ∀ x ∈ bs, x < 256) (hl : bs.length ≤ 10000000) (n : Nat) (hn : n ≤ bs.length) (hlt : n < bs.length) (hbk : bs[n] = 3) :
    Calls Try.prog 27 #[.slice pb bs.length cb, .int .i64 n] w (OnP w bs n) := by
  have H := Lib.hid h
  have Hby := Lib.hid hby
  clear h hby
  have t0 : decide ((bs.length : Int) ≤ (n : Int)) = false := decide_eq_false (by omega)
  have t0' : decide (bs.length ≤ n) = false := decide_eq_false (by omega)
  obtain ⟨-, b, o, rfl, hb, -, hc⟩ := H.out.celz (by omega)
  have Hcw : Hid (w.cell? ⟨b, o + n, none⟩ = some (.int .u8 3)) := Lib.hid (by
    have := hc n hlt
    rw [hbk] at this
    exact this)
  have hni : (n : Int) < (bs.length : Int) := by omega
  have Hb := Lib.hid hb
  clear hc hb
  have Hbk := Lib.hid hbk
  clear hbk
  go_enter Try.func27, Try.ntmps27
  go_wp2_with (first | ((with_reducible refine wpList_buildTo ?g7 41 ?p7 ?o7 ?d7 ?e7 (AcZ) ?f7 ?r7); (case g7 | o7 | e7 => exact rfl); (case f7 => kernel_rfl)) | ((with_reducible refine wpList_store_mid ?g8 41 ?x8 ?y8 ?o8 (w.heap.size + 1) 0 (AcZ) ?h8 ?j8 ?t8 ?i8 ?s8 ?r8); (case g8 | o8 | h8 | j8 => exact rfl); (case t8 => exact there_act w); (case i8 => exact size_act); (case s8 => exact oneR_act); (have Hl0 := Lib.hid (start_act w)); (generalize ((w.alloc (.cells AcZ 41)).alloc (.cells AcZ 41)).setCells (w.heap.size + 1) 0 (AcZ).toList = w0 at *); (have hcell : w0.cell? ⟨b, o + n, none⟩ = some (.int .u8 3) := (Hl0.out.mod.cell (p := ⟨b, o + n, none⟩) Hb.out (fun h => h)).trans Hcw.out); (have cl0 : w0.cell? ⟨w.heap.size + 1, 0, none⟩ = some (.int .i64 0) := Hl0.out.loc.cell 0 rfl); (have fl0 : w0.frozen? ⟨w.heap.size + 1, 0, none⟩ = false := Hl0.out.loc.frozen 0); (have hsz : w.heap.size + 1 < w0.heap.size := Hl0.out.loc.lt); (have hne : w.heap.size + 1 ≠ w0.heap.size := Nat.ne_of_lt hsz)) | fail)
  have Hl1 : Hid (RLoc w 41 AcZ (actC ⟨3, Opr.zero, 0, 0, Cf.zero⟩ (.slice none 0 0) (.slice none 0 0) (.slice none 0 0)) ((w0.setCell ⟨w.heap.size + 1, 0, none⟩ (.int .i64 3)).alloc (.cells #[.int .i64 0, .int .i64 3, .int .i64 2, .int .i64 5, .int .i64 3, .int .i64 2, .int .i64 2, .int .i64 2, .int .i64 2, .int .i64 2, .int .i64 2, .int .i64 2, .int .i64 2, .int .i64 2] 95))) := Lib.hid ((Hl0.out.put 0 (.int .i64 3)).next (Gou.Mod.alloc _ _ _))
  generalize hW1 : ((w0.setCell ⟨w.heap.size + 1, 0, none⟩ (.int .i64 3)).alloc (.cells #[.int .i64 0, .int .i64 3, .int .i64 2, .int .i64 5, .int .i64 3, .int .i64 2, .int .i64 2, .int .i64 2, .int .i64 2, .int .i64 2, .int .i64 2, .int .i64 2, .int .i64 2, .int .i64 2] 95)) = w1 at *
  clear hW1 hcell cl0 fl0 hsz hne
  rw [show (n : Int) + 1 = ((n + 1 : Nat) : Int) from by push_cast; rfl]
  refine (numbersR_any w1 (some ⟨b, o, none⟩) cb bs (H.out.mod Hl1.out.mod (fun _ _ _ h => h)) Hby.out hl (n + 1) 5 (by omega) (by omega)).mono ?_
  rintro e w2 ⟨hm2, hp⟩
  have Hl2 := Lib.hid (Hl1.out.next hm2)
  clear hm2
  have ck : w2.cell? ⟨w.heap.size + 1, 0, none⟩ = some (.int .i64 3) := Hl2.out.loc.cell 0 rfl
  rcases ht : timesAt (numAt bs) (n + 1) 5 with _ | ⟨xs, q⟩
  · rw [ht] at hp
    subst hp
    have Hno : Hid (actAt bs n = none) := Lib.hid (by rw [act_opr hlt Hbk.out (by omega) (by omega)]; exact congrArg (Option.bind · _) (opr3_none ht))
    clear ht
    have HB : Hid (Blk _ (w.heap.size + 1) 41 (actC ⟨3, Opr.zero, 0, 0, Cf.zero⟩ (.slice none 0 0) (.slice none 0 0) (.slice none 0 0))) := Lib.hid Hl2.out.loc
    have Hth := Lib.hid (Hl2.out.res.there 0 42 (by simp))
    go_wp2_with (first | ((with_reducible refine wpList_load_row ?g_d 41 ?x_d ?o_d (w.heap.size + 1) ?h_d ?t_d ?c_d ?f_d ?d_d ?b_d ?u_d ?s_d ?i_d ?r_d); (case g_d | o_d | h_d => exact rfl); (case b_d => exact HB.out); (case u_d => exact Try.underlying41); (case s_d => exact rfl); (case i_d => exact size_act)) | ((with_reducible refine wpList_store_mid ?g2_d 41 ?x2_d ?y_d ?o2_d w.heap.size 0 (actC ⟨3, Opr.zero, 0, 0, Cf.zero⟩ (.slice none 0 0) (.slice none 0 0) (.slice none 0 0)) ?h2_d ?j_d ?t2_d ?i2_d ?s2_d ?r2_d); (case g2_d | o2_d | h2_d | j_d => exact rfl); (case t2_d => exact Hth.out); (case i2_d => exact size_act); (case s2_d => exact actC_one _ _ _ _ _ _ _ _ _ _)) | fail)
    have hd := RLoc.done (cs := actC ⟨3, Opr.zero, 0, 0, Cf.zero⟩ (.slice none 0 0) (.slice none 0 0) (.slice none 0 0)) Hl2.out rfl
    refine bodyPost_ret (v := .tuple #[.agg (actC ⟨3, Opr.zero, 0, 0, Cf.zero⟩ (.slice none 0 0) (.slice none 0 0) (.slice none 0 0)), .int .i64 0, .bool false]) (results_one _ _ w.heap.size (actC ⟨3, Opr.zero, 0, 0, Cf.zero⟩ (.slice none 0 0) (.slice none 0 0) (.slice none 0 0)) rfl _ _ rfl rfl rfl hd.2.1) rfl ?_
    exact on_fail Hno.out hd.1 _ _ _ _ _ _ _ _ _ _
  rw [ht] at hp
  obtain ⟨p, c, rfl, hown, hxl⟩ := hp
  obtain ⟨x, y, z, u, v, m1, m2, m3, m4, rfl, -, -, -, -, -⟩ := times_five ht
  obtain ⟨g2, rfl, hg0, hg1, hc⟩ := own_ints hown (by omega)
  have hq : q ≤ bs.length := (times_spec (num_spec Hby.out) 5).end_le ht (by omega)
  have hng : w.heap.size + 1 ≠ g2 := by have := Hl1.out.loc.lt; omega
  have c0 : w2.cell? ⟨g2, 0, none⟩ = some (.int .i64 x) := hc 0 (by simp)
  have c1 : w2.cell? ⟨g2, 1, none⟩ = some (.int .i64 y) := hc 1 (by simp)
  have c2 : w2.cell? ⟨g2, 2, none⟩ = some (.int .i64 z) := hc 2 (by simp)
  have c3 : w2.cell? ⟨g2, 3, none⟩ = some (.int .i64 u) := hc 3 (by simp)
  have c4 : w2.cell? ⟨g2, 4, none⟩ = some (.int .i64 v) := hc 4 (by simp)
  have Ht := Lib.hid ht
  clear hc hown hxl hg0 ht
  have cl1 : w2.cell? ⟨w.heap.size + 1, 1, none⟩ = some (.int .i64 0) := Hl2.out.loc.cell 1 rfl
  have fl1 : w2.frozen? ⟨w.heap.size + 1, 1, none⟩ = false := Hl2.out.loc.frozen 1
  go_wp2_with fail
  have Hl3 := Lib.hid (Hl2.out.put 1 (.int .i64 3))
  have d0 : (w2.setCell ⟨w.heap.size + 1, 1, none⟩ (.int .i64 3)).cell? ⟨g2, 0, none⟩ = some (.int .i64 x) := ((Gou.Mod.setCell _ ⟨w.heap.size + 1, 1, none⟩ _).cell (p := ⟨g2, 0, none⟩) hg1 (by simp; omega)).trans c0
  have d1 : (w2.setCell ⟨w.heap.size + 1, 1, none⟩ (.int .i64 3)).cell? ⟨g2, 1, none⟩ = some (.int .i64 y) := ((Gou.Mod.setCell _ ⟨w.heap.size + 1, 1, none⟩ _).cell (p := ⟨g2, 1, none⟩) hg1 (by simp; omega)).trans c1
  have d2 : (w2.setCell ⟨w.heap.size + 1, 1, none⟩ (.int .i64 3)).cell? ⟨g2, 2, none⟩ = some (.int .i64 z) := ((Gou.Mod.setCell _ ⟨w.heap.size + 1, 1, none⟩ _).cell (p := ⟨g2, 2, none⟩) hg1 (by simp; omega)).trans c2
  have d3 : (w2.setCell ⟨w.heap.size + 1, 1, none⟩ (.int .i64 3)).cell? ⟨g2, 3, none⟩ = some (.int .i64 u) := ((Gou.Mod.setCell _ ⟨w.heap.size + 1, 1, none⟩ _).cell (p := ⟨g2, 3, none⟩) hg1 (by simp; omega)).trans c3
  have d4 : (w2.setCell ⟨w.heap.size + 1, 1, none⟩ (.int .i64 3)).cell? ⟨g2, 4, none⟩ = some (.int .i64 v) := ((Gou.Mod.setCell _ ⟨w.heap.size + 1, 1, none⟩ _).cell (p := ⟨g2, 4, none⟩) hg1 (by simp; omega)).trans c4
  have hg3 : g2 < (w2.setCell ⟨w.heap.size + 1, 1, none⟩ (.int .i64 3)).heap.size := by simpa using hg1
  generalize (w2.setCell ⟨w.heap.size + 1, 1, none⟩ (.int .i64 3)) = w3 at *
  clear c0 c1 c2 c3 c4 ck cl1 fl1 hg1
  have HS : Hid (∀ w' : World, Gou.Mod (fun _ => False) w3 w' → w'.cell? ⟨g2, 0, none⟩ = some (.int .i64 x) ∧ w'.cell? ⟨g2, 1, none⟩ = some (.int .i64 y) ∧ w'.cell? ⟨g2, 2, none⟩ = some (.int .i64 z) ∧ w'.cell? ⟨g2, 3, none⟩ = some (.int .i64 u) ∧ w'.cell? ⟨g2, 4, none⟩ = some (.int .i64 v)) := Lib.hid (fun w' hm => ⟨(hm.cell (p := ⟨g2, 0, none⟩) hg3 (fun h => h)).trans d0, (hm.cell (p := ⟨g2, 1, none⟩) hg3 (fun h => h)).trans d1, (hm.cell (p := ⟨g2, 2, none⟩) hg3 (fun h => h)).trans d2, (hm.cell (p := ⟨g2, 3, none⟩) hg3 (fun h => h)).trans d3, (hm.cell (p := ⟨g2, 4, none⟩) hg3 (fun h => h)).trans d4⟩)
  clear d0 d1 d2 d3 d4
  have Hg3 := Lib.hid hg3
  clear hg3
  refine wp_region_held_drew (S := fun w' => Gou.Mod (fun _ => False) w3 w') (by kernel_rfl) (Gou.Mod.drew _ _) (fun hHeld => ?_)
  refine wpAnyH_take (i := 0) (oi := ({ dst := some 123, op := Op.move (Operand.tmp 9), type := 72, pos := "ref.go:240", after := #[], guard := none } : Oper)) (v := .slice (some ⟨g2, 0, none⟩) 5 c) rfl (by kernel_rfl) (by kernel_rfl) (by kernel_rfl) (fun _ _ _ h => h) (Or.inl ⟨by rfl, ?_⟩) hHeld ?_
  · (intro w' hSw; (try dsimp only at hSw); obtain ⟨s0, s1, s2, s3, s4⟩ := HS.out w' hSw; clear hSw; go_simp; (try with_reducible rfl))
  try simp only [Act.put, uSa, uSb, uSc]
  refine wpAnyH_take (i := 1) (oi := ({ dst := some 124, op := Op.indexAddr 72 (Operand.tmp 123) (Operand.const (Value.int IntKind.i64 0)), type := 0, pos := "ref.go:240", after := #[gD 0], guard := none } : Oper)) (v := .pointer (some ⟨g2, 0, none⟩)) rfl (by kernel_rfl) (by kernel_rfl) (by kernel_rfl) (fun _ _ _ h => h) (Or.inl ⟨by rfl, ?_⟩) hHeld ?_
  · (intro w' hSw; (try dsimp only at hSw); obtain ⟨s0, s1, s2, s3, s4⟩ := HS.out w' hSw; clear hSw; go_simp; (try with_reducible rfl))
  try simp only [Act.put, uSa, uSb, uSc]
  refine wpAnyH_take (i := 2) (oi := ({ dst := some 125, op := Op.load 3 (Operand.tmp 124), type := 3, pos := "ref.go:240", after := #[gD 1], guard := none } : Oper)) (v := .int .i64 x) rfl (by kernel_rfl) (by kernel_rfl) (by kernel_rfl) (fun _ _ _ h => h) (Or.inl ⟨by rfl, ?_⟩) hHeld ?_
  · (intro w' hSw; (try dsimp only at hSw); obtain ⟨s0, s1, s2, s3, s4⟩ := HS.out w' hSw; clear hSw; go_simp; (try with_reducible rfl))
  try simp only [Act.put, uSa, uSb, uSc]
  refine wpAnyH_take (i := 3) (oi := ({ dst := some 126, op := Op.move (Operand.tmp 9), type := 72, pos := "ref.go:240", after := #[], guard := none } : Oper)) (v := .slice (some ⟨g2, 0, none⟩) 5 c) rfl (by kernel_rfl) (by kernel_rfl) (by kernel_rfl) (fun _ _ _ h => h) (Or.inl ⟨by rfl, ?_⟩) hHeld ?_
  · (intro w' hSw; (try dsimp only at hSw); obtain ⟨s0, s1, s2, s3, s4⟩ := HS.out w' hSw; clear hSw; go_simp; (try with_reducible rfl))
  try simp only [Act.put, uSa, uSb, uSc]
  refine wpAnyH_take (i := 4) (oi := ({ dst := some 127, op := Op.indexAddr 72 (Operand.tmp 126) (Operand.const (Value.int IntKind.i64 1)), type := 0, pos := "ref.go:240", after := #[gD 3], guard := none } : Oper)) (v := .pointer (some ⟨g2, 1, none⟩)) rfl (by kernel_rfl) (by kernel_rfl) (by kernel_rfl) (fun _ _ _ h => h) (Or.inl ⟨by rfl, ?_⟩) hHeld ?_
  · (intro w' hSw; (try dsimp only at hSw); obtain ⟨s0, s1, s2, s3, s4⟩ := HS.out w' hSw; clear hSw; go_simp; (try with_reducible rfl))
  try simp only [Act.put, uSa, uSb, uSc]
  refine wpAnyH_take (i := 5) (oi := ({ dst := some 128, op := Op.load 3 (Operand.tmp 127), type := 3, pos := "ref.go:240", after := #[gD 4], guard := none } : Oper)) (v := .int .i64 y) rfl (by kernel_rfl) (by kernel_rfl) (by kernel_rfl) (fun _ _ _ h => h) (Or.inl ⟨by rfl, ?_⟩) hHeld ?_
  · (intro w' hSw; (try dsimp only at hSw); obtain ⟨s0, s1, s2, s3, s4⟩ := HS.out w' hSw; clear hSw; go_simp; (try with_reducible rfl))
  try simp only [Act.put, uSa, uSb, uSc]
  refine wpAnyH_take (i := 6) (oi := ({ dst := some 129, op := Op.build 23 #[(0, Operand.tmp 125), (1, Operand.tmp 128)], type := 23, pos := "ref.go:240", after := #[gD 2, gD 5], guard := none } : Oper)) (v := .agg #[.int .i64 x, .int .i64 y]) rfl (by kernel_rfl) (by kernel_rfl) (by kernel_rfl) (fun _ _ _ h => h) (Or.inl ⟨by rfl, ?_⟩) hHeld ?_
  · (intro w' hSw; (try dsimp only at hSw); obtain ⟨s0, s1, s2, s3, s4⟩ := HS.out w' hSw; clear hSw; go_simp; (try with_reducible rfl))
  try simp only [Act.put, uSa, uSb, uSc]
  refine wpAnyH_ready (rs := [7]) (by kernel_rfl) (by simp) (AllReadyH.cons (o := ({ dst := some 11, op := Op.alloc 23, type := 0, pos := "ref.go:240", after := #[], guard := none } : Oper)) rfl (fun K9 hK => ?_) AllReadyH.nil)
  go_simp
  have BA : Blk ((w3.alloc (.cells #[.int .i64 0, .int .i64 0] 23)).drew) w3.heap.size 23 #[.int .i64 0, .int .i64 0] := (show Blk (w3.alloc (.cells #[.int .i64 0, .int .i64 0] 23)) w3.heap.size 23 _ from heap_alloc_new w3 _).mod (Gou.Mod.drew (fun _ => False) _) (fun h => h)
  have MA : Gou.Mod (fun _ => False) w3 ((w3.alloc (.cells #[.int .i64 0, .int .i64 0] 23)).drew) := (Gou.Mod.alloc _ _ _).trans' (Gou.Mod.drew _ _)
  clear hHeld
  refine hK _ _ MA (fun hHeld => ?_)
  clear hK K9
  try simp only [Act.put, uSa, uSb, uSc]
  clear hHeld
  have hA : ∃ wA, wA = ((w3.alloc (.cells #[.int .i64 0, .int .i64 0] 23)).drew) := ⟨_, rfl⟩
  obtain ⟨wA, hA⟩ := hA
  rw [← hA] at MA BA ⊢
  clear hA
  have hHeld := MA
  have ia0 : wA.cell? ⟨w3.heap.size, 0, none⟩ = some (.int .i64 0) := BA.cell 0 rfl
  have ia1 : wA.cell? ⟨w3.heap.size, 1, none⟩ = some (.int .i64 0) := BA.cell 1 rfl
  have ja0 : wA.frozen? ⟨w3.heap.size, 0, none⟩ = false := BA.frozen 0
  have ja1 : wA.frozen? ⟨w3.heap.size, 1, none⟩ = false := BA.frozen 1
  refine wpAnyH_ready (rs := [8]) (by kernel_rfl) (by simp) (AllReadyH.cons (o := ({ dst := none, op := Op.store 23 (Operand.tmp 11) (Operand.tmp 129), type := 0, pos := "ref.go:240", after := #[gD 7, gD 6, gP 0, gP 1, gP 2, gP 3, gP 4, gP 5, gP 6, gP 7], guard := none } : Oper)) rfl (fun K9 hK => ?_) AllReadyH.nil)
  go_simp
  have MB := id_box MA BA x y
  clear hHeld ia0 ia1 ja0 ja1
  refine hK _ _ MB.1 (fun hHeld => ?_)
  clear hK K9
  try simp only [Act.put, uSa, uSb, uSc]
  refine wpAnyH_done (by kernel_rfl) ?_ _
  clear hHeld
  have hA : ∃ w5, w5 = ((wA.setCell ⟨w3.heap.size, 0, none⟩ (.int .i64 x)).setCell ⟨w3.heap.size, 1, none⟩ (.int .i64 y)) := ⟨_, rfl⟩
  obtain ⟨w5, hA⟩ := hA
  rw [← hA] at MB ⊢
  clear hA MA BA
  have hD : w3.heap.size ≠ w.heap.size + 1 := by have := Hl3.out.loc.lt; omega
  have hl5 := Hl3.out.next MB.1
  have Hg5 : Hid (g2 < w5.heap.size) := Lib.hid (Nat.lt_of_lt_of_le Hg3.out MB.1.size)
  obtain ⟨d0, d1, d2, d3, d4⟩ := HS.out w5 MB.1
  have ib0 : w5.cell? ⟨w3.heap.size, 0, none⟩ = some (.int .i64 x) := MB.2.cell 0 rfl
  have ib1 : w5.cell? ⟨w3.heap.size, 1, none⟩ = some (.int .i64 y) := MB.2.cell 1 rfl
  have ck : w5.cell? ⟨w.heap.size + 1, 0, none⟩ = some (.int .i64 3) := hl5.loc.cell 0 rfl
  have cl2 : w5.cell? ⟨w.heap.size + 1, 2, none⟩ = some (.int .i64 0) := hl5.loc.cell 2 rfl
  have fl2 : w5.frozen? ⟨w.heap.size + 1, 2, none⟩ = false := hl5.loc.frozen 2
  have cl3 : w5.cell? ⟨w.heap.size + 1, 3, none⟩ = some (.int .i64 0) := hl5.loc.cell 3 rfl
  have fl3 : w5.frozen? ⟨w.heap.size + 1, 3, none⟩ = false := hl5.loc.frozen 3
  have cl4 : w5.cell? ⟨w.heap.size + 1, 4, none⟩ = some (.int .i64 0) := hl5.loc.cell 4 rfl
  have fl4 : w5.frozen? ⟨w.heap.size + 1, 4, none⟩ = false := hl5.loc.frozen 4
  have cl5 : w5.cell? ⟨w.heap.size + 1, 5, none⟩ = some (.int .i64 0) := hl5.loc.cell 5 rfl
  have fl5 : w5.frozen? ⟨w.heap.size + 1, 5, none⟩ = false := hl5.loc.frozen 5
  have cl6 : w5.cell? ⟨w.heap.size + 1, 6, none⟩ = some (.int .i64 0) := hl5.loc.cell 6 rfl
  have fl6 : w5.frozen? ⟨w.heap.size + 1, 6, none⟩ = false := hl5.loc.frozen 6
  have Hl5 := Lib.hid hl5
  clear hl5 MB HS
  generalize w3.heap.size = D at *
  go_wp2_with fail
  have hg5 := Hg5.out
  have e2 : ((w5.setCell ⟨w.heap.size + 1, 2, none⟩ (.int .i64 x)).setCell ⟨w.heap.size + 1, 3, none⟩ (.int .i64 y)).cell? ⟨g2, 2, none⟩ = some (.int .i64 z) := (((Gou.Mod.setCell w5 ⟨w.heap.size + 1, 2, none⟩ (.int .i64 x)).trans' (Gou.Mod.setCell _ ⟨w.heap.size + 1, 3, none⟩ (.int .i64 y))).cell (p := ⟨g2, 2, none⟩) hg5 (by simp; omega)).trans d2
  have e3 : ((w5.setCell ⟨w.heap.size + 1, 2, none⟩ (.int .i64 x)).setCell ⟨w.heap.size + 1, 3, none⟩ (.int .i64 y)).cell? ⟨g2, 3, none⟩ = some (.int .i64 u) := (((Gou.Mod.setCell w5 ⟨w.heap.size + 1, 2, none⟩ (.int .i64 x)).trans' (Gou.Mod.setCell _ ⟨w.heap.size + 1, 3, none⟩ (.int .i64 y))).cell (p := ⟨g2, 3, none⟩) hg5 (by simp; omega)).trans d3
  have e4 : ((w5.setCell ⟨w.heap.size + 1, 2, none⟩ (.int .i64 x)).setCell ⟨w.heap.size + 1, 3, none⟩ (.int .i64 y)).cell? ⟨g2, 4, none⟩ = some (.int .i64 v) := (((Gou.Mod.setCell w5 ⟨w.heap.size + 1, 2, none⟩ (.int .i64 x)).trans' (Gou.Mod.setCell _ ⟨w.heap.size + 1, 3, none⟩ (.int .i64 y))).cell (p := ⟨g2, 4, none⟩) hg5 (by simp; omega)).trans d4
  have hl6 := Hl5.out.puts 2 [.int .i64 x, .int .i64 y]
  have k0 : ((w5.setCell ⟨w.heap.size + 1, 2, none⟩ (.int .i64 x)).setCell ⟨w.heap.size + 1, 3, none⟩ (.int .i64 y)).cell? ⟨w.heap.size + 1, 0, none⟩ = some (.int .i64 3) := hl6.loc.cell 0 rfl
  have m0 : ((w5.setCell ⟨w.heap.size + 1, 2, none⟩ (.int .i64 x)).setCell ⟨w.heap.size + 1, 3, none⟩ (.int .i64 y)).frozen? ⟨w.heap.size + 1, 0, none⟩ = false := hl6.loc.frozen 0
  have k4 : ((w5.setCell ⟨w.heap.size + 1, 2, none⟩ (.int .i64 x)).setCell ⟨w.heap.size + 1, 3, none⟩ (.int .i64 y)).cell? ⟨w.heap.size + 1, 4, none⟩ = some (.int .i64 0) := hl6.loc.cell 4 rfl
  have m4 : ((w5.setCell ⟨w.heap.size + 1, 2, none⟩ (.int .i64 x)).setCell ⟨w.heap.size + 1, 3, none⟩ (.int .i64 y)).frozen? ⟨w.heap.size + 1, 4, none⟩ = false := hl6.loc.frozen 4
  have k5 : ((w5.setCell ⟨w.heap.size + 1, 2, none⟩ (.int .i64 x)).setCell ⟨w.heap.size + 1, 3, none⟩ (.int .i64 y)).cell? ⟨w.heap.size + 1, 5, none⟩ = some (.int .i64 0) := hl6.loc.cell 5 rfl
  have m5 : ((w5.setCell ⟨w.heap.size + 1, 2, none⟩ (.int .i64 x)).setCell ⟨w.heap.size + 1, 3, none⟩ (.int .i64 y)).frozen? ⟨w.heap.size + 1, 5, none⟩ = false := hl6.loc.frozen 5
  have k6 : ((w5.setCell ⟨w.heap.size + 1, 2, none⟩ (.int .i64 x)).setCell ⟨w.heap.size + 1, 3, none⟩ (.int .i64 y)).cell? ⟨w.heap.size + 1, 6, none⟩ = some (.int .i64 0) := hl6.loc.cell 6 rfl
  have m6 : ((w5.setCell ⟨w.heap.size + 1, 2, none⟩ (.int .i64 x)).setCell ⟨w.heap.size + 1, 3, none⟩ (.int .i64 y)).frozen? ⟨w.heap.size + 1, 6, none⟩ = false := hl6.loc.frozen 6
  have hg6 : g2 < ((w5.setCell ⟨w.heap.size + 1, 2, none⟩ (.int .i64 x)).setCell ⟨w.heap.size + 1, 3, none⟩ (.int .i64 y)).heap.size := by simpa using hg5
  have Hl6 : Hid (RLoc w 41 AcZ _ ((w5.setCell ⟨w.heap.size + 1, 2, none⟩ (.int .i64 x)).setCell ⟨w.heap.size + 1, 3, none⟩ (.int .i64 y))) := Lib.hid hl6
  clear hl6 d0 d1 d2 d3 d4 cl2 cl3 cl4 cl5 cl6 fl2 fl3 fl4 fl5 fl6 ib0 ib1 ck
  generalize ((w5.setCell ⟨w.heap.size + 1, 2, none⟩ (.int .i64 x)).setCell ⟨w.heap.size + 1, 3, none⟩ (.int .i64 y)) = w6 at *
  have HS : Hid (∀ w' : World, Gou.Mod (fun k => k = w.heap.size + 1) w6 w' → w'.cell? ⟨g2, 2, none⟩ = some (.int .i64 z) ∧ w'.cell? ⟨g2, 3, none⟩ = some (.int .i64 u)) := Lib.hid (fun w' hm => ⟨(hm.cell (p := ⟨g2, 2, none⟩) hg6 (fun h => hng h.symm)).trans e2, (hm.cell (p := ⟨g2, 3, none⟩) hg6 (fun h => hng h.symm)).trans e3⟩)
  refine wp_region_held_drew (S := fun w' => Gou.Mod (fun k => k = w.heap.size + 1) w6 w') (by kernel_rfl) (Gou.Mod.drew _ _) (fun hHeld => ?_)
  refine wpAnyH_take (i := 0) (oi := ({ dst := some 147, op := Op.move (Operand.tmp 9), type := 72, pos := "ref.go:248", after := #[], guard := none } : Oper)) (v := .slice (some ⟨g2, 0, none⟩) 5 c) rfl (by kernel_rfl) (by kernel_rfl) (by kernel_rfl) (fun _ _ _ h => h) (Or.inl ⟨by rfl, ?_⟩) hHeld ?_
  · (intro w' hSw; (try dsimp only at hSw); obtain ⟨s2, s3⟩ := HS.out w' hSw; clear hSw; go_simp; (try with_reducible rfl))
  try simp only [Act.put, uSa, uSb, uSc]
  refine wpAnyH_take (i := 1) (oi := ({ dst := some 148, op := Op.indexAddr 72 (Operand.tmp 147) (Operand.const (Value.int IntKind.i64 2)), type := 0, pos := "ref.go:248", after := #[gD 0], guard := none } : Oper)) (v := .pointer (some ⟨g2, 2, none⟩)) rfl (by kernel_rfl) (by kernel_rfl) (by kernel_rfl) (fun _ _ _ h => h) (Or.inl ⟨by rfl, ?_⟩) hHeld ?_
  · (intro w' hSw; (try dsimp only at hSw); obtain ⟨s2, s3⟩ := HS.out w' hSw; clear hSw; go_simp; (try with_reducible rfl))
  try simp only [Act.put, uSa, uSb, uSc]
  refine wpAnyH_take (i := 2) (oi := ({ dst := some 149, op := Op.load 3 (Operand.tmp 148), type := 3, pos := "ref.go:248", after := #[gD 1], guard := none } : Oper)) (v := .int .i64 z) rfl (by kernel_rfl) (by kernel_rfl) (by kernel_rfl) (fun _ _ _ h => h) (Or.inl ⟨by rfl, ?_⟩) hHeld ?_
  · (intro w' hSw; (try dsimp only at hSw); obtain ⟨s2, s3⟩ := HS.out w' hSw; clear hSw; go_simp; (try with_reducible rfl))
  try simp only [Act.put, uSa, uSb, uSc]
  refine wpAnyH_take (i := 3) (oi := ({ dst := some 150, op := Op.move (Operand.tmp 9), type := 72, pos := "ref.go:248", after := #[], guard := none } : Oper)) (v := .slice (some ⟨g2, 0, none⟩) 5 c) rfl (by kernel_rfl) (by kernel_rfl) (by kernel_rfl) (fun _ _ _ h => h) (Or.inl ⟨by rfl, ?_⟩) hHeld ?_
  · (intro w' hSw; (try dsimp only at hSw); obtain ⟨s2, s3⟩ := HS.out w' hSw; clear hSw; go_simp; (try with_reducible rfl))
  try simp only [Act.put, uSa, uSb, uSc]
  refine wpAnyH_take (i := 4) (oi := ({ dst := some 151, op := Op.indexAddr 72 (Operand.tmp 150) (Operand.const (Value.int IntKind.i64 3)), type := 0, pos := "ref.go:248", after := #[gD 3], guard := none } : Oper)) (v := .pointer (some ⟨g2, 3, none⟩)) rfl (by kernel_rfl) (by kernel_rfl) (by kernel_rfl) (fun _ _ _ h => h) (Or.inl ⟨by rfl, ?_⟩) hHeld ?_
  · (intro w' hSw; (try dsimp only at hSw); obtain ⟨s2, s3⟩ := HS.out w' hSw; clear hSw; go_simp; (try with_reducible rfl))
  try simp only [Act.put, uSa, uSb, uSc]
  refine wpAnyH_take (i := 5) (oi := ({ dst := some 152, op := Op.load 3 (Operand.tmp 151), type := 3, pos := "ref.go:248", after := #[gD 4], guard := none } : Oper)) (v := .int .i64 u) rfl (by kernel_rfl) (by kernel_rfl) (by kernel_rfl) (fun _ _ _ h => h) (Or.inl ⟨by rfl, ?_⟩) hHeld ?_
  · (intro w' hSw; (try dsimp only at hSw); obtain ⟨s2, s3⟩ := HS.out w' hSw; clear hSw; go_simp; (try with_reducible rfl))
  try simp only [Act.put, uSa, uSb, uSc]
  refine wpAnyH_take (i := 6) (oi := ({ dst := some 153, op := Op.build 23 #[(0, Operand.tmp 149), (1, Operand.tmp 152)], type := 23, pos := "ref.go:248", after := #[gD 2, gD 5], guard := none } : Oper)) (v := .agg #[.int .i64 z, .int .i64 u]) rfl (by kernel_rfl) (by kernel_rfl) (by kernel_rfl) (fun _ _ _ h => h) (Or.inl ⟨by rfl, ?_⟩) hHeld ?_
  · (intro w' hSw; (try dsimp only at hSw); obtain ⟨s2, s3⟩ := HS.out w' hSw; clear hSw; go_simp; (try with_reducible rfl))
  try simp only [Act.put, uSa, uSb, uSc]
  refine wpAnyH_take (i := 7) (oi := ({ dst := some 154, op := Op.fieldAddr 41 (Operand.tmp 7) 1, type := 0, pos := "ref.go:248", after := #[gP 0, gP 1, gP 2, gP 3, gP 4, gP 5, gP 6], guard := none } : Oper)) (v := .pointer (some ⟨w.heap.size + 1, 1, none⟩)) rfl (by kernel_rfl) (by kernel_rfl) (by kernel_rfl) (fun _ _ _ h => h) (Or.inl ⟨by rfl, ?_⟩) hHeld ?_
  · (intro w' hSw; (try dsimp only at hSw); obtain ⟨s2, s3⟩ := HS.out w' hSw; clear hSw; go_simp; (try with_reducible rfl))
  try simp only [Act.put, uSa, uSb, uSc]
  refine wpAnyH_take (i := 8) (oi := ({ dst := some 155, op := Op.fieldAddr 37 (Operand.tmp 154) 2, type := 0, pos := "ref.go:248", after := #[gD 7, gP 0, gP 1, gP 2, gP 3, gP 4, gP 5, gP 6], guard := none } : Oper)) (v := .pointer (some ⟨w.heap.size + 1, 4, none⟩)) rfl (by kernel_rfl) (by kernel_rfl) (by kernel_rfl) (fun _ _ _ h => h) (Or.inl ⟨by rfl, ?_⟩) hHeld ?_
  · (intro w' hSw; (try dsimp only at hSw); obtain ⟨s2, s3⟩ := HS.out w' hSw; clear hSw; go_simp; (try with_reducible rfl))
  try simp only [Act.put, uSa, uSb, uSc]
  refine wpAnyH_ready (rs := [9]) (by kernel_rfl) (by simp) (AllReadyH.cons (o := ({ dst := none, op := Op.store 23 (Operand.tmp 155) (Operand.tmp 153), type := 0, pos := "ref.go:248", after := #[gD 8, gD 6, gP 0, gP 1, gP 2, gP 3, gP 4, gP 5, gP 6], guard := none } : Oper)) rfl (fun K9 hK => ?_) AllReadyH.nil)
  go_simp
  refine hK _ _ ((Gou.Mod.setCell w6 ⟨w.heap.size + 1, 4, none⟩ (.int .i64 z)).trans' ((Gou.Mod.setCell _ ⟨w.heap.size + 1, 5, none⟩ (.int .i64 u)).trans' (Gou.Mod.drew _ _))) (fun hHeld => ?_)
  clear hK K9
  try simp only [Act.put, uSa, uSb, uSc]
  refine wpAnyH_done (by kernel_rfl) ?_ _
  clear hHeld
  have hl7 : RLoc w 41 AcZ _ (((w6.setCell ⟨w.heap.size + 1, 4, none⟩ (.int .i64 z)).setCell ⟨w.heap.size + 1, 5, none⟩ (.int .i64 u)).drew) := (Hl6.out.puts 4 [.int .i64 z, .int .i64 u]).next (Gou.Mod.drew _ _)
  have d4 : (((w6.setCell ⟨w.heap.size + 1, 4, none⟩ (.int .i64 z)).setCell ⟨w.heap.size + 1, 5, none⟩ (.int .i64 u)).drew).cell? ⟨g2, 4, none⟩ = some (.int .i64 v) := (((Gou.Mod.setCell w6 ⟨w.heap.size + 1, 4, none⟩ (.int .i64 z)).trans' ((Gou.Mod.setCell _ ⟨w.heap.size + 1, 5, none⟩ (.int .i64 u)).trans' (Gou.Mod.drew _ _))).cell (p := ⟨g2, 4, none⟩) hg6 (by simp; omega)).trans e4
  have ck : (((w6.setCell ⟨w.heap.size + 1, 4, none⟩ (.int .i64 z)).setCell ⟨w.heap.size + 1, 5, none⟩ (.int .i64 u)).drew).cell? ⟨w.heap.size + 1, 0, none⟩ = some (.int .i64 3) := hl7.loc.cell 0 rfl
  have cl6 : (((w6.setCell ⟨w.heap.size + 1, 4, none⟩ (.int .i64 z)).setCell ⟨w.heap.size + 1, 5, none⟩ (.int .i64 u)).drew).cell? ⟨w.heap.size + 1, 6, none⟩ = some (.int .i64 0) := hl7.loc.cell 6 rfl
  have fl6 : (((w6.setCell ⟨w.heap.size + 1, 4, none⟩ (.int .i64 z)).setCell ⟨w.heap.size + 1, 5, none⟩ (.int .i64 u)).drew).frozen? ⟨w.heap.size + 1, 6, none⟩ = false := hl7.loc.frozen 6
  clear e2 e3 e4 k0 k4 k5 k6 m0 m4 m5 m6
  have hA : ∃ w9, w9 = (((w6.setCell ⟨w.heap.size + 1, 4, none⟩ (.int .i64 z)).setCell ⟨w.heap.size + 1, 5, none⟩ (.int .i64 u)).drew) := ⟨_, rfl⟩
  obtain ⟨w9, hA⟩ := hA
  rw [← hA] at hl7 d4 ck cl6 fl6 ⊢
  clear hA
  have Hl7 := Lib.hid hl7
  clear hl7
  go_wp2_with fail
  have HlA : Hid (RLoc w 41 AcZ (actC ⟨3, ⟨3, (x, y), (z, u), v, Lk.zero⟩, 0, 0, Cf.zero⟩ (.slice none 0 0) (.slice none 0 0) (.slice none 0 0)) (w9.setCell ⟨w.heap.size + 1, 6, none⟩ (.int .i64 v))) := Lib.hid (Hl7.out.put 6 (.int .i64 v))
  clear d4 ck cl6 fl6
  have hA : ∃ wB, wB = (w9.setCell ⟨w.heap.size + 1, 6, none⟩ (.int .i64 v)) := ⟨_, rfl⟩
  obtain ⟨wB, hA⟩ := hA
  rw [← hA] at HlA ⊢
  clear hA
  have Hact : Hid (actAt bs n = (lookAt bs q 3).bind fun l => some (⟨3, ⟨3, (x, y), (z, u), v, l.1⟩, 0, 0, Cf.zero⟩, l.2)) := Lib.hid (by
    rw [act_opr hlt Hbk.out (by omega) (by omega)]
    refine (congrArg (Option.bind · _) (opr3 Ht.out)).trans ?_
    cases lookAt bs q 3 <;> rfl)
  refine (lookR_low wB (some ⟨b, o, none⟩) cb bs (H.out.mod HlA.out.mod (fun _ _ _ h => h)) Hby.out hl q hq 3 (by omega)).mono ?_
  rintro e w7 ⟨hm7, hp⟩
  have Hl7 := Lib.hid (HlA.out.next hm7)
  clear hm7
  rcases ht : lookAt bs q 3 with _ | ⟨l, q2⟩
  · rw [ht] at hp
    obtain ⟨l, p1, n1, k1, p2, n2, k2, p3, n3, k3, rfl⟩ := hp
    have Hno : Hid (actAt bs n = none) := Lib.hid (by rw [Hact.out, ht]; rfl)
    clear ht
    have Hbx := Lib.hid (box_put w7 35 LkZ (lookC l (.slice p1 n1 k1) (.slice p2 n2 k2) (.slice p3 n3 k3)) rfl)
    have Hlb := Lib.hid (Hl7.out.next Hbx.out.1)
    have Htl := Lib.hid (Hlb.out.loc.there 7 28 (by simp [actC]))
    have hl8 := Hlb.out.puts 7 (lookC l (.slice p1 n1 k1) (.slice p2 n2 k2) (.slice p3 n3 k3)).toList
    rw [setMany_actl] at hl8
    have Hl8 := Lib.hid hl8
    clear hl8
    have HB : Hid (Blk _ (w.heap.size + 1) 41 (actC ⟨3, ⟨3, (x, y), (z, u), v, l⟩, 0, 0, Cf.zero⟩ (.slice p1 n1 k1) (.slice p2 n2 k2) (.slice p3 n3 k3))) := Lib.hid Hl8.out.loc
    have Hth := Lib.hid (Hl8.out.res.there 0 42 (by simp))
    go_wp2_with (first | ((with_reducible refine wpList_store_mid ?g_e 35 ?x_e ?y_e ?o_e w7.heap.size 0 (lookC l (.slice p1 n1 k1) (.slice p2 n2 k2) (.slice p3 n3 k3)) ?h_e ?j_e ?t_e ?i_e ?s_e ?r_e); (case g_e | o_e | h_e | j_e => exact rfl); (case t_e => exact Hbx.out.2.2); (case i_e => exact size_look); (case s_e => exact lookC_one _ _ _ _ _ _ _ _ _ _)) | ((with_reducible refine wpList_load_row ?g_f 35 ?x_f ?o_f w7.heap.size ?h_f ?t_f ?c_f ?f_f ?d_f ?b_f ?u_f ?s_f ?i_f ?r_f); (case g_f | o_f | h_f => exact rfl); (case b_f => exact Hbx.out.2.1); (case u_f => exact Try.underlying35); (case s_f => exact rfl); (case i_f => exact size_look)) | ((with_reducible refine wpList_store_mid ?g_g 35 ?x_g ?y_g ?o_g (w.heap.size + 1) 7 (lookC l (.slice p1 n1 k1) (.slice p2 n2 k2) (.slice p3 n3 k3)) ?h_g ?j_g ?t_g ?i_g ?s_g ?r_g); (case g_g | o_g | h_g | j_g => exact rfl); (case t_g => exact Htl.out); (case i_g => exact size_look); (case s_g => exact lookC_one _ _ _ _ _ _ _ _ _ _)) | ((with_reducible refine wpList_load_row ?g_h 41 ?x_h ?o_h (w.heap.size + 1) ?h_h ?t_h ?c_h ?f_h ?d_h ?b_h ?u_h ?s_h ?i_h ?r_h); (case g_h | o_h | h_h => exact rfl); (case b_h => exact HB.out); (case u_h => exact Try.underlying41); (case s_h => exact rfl); (case i_h => exact size_act)) | ((with_reducible refine wpList_store_mid ?g2_h 41 ?x2_h ?y_h ?o2_h w.heap.size 0 (actC ⟨3, ⟨3, (x, y), (z, u), v, l⟩, 0, 0, Cf.zero⟩ (.slice p1 n1 k1) (.slice p2 n2 k2) (.slice p3 n3 k3)) ?h2_h ?j_h ?t2_h ?i2_h ?s2_h ?r2_h); (case g2_h | o2_h | h2_h | j_h => exact rfl); (case t2_h => exact Hth.out); (case i2_h => exact size_act); (case s2_h => exact actC_one _ _ _ _ _ _ _ _ _ _)) | fail)
    have hd := RLoc.done (cs := actC ⟨3, ⟨3, (x, y), (z, u), v, l⟩, 0, 0, Cf.zero⟩ (.slice p1 n1 k1) (.slice p2 n2 k2) (.slice p3 n3 k3)) Hl8.out rfl
    refine bodyPost_ret (v := .tuple #[.agg (actC ⟨3, ⟨3, (x, y), (z, u), v, l⟩, 0, 0, Cf.zero⟩ (.slice p1 n1 k1) (.slice p2 n2 k2) (.slice p3 n3 k3)), .int .i64 0, .bool false]) (results_one _ _ w.heap.size (actC ⟨3, ⟨3, (x, y), (z, u), v, l⟩, 0, 0, Cf.zero⟩ (.slice p1 n1 k1) (.slice p2 n2 k2) (.slice p3 n3 k3)) rfl _ _ rfl rfl rfl hd.2.1) rfl ?_
    exact on_fail Hno.out hd.1 _ _ _ _ _ _ _ _ _ _
  rw [ht] at hp
  obtain ⟨p1, n1, k1, p2, n2, k2, p3, n3, k3, rfl, hr⟩ := hp
  have Hres : Hid (actAt bs n = some (⟨3, ⟨3, (x, y), (z, u), v, l⟩, 0, 0, Cf.zero⟩, q2)) := Lib.hid (by rw [Hact.out, ht]; rfl)
  have Hr := Lib.hid hr
  have Hs0 : Hid (w.heap.size + 1 < wB.heap.size) := Lib.hid HlA.out.loc.lt
  clear ht hr
  have Hbx := Lib.hid (box_put w7 35 LkZ (lookC l (.slice p1 n1 k1) (.slice p2 n2 k2) (.slice p3 n3 k3)) rfl)
  have Hlb := Lib.hid (Hl7.out.next Hbx.out.1)
  have Htl := Lib.hid (Hlb.out.loc.there 7 28 (by simp [actC]))
  have hl8 := Hlb.out.puts 7 (lookC l (.slice p1 n1 k1) (.slice p2 n2 k2) (.slice p3 n3 k3)).toList
  rw [setMany_actl] at hl8
  have Hl8 := Lib.hid hl8
  clear hl8
  have HB : Hid (Blk _ (w.heap.size + 1) 41 (actC ⟨3, ⟨3, (x, y), (z, u), v, l⟩, 0, 0, Cf.zero⟩ (.slice p1 n1 k1) (.slice p2 n2 k2) (.slice p3 n3 k3))) := Lib.hid Hl8.out.loc
  have Hth := Lib.hid (Hl8.out.res.there 0 42 (by simp))
  go_wp2_with (first | ((with_reducible refine wpList_store_mid ?g_i 35 ?x_i ?y_i ?o_i w7.heap.size 0 (lookC l (.slice p1 n1 k1) (.slice p2 n2 k2) (.slice p3 n3 k3)) ?h_i ?j_i ?t_i ?i_i ?s_i ?r_i); (case g_i | o_i | h_i | j_i => exact rfl); (case t_i => exact Hbx.out.2.2); (case i_i => exact size_look); (case s_i => exact lookC_one _ _ _ _ _ _ _ _ _ _)) | ((with_reducible refine wpList_load_row ?g_j 35 ?x_j ?o_j w7.heap.size ?h_j ?t_j ?c_j ?f_j ?d_j ?b_j ?u_j ?s_j ?i_j ?r_j); (case g_j | o_j | h_j => exact rfl); (case b_j => exact Hbx.out.2.1); (case u_j => exact Try.underlying35); (case s_j => exact rfl); (case i_j => exact size_look)) | ((with_reducible refine wpList_store_mid ?g_k 35 ?x_k ?y_k ?o_k (w.heap.size + 1) 7 (lookC l (.slice p1 n1 k1) (.slice p2 n2 k2) (.slice p3 n3 k3)) ?h_k ?j_k ?t_k ?i_k ?s_k ?r_k); (case g_k | o_k | h_k | j_k => exact rfl); (case t_k => exact Htl.out); (case i_k => exact size_look); (case s_k => exact lookC_one _ _ _ _ _ _ _ _ _ _)) | ((with_reducible refine wpList_load_row ?g_l 41 ?x_l ?o_l (w.heap.size + 1) ?h_l ?t_l ?c_l ?f_l ?d_l ?b_l ?u_l ?s_l ?i_l ?r_l); (case g_l | o_l | h_l => exact rfl); (case b_l => exact HB.out); (case u_l => exact Try.underlying41); (case s_l => exact rfl); (case i_l => exact size_act)) | ((with_reducible refine wpList_store_mid ?g2_l 41 ?x2_l ?y_l ?o2_l w.heap.size 0 (actC ⟨3, ⟨3, (x, y), (z, u), v, l⟩, 0, 0, Cf.zero⟩ (.slice p1 n1 k1) (.slice p2 n2 k2) (.slice p3 n3 k3)) ?h2_l ?j_l ?t2_l ?i2_l ?s2_l ?r2_l); (case g2_l | o2_l | h2_l | j_l => exact rfl); (case t2_l => exact Hth.out); (case i2_l => exact size_act); (case s2_l => exact actC_one _ _ _ _ _ _ _ _ _ _)) | fail)
  have hd := RLoc.done (cs := actC ⟨3, ⟨3, (x, y), (z, u), v, l⟩, 0, 0, Cf.zero⟩ (.slice p1 n1 k1) (.slice p2 n2 k2) (.slice p3 n3 k3)) Hl8.out rfl
  refine bodyPost_ret (v := .tuple #[.agg (actC ⟨3, ⟨3, (x, y), (z, u), v, l⟩, 0, 0, Cf.zero⟩ (.slice p1 n1 k1) (.slice p2 n2 k2) (.slice p3 n3 k3)), .int .i64 q2, .bool true]) (results_one _ _ w.heap.size (actC ⟨3, ⟨3, (x, y), (z, u), v, l⟩, 0, 0, Cf.zero⟩ (.slice p1 n1 k1) (.slice p2 n2 k2) (.slice p3 n3 k3)) rfl _ _ rfl rfl rfl hd.2.1) rfl ?_
  exact on_done Hres.out hd.1 (LookR.far (Hr.out.mod Hbx.out.1 (fun _ _ _ h => h)) (Mod.two hd.2.2) (by have := Hs0.out; omega) (by have := Hs0.out; omega) (by have := Hs0.out; omega))

set_option maxHeartbeats 4000000 in
theorem oneR_4 (w : World) (pb : Option Addr) (cb : Nat) (bs : List Nat) (h : BytesAt (fun _ => True) w (.slice pb bs.length cb) bs) (hby : ∀ x ∈ bs, x < 256) (hl : bs.length ≤ 10000000) (n : Nat) (hn : n ≤ bs.length) (hlt : n < bs.length) (hbk : bs[n] = 4) :
    Calls Try.prog 27 #[.slice pb bs.length cb, .int .i64 n] w (OnP w bs n) := by
  have H := Lib.hid h
  have Hby := Lib.hid hby
  clear h hby
  have t0 : decide ((bs.length : Int) ≤ (n : Int)) = false := decide_eq_false (by omega)
  have t0' : decide (bs.length ≤ n) = false := decide_eq_false (by omega)
  obtain ⟨-, b, o, rfl, hb, -, hc⟩ := H.out.celz (by omega)
  have Hcw : Hid (w.cell? ⟨b, o + n, none⟩ = some (.int .u8 4)) := Lib.hid (by
    have := hc n hlt
    rw [hbk] at this
    exact this)
  have hni : (n : Int) < (bs.length : Int) := by omega
  have Hb := Lib.hid hb
  clear hc hb
  have Hbk := Lib.hid hbk
  clear hbk
  go_enter Try.func27, Try.ntmps27
  go_wp2_with (first | ((with_reducible refine wpList_buildTo ?g7 41 ?p7 ?o7 ?d7 ?e7 (AcZ) ?f7 ?r7); (case g7 | o7 | e7 => exact rfl); (case f7 => kernel_rfl)) | ((with_reducible refine wpList_store_mid ?g8 41 ?x8 ?y8 ?o8 (w.heap.size + 1) 0 (AcZ) ?h8 ?j8 ?t8 ?i8 ?s8 ?r8); (case g8 | o8 | h8 | j8 => exact rfl); (case t8 => exact there_act w); (case i8 => exact size_act); (case s8 => exact oneR_act); (have Hl0 := Lib.hid (start_act w)); (generalize ((w.alloc (.cells AcZ 41)).alloc (.cells AcZ 41)).setCells (w.heap.size + 1) 0 (AcZ).toList = w0 at *); (have hcell : w0.cell? ⟨b, o + n, none⟩ = some (.int .u8 4) := (Hl0.out.mod.cell (p := ⟨b, o + n, none⟩) Hb.out (fun h => h)).trans Hcw.out); (have cl0 : w0.cell? ⟨w.heap.size + 1, 0, none⟩ = some (.int .i64 0) := Hl0.out.loc.cell 0 rfl); (have fl0 : w0.frozen? ⟨w.heap.size + 1, 0, none⟩ = false := Hl0.out.loc.frozen 0); (have hsz : w.heap.size + 1 < w0.heap.size := Hl0.out.loc.lt); (have hne : w.heap.size + 1 ≠ w0.heap.size := Nat.ne_of_lt hsz)) | fail)
  have Hl1 : Hid (RLoc w 41 AcZ (actC ⟨4, Opr.zero, 0, 0, Cf.zero⟩ (.slice none 0 0) (.slice none 0 0) (.slice none 0 0)) ((w0.setCell ⟨w.heap.size + 1, 0, none⟩ (.int .i64 4)).alloc (.cells #[.int .i64 0, .int .i64 3, .int .i64 2, .int .i64 5, .int .i64 3, .int .i64 2, .int .i64 2, .int .i64 2, .int .i64 2, .int .i64 2, .int .i64 2, .int .i64 2, .int .i64 2, .int .i64 2] 95))) := Lib.hid ((Hl0.out.put 0 (.int .i64 4)).next (Gou.Mod.alloc _ _ _))
  generalize hW1 : ((w0.setCell ⟨w.heap.size + 1, 0, none⟩ (.int .i64 4)).alloc (.cells #[.int .i64 0, .int .i64 3, .int .i64 2, .int .i64 5, .int .i64 3, .int .i64 2, .int .i64 2, .int .i64 2, .int .i64 2, .int .i64 2, .int .i64 2, .int .i64 2, .int .i64 2, .int .i64 2] 95)) = w1 at *
  clear hW1 hcell cl0 fl0 hsz hne
  rw [show (n : Int) + 1 = ((n + 1 : Nat) : Int) from by push_cast; rfl]
  refine (numbersR_any w1 (some ⟨b, o, none⟩) cb bs (H.out.mod Hl1.out.mod (fun _ _ _ h => h)) Hby.out hl (n + 1) 3 (by omega) (by omega)).mono ?_
  rintro e w2 ⟨hm2, hp⟩
  have Hl2 := Lib.hid (Hl1.out.next hm2)
  clear hm2
  have ck : w2.cell? ⟨w.heap.size + 1, 0, none⟩ = some (.int .i64 4) := Hl2.out.loc.cell 0 rfl
  rcases ht : timesAt (numAt bs) (n + 1) 3 with _ | ⟨xs, q⟩
  · rw [ht] at hp
    subst hp
    have Hno : Hid (actAt bs n = none) := Lib.hid (by rw [act_opr hlt Hbk.out (by omega) (by omega)]; exact congrArg (Option.bind · _) (opr4_none ht))
    clear ht
    have HB : Hid (Blk _ (w.heap.size + 1) 41 (actC ⟨4, Opr.zero, 0, 0, Cf.zero⟩ (.slice none 0 0) (.slice none 0 0) (.slice none 0 0))) := Lib.hid Hl2.out.loc
    have Hth := Lib.hid (Hl2.out.res.there 0 42 (by simp))
    go_wp2_with (first | ((with_reducible refine wpList_load_row ?g_m 41 ?x_m ?o_m (w.heap.size + 1) ?h_m ?t_m ?c_m ?f_m ?d_m ?b_m ?u_m ?s_m ?i_m ?r_m); (case g_m | o_m | h_m => exact rfl); (case b_m => exact HB.out); (case u_m => exact Try.underlying41); (case s_m => exact rfl); (case i_m => exact size_act)) | ((with_reducible refine wpList_store_mid ?g2_m 41 ?x2_m ?y_m ?o2_m w.heap.size 0 (actC ⟨4, Opr.zero, 0, 0, Cf.zero⟩ (.slice none 0 0) (.slice none 0 0) (.slice none 0 0)) ?h2_m ?j_m ?t2_m ?i2_m ?s2_m ?r2_m); (case g2_m | o2_m | h2_m | j_m => exact rfl); (case t2_m => exact Hth.out); (case i2_m => exact size_act); (case s2_m => exact actC_one _ _ _ _ _ _ _ _ _ _)) | fail)
    have hd := RLoc.done (cs := actC ⟨4, Opr.zero, 0, 0, Cf.zero⟩ (.slice none 0 0) (.slice none 0 0) (.slice none 0 0)) Hl2.out rfl
    refine bodyPost_ret (v := .tuple #[.agg (actC ⟨4, Opr.zero, 0, 0, Cf.zero⟩ (.slice none 0 0) (.slice none 0 0) (.slice none 0 0)), .int .i64 0, .bool false]) (results_one _ _ w.heap.size (actC ⟨4, Opr.zero, 0, 0, Cf.zero⟩ (.slice none 0 0) (.slice none 0 0) (.slice none 0 0)) rfl _ _ rfl rfl rfl hd.2.1) rfl ?_
    exact on_fail Hno.out hd.1 _ _ _ _ _ _ _ _ _ _
  rw [ht] at hp
  obtain ⟨p, c, rfl, hown, hxl⟩ := hp
  obtain ⟨x, y, z, rfl⟩ := times_three ht
  obtain ⟨g2, rfl, hg0, hg1, hc⟩ := own_ints hown (by omega)
  have hq : q ≤ bs.length := (times_spec (num_spec Hby.out) 3).end_le ht (by omega)
  have hng : w.heap.size + 1 ≠ g2 := by have := Hl1.out.loc.lt; omega
  have c0 : w2.cell? ⟨g2, 0, none⟩ = some (.int .i64 x) := hc 0 (by simp)
  have c1 : w2.cell? ⟨g2, 1, none⟩ = some (.int .i64 y) := hc 1 (by simp)
  have c2 : w2.cell? ⟨g2, 2, none⟩ = some (.int .i64 z) := hc 2 (by simp)
  have Ht := Lib.hid ht
  clear hc hown hxl hg0 ht
  have cl1 : w2.cell? ⟨w.heap.size + 1, 1, none⟩ = some (.int .i64 0) := Hl2.out.loc.cell 1 rfl
  have fl1 : w2.frozen? ⟨w.heap.size + 1, 1, none⟩ = false := Hl2.out.loc.frozen 1
  go_wp2_with fail
  have Hl3 := Lib.hid (Hl2.out.put 1 (.int .i64 4))
  have d0 : (w2.setCell ⟨w.heap.size + 1, 1, none⟩ (.int .i64 4)).cell? ⟨g2, 0, none⟩ = some (.int .i64 x) := ((Gou.Mod.setCell _ ⟨w.heap.size + 1, 1, none⟩ _).cell (p := ⟨g2, 0, none⟩) hg1 (by simp; omega)).trans c0
  have d1 : (w2.setCell ⟨w.heap.size + 1, 1, none⟩ (.int .i64 4)).cell? ⟨g2, 1, none⟩ = some (.int .i64 y) := ((Gou.Mod.setCell _ ⟨w.heap.size + 1, 1, none⟩ _).cell (p := ⟨g2, 1, none⟩) hg1 (by simp; omega)).trans c1
  have d2 : (w2.setCell ⟨w.heap.size + 1, 1, none⟩ (.int .i64 4)).cell? ⟨g2, 2, none⟩ = some (.int .i64 z) := ((Gou.Mod.setCell _ ⟨w.heap.size + 1, 1, none⟩ _).cell (p := ⟨g2, 2, none⟩) hg1 (by simp; omega)).trans c2
  have hg3 : g2 < (w2.setCell ⟨w.heap.size + 1, 1, none⟩ (.int .i64 4)).heap.size := by simpa using hg1
  generalize (w2.setCell ⟨w.heap.size + 1, 1, none⟩ (.int .i64 4)) = w3 at *
  clear c0 c1 c2 ck cl1 fl1 hg1
  have HS : Hid (∀ w' : World, Gou.Mod (fun _ => False) w3 w' → w'.cell? ⟨g2, 0, none⟩ = some (.int .i64 x) ∧ w'.cell? ⟨g2, 1, none⟩ = some (.int .i64 y) ∧ w'.cell? ⟨g2, 2, none⟩ = some (.int .i64 z)) := Lib.hid (fun w' hm => ⟨(hm.cell (p := ⟨g2, 0, none⟩) hg3 (fun h => h)).trans d0, (hm.cell (p := ⟨g2, 1, none⟩) hg3 (fun h => h)).trans d1, (hm.cell (p := ⟨g2, 2, none⟩) hg3 (fun h => h)).trans d2⟩)
  clear d0 d1 d2
  have Hg3 := Lib.hid hg3
  clear hg3
  refine wp_region_held_drew (S := fun w' => Gou.Mod (fun _ => False) w3 w') (by kernel_rfl) (Gou.Mod.drew _ _) (fun hHeld => ?_)
  refine wpAnyH_take (i := 0) (oi := ({ dst := some 123, op := Op.move (Operand.tmp 9), type := 72, pos := "ref.go:240", after := #[], guard := none } : Oper)) (v := .slice (some ⟨g2, 0, none⟩) 3 c) rfl (by kernel_rfl) (by kernel_rfl) (by kernel_rfl) (fun _ _ _ h => h) (Or.inl ⟨by rfl, ?_⟩) hHeld ?_
  · (intro w' hSw; (try dsimp only at hSw); obtain ⟨s0, s1, s2⟩ := HS.out w' hSw; clear hSw; go_simp; (try with_reducible rfl))
  try simp only [Act.put, uSa, uSb, uSc]
  refine wpAnyH_take (i := 1) (oi := ({ dst := some 124, op := Op.indexAddr 72 (Operand.tmp 123) (Operand.const (Value.int IntKind.i64 0)), type := 0, pos := "ref.go:240", after := #[gD 0], guard := none } : Oper)) (v := .pointer (some ⟨g2, 0, none⟩)) rfl (by kernel_rfl) (by kernel_rfl) (by kernel_rfl) (fun _ _ _ h => h) (Or.inl ⟨by rfl, ?_⟩) hHeld ?_
  · (intro w' hSw; (try dsimp only at hSw); obtain ⟨s0, s1, s2⟩ := HS.out w' hSw; clear hSw; go_simp; (try with_reducible rfl))
  try simp only [Act.put, uSa, uSb, uSc]
  refine wpAnyH_take (i := 2) (oi := ({ dst := some 125, op := Op.load 3 (Operand.tmp 124), type := 3, pos := "ref.go:240", after := #[gD 1], guard := none } : Oper)) (v := .int .i64 x) rfl (by kernel_rfl) (by kernel_rfl) (by kernel_rfl) (fun _ _ _ h => h) (Or.inl ⟨by rfl, ?_⟩) hHeld ?_
  · (intro w' hSw; (try dsimp only at hSw); obtain ⟨s0, s1, s2⟩ := HS.out w' hSw; clear hSw; go_simp; (try with_reducible rfl))
  try simp only [Act.put, uSa, uSb, uSc]
  refine wpAnyH_take (i := 3) (oi := ({ dst := some 126, op := Op.move (Operand.tmp 9), type := 72, pos := "ref.go:240", after := #[], guard := none } : Oper)) (v := .slice (some ⟨g2, 0, none⟩) 3 c) rfl (by kernel_rfl) (by kernel_rfl) (by kernel_rfl) (fun _ _ _ h => h) (Or.inl ⟨by rfl, ?_⟩) hHeld ?_
  · (intro w' hSw; (try dsimp only at hSw); obtain ⟨s0, s1, s2⟩ := HS.out w' hSw; clear hSw; go_simp; (try with_reducible rfl))
  try simp only [Act.put, uSa, uSb, uSc]
  refine wpAnyH_take (i := 4) (oi := ({ dst := some 127, op := Op.indexAddr 72 (Operand.tmp 126) (Operand.const (Value.int IntKind.i64 1)), type := 0, pos := "ref.go:240", after := #[gD 3], guard := none } : Oper)) (v := .pointer (some ⟨g2, 1, none⟩)) rfl (by kernel_rfl) (by kernel_rfl) (by kernel_rfl) (fun _ _ _ h => h) (Or.inl ⟨by rfl, ?_⟩) hHeld ?_
  · (intro w' hSw; (try dsimp only at hSw); obtain ⟨s0, s1, s2⟩ := HS.out w' hSw; clear hSw; go_simp; (try with_reducible rfl))
  try simp only [Act.put, uSa, uSb, uSc]
  refine wpAnyH_take (i := 5) (oi := ({ dst := some 128, op := Op.load 3 (Operand.tmp 127), type := 3, pos := "ref.go:240", after := #[gD 4], guard := none } : Oper)) (v := .int .i64 y) rfl (by kernel_rfl) (by kernel_rfl) (by kernel_rfl) (fun _ _ _ h => h) (Or.inl ⟨by rfl, ?_⟩) hHeld ?_
  · (intro w' hSw; (try dsimp only at hSw); obtain ⟨s0, s1, s2⟩ := HS.out w' hSw; clear hSw; go_simp; (try with_reducible rfl))
  try simp only [Act.put, uSa, uSb, uSc]
  refine wpAnyH_take (i := 6) (oi := ({ dst := some 129, op := Op.build 23 #[(0, Operand.tmp 125), (1, Operand.tmp 128)], type := 23, pos := "ref.go:240", after := #[gD 2, gD 5], guard := none } : Oper)) (v := .agg #[.int .i64 x, .int .i64 y]) rfl (by kernel_rfl) (by kernel_rfl) (by kernel_rfl) (fun _ _ _ h => h) (Or.inl ⟨by rfl, ?_⟩) hHeld ?_
  · (intro w' hSw; (try dsimp only at hSw); obtain ⟨s0, s1, s2⟩ := HS.out w' hSw; clear hSw; go_simp; (try with_reducible rfl))
  try simp only [Act.put, uSa, uSb, uSc]
  refine wpAnyH_ready (rs := [7]) (by kernel_rfl) (by simp) (AllReadyH.cons (o := ({ dst := some 11, op := Op.alloc 23, type := 0, pos := "ref.go:240", after := #[], guard := none } : Oper)) rfl (fun K9 hK => ?_) AllReadyH.nil)
  go_simp
  have BA : Blk ((w3.alloc (.cells #[.int .i64 0, .int .i64 0] 23)).drew) w3.heap.size 23 #[.int .i64 0, .int .i64 0] := (show Blk (w3.alloc (.cells #[.int .i64 0, .int .i64 0] 23)) w3.heap.size 23 _ from heap_alloc_new w3 _).mod (Gou.Mod.drew (fun _ => False) _) (fun h => h)
  have MA : Gou.Mod (fun _ => False) w3 ((w3.alloc (.cells #[.int .i64 0, .int .i64 0] 23)).drew) := (Gou.Mod.alloc _ _ _).trans' (Gou.Mod.drew _ _)
  clear hHeld
  refine hK _ _ MA (fun hHeld => ?_)
  clear hK K9
  try simp only [Act.put, uSa, uSb, uSc]
  clear hHeld
  have hA : ∃ wA, wA = ((w3.alloc (.cells #[.int .i64 0, .int .i64 0] 23)).drew) := ⟨_, rfl⟩
  obtain ⟨wA, hA⟩ := hA
  rw [← hA] at MA BA ⊢
  clear hA
  have hHeld := MA
  have ia0 : wA.cell? ⟨w3.heap.size, 0, none⟩ = some (.int .i64 0) := BA.cell 0 rfl
  have ia1 : wA.cell? ⟨w3.heap.size, 1, none⟩ = some (.int .i64 0) := BA.cell 1 rfl
  have ja0 : wA.frozen? ⟨w3.heap.size, 0, none⟩ = false := BA.frozen 0
  have ja1 : wA.frozen? ⟨w3.heap.size, 1, none⟩ = false := BA.frozen 1
  refine wpAnyH_ready (rs := [8]) (by kernel_rfl) (by simp) (AllReadyH.cons (o := ({ dst := none, op := Op.store 23 (Operand.tmp 11) (Operand.tmp 129), type := 0, pos := "ref.go:240", after := #[gD 7, gD 6, gP 0, gP 1, gP 2, gP 3, gP 4, gP 5, gP 6, gP 7], guard := none } : Oper)) rfl (fun K9 hK => ?_) AllReadyH.nil)
  go_simp
  have MB := id_box MA BA x y
  clear hHeld ia0 ia1 ja0 ja1
  refine hK _ _ MB.1 (fun hHeld => ?_)
  clear hK K9
  try simp only [Act.put, uSa, uSb, uSc]
  refine wpAnyH_done (by kernel_rfl) ?_ _
  clear hHeld
  have hA : ∃ w5, w5 = ((wA.setCell ⟨w3.heap.size, 0, none⟩ (.int .i64 x)).setCell ⟨w3.heap.size, 1, none⟩ (.int .i64 y)) := ⟨_, rfl⟩
  obtain ⟨w5, hA⟩ := hA
  rw [← hA] at MB ⊢
  clear hA MA BA
  have hD : w3.heap.size ≠ w.heap.size + 1 := by have := Hl3.out.loc.lt; omega
  have hl5 := Hl3.out.next MB.1
  have Hg5 : Hid (g2 < w5.heap.size) := Lib.hid (Nat.lt_of_lt_of_le Hg3.out MB.1.size)
  obtain ⟨d0, d1, d2⟩ := HS.out w5 MB.1
  have ib0 : w5.cell? ⟨w3.heap.size, 0, none⟩ = some (.int .i64 x) := MB.2.cell 0 rfl
  have ib1 : w5.cell? ⟨w3.heap.size, 1, none⟩ = some (.int .i64 y) := MB.2.cell 1 rfl
  have ck : w5.cell? ⟨w.heap.size + 1, 0, none⟩ = some (.int .i64 4) := hl5.loc.cell 0 rfl
  have cl2 : w5.cell? ⟨w.heap.size + 1, 2, none⟩ = some (.int .i64 0) := hl5.loc.cell 2 rfl
  have fl2 : w5.frozen? ⟨w.heap.size + 1, 2, none⟩ = false := hl5.loc.frozen 2
  have cl3 : w5.cell? ⟨w.heap.size + 1, 3, none⟩ = some (.int .i64 0) := hl5.loc.cell 3 rfl
  have fl3 : w5.frozen? ⟨w.heap.size + 1, 3, none⟩ = false := hl5.loc.frozen 3
  have cl6 : w5.cell? ⟨w.heap.size + 1, 6, none⟩ = some (.int .i64 0) := hl5.loc.cell 6 rfl
  have fl6 : w5.frozen? ⟨w.heap.size + 1, 6, none⟩ = false := hl5.loc.frozen 6
  have Hl5 := Lib.hid hl5
  clear hl5 MB HS
  generalize w3.heap.size = D at *
  go_wp2_with fail
  have HlA : Hid (RLoc w 41 AcZ (actC ⟨4, ⟨4, (x, y), (0, 0), z, Lk.zero⟩, 0, 0, Cf.zero⟩ (.slice none 0 0) (.slice none 0 0) (.slice none 0 0)) (((w5.setCell ⟨w.heap.size + 1, 2, none⟩ (.int .i64 x)).setCell ⟨w.heap.size + 1, 3, none⟩ (.int .i64 y)).setCell ⟨w.heap.size + 1, 6, none⟩ (.int .i64 z))) := Lib.hid ((Hl5.out.puts 2 [.int .i64 x, .int .i64 y]).put 6 (.int .i64 z))
  clear d0 d1 d2 cl2 cl3 cl6 fl2 fl3 fl6 ib0 ib1 ck
  have hA : ∃ wB, wB = (((w5.setCell ⟨w.heap.size + 1, 2, none⟩ (.int .i64 x)).setCell ⟨w.heap.size + 1, 3, none⟩ (.int .i64 y)).setCell ⟨w.heap.size + 1, 6, none⟩ (.int .i64 z)) := ⟨_, rfl⟩
  obtain ⟨wB, hA⟩ := hA
  rw [← hA] at HlA ⊢
  clear hA
  have Hact : Hid (actAt bs n = (lookAt bs q 4).bind fun l => some (⟨4, ⟨4, (x, y), (0, 0), z, l.1⟩, 0, 0, Cf.zero⟩, l.2)) := Lib.hid (by
    rw [act_opr hlt Hbk.out (by omega) (by omega)]
    refine (congrArg (Option.bind · _) (opr4 Ht.out)).trans ?_
    cases lookAt bs q 4 <;> rfl)
  refine (lookR_low wB (some ⟨b, o, none⟩) cb bs (H.out.mod HlA.out.mod (fun _ _ _ h => h)) Hby.out hl q hq 4 (by omega)).mono ?_
  rintro e w7 ⟨hm7, hp⟩
  have Hl7 := Lib.hid (HlA.out.next hm7)
  clear hm7
  rcases ht : lookAt bs q 4 with _ | ⟨l, q2⟩
  · rw [ht] at hp
    obtain ⟨l, p1, n1, k1, p2, n2, k2, p3, n3, k3, rfl⟩ := hp
    have Hno : Hid (actAt bs n = none) := Lib.hid (by rw [Hact.out, ht]; rfl)
    clear ht
    have Hbx := Lib.hid (box_put w7 35 LkZ (lookC l (.slice p1 n1 k1) (.slice p2 n2 k2) (.slice p3 n3 k3)) rfl)
    have Hlb := Lib.hid (Hl7.out.next Hbx.out.1)
    have Htl := Lib.hid (Hlb.out.loc.there 7 28 (by simp [actC]))
    have hl8 := Hlb.out.puts 7 (lookC l (.slice p1 n1 k1) (.slice p2 n2 k2) (.slice p3 n3 k3)).toList
    rw [setMany_actl] at hl8
    have Hl8 := Lib.hid hl8
    clear hl8
    have HB : Hid (Blk _ (w.heap.size + 1) 41 (actC ⟨4, ⟨4, (x, y), (0, 0), z, l⟩, 0, 0, Cf.zero⟩ (.slice p1 n1 k1) (.slice p2 n2 k2) (.slice p3 n3 k3))) := Lib.hid Hl8.out.loc
    have Hth := Lib.hid (Hl8.out.res.there 0 42 (by simp))
    go_wp2_with (first | ((with_reducible refine wpList_store_mid ?g_n 35 ?x_n ?y_n ?o_n w7.heap.size 0 (lookC l (.slice p1 n1 k1) (.slice p2 n2 k2) (.slice p3 n3 k3)) ?h_n ?j_n ?t_n ?i_n ?s_n ?r_n); (case g_n | o_n | h_n | j_n => exact rfl); (case t_n => exact Hbx.out.2.2); (case i_n => exact size_look); (case s_n => exact lookC_one _ _ _ _ _ _ _ _ _ _)) | ((with_reducible refine wpList_load_row ?g_o 35 ?x_o ?o_o w7.heap.size ?h_o ?t_o ?c_o ?f_o ?d_o ?b_o ?u_o ?s_o ?i_o ?r_o); (case g_o | o_o | h_o => exact rfl); (case b_o => exact Hbx.out.2.1); (case u_o => exact Try.underlying35); (case s_o => exact rfl); (case i_o => exact size_look)) | ((with_reducible refine wpList_store_mid ?g_p 35 ?x_p ?y_p ?o_p (w.heap.size + 1) 7 (lookC l (.slice p1 n1 k1) (.slice p2 n2 k2) (.slice p3 n3 k3)) ?h_p ?j_p ?t_p ?i_p ?s_p ?r_p); (case g_p | o_p | h_p | j_p => exact rfl); (case t_p => exact Htl.out); (case i_p => exact size_look); (case s_p => exact lookC_one _ _ _ _ _ _ _ _ _ _)) | ((with_reducible refine wpList_load_row ?g_q 41 ?x_q ?o_q (w.heap.size + 1) ?h_q ?t_q ?c_q ?f_q ?d_q ?b_q ?u_q ?s_q ?i_q ?r_q); (case g_q | o_q | h_q => exact rfl); (case b_q => exact HB.out); (case u_q => exact Try.underlying41); (case s_q => exact rfl); (case i_q => exact size_act)) | ((with_reducible refine wpList_store_mid ?g2_q 41 ?x2_q ?y_q ?o2_q w.heap.size 0 (actC ⟨4, ⟨4, (x, y), (0, 0), z, l⟩, 0, 0, Cf.zero⟩ (.slice p1 n1 k1) (.slice p2 n2 k2) (.slice p3 n3 k3)) ?h2_q ?j_q ?t2_q ?i2_q ?s2_q ?r2_q); (case g2_q | o2_q | h2_q | j_q => exact rfl); (case t2_q => exact Hth.out); (case i2_q => exact size_act); (case s2_q => exact actC_one _ _ _ _ _ _ _ _ _ _)) | fail)
    have hd := RLoc.done (cs := actC ⟨4, ⟨4, (x, y), (0, 0), z, l⟩, 0, 0, Cf.zero⟩ (.slice p1 n1 k1) (.slice p2 n2 k2) (.slice p3 n3 k3)) Hl8.out rfl
    refine bodyPost_ret (v := .tuple #[.agg (actC ⟨4, ⟨4, (x, y), (0, 0), z, l⟩, 0, 0, Cf.zero⟩ (.slice p1 n1 k1) (.slice p2 n2 k2) (.slice p3 n3 k3)), .int .i64 0, .bool false]) (results_one _ _ w.heap.size (actC ⟨4, ⟨4, (x, y), (0, 0), z, l⟩, 0, 0, Cf.zero⟩ (.slice p1 n1 k1) (.slice p2 n2 k2) (.slice p3 n3 k3)) rfl _ _ rfl rfl rfl hd.2.1) rfl ?_
    exact on_fail Hno.out hd.1 _ _ _ _ _ _ _ _ _ _
  rw [ht] at hp
  obtain ⟨p1, n1, k1, p2, n2, k2, p3, n3, k3, rfl, hr⟩ := hp
  have Hres : Hid (actAt bs n = some (⟨4, ⟨4, (x, y), (0, 0), z, l⟩, 0, 0, Cf.zero⟩, q2)) := Lib.hid (by rw [Hact.out, ht]; rfl)
  have Hr := Lib.hid hr
  have Hs0 : Hid (w.heap.size + 1 < wB.heap.size) := Lib.hid HlA.out.loc.lt
  clear ht hr
  have Hbx := Lib.hid (box_put w7 35 LkZ (lookC l (.slice p1 n1 k1) (.slice p2 n2 k2) (.slice p3 n3 k3)) rfl)
  have Hlb := Lib.hid (Hl7.out.next Hbx.out.1)
  have Htl := Lib.hid (Hlb.out.loc.there 7 28 (by simp [actC]))
  have hl8 := Hlb.out.puts 7 (lookC l (.slice p1 n1 k1) (.slice p2 n2 k2) (.slice p3 n3 k3)).toList
  rw [setMany_actl] at hl8
  have Hl8 := Lib.hid hl8
  clear hl8
  have HB : Hid (Blk _ (w.heap.size + 1) 41 (actC ⟨4, ⟨4, (x, y), (0, 0), z, l⟩, 0, 0, Cf.zero⟩ (.slice p1 n1 k1) (.slice p2 n2 k2) (.slice p3 n3 k3))) := Lib.hid Hl8.out.loc
  have Hth := Lib.hid (Hl8.out.res.there 0 42 (by simp))
  go_wp2_with (first | ((with_reducible refine wpList_store_mid ?g_r 35 ?x_r ?y_r ?o_r w7.heap.size 0 (lookC l (.slice p1 n1 k1) (.slice p2 n2 k2) (.slice p3 n3 k3)) ?h_r ?j_r ?t_r ?i_r ?s_r ?r_r); (case g_r | o_r | h_r | j_r => exact rfl); (case t_r => exact Hbx.out.2.2); (case i_r => exact size_look); (case s_r => exact lookC_one _ _ _ _ _ _ _ _ _ _)) | ((with_reducible refine wpList_load_row ?g_s 35 ?x_s ?o_s w7.heap.size ?h_s ?t_s ?c_s ?f_s ?d_s ?b_s ?u_s ?s_s ?i_s ?r_s); (case g_s | o_s | h_s => exact rfl); (case b_s => exact Hbx.out.2.1); (case u_s => exact Try.underlying35); (case s_s => exact rfl); (case i_s => exact size_look)) | ((with_reducible refine wpList_store_mid ?g_t 35 ?x_t ?y_t ?o_t (w.heap.size + 1) 7 (lookC l (.slice p1 n1 k1) (.slice p2 n2 k2) (.slice p3 n3 k3)) ?h_t ?j_t ?t_t ?i_t ?s_t ?r_t); (case g_t | o_t | h_t | j_t => exact rfl); (case t_t => exact Htl.out); (case i_t => exact size_look); (case s_t => exact lookC_one _ _ _ _ _ _ _ _ _ _)) | ((with_reducible refine wpList_load_row ?g_u 41 ?x_u ?o_u (w.heap.size + 1) ?h_u ?t_u ?c_u ?f_u ?d_u ?b_u ?u_u ?s_u ?i_u ?r_u); (case g_u | o_u | h_u => exact rfl); (case b_u => exact HB.out); (case u_u => exact Try.underlying41); (case s_u => exact rfl); (case i_u => exact size_act)) | ((with_reducible refine wpList_store_mid ?g2_u 41 ?x2_u ?y_u ?o2_u w.heap.size 0 (actC ⟨4, ⟨4, (x, y), (0, 0), z, l⟩, 0, 0, Cf.zero⟩ (.slice p1 n1 k1) (.slice p2 n2 k2) (.slice p3 n3 k3)) ?h2_u ?j_u ?t2_u ?i2_u ?s2_u ?r2_u); (case g2_u | o2_u | h2_u | j_u => exact rfl); (case t2_u => exact Hth.out); (case i2_u => exact size_act); (case s2_u => exact actC_one _ _ _ _ _ _ _ _ _ _)) | fail)
  have hd := RLoc.done (cs := actC ⟨4, ⟨4, (x, y), (0, 0), z, l⟩, 0, 0, Cf.zero⟩ (.slice p1 n1 k1) (.slice p2 n2 k2) (.slice p3 n3 k3)) Hl8.out rfl
  refine bodyPost_ret (v := .tuple #[.agg (actC ⟨4, ⟨4, (x, y), (0, 0), z, l⟩, 0, 0, Cf.zero⟩ (.slice p1 n1 k1) (.slice p2 n2 k2) (.slice p3 n3 k3)), .int .i64 q2, .bool true]) (results_one _ _ w.heap.size (actC ⟨4, ⟨4, (x, y), (0, 0), z, l⟩, 0, 0, Cf.zero⟩ (.slice p1 n1 k1) (.slice p2 n2 k2) (.slice p3 n3 k3)) rfl _ _ rfl rfl rfl hd.2.1) rfl ?_
  exact on_done Hres.out hd.1 (LookR.far (Hr.out.mod Hbx.out.1 (fun _ _ _ h => h)) (Mod.two hd.2.2) (by have := Hs0.out; omega) (by have := Hs0.out; omega) (by have := Hs0.out; omega))

set_option maxHeartbeats 4000000 in
theorem oneR_gen (w : World) (pb : Option Addr) (cb : Nat) (bs : List Nat) (h : BytesAt (fun _ => True) w (.slice pb bs.length cb) bs) (hby : ∀ x ∈ bs, x < 256) (hl : bs.length ≤ 10000000) (n : Nat) (hn : n ≤ bs.length) (hlt : n < bs.length) (k : Nat) (hbk : bs[n] = k) (hk : k = 2 ∨ 5 ≤ k ∧ k ≤ 11) :
    Calls Try.prog 27 #[.slice pb bs.length cb, .int .i64 n] w (OnP w bs n) := by
  have H := Lib.hid h
  have Hby := Lib.hid hby
  clear h hby
  have t0 : decide ((bs.length : Int) ≤ (n : Int)) = false := decide_eq_false (by omega)
  have t0' : decide (bs.length ≤ n) = false := decide_eq_false (by omega)
  obtain ⟨-, b, o, rfl, hb, -, hc⟩ := H.out.celz (by omega)
  have Hcw : Hid (w.cell? ⟨b, o + n, none⟩ = some (.int .u8 (k : Nat))) := Lib.hid (by
    have := hc n hlt
    rw [hbk] at this
    exact this)
  have hni : (n : Int) < (bs.length : Int) := by omega
  have Hb := Lib.hid hb
  clear hc hb
  have Hbk := Lib.hid hbk
  clear hbk
  have Hk := Lib.hid hk
  obtain ⟨t1, t2, t3, t4, t5, t6, t7, t8, t1', t2', u1, u2⟩ := gen_facts hk
  clear hk
  go_enter Try.func27, Try.ntmps27
  go_wp2_with (first | ((with_reducible refine wpList_buildTo ?g7 41 ?p7 ?o7 ?d7 ?e7 (AcZ) ?f7 ?r7); (case g7 | o7 | e7 => exact rfl); (case f7 => kernel_rfl)) | ((with_reducible refine wpList_store_mid ?g8 41 ?x8 ?y8 ?o8 (w.heap.size + 1) 0 (AcZ) ?h8 ?j8 ?t8 ?i8 ?s8 ?r8); (case g8 | o8 | h8 | j8 => exact rfl); (case t8 => exact there_act w); (case i8 => exact size_act); (case s8 => exact oneR_act); (have Hl0 := Lib.hid (start_act w)); (generalize ((w.alloc (.cells AcZ 41)).alloc (.cells AcZ 41)).setCells (w.heap.size + 1) 0 (AcZ).toList = w0 at *); (have hcell : w0.cell? ⟨b, o + n, none⟩ = some (.int .u8 (k : Nat)) := (Hl0.out.mod.cell (p := ⟨b, o + n, none⟩) Hb.out (fun h => h)).trans Hcw.out); (have cl0 : w0.cell? ⟨w.heap.size + 1, 0, none⟩ = some (.int .i64 0) := Hl0.out.loc.cell 0 rfl); (have fl0 : w0.frozen? ⟨w.heap.size + 1, 0, none⟩ = false := Hl0.out.loc.frozen 0); (have hsz : w.heap.size + 1 < w0.heap.size := Hl0.out.loc.lt); (have hne : w.heap.size + 1 ≠ w0.heap.size := Nat.ne_of_lt hsz); (have hch := heads_cell w0 (w0.setCell ⟨w.heap.size + 1, 0, none⟩ (.int .i64 (k : Nat))) (by simp) Hk.out)) | fail)
  have Hl1 : Hid (RLoc w 41 AcZ (actC ⟨(k : Nat), Opr.zero, 0, 0, Cf.zero⟩ (.slice none 0 0) (.slice none 0 0) (.slice none 0 0)) ((w0.setCell ⟨w.heap.size + 1, 0, none⟩ (.int .i64 (k : Nat))).alloc (.cells #[.int .i64 0, .int .i64 3, .int .i64 2, .int .i64 5, .int .i64 3, .int .i64 2, .int .i64 2, .int .i64 2, .int .i64 2, .int .i64 2, .int .i64 2, .int .i64 2, .int .i64 2, .int .i64 2] 95))) := Lib.hid ((Hl0.out.put 0 (.int .i64 (k : Nat))).next (Gou.Mod.alloc _ _ _))
  generalize hW1 : ((w0.setCell ⟨w.heap.size + 1, 0, none⟩ (.int .i64 (k : Nat))).alloc (.cells #[.int .i64 0, .int .i64 3, .int .i64 2, .int .i64 5, .int .i64 3, .int .i64 2, .int .i64 2, .int .i64 2, .int .i64 2, .int .i64 2, .int .i64 2, .int .i64 2, .int .i64 2, .int .i64 2] 95)) = w1 at *
  clear hW1 hch hcell cl0 fl0 hsz hne
  rw [show (n : Int) + 1 = ((n + 1 : Nat) : Int) from by push_cast; rfl]
  refine (numbersR_any w1 (some ⟨b, o, none⟩) cb bs (H.out.mod Hl1.out.mod (fun _ _ _ h => h)) Hby.out hl (n + 1) 2 (by omega) (by omega)).mono ?_
  rintro e w2 ⟨hm2, hp⟩
  have Hl2 := Lib.hid (Hl1.out.next hm2)
  clear hm2
  have ck : w2.cell? ⟨w.heap.size + 1, 0, none⟩ = some (.int .i64 (k : Nat)) := Hl2.out.loc.cell 0 rfl
  rcases ht : timesAt (numAt bs) (n + 1) 2 with _ | ⟨xs, q⟩
  · rw [ht] at hp
    subst hp
    have Hno : Hid (actAt bs n = none) := Lib.hid (by rw [act_opr hlt Hbk.out (by have := Hk.out; omega) (by have := Hk.out; omega)]; exact congrArg (Option.bind · _) (oprI_none (by have := Hk.out; omega) ht))
    clear ht
    have HB : Hid (Blk _ (w.heap.size + 1) 41 (actC ⟨(k : Nat), Opr.zero, 0, 0, Cf.zero⟩ (.slice none 0 0) (.slice none 0 0) (.slice none 0 0))) := Lib.hid Hl2.out.loc
    have Hth := Lib.hid (Hl2.out.res.there 0 42 (by simp))
    go_wp2_with (first | ((with_reducible refine wpList_load_row ?g_1k 41 ?x_1k ?o_1k (w.heap.size + 1) ?h_1k ?t_1k ?c_1k ?f_1k ?d_1k ?b_1k ?u_1k ?s_1k ?i_1k ?r_1k); (case g_1k | o_1k | h_1k => exact rfl); (case b_1k => exact HB.out); (case u_1k => exact Try.underlying41); (case s_1k => exact rfl); (case i_1k => exact size_act)) | ((with_reducible refine wpList_store_mid ?g2_1k 41 ?x2_1k ?y_1k ?o2_1k w.heap.size 0 (actC ⟨(k : Nat), Opr.zero, 0, 0, Cf.zero⟩ (.slice none 0 0) (.slice none 0 0) (.slice none 0 0)) ?h2_1k ?j_1k ?t2_1k ?i2_1k ?s2_1k ?r2_1k); (case g2_1k | o2_1k | h2_1k | j_1k => exact rfl); (case t2_1k => exact Hth.out); (case i2_1k => exact size_act); (case s2_1k => exact actC_one _ _ _ _ _ _ _ _ _ _)) | fail)
    have hd := RLoc.done (cs := actC ⟨(k : Nat), Opr.zero, 0, 0, Cf.zero⟩ (.slice none 0 0) (.slice none 0 0) (.slice none 0 0)) Hl2.out rfl
    refine bodyPost_ret (v := .tuple #[.agg (actC ⟨(k : Nat), Opr.zero, 0, 0, Cf.zero⟩ (.slice none 0 0) (.slice none 0 0) (.slice none 0 0)), .int .i64 0, .bool false]) (results_one _ _ w.heap.size (actC ⟨(k : Nat), Opr.zero, 0, 0, Cf.zero⟩ (.slice none 0 0) (.slice none 0 0) (.slice none 0 0)) rfl _ _ rfl rfl rfl hd.2.1) rfl ?_
    exact on_fail Hno.out hd.1 _ _ _ _ _ _ _ _ _ _
  rw [ht] at hp
  obtain ⟨p, c, rfl, hown, hxl⟩ := hp
  obtain ⟨x, y, m, rfl, -, -⟩ := times_two ht
  obtain ⟨g2, rfl, hg0, hg1, hc⟩ := own_ints hown (by omega)
  have hq : q ≤ bs.length := (times_spec (num_spec Hby.out) 2).end_le ht (by omega)
  have hng : w.heap.size + 1 ≠ g2 := by have := Hl1.out.loc.lt; omega
  have c0 : w2.cell? ⟨g2, 0, none⟩ = some (.int .i64 x) := hc 0 (by simp)
  have c1 : w2.cell? ⟨g2, 1, none⟩ = some (.int .i64 y) := hc 1 (by simp)
  have Ht := Lib.hid ht
  clear hc hown hxl hg0 ht
  have cl1 : w2.cell? ⟨w.heap.size + 1, 1, none⟩ = some (.int .i64 0) := Hl2.out.loc.cell 1 rfl
  have fl1 : w2.frozen? ⟨w.heap.size + 1, 1, none⟩ = false := Hl2.out.loc.frozen 1
  go_wp2_with fail
  have Hl3 := Lib.hid (Hl2.out.put 1 (.int .i64 (k : Nat)))
  have d0 : (w2.setCell ⟨w.heap.size + 1, 1, none⟩ (.int .i64 (k : Nat))).cell? ⟨g2, 0, none⟩ = some (.int .i64 x) := ((Gou.Mod.setCell _ ⟨w.heap.size + 1, 1, none⟩ _).cell (p := ⟨g2, 0, none⟩) hg1 (by simp; omega)).trans c0
  have d1 : (w2.setCell ⟨w.heap.size + 1, 1, none⟩ (.int .i64 (k : Nat))).cell? ⟨g2, 1, none⟩ = some (.int .i64 y) := ((Gou.Mod.setCell _ ⟨w.heap.size + 1, 1, none⟩ _).cell (p := ⟨g2, 1, none⟩) hg1 (by simp; omega)).trans c1
  have hg3 : g2 < (w2.setCell ⟨w.heap.size + 1, 1, none⟩ (.int .i64 (k : Nat))).heap.size := by simpa using hg1
  generalize (w2.setCell ⟨w.heap.size + 1, 1, none⟩ (.int .i64 (k : Nat))) = w3 at *
  clear c0 c1 ck cl1 fl1 hg1
  have HS : Hid (∀ w' : World, Gou.Mod (fun _ => False) w3 w' → w'.cell? ⟨g2, 0, none⟩ = some (.int .i64 x) ∧ w'.cell? ⟨g2, 1, none⟩ = some (.int .i64 y)) := Lib.hid (fun w' hm => ⟨(hm.cell (p := ⟨g2, 0, none⟩) hg3 (fun h => h)).trans d0, (hm.cell (p := ⟨g2, 1, none⟩) hg3 (fun h => h)).trans d1⟩)
  clear d0 d1
  have Hg3 := Lib.hid hg3
  clear hg3
  refine wp_region_held_drew (S := fun w' => Gou.Mod (fun _ => False) w3 w') (by kernel_rfl) (Gou.Mod.drew _ _) (fun hHeld => ?_)
  refine wpAnyH_take (i := 0) (oi := ({ dst := some 123, op := Op.move (Operand.tmp 9), type := 72, pos := "ref.go:240", after := #[], guard := none } : Oper)) (v := .slice (some ⟨g2, 0, none⟩) 2 c) rfl (by kernel_rfl) (by kernel_rfl) (by kernel_rfl) (fun _ _ _ h => h) (Or.inl ⟨by rfl, ?_⟩) hHeld ?_
  · (intro w' hSw; (try dsimp only at hSw); obtain ⟨s0, s1⟩ := HS.out w' hSw; clear hSw; go_simp; (try with_reducible rfl))
  try simp only [Act.put, uSa, uSb, uSc]
  refine wpAnyH_take (i := 1) (oi := ({ dst := some 124, op := Op.indexAddr 72 (Operand.tmp 123) (Operand.const (Value.int IntKind.i64 0)), type := 0, pos := "ref.go:240", after := #[gD 0], guard := none } : Oper)) (v := .pointer (some ⟨g2, 0, none⟩)) rfl (by kernel_rfl) (by kernel_rfl) (by kernel_rfl) (fun _ _ _ h => h) (Or.inl ⟨by rfl, ?_⟩) hHeld ?_
  · (intro w' hSw; (try dsimp only at hSw); obtain ⟨s0, s1⟩ := HS.out w' hSw; clear hSw; go_simp; (try with_reducible rfl))
  try simp only [Act.put, uSa, uSb, uSc]
  refine wpAnyH_take (i := 2) (oi := ({ dst := some 125, op := Op.load 3 (Operand.tmp 124), type := 3, pos := "ref.go:240", after := #[gD 1], guard := none } : Oper)) (v := .int .i64 x) rfl (by kernel_rfl) (by kernel_rfl) (by kernel_rfl) (fun _ _ _ h => h) (Or.inl ⟨by rfl, ?_⟩) hHeld ?_
  · (intro w' hSw; (try dsimp only at hSw); obtain ⟨s0, s1⟩ := HS.out w' hSw; clear hSw; go_simp; (try with_reducible rfl))
  try simp only [Act.put, uSa, uSb, uSc]
  refine wpAnyH_take (i := 3) (oi := ({ dst := some 126, op := Op.move (Operand.tmp 9), type := 72, pos := "ref.go:240", after := #[], guard := none } : Oper)) (v := .slice (some ⟨g2, 0, none⟩) 2 c) rfl (by kernel_rfl) (by kernel_rfl) (by kernel_rfl) (fun _ _ _ h => h) (Or.inl ⟨by rfl, ?_⟩) hHeld ?_
  · (intro w' hSw; (try dsimp only at hSw); obtain ⟨s0, s1⟩ := HS.out w' hSw; clear hSw; go_simp; (try with_reducible rfl))
  try simp only [Act.put, uSa, uSb, uSc]
  refine wpAnyH_take (i := 4) (oi := ({ dst := some 127, op := Op.indexAddr 72 (Operand.tmp 126) (Operand.const (Value.int IntKind.i64 1)), type := 0, pos := "ref.go:240", after := #[gD 3], guard := none } : Oper)) (v := .pointer (some ⟨g2, 1, none⟩)) rfl (by kernel_rfl) (by kernel_rfl) (by kernel_rfl) (fun _ _ _ h => h) (Or.inl ⟨by rfl, ?_⟩) hHeld ?_
  · (intro w' hSw; (try dsimp only at hSw); obtain ⟨s0, s1⟩ := HS.out w' hSw; clear hSw; go_simp; (try with_reducible rfl))
  try simp only [Act.put, uSa, uSb, uSc]
  refine wpAnyH_take (i := 5) (oi := ({ dst := some 128, op := Op.load 3 (Operand.tmp 127), type := 3, pos := "ref.go:240", after := #[gD 4], guard := none } : Oper)) (v := .int .i64 y) rfl (by kernel_rfl) (by kernel_rfl) (by kernel_rfl) (fun _ _ _ h => h) (Or.inl ⟨by rfl, ?_⟩) hHeld ?_
  · (intro w' hSw; (try dsimp only at hSw); obtain ⟨s0, s1⟩ := HS.out w' hSw; clear hSw; go_simp; (try with_reducible rfl))
  try simp only [Act.put, uSa, uSb, uSc]
  refine wpAnyH_take (i := 6) (oi := ({ dst := some 129, op := Op.build 23 #[(0, Operand.tmp 125), (1, Operand.tmp 128)], type := 23, pos := "ref.go:240", after := #[gD 2, gD 5], guard := none } : Oper)) (v := .agg #[.int .i64 x, .int .i64 y]) rfl (by kernel_rfl) (by kernel_rfl) (by kernel_rfl) (fun _ _ _ h => h) (Or.inl ⟨by rfl, ?_⟩) hHeld ?_
  · (intro w' hSw; (try dsimp only at hSw); obtain ⟨s0, s1⟩ := HS.out w' hSw; clear hSw; go_simp; (try with_reducible rfl))
  try simp only [Act.put, uSa, uSb, uSc]
  refine wpAnyH_ready (rs := [7]) (by kernel_rfl) (by simp) (AllReadyH.cons (o := ({ dst := some 11, op := Op.alloc 23, type := 0, pos := "ref.go:240", after := #[], guard := none } : Oper)) rfl (fun K9 hK => ?_) AllReadyH.nil)
  go_simp
  have BA : Blk ((w3.alloc (.cells #[.int .i64 0, .int .i64 0] 23)).drew) w3.heap.size 23 #[.int .i64 0, .int .i64 0] := (show Blk (w3.alloc (.cells #[.int .i64 0, .int .i64 0] 23)) w3.heap.size 23 _ from heap_alloc_new w3 _).mod (Gou.Mod.drew (fun _ => False) _) (fun h => h)
  have MA : Gou.Mod (fun _ => False) w3 ((w3.alloc (.cells #[.int .i64 0, .int .i64 0] 23)).drew) := (Gou.Mod.alloc _ _ _).trans' (Gou.Mod.drew _ _)
  clear hHeld
  refine hK _ _ MA (fun hHeld => ?_)
  clear hK K9
  try simp only [Act.put, uSa, uSb, uSc]
  clear hHeld
  have hA : ∃ wA, wA = ((w3.alloc (.cells #[.int .i64 0, .int .i64 0] 23)).drew) := ⟨_, rfl⟩
  obtain ⟨wA, hA⟩ := hA
  rw [← hA] at MA BA ⊢
  clear hA
  have hHeld := MA
  have ia0 : wA.cell? ⟨w3.heap.size, 0, none⟩ = some (.int .i64 0) := BA.cell 0 rfl
  have ia1 : wA.cell? ⟨w3.heap.size, 1, none⟩ = some (.int .i64 0) := BA.cell 1 rfl
  have ja0 : wA.frozen? ⟨w3.heap.size, 0, none⟩ = false := BA.frozen 0
  have ja1 : wA.frozen? ⟨w3.heap.size, 1, none⟩ = false := BA.frozen 1
  refine wpAnyH_ready (rs := [8]) (by kernel_rfl) (by simp) (AllReadyH.cons (o := ({ dst := none, op := Op.store 23 (Operand.tmp 11) (Operand.tmp 129), type := 0, pos := "ref.go:240", after := #[gD 7, gD 6, gP 0, gP 1, gP 2, gP 3, gP 4, gP 5, gP 6, gP 7], guard := none } : Oper)) rfl (fun K9 hK => ?_) AllReadyH.nil)
  go_simp
  have MB := id_box MA BA x y
  clear hHeld ia0 ia1 ja0 ja1
  refine hK _ _ MB.1 (fun hHeld => ?_)
  clear hK K9
  try simp only [Act.put, uSa, uSb, uSc]
  refine wpAnyH_done (by kernel_rfl) ?_ _
  clear hHeld
  have hA : ∃ w5, w5 = ((wA.setCell ⟨w3.heap.size, 0, none⟩ (.int .i64 x)).setCell ⟨w3.heap.size, 1, none⟩ (.int .i64 y)) := ⟨_, rfl⟩
  obtain ⟨w5, hA⟩ := hA
  rw [← hA] at MB ⊢
  clear hA MA BA
  have hD : w3.heap.size ≠ w.heap.size + 1 := by have := Hl3.out.loc.lt; omega
  have hl5 := Hl3.out.next MB.1
  have Hg5 : Hid (g2 < w5.heap.size) := Lib.hid (Nat.lt_of_lt_of_le Hg3.out MB.1.size)
  obtain ⟨d0, d1⟩ := HS.out w5 MB.1
  have ib0 : w5.cell? ⟨w3.heap.size, 0, none⟩ = some (.int .i64 x) := MB.2.cell 0 rfl
  have ib1 : w5.cell? ⟨w3.heap.size, 1, none⟩ = some (.int .i64 y) := MB.2.cell 1 rfl
  have ck : w5.cell? ⟨w.heap.size + 1, 0, none⟩ = some (.int .i64 (k : Nat)) := hl5.loc.cell 0 rfl
  have cl2 : w5.cell? ⟨w.heap.size + 1, 2, none⟩ = some (.int .i64 0) := hl5.loc.cell 2 rfl
  have fl2 : w5.frozen? ⟨w.heap.size + 1, 2, none⟩ = false := hl5.loc.frozen 2
  have cl3 : w5.cell? ⟨w.heap.size + 1, 3, none⟩ = some (.int .i64 0) := hl5.loc.cell 3 rfl
  have fl3 : w5.frozen? ⟨w.heap.size + 1, 3, none⟩ = false := hl5.loc.frozen 3
  have Hl5 := Lib.hid hl5
  clear hl5 MB HS
  generalize w3.heap.size = D at *
  go_wp2_with fail
  have HlA : Hid (RLoc w 41 AcZ (actC ⟨(k : Nat), ⟨(k : Nat), (x, y), (0, 0), 0, Lk.zero⟩, 0, 0, Cf.zero⟩ (.slice none 0 0) (.slice none 0 0) (.slice none 0 0)) ((w5.setCell ⟨w.heap.size + 1, 2, none⟩ (.int .i64 x)).setCell ⟨w.heap.size + 1, 3, none⟩ (.int .i64 y))) := Lib.hid (Hl5.out.puts 2 [.int .i64 x, .int .i64 y])
  clear d0 d1 cl2 cl3 fl2 fl3 ib0 ib1 ck
  have hA : ∃ wB, wB = ((w5.setCell ⟨w.heap.size + 1, 2, none⟩ (.int .i64 x)).setCell ⟨w.heap.size + 1, 3, none⟩ (.int .i64 y)) := ⟨_, rfl⟩
  obtain ⟨wB, hA⟩ := hA
  rw [← hA] at HlA ⊢
  clear hA
  have Hact : Hid (actAt bs n = (lookAt bs q (k : Nat)).bind fun l => some (⟨(k : Nat), ⟨(k : Nat), (x, y), (0, 0), 0, l.1⟩, 0, 0, Cf.zero⟩, l.2)) := Lib.hid (by
    rw [act_opr hlt Hbk.out (by have := Hk.out; omega) (by have := Hk.out; omega)]
    refine (congrArg (Option.bind · _) (oprI (by have := Hk.out; omega) Ht.out)).trans ?_
    cases lookAt bs q (k : Nat) <;> rfl)
  refine (lookR_gen wB (some ⟨b, o, none⟩) cb bs (H.out.mod HlA.out.mod (fun _ _ _ h => h)) Hby.out hl q hq k Hk.out).mono ?_
  rintro e w7 ⟨hm7, hp⟩
  have Hl7 := Lib.hid (HlA.out.next hm7)
  clear hm7
  rcases ht : lookAt bs q (k : Nat) with _ | ⟨l, q2⟩
  · rw [ht] at hp
    obtain ⟨l, p1, n1, k1, p2, n2, k2, p3, n3, k3, rfl⟩ := hp
    have Hno : Hid (actAt bs n = none) := Lib.hid (by rw [Hact.out, ht]; rfl)
    clear ht
    have Hbx := Lib.hid (box_put w7 35 LkZ (lookC l (.slice p1 n1 k1) (.slice p2 n2 k2) (.slice p3 n3 k3)) rfl)
    have Hlb := Lib.hid (Hl7.out.next Hbx.out.1)
    have Htl := Lib.hid (Hlb.out.loc.there 7 28 (by simp [actC]))
    have hl8 := Hlb.out.puts 7 (lookC l (.slice p1 n1 k1) (.slice p2 n2 k2) (.slice p3 n3 k3)).toList
    rw [setMany_actl] at hl8
    have Hl8 := Lib.hid hl8
    clear hl8
    have HB : Hid (Blk _ (w.heap.size + 1) 41 (actC ⟨(k : Nat), ⟨(k : Nat), (x, y), (0, 0), 0, l⟩, 0, 0, Cf.zero⟩ (.slice p1 n1 k1) (.slice p2 n2 k2) (.slice p3 n3 k3))) := Lib.hid Hl8.out.loc
    have Hth := Lib.hid (Hl8.out.res.there 0 42 (by simp))
    go_wp2_with (first | ((with_reducible refine wpList_store_mid ?g_1c 35 ?x_1c ?y_1c ?o_1c w7.heap.size 0 (lookC l (.slice p1 n1 k1) (.slice p2 n2 k2) (.slice p3 n3 k3)) ?h_1c ?j_1c ?t_1c ?i_1c ?s_1c ?r_1c); (case g_1c | o_1c | h_1c | j_1c => exact rfl); (case t_1c => exact Hbx.out.2.2); (case i_1c => exact size_look); (case s_1c => exact lookC_one _ _ _ _ _ _ _ _ _ _)) | ((with_reducible refine wpList_load_row ?g_1d 35 ?x_1d ?o_1d w7.heap.size ?h_1d ?t_1d ?c_1d ?f_1d ?d_1d ?b_1d ?u_1d ?s_1d ?i_1d ?r_1d); (case g_1d | o_1d | h_1d => exact rfl); (case b_1d => exact Hbx.out.2.1); (case u_1d => exact Try.underlying35); (case s_1d => exact rfl); (case i_1d => exact size_look)) | ((with_reducible refine wpList_store_mid ?g_1e 35 ?x_1e ?y_1e ?o_1e (w.heap.size + 1) 7 (lookC l (.slice p1 n1 k1) (.slice p2 n2 k2) (.slice p3 n3 k3)) ?h_1e ?j_1e ?t_1e ?i_1e ?s_1e ?r_1e); (case g_1e | o_1e | h_1e | j_1e => exact rfl); (case t_1e => exact Htl.out); (case i_1e => exact size_look); (case s_1e => exact lookC_one _ _ _ _ _ _ _ _ _ _)) | ((with_reducible refine wpList_load_row ?g_1f 41 ?x_1f ?o_1f (w.heap.size + 1) ?h_1f ?t_1f ?c_1f ?f_1f ?d_1f ?b_1f ?u_1f ?s_1f ?i_1f ?r_1f); (case g_1f | o_1f | h_1f => exact rfl); (case b_1f => exact HB.out); (case u_1f => exact Try.underlying41); (case s_1f => exact rfl); (case i_1f => exact size_act)) | ((with_reducible refine wpList_store_mid ?g2_1f 41 ?x2_1f ?y_1f ?o2_1f w.heap.size 0 (actC ⟨(k : Nat), ⟨(k : Nat), (x, y), (0, 0), 0, l⟩, 0, 0, Cf.zero⟩ (.slice p1 n1 k1) (.slice p2 n2 k2) (.slice p3 n3 k3)) ?h2_1f ?j_1f ?t2_1f ?i2_1f ?s2_1f ?r2_1f); (case g2_1f | o2_1f | h2_1f | j_1f => exact rfl); (case t2_1f => exact Hth.out); (case i2_1f => exact size_act); (case s2_1f => exact actC_one _ _ _ _ _ _ _ _ _ _)) | fail)
    have hd := RLoc.done (cs := actC ⟨(k : Nat), ⟨(k : Nat), (x, y), (0, 0), 0, l⟩, 0, 0, Cf.zero⟩ (.slice p1 n1 k1) (.slice p2 n2 k2) (.slice p3 n3 k3)) Hl8.out rfl
    refine bodyPost_ret (v := .tuple #[.agg (actC ⟨(k : Nat), ⟨(k : Nat), (x, y), (0, 0), 0, l⟩, 0, 0, Cf.zero⟩ (.slice p1 n1 k1) (.slice p2 n2 k2) (.slice p3 n3 k3)), .int .i64 0, .bool false]) (results_one _ _ w.heap.size (actC ⟨(k : Nat), ⟨(k : Nat), (x, y), (0, 0), 0, l⟩, 0, 0, Cf.zero⟩ (.slice p1 n1 k1) (.slice p2 n2 k2) (.slice p3 n3 k3)) rfl _ _ rfl rfl rfl hd.2.1) rfl ?_
    exact on_fail Hno.out hd.1 _ _ _ _ _ _ _ _ _ _
  rw [ht] at hp
  obtain ⟨p1, n1, k1, p2, n2, k2, p3, n3, k3, rfl, hr⟩ := hp
  have Hres : Hid (actAt bs n = some (⟨(k : Nat), ⟨(k : Nat), (x, y), (0, 0), 0, l⟩, 0, 0, Cf.zero⟩, q2)) := Lib.hid (by rw [Hact.out, ht]; rfl)
  have Hr := Lib.hid hr
  have Hs0 : Hid (w.heap.size + 1 < wB.heap.size) := Lib.hid HlA.out.loc.lt
  clear ht hr
  have Hbx := Lib.hid (box_put w7 35 LkZ (lookC l (.slice p1 n1 k1) (.slice p2 n2 k2) (.slice p3 n3 k3)) rfl)
  have Hlb := Lib.hid (Hl7.out.next Hbx.out.1)
  have Htl := Lib.hid (Hlb.out.loc.there 7 28 (by simp [actC]))
  have hl8 := Hlb.out.puts 7 (lookC l (.slice p1 n1 k1) (.slice p2 n2 k2) (.slice p3 n3 k3)).toList
  rw [setMany_actl] at hl8
  have Hl8 := Lib.hid hl8
  clear hl8
  have HB : Hid (Blk _ (w.heap.size + 1) 41 (actC ⟨(k : Nat), ⟨(k : Nat), (x, y), (0, 0), 0, l⟩, 0, 0, Cf.zero⟩ (.slice p1 n1 k1) (.slice p2 n2 k2) (.slice p3 n3 k3))) := Lib.hid Hl8.out.loc
  have Hth := Lib.hid (Hl8.out.res.there 0 42 (by simp))
  go_wp2_with (first | ((with_reducible refine wpList_store_mid ?g_1g 35 ?x_1g ?y_1g ?o_1g w7.heap.size 0 (lookC l (.slice p1 n1 k1) (.slice p2 n2 k2) (.slice p3 n3 k3)) ?h_1g ?j_1g ?t_1g ?i_1g ?s_1g ?r_1g); (case g_1g | o_1g | h_1g | j_1g => exact rfl); (case t_1g => exact Hbx.out.2.2); (case i_1g => exact size_look); (case s_1g => exact lookC_one _ _ _ _ _ _ _ _ _ _)) | ((with_reducible refine wpList_load_row ?g_1h 35 ?x_1h ?o_1h w7.heap.size ?h_1h ?t_1h ?c_1h ?f_1h ?d_1h ?b_1h ?u_1h ?s_1h ?i_1h ?r_1h); (case g_1h | o_1h | h_1h => exact rfl); (case b_1h => exact Hbx.out.2.1); (case u_1h => exact Try.underlying35); (case s_1h => exact rfl); (case i_1h => exact size_look)) | ((with_reducible refine wpList_store_mid ?g_1i 35 ?x_1i ?y_1i ?o_1i (w.heap.size + 1) 7 (lookC l (.slice p1 n1 k1) (.slice p2 n2 k2) (.slice p3 n3 k3)) ?h_1i ?j_1i ?t_1i ?i_1i ?s_1i ?r_1i); (case g_1i | o_1i | h_1i | j_1i => exact rfl); (case t_1i => exact Htl.out); (case i_1i => exact size_look); (case s_1i => exact lookC_one _ _ _ _ _ _ _ _ _ _)) | ((with_reducible refine wpList_load_row ?g_1j 41 ?x_1j ?o_1j (w.heap.size + 1) ?h_1j ?t_1j ?c_1j ?f_1j ?d_1j ?b_1j ?u_1j ?s_1j ?i_1j ?r_1j); (case g_1j | o_1j | h_1j => exact rfl); (case b_1j => exact HB.out); (case u_1j => exact Try.underlying41); (case s_1j => exact rfl); (case i_1j => exact size_act)) | ((with_reducible refine wpList_store_mid ?g2_1j 41 ?x2_1j ?y_1j ?o2_1j w.heap.size 0 (actC ⟨(k : Nat), ⟨(k : Nat), (x, y), (0, 0), 0, l⟩, 0, 0, Cf.zero⟩ (.slice p1 n1 k1) (.slice p2 n2 k2) (.slice p3 n3 k3)) ?h2_1j ?j_1j ?t2_1j ?i2_1j ?s2_1j ?r2_1j); (case g2_1j | o2_1j | h2_1j | j_1j => exact rfl); (case t2_1j => exact Hth.out); (case i2_1j => exact size_act); (case s2_1j => exact actC_one _ _ _ _ _ _ _ _ _ _)) | fail)
  have hd := RLoc.done (cs := actC ⟨(k : Nat), ⟨(k : Nat), (x, y), (0, 0), 0, l⟩, 0, 0, Cf.zero⟩ (.slice p1 n1 k1) (.slice p2 n2 k2) (.slice p3 n3 k3)) Hl8.out rfl
  refine bodyPost_ret (v := .tuple #[.agg (actC ⟨(k : Nat), ⟨(k : Nat), (x, y), (0, 0), 0, l⟩, 0, 0, Cf.zero⟩ (.slice p1 n1 k1) (.slice p2 n2 k2) (.slice p3 n3 k3)), .int .i64 q2, .bool true]) (results_one _ _ w.heap.size (actC ⟨(k : Nat), ⟨(k : Nat), (x, y), (0, 0), 0, l⟩, 0, 0, Cf.zero⟩ (.slice p1 n1 k1) (.slice p2 n2 k2) (.slice p3 n3 k3)) rfl _ _ rfl rfl rfl hd.2.1) rfl ?_
  exact on_done Hres.out hd.1 (LookR.far (Hr.out.mod Hbx.out.1 (fun _ _ _ h => h)) (Mod.two hd.2.2) (by have := Hs0.out; omega) (by have := Hs0.out; omega) (by have := Hs0.out; omega))

theorem oneR_any (w : World) (pb : Option Addr) (cb : Nat) (bs : List Nat) (h : BytesAt (fun _ => True) w (.slice pb bs.length cb) bs) (hby : ∀ x ∈ bs, x < 256) (hl : bs.length ≤ 10000000) (n : Nat) (hn : n ≤ bs.length) :
    Calls Try.prog 27 #[.slice pb bs.length cb, .int .i64 n] w (OnP w bs n) := by
  by_cases hlt : n < bs.length
  case neg => exact oneR_out w pb cb bs h hby hl n hn hlt
  obtain ⟨k, hk⟩ : ∃ k, bs[n] = k := ⟨_, rfl⟩
  by_cases h15 : 14 < k
  · exact oneR_bad w pb cb bs h hby hl n hn hlt k hk h15
  by_cases hg : k = 2 ∨ 5 ≤ k ∧ k ≤ 11
  · exact oneR_gen w pb cb bs h hby hl n hn hlt k hk hg
  have : k = 0 ∨ k = 1 ∨ k = 3 ∨ k = 4 ∨ k = 12 ∨ k = 13 ∨ k = 14 := by omega
  rcases this with rfl | rfl | rfl | rfl | rfl | rfl | rfl
  · exact oneR_zero w pb cb bs h hby hl n hn hlt hk
  · exact oneR_1 w pb cb bs h hby hl n hn hlt hk
  · exact oneR_3 w pb cb bs h hby hl n hn hlt hk
  · exact oneR_4 w pb cb bs h hby hl n hn hlt hk
  · exact oneR_12 w pb cb bs h hby hl n hn hlt hk
  · exact oneR_13 w pb cb bs h hby hl n hn hlt hk
  · exact oneR_14 w pb cb bs h hby hl n hn hlt hk

end Go.Proofs.Ytnamnmipgpcjjaa

