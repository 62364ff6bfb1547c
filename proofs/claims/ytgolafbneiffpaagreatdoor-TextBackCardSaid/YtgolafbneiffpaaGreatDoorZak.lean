/- Texts of the scenes' proofs, laid together: TyB, TyC, TyD. -/
import Derived.Test.YtgolafbneiffpaaGreatDoorZaj
set_option maxHeartbeats 64000000
set_option linter.unusedSimpArgs false
set_option linter.unusedVariables false
set_option linter.unusedSectionVars false
set_option linter.constructorNameAsVariable false
namespace Go.Proofs.YtgolafbneiffpaaGreatDoor
open Go.RowKit Go.Gou Go.Txt
set_option maxRecDepth 100000
theorem unv {a : Int} (h0 : InR a) : ∀ x ∈ [a], InR x := by
 intro x hx
 simp only [List.mem_cons, List.not_mem_nil, or_false] at hx
 rcases hx with rfl
 assumption
theorem tree_1 {w : World} {L : Nat} {ws : List Wd} {vs : Value} (h : LS w L ws vs) (o : Opr) (vp vf vb : Value) (hk : o.kind = 1) (ht : InR o.to.1 ∧ InR o.to.2) (ha : InR o.at_) (hl : ws.length ≤ 800000000) :
  Calls Tryz.prog 37 #[.pointer (some ⟨L, 0, none⟩), .agg (oprC o vp vf vb)] w (LSP w L ws vs (uml o)) := by
 have HK := hd' hk
 have Hl := hd' hl
 have Hht := hd' ht
 have Hha := hd' ha
 have HB0 := hd' (Loc.new h 37 (oprC o vp vf vb) rfl)
 have HS0 := hd' (h.other (Gou.Mod.alloc0 _ (.cells (oprC o vp vf vb) 37)))
 have HT0 := hd' (WTo.other (W := L) (Gou.Mod.alloc0 w (.cells (oprC o vp vf vb) 37)) vs)
 clear h hk hl ht ha
 go_enter Tryz.func37, Tryz.ntmps37
 have c0_0 : ((w.alloc (.cells (oprC o vp vf vb) 37))).cell? ⟨w.heap.size, 0, none⟩ = some (iV 1) := by rw [← HK.o]; exact HB0.o.blk.cell 0 rfl
 go_wp2_with fail
 refine (ulr HS0.o [un0] (by have := Hl.o; simp [nums]; omega) (by first | rfl | simp) rfl rfl).mono ?_
 rintro e w1 ⟨v1, rfl, hS1, hT1⟩
 have HS1 := hd' hS1
 have HT1 := hd' (HT0.o.trans hT1)
 have HB1 := hd' (HB0.o.step hT1)
 clear hS1 hT1
 clear c0_0
 have c1_3 : (w1).cell? ⟨w.heap.size, 3, none⟩ = some (iV o.to.1) := HB1.o.blk.cell 3 rfl
 have c1_4 : (w1).cell? ⟨w.heap.size, 4, none⟩ = some (iV o.to.2) := HB1.o.blk.cell 4 rfl
 go_wp2_with fail
 refine (un5 HS1.o (o.to.1) (o.to.2) Hht.o (by have := Hl.o; simp [nums]; omega)).mono ?_
 rintro e w2 ⟨v2, rfl, hS2, hT2⟩
 have HS2 := hd' hS2
 have HT2 := hd' (HT1.o.trans hT2)
 have HB2 := hd' (HB1.o.step hT2)
 clear hS2 hT2
 clear c1_3 c1_4
 have c2_5 : (w2).cell? ⟨w.heap.size, 5, none⟩ = some (iV o.at_) := HB2.o.blk.cell 5 rfl
 go_wp2_with fail
 refine (uok HS2.o [o.at_] (unv Hha.o) (by have := Hl.o; simp [nums]; omega) (by first | rfl | simp) rfl rfl).mono ?_
 rintro e w3 ⟨v3, rfl, hS3, hT3⟩
 have HS3 := hd' hS3
 have HT3 := hd' (HT2.o.trans hT3)
 have HB3 := hd' (HB2.o.step hT3)
 clear hS3 hT3
 clear c2_5
 go_wp2_with fail
 first | go_end0 | refine bpr (results_none rfl _ _ _) rfl ?_
 have e : ws ++ uml o = ws ++ [un0] ++ nums [o.to.1, o.to.2] ++ nums [o.at_] := by simp [uml, HK.o, nums]
 exact ⟨v3, rfl, by rw [e]; exact HS3.o, HT3.o⟩
theorem tree_2 {w : World} {L : Nat} {ws : List Wd} {vs : Value} (h : LS w L ws vs) (o : Opr) (vp vf vb : Value) (hk : o.kind = 2) (hi : InR o.id.1 ∧ InR o.id.2) (hl : ws.length ≤ 800000000) :
  Calls Tryz.prog 37 #[.pointer (some ⟨L, 0, none⟩), .agg (oprC o vp vf vb)] w (LSP w L ws vs (uml o)) := by
 have HK := hd' hk
 have Hl := hd' hl
 have Hhi := hd' hi
 have HB0 := hd' (Loc.new h 37 (oprC o vp vf vb) rfl)
 have HS0 := hd' (h.other (Gou.Mod.alloc0 _ (.cells (oprC o vp vf vb) 37)))
 have HT0 := hd' (WTo.other (W := L) (Gou.Mod.alloc0 w (.cells (oprC o vp vf vb) 37)) vs)
 clear h hk hl hi
 go_enter Tryz.func37, Tryz.ntmps37
 have c0_0 : ((w.alloc (.cells (oprC o vp vf vb) 37))).cell? ⟨w.heap.size, 0, none⟩ = some (iV 2) := by rw [← HK.o]; exact HB0.o.blk.cell 0 rfl
 go_wp2_with fail
 refine (ulr HS0.o [unz] (by have := Hl.o; simp [nums]; omega) (by first | rfl | simp) rfl rfl).mono ?_
 rintro e w1 ⟨v1, rfl, hS1, hT1⟩
 have HS1 := hd' hS1
 have HT1 := hd' (HT0.o.trans hT1)
 have HB1 := hd' (HB0.o.step hT1)
 clear hS1 hT1
 clear c0_0
 have c1_1 : (w1).cell? ⟨w.heap.size, 1, none⟩ = some (iV o.id.1) := HB1.o.blk.cell 1 rfl
 have c1_2 : (w1).cell? ⟨w.heap.size, 2, none⟩ = some (iV o.id.2) := HB1.o.blk.cell 2 rfl
 go_wp2_with fail
 refine (un5 HS1.o (o.id.1) (o.id.2) Hhi.o (by have := Hl.o; simp [nums]; omega)).mono ?_
 rintro e w2 ⟨v2, rfl, hS2, hT2⟩
 have HS2 := hd' hS2
 have HT2 := hd' (HT1.o.trans hT2)
 have HB2 := hd' (HB1.o.step hT2)
 clear hS2 hT2
 clear c1_1 c1_2
 go_wp2_with fail
 first | go_end0 | refine bpr (results_none rfl _ _ _) rfl ?_
 have e : ws ++ uml o = ws ++ [unz] ++ nums [o.id.1, o.id.2] := by simp [uml, HK.o, nums]
 exact ⟨v2, rfl, by rw [e]; exact HS2.o, HT2.o⟩
theorem tree_3 {w : World} {L : Nat} {ws : List Wd} {vs : Value} (h : LS w L ws vs) (o : Opr) (vp vf vb : Value) (hk : o.kind = 3) (hi : InR o.id.1 ∧ InR o.id.2) (ht : InR o.to.1 ∧ InR o.to.2) (ha : InR o.at_) (hl : ws.length ≤ 800000000) :
  Calls Tryz.prog 37 #[.pointer (some ⟨L, 0, none⟩), .agg (oprC o vp vf vb)] w (LSP w L ws vs (uml o)) := by
 have HK := hd' hk
 have Hl := hd' hl
 have Hhi := hd' hi
 have Hht := hd' ht
 have Hha := hd' ha
 have HB0 := hd' (Loc.new h 37 (oprC o vp vf vb) rfl)
 have HS0 := hd' (h.other (Gou.Mod.alloc0 _ (.cells (oprC o vp vf vb) 37)))
 have HT0 := hd' (WTo.other (W := L) (Gou.Mod.alloc0 w (.cells (oprC o vp vf vb) 37)) vs)
 clear h hk hl hi ht ha
 go_enter Tryz.func37, Tryz.ntmps37
 have c0_0 : ((w.alloc (.cells (oprC o vp vf vb) 37))).cell? ⟨w.heap.size, 0, none⟩ = some (iV 3) := by rw [← HK.o]; exact HB0.o.blk.cell 0 rfl
 go_wp2_with fail
 refine (ulr HS0.o [umg] (by have := Hl.o; simp [nums]; omega) (by first | rfl | simp) rfl rfl).mono ?_
 rintro e w1 ⟨v1, rfl, hS1, hT1⟩
 have HS1 := hd' hS1
 have HT1 := hd' (HT0.o.trans hT1)
 have HB1 := hd' (HB0.o.step hT1)
 clear hS1 hT1
 clear c0_0
 have c1_1 : (w1).cell? ⟨w.heap.size, 1, none⟩ = some (iV o.id.1) := HB1.o.blk.cell 1 rfl
 have c1_2 : (w1).cell? ⟨w.heap.size, 2, none⟩ = some (iV o.id.2) := HB1.o.blk.cell 2 rfl
 go_wp2_with fail
 refine (un5 HS1.o (o.id.1) (o.id.2) Hhi.o (by have := Hl.o; simp [nums]; omega)).mono ?_
 rintro e w2 ⟨v2, rfl, hS2, hT2⟩
 have HS2 := hd' hS2
 have HT2 := hd' (HT1.o.trans hT2)
 have HB2 := hd' (HB1.o.step hT2)
 clear hS2 hT2
 clear c1_1 c1_2
 have c2_3 : (w2).cell? ⟨w.heap.size, 3, none⟩ = some (iV o.to.1) := HB2.o.blk.cell 3 rfl
 have c2_4 : (w2).cell? ⟨w.heap.size, 4, none⟩ = some (iV o.to.2) := HB2.o.blk.cell 4 rfl
 go_wp2_with fail
 refine (un5 HS2.o (o.to.1) (o.to.2) Hht.o (by have := Hl.o; simp [nums]; omega)).mono ?_
 rintro e w3 ⟨v3, rfl, hS3, hT3⟩
 have HS3 := hd' hS3
 have HT3 := hd' (HT2.o.trans hT3)
 have HB3 := hd' (HB2.o.step hT3)
 clear hS3 hT3
 clear c2_3 c2_4
 have c3_5 : (w3).cell? ⟨w.heap.size, 5, none⟩ = some (iV o.at_) := HB3.o.blk.cell 5 rfl
 go_wp2_with fail
 refine (uok HS3.o [o.at_] (unv Hha.o) (by have := Hl.o; simp [nums]; omega) (by first | rfl | simp) rfl rfl).mono ?_
 rintro e w4 ⟨v4, rfl, hS4, hT4⟩
 have HS4 := hd' hS4
 have HT4 := hd' (HT3.o.trans hT4)
 have HB4 := hd' (HB3.o.step hT4)
 clear hS4 hT4
 clear c3_5
 go_wp2_with fail
 first | go_end0 | refine bpr (results_none rfl _ _ _) rfl ?_
 have e : ws ++ uml o = ws ++ [umg] ++ nums [o.id.1, o.id.2] ++ nums [o.to.1, o.to.2] ++ nums [o.at_] := by simp [uml, HK.o, nums]
 exact ⟨v4, rfl, by rw [e]; exact HS4.o, HT4.o⟩
theorem tree_4 {w : World} {L : Nat} {ws : List Wd} {vs : Value} (h : LS w L ws vs) (o : Opr) (vp vf vb : Value) (hk : o.kind = 4) (hi : InR o.id.1 ∧ InR o.id.2) (ha : InR o.at_) (hl : ws.length ≤ 800000000) :
  Calls Tryz.prog 37 #[.pointer (some ⟨L, 0, none⟩), .agg (oprC o vp vf vb)] w (LSP w L ws vs (uml o)) := by
 have HK := hd' hk
 have Hl := hd' hl
 have Hhi := hd' hi
 have Hha := hd' ha
 have HB0 := hd' (Loc.new h 37 (oprC o vp vf vb) rfl)
 have HS0 := hd' (h.other (Gou.Mod.alloc0 _ (.cells (oprC o vp vf vb) 37)))
 have HT0 := hd' (WTo.other (W := L) (Gou.Mod.alloc0 w (.cells (oprC o vp vf vb) 37)) vs)
 clear h hk hl hi ha
 go_enter Tryz.func37, Tryz.ntmps37
 have c0_0 : ((w.alloc (.cells (oprC o vp vf vb) 37))).cell? ⟨w.heap.size, 0, none⟩ = some (iV 4) := by rw [← HK.o]; exact HB0.o.blk.cell 0 rfl
 go_wp2_with fail
 refine (ulr HS0.o [um0] (by have := Hl.o; simp [nums]; omega) (by first | rfl | simp) rfl rfl).mono ?_
 rintro e w1 ⟨v1, rfl, hS1, hT1⟩
 have HS1 := hd' hS1
 have HT1 := hd' (HT0.o.trans hT1)
 have HB1 := hd' (HB0.o.step hT1)
 clear hS1 hT1
 clear c0_0
 have c1_1 : (w1).cell? ⟨w.heap.size, 1, none⟩ = some (iV o.id.1) := HB1.o.blk.cell 1 rfl
 have c1_2 : (w1).cell? ⟨w.heap.size, 2, none⟩ = some (iV o.id.2) := HB1.o.blk.cell 2 rfl
 go_wp2_with fail
 refine (un5 HS1.o (o.id.1) (o.id.2) Hhi.o (by have := Hl.o; simp [nums]; omega)).mono ?_
 rintro e w2 ⟨v2, rfl, hS2, hT2⟩
 have HS2 := hd' hS2
 have HT2 := hd' (HT1.o.trans hT2)
 have HB2 := hd' (HB1.o.step hT2)
 clear hS2 hT2
 clear c1_1 c1_2
 have c2_5 : (w2).cell? ⟨w.heap.size, 5, none⟩ = some (iV o.at_) := HB2.o.blk.cell 5 rfl
 go_wp2_with fail
 refine (uok HS2.o [o.at_] (unv Hha.o) (by have := Hl.o; simp [nums]; omega) (by first | rfl | simp) rfl rfl).mono ?_
 rintro e w3 ⟨v3, rfl, hS3, hT3⟩
 have HS3 := hd' hS3
 have HT3 := hd' (HT2.o.trans hT3)
 have HB3 := hd' (HB2.o.step hT3)
 clear hS3 hT3
 clear c2_5
 go_wp2_with fail
 first | go_end0 | refine bpr (results_none rfl _ _ _) rfl ?_
 have e : ws ++ uml o = ws ++ [um0] ++ nums [o.id.1, o.id.2] ++ nums [o.at_] := by simp [uml, HK.o, nums]
 exact ⟨v3, rfl, by rw [e]; exact HS3.o, HT3.o⟩
theorem tree_0 {w : World} {L : Nat} {ws : List Wd} {vs : Value} (h : LS w L ws vs) (o : Opr) (vp vf vb : Value) (hk : 5 ≤ o.kind) :
  Calls Tryz.prog 37 #[.pointer (some ⟨L, 0, none⟩), .agg (oprC o vp vf vb)] w (LSP w L ws vs []) := by
 have HB0 := hd' (Loc.new h 37 (oprC o vp vf vb) rfl)
 have HS0 := hd' (h.other (Gou.Mod.alloc0 _ (.cells (oprC o vp vf vb) 37)))
 have HT0 := hd' (WTo.other (W := L) (Gou.Mod.alloc0 w (.cells (oprC o vp vf vb) 37)) vs)
 have kc : (w.alloc (.cells (oprC o vp vf vb) 37)).cell? ⟨w.heap.size, 0, none⟩ = some (iV o.kind) := HB0.o.blk.cell 0 rfl
 have d1 : (o.kind == 1) = false := bqf.2 (by omega)
 have d2 : (o.kind == 2) = false := bqf.2 (by omega)
 have d3 : (o.kind == 3) = false := bqf.2 (by omega)
 have d4 : (o.kind == 4) = false := bqf.2 (by omega)
 clear h hk
 go_enter Tryz.func37, Tryz.ntmps37
 go_wp2_with fail
 first | go_end0 | refine bpr (results_none rfl _ _ _) rfl ?_
 exact ⟨vs, rfl, by rw [List.append_nil]; exact HS0.o, HT0.o⟩
theorem in_five {a b c d e : Int} (h0 : InR a) (h1 : InR b) (h2 : InR c) (h3 : InR d) (h4 : InR e) : ∀ x ∈ [a, b, c, d, e], InR x := by
 intro x hx
 simp only [List.mem_cons, List.not_mem_nil, or_false] at hx
 rcases hx with rfl | rfl | rfl | rfl | rfl <;> assumption
theorem up5 {n j : Nat} (h : j < n) (hw : wrap64 ((j : Int) + 1) = (j : Int) + 1) : n - (intOf (iV (wrap64 ((j : Int) + 1)))).toNat < n - (intOf (iV (j : Int))).toNat := by
 rw [hw]
 simp [intOf]
 omega
theorem take_px {ps : List Pxl} {i : Nat} (h : i < ps.length) : (ps.take (i + 1)).map pxW = (ps.take i).map pxW ++ [pxW ps[i]] := by
 rw [List.take_add_one, lgE h, List.map_append]
 rfl
theorem content_0 {w : World} {L : Nat} {ws : List Wd} {vs : Value} (h : LS w L ws vs) (i : Int × Int) (c : Ct) (p : Option Addr) (k : Nat) (hk : c.kind = 0) (hi : InR i.1 ∧ InR i.2) (hl : ws.length ≤ 800000000) :
  Calls Tryz.prog 65 #[.pointer (some ⟨L, 0, none⟩), .agg #[iV i.1, iV i.2], .agg (uak c (.slice p c.pix.length k))] w (LSP w L ws vs (unx i c)) := by
 have HK := hd' hk
 have Hl := hd' hl
 have Hhi := hd' hi
 have HSi := h.other (Gou.Mod.alloc0 _ (.cells #[iV i.1, iV i.2] 23))
 have HI0 := hd' ((Loc.new h 23 #[iV i.1, iV i.2] rfl).other (Gou.Mod.alloc0 _ (.cells (uak c (.slice p c.pix.length k)) 30)))
 have HB0 := hd' (Loc.new (b := w.heap.size + 1) HSi 30 (uak c (.slice p c.pix.length k)) (by simp))
 have HS0 := hd' (HSi.other (Gou.Mod.alloc0 _ (.cells (uak c (.slice p c.pix.length k)) 30)))
 have HT0 := hd' (WTo.other (W := L) ((Gou.Mod.alloc0 w (.cells #[iV i.1, iV i.2] 23)).trans' (Gou.Mod.alloc0 _ (.cells (uak c (.slice p c.pix.length k)) 30))) vs)
 clear h hk hl hi HSi
 go_enter Tryz.func65, Tryz.ntmps65
 have c0_0 : (((w.alloc (.cells #[iV i.1, iV i.2] 23)).alloc (.cells (uak c (.slice p c.pix.length k)) 30))).cell? ⟨(w.heap.size + 1), 0, none⟩ = some (iV 0) := by rw [← HK.o]; exact HB0.o.blk.cell 0 rfl
 go_wp2_with fail
 refine (ulr HS0.o [usf] (by have := Hl.o; simp [nums]; omega) (by first | rfl | simp) rfl rfl).mono ?_
 rintro e w1 ⟨v1, rfl, hS1, hT1⟩
 have HS1 := hd' hS1
 have HT1 := hd' (HT0.o.trans hT1)
 have HI1 := hd' (HI0.o.step hT1)
 have HB1 := hd' (HB0.o.step hT1)
 clear hS1 hT1
 clear c0_0
 have i1_0 : (w1).cell? ⟨w.heap.size, 0, none⟩ = some (iV i.1) := HI1.o.blk.cell 0 rfl
 have i1_1 : (w1).cell? ⟨w.heap.size, 1, none⟩ = some (iV i.2) := HI1.o.blk.cell 1 rfl
 go_wp2_with fail
 refine (un5 HS1.o (i.1) (i.2) Hhi.o (by have := Hl.o; simp [nums]; omega)).mono ?_
 rintro e w2 ⟨v2, rfl, hS2, hT2⟩
 have HS2 := hd' hS2
 have HT2 := hd' (HT1.o.trans hT2)
 have HI2 := hd' (HI1.o.step hT2)
 have HB2 := hd' (HB1.o.step hT2)
 clear hS2 hT2
 clear i1_0 i1_1
 go_wp2_with fail
 first | go_end0 | refine bpr (results_none rfl _ _ _) rfl ?_
 have e : ws ++ unx i c = ws ++ [usf] ++ nums [i.1, i.2] := by simp [unx, HK.o, nums]
 exact ⟨v2, rfl, by rw [e]; exact HS2.o, HT2.o⟩
theorem content_1 {w : World} {L : Nat} {ws : List Wd} {vs : Value} (h : LS w L ws vs) (i : Int × Int) (c : Ct) (p : Option Addr) (k : Nat) (hk : c.kind = 1) (hi : InR i.1 ∧ InR i.2) (hb : InR c.box.x0 ∧ InR c.box.y0 ∧ InR c.box.x1 ∧ InR c.box.y1) (hp : c.px.Small) (hl : ws.length ≤ 800000000) :
  Calls Tryz.prog 65 #[.pointer (some ⟨L, 0, none⟩), .agg #[iV i.1, iV i.2], .agg (uak c (.slice p c.pix.length k))] w (LSP w L ws vs (unx i c)) := by
 have HK := hd' hk
 have Hl := hd' hl
 have Hhi := hd' hi
 have Hhb := hd' hb
 have Hhp := hd' hp
 have HSi := h.other (Gou.Mod.alloc0 _ (.cells #[iV i.1, iV i.2] 23))
 have HI0 := hd' ((Loc.new h 23 #[iV i.1, iV i.2] rfl).other (Gou.Mod.alloc0 _ (.cells (uak c (.slice p c.pix.length k)) 30)))
 have HB0 := hd' (Loc.new (b := w.heap.size + 1) HSi 30 (uak c (.slice p c.pix.length k)) (by simp))
 have HS0 := hd' (HSi.other (Gou.Mod.alloc0 _ (.cells (uak c (.slice p c.pix.length k)) 30)))
 have HT0 := hd' (WTo.other (W := L) ((Gou.Mod.alloc0 w (.cells #[iV i.1, iV i.2] 23)).trans' (Gou.Mod.alloc0 _ (.cells (uak c (.slice p c.pix.length k)) 30))) vs)
 clear h hk hl hi HSi hb hp
 go_enter Tryz.func65, Tryz.ntmps65
 have c0_0 : (((w.alloc (.cells #[iV i.1, iV i.2] 23)).alloc (.cells (uak c (.slice p c.pix.length k)) 30))).cell? ⟨(w.heap.size + 1), 0, none⟩ = some (iV 1) := by rw [← HK.o]; exact HB0.o.blk.cell 0 rfl
 go_wp2_with fail
 refine (ulr HS0.o [wBox] (by have := Hl.o; simp [nums]; omega) (by first | rfl | simp) rfl rfl).mono ?_
 rintro e w1 ⟨v1, rfl, hS1, hT1⟩
 have HS1 := hd' hS1
 have HT1 := hd' (HT0.o.trans hT1)
 have HI1 := hd' (HI0.o.step hT1)
 have HB1 := hd' (HB0.o.step hT1)
 clear hS1 hT1
 clear c0_0
 have i1_0 : (w1).cell? ⟨w.heap.size, 0, none⟩ = some (iV i.1) := HI1.o.blk.cell 0 rfl
 have i1_1 : (w1).cell? ⟨w.heap.size, 1, none⟩ = some (iV i.2) := HI1.o.blk.cell 1 rfl
 go_wp2_with fail
 refine (un5 HS1.o (i.1) (i.2) Hhi.o (by have := Hl.o; simp [nums]; omega)).mono ?_
 rintro e w2 ⟨v2, rfl, hS2, hT2⟩
 have HS2 := hd' hS2
 have HT2 := hd' (HT1.o.trans hT2)
 have HI2 := hd' (HI1.o.step hT2)
 have HB2 := hd' (HB1.o.step hT2)
 clear hS2 hT2
 clear i1_0 i1_1
 have c2_1 : (w2).cell? ⟨(w.heap.size + 1), 1, none⟩ = some (iV c.box.x0) := HB2.o.blk.cell 1 rfl
 have c2_2 : (w2).cell? ⟨(w.heap.size + 1), 2, none⟩ = some (iV c.box.y0) := HB2.o.blk.cell 2 rfl
 have c2_3 : (w2).cell? ⟨(w.heap.size + 1), 3, none⟩ = some (iV c.box.x1) := HB2.o.blk.cell 3 rfl
 have c2_4 : (w2).cell? ⟨(w.heap.size + 1), 4, none⟩ = some (iV c.box.y1) := HB2.o.blk.cell 4 rfl
 go_wp2_with fail
 refine (box_ls HS2.o (c.box.x0) (c.box.y0) (c.box.x1) (c.box.y1) Hhb.o (by have := Hl.o; simp [nums]; omega)).mono ?_
 rintro e w3 ⟨v3, rfl, hS3, hT3⟩
 have HS3 := hd' hS3
 have HT3 := hd' (HT2.o.trans hT3)
 have HI3 := hd' (HI2.o.step hT3)
 have HB3 := hd' (HB2.o.step hT3)
 clear hS3 hT3
 clear c2_1 c2_2 c2_3 c2_4
 have c3_5 : (w3).cell? ⟨(w.heap.size + 1), 5, none⟩ = some (.int .u8 (c.px.p0 : Nat)) := HB3.o.blk.cell 5 rfl
 have c3_6 : (w3).cell? ⟨(w.heap.size + 1), 6, none⟩ = some (.int .u8 (c.px.p1 : Nat)) := HB3.o.blk.cell 6 rfl
 have c3_7 : (w3).cell? ⟨(w.heap.size + 1), 7, none⟩ = some (.int .u8 (c.px.p2 : Nat)) := HB3.o.blk.cell 7 rfl
 have c3_8 : (w3).cell? ⟨(w.heap.size + 1), 8, none⟩ = some (.int .u8 (c.px.p3 : Nat)) := HB3.o.blk.cell 8 rfl
 go_wp2_with fail
 refine (px_ls HS3.o (c.px) Hhp.o (by have := Hl.o; simp [nums]; omega)).mono ?_
 rintro e w4 ⟨v4, rfl, hS4, hT4⟩
 have HS4 := hd' hS4
 have HT4 := hd' (HT3.o.trans hT4)
 have HI4 := hd' (HI3.o.step hT4)
 have HB4 := hd' (HB3.o.step hT4)
 clear hS4 hT4
 clear c3_5 c3_6 c3_7 c3_8
 go_wp2_with fail
 first | go_end0 | refine bpr (results_none rfl _ _ _) rfl ?_
 have e : ws ++ unx i c = ws ++ [wBox] ++ nums [i.1, i.2] ++ nums [c.box.x0, c.box.y0, c.box.x1, c.box.y1] ++ [pxW c.px] := by simp [unx, HK.o, nums]
 exact ⟨v4, rfl, by rw [e]; exact HS4.o, HT4.o⟩
theorem content_2 {w : World} {L : Nat} {ws : List Wd} {vs : Value} (h : LS w L ws vs) (i : Int × Int) (c : Ct) (p : Option Addr) (k : Nat) (hk : c.kind = 2) (hi : InR i.1 ∧ InR i.2) (hb : InR c.box.x0 ∧ InR c.box.y0 ∧ InR c.w ∧ InR c.h ∧ InR c.turn) (hp : ∀ q ∈ c.pix, q.Small) (hn : c.pix.length ≤ 10000000) (hx : PixR (fun b => b < L) w (.slice p c.pix.length k) c.pix) (hl : ws.length ≤ 800000000) :
  Calls Tryz.prog 65 #[.pointer (some ⟨L, 0, none⟩), .agg #[iV i.1, iV i.2], .agg (uak c (.slice p c.pix.length k))] w (LSP w L ws vs (unx i c)) := by
 have HK := hd' hk
 have Hl := hd' hl
 have Hhi := hd' hi
 have Hhb := hd' hb
 have Hhp := hd' hp
 have Hhn := hd' hn
 have Hhx := hd' hx
 have HSi := h.other (Gou.Mod.alloc0 _ (.cells #[iV i.1, iV i.2] 23))
 have HI0 := hd' ((Loc.new h 23 #[iV i.1, iV i.2] rfl).other (Gou.Mod.alloc0 _ (.cells (uak c (.slice p c.pix.length k)) 30)))
 have HB0 := hd' (Loc.new (b := w.heap.size + 1) HSi 30 (uak c (.slice p c.pix.length k)) (by simp))
 have HS0 := hd' (HSi.other (Gou.Mod.alloc0 _ (.cells (uak c (.slice p c.pix.length k)) 30)))
 have HT0 := hd' (WTo.other (W := L) ((Gou.Mod.alloc0 w (.cells #[iV i.1, iV i.2] 23)).trans' (Gou.Mod.alloc0 _ (.cells (uak c (.slice p c.pix.length k)) 30))) vs)
 have HX0 := hd' (RowG.mod hx ((Gou.Mod.alloc0 w (.cells #[iV i.1, iV i.2] 23)).trans' (Gou.Mod.alloc0 _ (.cells (uak c (.slice p c.pix.length k)) 30))) (fun _ _ _ h => h))
 clear Hhx
 clear h hk hl hi HSi hb hp hn hx
 go_enter Tryz.func65, Tryz.ntmps65
 have c0_0 : (((w.alloc (.cells #[iV i.1, iV i.2] 23)).alloc (.cells (uak c (.slice p c.pix.length k)) 30))).cell? ⟨(w.heap.size + 1), 0, none⟩ = some (iV 2) := by rw [← HK.o]; exact HB0.o.blk.cell 0 rfl
 go_wp2_with fail
 refine (ulr HS0.o [umk] (by have := Hl.o; simp [nums]; omega) (by first | rfl | simp) rfl rfl).mono ?_
 rintro e w1 ⟨v1, rfl, hS1, hT1⟩
 have HS1 := hd' hS1
 have HT1 := hd' (HT0.o.trans hT1)
 have HI1 := hd' (HI0.o.step hT1)
 have HB1 := hd' (HB0.o.step hT1)
 have HX1 := hd' (RowG.mod HX0.o (HS0.o.far hT1) (fun k hk hG => by omega))
 clear hS1 hT1
 clear c0_0
 have i1_0 : (w1).cell? ⟨w.heap.size, 0, none⟩ = some (iV i.1) := HI1.o.blk.cell 0 rfl
 have i1_1 : (w1).cell? ⟨w.heap.size, 1, none⟩ = some (iV i.2) := HI1.o.blk.cell 1 rfl
 go_wp2_with fail
 refine (un5 HS1.o (i.1) (i.2) Hhi.o (by have := Hl.o; simp [nums]; omega)).mono ?_
 rintro e w2 ⟨v2, rfl, hS2, hT2⟩
 have HS2 := hd' hS2
 have HT2 := hd' (HT1.o.trans hT2)
 have HI2 := hd' (HI1.o.step hT2)
 have HB2 := hd' (HB1.o.step hT2)
 have HX2 := hd' (RowG.mod HX1.o (HS1.o.far hT2) (fun k hk hG => by omega))
 clear hS2 hT2
 clear i1_0 i1_1
 have c2_1 : (w2).cell? ⟨(w.heap.size + 1), 1, none⟩ = some (iV c.box.x0) := HB2.o.blk.cell 1 rfl
 have c2_2 : (w2).cell? ⟨(w.heap.size + 1), 2, none⟩ = some (iV c.box.y0) := HB2.o.blk.cell 2 rfl
 have c2_9 : (w2).cell? ⟨(w.heap.size + 1), 9, none⟩ = some (iV c.w) := HB2.o.blk.cell 9 rfl
 have c2_10 : (w2).cell? ⟨(w.heap.size + 1), 10, none⟩ = some (iV c.h) := HB2.o.blk.cell 10 rfl
 have c2_11 : (w2).cell? ⟨(w.heap.size + 1), 11, none⟩ = some (iV c.turn) := HB2.o.blk.cell 11 rfl
 go_wp2_with fail
 refine (uok HS2.o [c.box.x0, c.box.y0, c.w, c.h, c.turn] (in_five Hhb.o.1 Hhb.o.2.1 Hhb.o.2.2.1 Hhb.o.2.2.2.1 Hhb.o.2.2.2.2) (by have := Hl.o; simp [nums]; omega) (by first | rfl | simp) rfl rfl).mono ?_
 rintro e w3 ⟨v3, rfl, hS3, hT3⟩
 have HS3 := hd' hS3
 have HT3 := hd' (HT2.o.trans hT3)
 have HI3 := hd' (HI2.o.step hT3)
 have HB3 := hd' (HB2.o.step hT3)
 have HX3 := hd' (RowG.mod HX2.o (HS2.o.far hT3) (fun k hk hG => by omega))
 clear hS3 hT3
 clear c2_1 c2_2 c2_9 c2_10 c2_11
 have c3_12 : (w3).cell? ⟨(w.heap.size + 1), 12, none⟩ = some (.slice p c.pix.length k) := HB3.o.blk.cell 12 rfl
 go_wp2_with fail
 clear c3_12
 go_loopw [61] (fun vi wr => ∃ (j : Nat) (v : Value), vi = iV j ∧ j ≤ c.pix.length ∧ LS wr L (ws ++ [umk] ++ nums [i.1, i.2] ++ nums [c.box.x0, c.box.y0, c.w, c.h, c.turn] ++ (c.pix.take j).map pxW) v ∧ WTo L w vs wr v ∧ PixR (fun b => b < L) wr (.slice p c.pix.length k) c.pix) (fun vi _ => c.pix.length - (intOf vi).toNat)
 case atStart => exact ⟨0, v3, rfl, by omega, by rw [List.take_zero, List.map_nil, List.append_nil]; exact HS3.o, HT3.o, HX3.o⟩
 case round =>
  obtain ⟨j, v, rfl, hj, hs, ht, hx⟩ := hrel
  have HS := hd' hs
  have HT := hd' ht
  have HX := hd' hx
  have hj1 : wrap64 ((j : Int) + 1) = (j : Int) + 1 := IntWalk.wrap64_in _ (by have := Hhn.o; omega)
  clear hs ht hx HI3 HB3 HX3
  by_cases hji : j < c.pix.length
  ·have e1 : decide ((j : Int) < (c.pix.length : Int)) = true := dqt (by omega)
   obtain ⟨-, b, o, rfl, hb, hbL, hc⟩ := HX.o.cells (by omega)
   obtain ⟨k0, k1, k2, k3⟩ := hc j hji
   have hjI : (j : Int) < (c.pix.length : Int) := by omega
   have hj0 : (0 : Int) ≤ (j : Int) := by omega
   have Htk := hd' (take_px hji)
   have Hpx := hd' (Hhp.o _ (lgM hji))
   have Hji := hd' hji
   clear hc
   generalize c.pix[j] = q at *
   have HSa := hd' (HS.o.other (Gou.Mod.alloc0 _ (.cells #[.int .u8 (q.p0 : Nat), .int .u8 (q.p1 : Nat), .int .u8 (q.p2 : Nat), .int .u8 (q.p3 : Nat)] 27)))
   have HTa := hd' (HT.o.trans (WTo.other (Gou.Mod.alloc0 _ (.cells #[.int .u8 (q.p0 : Nat), .int .u8 (q.p1 : Nat), .int .u8 (q.p2 : Nat), .int .u8 (q.p3 : Nat)] 27)) v))
   have HXa := hd' (RowG.mod HX.o (Gou.Mod.alloc0 _ (.cells #[.int .u8 (q.p0 : Nat), .int .u8 (q.p1 : Nat), .int .u8 (q.p2 : Nat), .int .u8 (q.p3 : Nat)] 27)) (fun _ _ _ h => h))
   go_wp2_with fail
   refine (px_ls HSa.o q Hpx.o (by have := Hl.o; have := Hhn.o; simp only [List.length_append, List.length_map, List.length_take, um5, List.length_cons, List.length_nil]; omega)).mono ?_
   rintro e w5 ⟨v5, rfl, hS5, hT5⟩
   have HS5 := hd' hS5
   have HT5 := hd' (HTa.o.trans hT5)
   have HX5 := hd' (RowG.mod HXa.o (HSa.o.far hT5) (fun k hk hG => by omega))
   clear hS5 hT5
   go_wp2_with fail
   go_roundw
   case rel => exact ⟨j + 1, v5, by go_num, by have := Hji.o; omega, by rw [Htk.o, ← List.append_assoc]; exact HS5.o, HT5.o, HX5.o⟩
   case measure => exact up5 Hji.o hj1
  ·obtain rfl : j = c.pix.length := by omega
   have e1 : decide ((c.pix.length : Int) < (c.pix.length : Int)) = false := dqf (by omega)
   go_wp2_with fail
   first | go_end0 | refine bpr (results_none rfl _ _ _) rfl ?_
   have e : ws ++ unx i c = ws ++ [umk] ++ nums [i.1, i.2] ++ nums [c.box.x0, c.box.y0, c.w, c.h, c.turn] ++ (c.pix.take c.pix.length).map pxW := by simp [unx, HK.o, nums]
   exact ⟨v, rfl, by rw [e]; exact HS.o, HT.o⟩
theorem content_x {w : World} {L : Nat} {ws : List Wd} {vs : Value} (h : LS w L ws vs) (i : Int × Int) (c : Ct) (p : Option Addr) (k : Nat) (hk : ¬ (0 ≤ c.kind ∧ c.kind ≤ 2)) :
  Calls Tryz.prog 65 #[.pointer (some ⟨L, 0, none⟩), .agg #[iV i.1, iV i.2], .agg (uak c (.slice p c.pix.length k))] w (LSF w L ws vs none) := by
 have HSi := h.other (Gou.Mod.alloc0 _ (.cells #[iV i.1, iV i.2] 23))
 have HB0 := hd' (Loc.new (b := w.heap.size + 1) HSi 30 (uak c (.slice p c.pix.length k)) (by simp))
 have HT0 := hd' (WTo.other (W := L) ((Gou.Mod.alloc0 w (.cells #[iV i.1, iV i.2] 23)).trans' (Gou.Mod.alloc0 _ (.cells (uak c (.slice p c.pix.length k)) 30))) vs)
 have d1 : (c.kind == 0) = false := bqf.2 (by omega)
 have d2 : (c.kind == 1) = false := bqf.2 (by omega)
 have d3 : (c.kind == 2) = false := bqf.2 (by omega)
 have kc : (((w.alloc (.cells #[iV i.1, iV i.2] 23)).alloc (.cells (uak c (.slice p c.pix.length k)) 30))).cell? ⟨(w.heap.size + 1), 0, none⟩ = some (iV c.kind) := HB0.o.blk.cell 0 rfl
 clear h HSi hk
 go_enter Tryz.func65, Tryz.ntmps65
 go_wp2_with fail
 refine (ukv _).mono ?_
 rintro e w' ⟨rfl, rfl⟩
 exact ⟨rfl, vs, HT0.o, rfl⟩
theorem ui2 : ∀ ns : List ubb, (∀ n ∈ ns, uwh n) → (ns.flatMap umz).length ≤ 203 * ns.length
 | [], _ => Nat.le_refl _
 | n :: ns, h => by
  have ih := ui2 ns fun m hm => h m (List.mem_cons_of_mem _ hm)
  have hn := h n List.mem_cons_self
  have h1 := hn.il
  have h2 := hn.pl
  simp only [List.flatMap_cons, umz, List.length_append, List.length_cons, um5, List.length_nil]
  omega
theorem take_node {ns : List ubb} {i : Nat} (h : i < ns.length) : (ns.take (i + 1)).flatMap umz = (ns.take i).flatMap umz ++ umz ns[i] := by
 rw [List.take_add_one, lgE h, List.flatMap_append]
 simp
theorem take_mem {ns : List ubb} {i : Nat} {P : ubb → Prop} (h : i < ns.length) (h1 : ∀ n ∈ ns.take i, P n) (h2 : P ns[i]) : ∀ n ∈ ns.take (i + 1), P n := by
 intro n hn
 rw [List.take_add_one, lgE h] at hn
 rcases List.mem_append.1 hn with hn | hn
 ·exact h1 n hn
 ·simp at hn
  subst hn
  exact h2
theorem kindW_at (m : Nat) (h1 : 1 ≤ m) : kindsL.getD m [] = uuf (m : Int) := by
 obtain ⟨j, rfl⟩ : ∃ j, m = j + 1 := ⟨m - 1, by omega⟩
 simp [kindsL, uuf]
structure uom (g : Gr) : Prop where
 out : InR g.out
 len : g.nodes.length ≤ 1000
 nodes : ∀ n ∈ g.nodes, uwh n
theorem us9 {w : World} {L : Nat} {ws : List Wd} {vs : Value} (h : LS w L ws vs) (g : Gr) (p : Option Addr) (c : Nat) (hl : ws.length ≤ 800000000) :
  Calls Tryz.prog 66 #[.pointer (some ⟨L, 0, none⟩), .bool false, .agg #[.slice p g.nodes.length c, iV g.out]] w (LSP w L ws vs (ulg false g)) := by
 have Hl := hd' hl
 have HS0 := hd' (h.other (Gou.Mod.alloc0 _ (.cells #[.slice p g.nodes.length c, iV g.out] 33)))
 have HT0 := hd' (WTo.other (W := L) (Gou.Mod.alloc0 w (.cells #[.slice p g.nodes.length c, iV g.out] 33)) vs)
 clear h hl
 go_enter Tryz.func66, Tryz.ntmps66
 go_wp2_with fail
 refine (ulr HS0.o [wOff] (by have := Hl.o; simp [nums]; omega) (by first | rfl | simp) rfl rfl).mono ?_
 rintro e w1 ⟨v1, rfl, hS1, hT1⟩
 have HS1 := hd' hS1
 have HT1 := hd' (HT0.o.trans hT1)
 clear hS1 hT1
 go_wp2_with fail
 first | go_end0 | refine bpr (results_none rfl _ _ _) rfl ?_
 have e : ws ++ ulg false g = ws ++ [wOff] := by simp [ulg, nums]
 exact ⟨v1, rfl, by rw [e]; exact HS1.o, HT1.o⟩
theorem uvg {w : World} {L : Nat} {ws : List Wd} {vs : Value} (h : LS w L ws vs) (g : Gr) (p : Option Addr) (c : Nat) (hx : NodesR (fun b => b < L) w (.slice p g.nodes.length c) g.nodes) (hg : uom g) (hl : ws.length ≤ 800000000) :
  Calls Tryz.prog 66 #[.pointer (some ⟨L, 0, none⟩), .bool true, .agg #[.slice p g.nodes.length c, iV g.out]] w (LSF w L ws vs (if una g then some (ulg true g) else none)) := by
 generalize hR : (if una g then some (ulg true g) else none) = R
 have HR := hd' hR
 clear hR
 have Hl := hd' hl
 have Hg := hd' hg
 have HB0 := hd' (Loc.new h 33 #[.slice p g.nodes.length c, iV g.out] rfl)
 have HS0 := hd' (h.other (Gou.Mod.alloc0 _ (.cells #[.slice p g.nodes.length c, iV g.out] 33)))
 have HT0 := hd' (WTo.other (W := L) (Gou.Mod.alloc0 w (.cells #[.slice p g.nodes.length c, iV g.out] 33)) vs)
 have HX0 := hd' (hx.mod (Gou.Mod.alloc0 w (.cells #[.slice p g.nodes.length c, iV g.out] 33)) (fun _ _ _ h => h))
 clear h hl hg hx
 go_enter Tryz.func66, Tryz.ntmps66
 have c0_0 : ((w.alloc (.cells #[.slice p g.nodes.length c, iV g.out] 33))).cell? ⟨w.heap.size, 0, none⟩ = some (.slice p g.nodes.length c) := HB0.o.blk.cell 0 rfl
 have c0_1 : ((w.alloc (.cells #[.slice p g.nodes.length c, iV g.out] 33))).cell? ⟨w.heap.size, 1, none⟩ = some (iV g.out) := HB0.o.blk.cell 1 rfl
 go_wp2_with fail
 refine (uok HS0.o [g.out] (unv Hg.o.out) (by have := Hl.o; simp [nums]; omega) (by first | rfl | simp) rfl rfl).mono ?_
 rintro e w1 ⟨v1, rfl, hS1, hT1⟩
 have HS1 := hd' hS1
 have HT1 := hd' (HT0.o.trans hT1)
 have HB1 := hd' (HB0.o.step hT1)
 have HX1 := hd' (HX0.o.mod (HS0.o.far hT1) (fun k hk hG => by omega))
 clear hS1 hT1
 clear c0_0 c0_1
 have c1_0 : (w1).cell? ⟨w.heap.size, 0, none⟩ = some (.slice p g.nodes.length c) := HB1.o.blk.cell 0 rfl
 go_wp2_with fail
 clear c1_0
 go_loopw [21] (fun vi wr => ∃ (j : Nat) (v : Value), vi = iV j ∧ j ≤ g.nodes.length ∧ LS wr L (ws ++ nums [g.out] ++ (g.nodes.take j).flatMap umz) v ∧ WTo L w vs wr v ∧ NodesR (fun b => b < L) wr (.slice p g.nodes.length c) g.nodes ∧ (∀ n ∈ g.nodes.take j, 1 ≤ n.op ∧ n.op ≤ 12)) (fun vi _ => g.nodes.length - (intOf vi).toNat)
 case atStart => exact ⟨0, v1, rfl, by omega, by rw [List.take_zero, List.flatMap_nil, List.append_nil]; exact HS1.o, HT1.o, HX1.o, fun n hn => by simp at hn⟩
 case round =>
  obtain ⟨j, v, rfl, hj, hs, ht, hx, ho⟩ := hrel
  have HS := hd' hs
  have HT := hd' ht
  have HX := hd' hx
  have HO := hd' ho
  have hj1 : wrap64 ((j : Int) + 1) = (j : Int) + 1 := IntWalk.wrap64_in _ (by have := Hg.o.len; omega)
  have HWL : Hid ((ws ++ nums [g.out] ++ (g.nodes.take j).flatMap umz).length ≤ 801000000) := hd' (by
   have h1 := ui2 (g.nodes.take j) fun n hn => Hg.o.nodes n (List.mem_of_mem_take hn)
   have h2 := Hg.o.len
   have h3 := Hl.o
   rw [List.length_take] at h1
   simp only [List.length_append, um5, List.length_cons, List.length_nil]
   omega)
  clear hs ht hx ho HB1 HX1
  by_cases hji : j < g.nodes.length
  ·have e1 : decide ((j : Int) < (g.nodes.length : Int)) = true := dqt (by omega)
   obtain ⟨-, b, o, rfl, hb, hbL, hc⟩ := HX.o.cells (by omega)
   obtain ⟨nd, hnd⟩ : ∃ nd, g.nodes[j]? = some nd := ⟨_, lgE hji⟩
   obtain ⟨pi, ci, pp, cp, k0, k1, k2, hI, hP⟩ := hc j nd hnd
   obtain ⟨hnd3, hnd2⟩ := lgS.1 hnd
   have hjI : (j : Int) < (g.nodes.length : Int) := by omega
   have hj0 : (0 : Int) ≤ (j : Int) := by omega
   have Htk := hd' (take_node hji)
   have Hmm := hd' (fun P h1 h2 => take_mem (P := P) hji h1 h2)
   have Hnn := hd' (Hg.o.nodes _ (lgM hji))
   have Hin := hd' (lgM hji)
   rw [hnd2] at Htk Hmm Hnn Hin
   have Hji := hd' hji
   have HI := hd' hI
   have HP := hd' hP
   clear hc hnd hnd2 hnd3 hI hP
   by_cases hop : 1 ≤ nd.op ∧ nd.op ≤ 12
   ·obtain ⟨m, hm⟩ : ∃ m : Nat, nd.op = m := ⟨nd.op.toNat, by omega⟩
    rw [hm] at k0 hop
    have Hm := hd' hm
    have Hop := hd' hop
    have e2 : decide ((0 : Int) < (m : Int)) = true := dqt (by omega)
    have e3 : decide ((m : Int) < 13) = true := dqt (by omega)
    have e4 : decide (0 < m) = true := dqt (by omega)
    have e5 : decide (m < 13) = true := dqt (by omega)
    have m0 : (0 : Int) ≤ (m : Int) := by omega
    have m1 : (m : Int) < 13 := by omega
    clear hm hop
    have HSa := hd' (HS.o.other (Gou.Mod.alloc0 _ (.cells #[iV (m : Int), .slice pi nd.ins.length ci, .slice pp nd.ps.length cp] 58)))
    have HTa := hd' (HT.o.trans (WTo.other (Gou.Mod.alloc0 _ (.cells #[iV (m : Int), .slice pi nd.ins.length ci, .slice pp nd.ps.length cp] 58)) v))
    have HXa := hd' (HX.o.mod (Gou.Mod.alloc0 _ (.cells #[iV (m : Int), .slice pi nd.ins.length ci, .slice pp nd.ps.length cp] 58)) (fun _ _ _ h => h))
    have HIa := hd' (RowG.mod HI.o (Gou.Mod.alloc0 _ (.cells #[iV (m : Int), .slice pi nd.ins.length ci, .slice pp nd.ps.length cp] 58)) (fun _ _ _ h => h))
    have HPa := hd' (RowG.mod HP.o (Gou.Mod.alloc0 _ (.cells #[iV (m : Int), .slice pi nd.ins.length ci, .slice pp nd.ps.length cp] 58)) (fun _ _ _ h => h))
    have HNa := hd' (Loc.new HS.o 58 #[iV (m : Int), .slice pi nd.ins.length ci, .slice pp nd.ps.length cp] rfl)
    have kk := HSa.o.lt.kinds m (by omega)
    go_wp2_with fail
    have n0_a := HNa.o.blk.cell 0 rfl
    refine (ulo _).mono ?_
    rintro e w' ⟨rfl, hww⟩
    subst hww
    go_wp2_with fail
    refine (ulr HSa.o [(kindsL.getD m [])] (by have := HWL.o; have := Hnn.o.il; have := Hnn.o.pl; simp only [List.length_append, um5, List.length_cons, List.length_nil] at *; omega) (by first | rfl | simp) rfl rfl).mono ?_
    rintro e w2 ⟨v2, rfl, hS2, hT2⟩
    have HS2 := hd' hS2
    have HT2 := hd' (HTa.o.trans hT2)
    have HN2 := hd' (HNa.o.step hT2)
    have HX2 := hd' (HXa.o.mod (HSa.o.far hT2) (fun k hk hG => by omega))
    have HI2 := hd' (RowG.mod HIa.o (HSa.o.far hT2) (fun k hk hG => by omega))
    have HP2 := hd' (RowG.mod HPa.o (HSa.o.far hT2) (fun k hk hG => by omega))
    clear hS2 hT2
    clear n0_a kk
    have n2_1 : (w2).cell? ⟨wr.heap.size, 1, none⟩ = some (.slice pi nd.ins.length ci) := HN2.o.blk.cell 1 rfl
    go_wp2_with fail
    refine (row_ls HS2.o nd.ins HI2.o Hnn.o.ir (by have := HWL.o; have := Hnn.o.il; have := Hnn.o.pl; simp only [List.length_append, um5, List.length_cons, List.length_nil] at *; omega)).mono ?_
    rintro e w3 ⟨v3, rfl, hS3, hT3⟩
    have HS3 := hd' hS3
    have HT3 := hd' (HT2.o.trans hT3)
    have HN3 := hd' (HN2.o.step hT3)
    have HX3 := hd' (HX2.o.mod (HS2.o.far hT3) (fun k hk hG => by omega))
    have HI3 := hd' (RowG.mod HI2.o (HS2.o.far hT3) (fun k hk hG => by omega))
    have HP3 := hd' (RowG.mod HP2.o (HS2.o.far hT3) (fun k hk hG => by omega))
    clear hS3 hT3
    clear n2_1
    go_wp2_with fail
    refine (ulr HS3.o [uoh] (by have := HWL.o; have := Hnn.o.il; have := Hnn.o.pl; simp only [List.length_append, um5, List.length_cons, List.length_nil] at *; omega) (by first | rfl | simp) rfl rfl).mono ?_
    rintro e w4 ⟨v4, rfl, hS4, hT4⟩
    have HS4 := hd' hS4
    have HT4 := hd' (HT3.o.trans hT4)
    have HN4 := hd' (HN3.o.step hT4)
    have HX4 := hd' (HX3.o.mod (HS3.o.far hT4) (fun k hk hG => by omega))
    have HI4 := hd' (RowG.mod HI3.o (HS3.o.far hT4) (fun k hk hG => by omega))
    have HP4 := hd' (RowG.mod HP3.o (HS3.o.far hT4) (fun k hk hG => by omega))
    clear hS4 hT4
    have n4_2 : (w4).cell? ⟨wr.heap.size, 2, none⟩ = some (.slice pp nd.ps.length cp) := HN4.o.blk.cell 2 rfl
    go_wp2_with fail
    refine (row_ls HS4.o nd.ps HP4.o Hnn.o.pr (by have := HWL.o; have := Hnn.o.il; have := Hnn.o.pl; simp only [List.length_append, um5, List.length_cons, List.length_nil] at *; omega)).mono ?_
    rintro e w5 ⟨v5, rfl, hS5, hT5⟩
    have HS5 := hd' hS5
    have HT5 := hd' (HT4.o.trans hT5)
    have HN5 := hd' (HN4.o.step hT5)
    have HX5 := hd' (HX4.o.mod (HS4.o.far hT5) (fun k hk hG => by omega))
    have HI5 := hd' (RowG.mod HI4.o (HS4.o.far hT5) (fun k hk hG => by omega))
    have HP5 := hd' (RowG.mod HP4.o (HS4.o.far hT5) (fun k hk hG => by omega))
    clear hS5 hT5
    clear n4_2
    go_wp2_with fail
    refine (ulr HS5.o [uqk] (by have := HWL.o; have := Hnn.o.il; have := Hnn.o.pl; simp only [List.length_append, um5, List.length_cons, List.length_nil] at *; omega) (by first | rfl | simp) rfl rfl).mono ?_
    rintro e w6 ⟨v6, rfl, hS6, hT6⟩
    have HS6 := hd' hS6
    have HT6 := hd' (HT5.o.trans hT6)
    have HN6 := hd' (HN5.o.step hT6)
    have HX6 := hd' (HX5.o.mod (HS5.o.far hT6) (fun k hk hG => by omega))
    have HI6 := hd' (RowG.mod HI5.o (HS5.o.far hT6) (fun k hk hG => by omega))
    have HP6 := hd' (RowG.mod HP5.o (HS5.o.far hT6) (fun k hk hG => by omega))
    clear hS6 hT6
    go_wp2_with fail
    go_roundw
    case rel => exact ⟨j + 1, v6, by go_num, by have := Hji.o; omega, by
     have e : ws ++ nums [g.out] ++ (g.nodes.take j).flatMap umz ++ [kindsL.getD m []] ++ nums nd.ins ++ [uoh] ++ nums nd.ps ++ [uqk] = ws ++ nums [g.out] ++ (g.nodes.take (j + 1)).flatMap umz := by
      rw [Htk.o, umz, Hm.o, kindW_at m (by have := Hop.o; omega)]
      simp
     rw [← e]
     exact HS6.o, HT6.o, HX6.o, Hmm.o _ HO.o (by have := Hop.o; rw [Hm.o]; omega)⟩
    case measure => exact up5 Hji.o hj1
   ·have hno : Hid (R = none) := hd' (HR.o.symm.trans (if_neg fun h => hop (h _ Hin.o)))
    have HTa := hd' (HT.o.trans (WTo.other (Gou.Mod.alloc0 _ (.cells #[iV nd.op, .slice pi nd.ins.length ci, .slice pp nd.ps.length cp] 58)) v))
    have HNa := hd' (Loc.new HS.o 58 #[iV nd.op, .slice pi nd.ins.length ci, .slice pp nd.ps.length cp] rfl)
    by_cases h0 : 0 < nd.op
    ·have e2 : decide (0 < nd.op) = true := dqt h0
     have e3 : decide (nd.op < 13) = false := dqf (by omega)
     clear h0 hop
     go_wp2_with fail
     refine (ukv _).mono ?_
     rintro e w' ⟨rfl, hww⟩
     subst hww
     exact ⟨rfl, v, HTa.o, by rw [hno.out]⟩
    ·have e2 : decide (0 < nd.op) = false := dqf h0
     clear h0 hop
     go_wp2_with fail
     refine (ukv _).mono ?_
     rintro e w' ⟨rfl, hww⟩
     subst hww
     exact ⟨rfl, v, HTa.o, by rw [hno.out]⟩
  ·obtain rfl : j = g.nodes.length := by omega
   have e1 : decide ((g.nodes.length : Int) < (g.nodes.length : Int)) = false := dqf (by omega)
   have hyes : Hid (R = some (ulg true g)) := hd' (HR.o.symm.trans (if_pos fun n hn => HO.o n (by rw [List.take_length]; exact hn)))
   go_wp2_with fail
   first | go_end0 | refine bpr (results_none rfl _ _ _) rfl ?_
   have e : ws ++ ulg true g = ws ++ nums [g.out] ++ (g.nodes.take g.nodes.length).flatMap umz := by simp [ulg, nums]
   exact ⟨v, HT.o, by rw [hyes.out]; exact ⟨rfl, by rw [e]; exact HS.o⟩⟩
end Go.Proofs.YtgolafbneiffpaaGreatDoor
