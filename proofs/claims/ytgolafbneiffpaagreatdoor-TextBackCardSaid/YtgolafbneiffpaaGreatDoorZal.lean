/- Texts of the scenes' proofs, laid together: TyE. -/
import Derived.Test.YtgolafbneiffpaaGreatDoorZak
set_option maxHeartbeats 64000000
set_option linter.unusedSimpArgs false
set_option linter.unusedVariables false
set_option linter.unusedSectionVars false
set_option linter.constructorNameAsVariable false
namespace Go.Proofs.YtgolafbneiffpaaGreatDoor
open Go.RowKit Go.Gou Go.Txt
set_option maxRecDepth 100000
theorem LSF.ok {w : World} {L : Nat} {ws us : List Wd} {vs : Value} {e : Ending} {w' : World} (h : LSP w L ws vs us e w') : LSF w L ws vs (some us) e w' := by
 obtain ⟨v, rfl, hs, ht⟩ := h
 exact ⟨v, ht, rfl, hs⟩
structure uwi (c : Ct) : Prop where
 one : c.kind = 1 → (InR c.box.x0 ∧ InR c.box.y0 ∧ InR c.box.x1 ∧ InR c.box.y1) ∧ c.px.Small
 two : c.kind = 2 → (InR c.box.x0 ∧ InR c.box.y0 ∧ InR c.w ∧ InR c.h ∧ InR c.turn) ∧ (∀ q ∈ c.pix, q.Small) ∧ c.pix.length ≤ 10000000
theorem content_t {w : World} {L : Nat} {ws : List Wd} {vs : Value} (h : LS w L ws vs) (i : Int × Int) (c : Ct) (p : Option Addr) (k : Nat) (hi : InR i.1 ∧ InR i.2) (hc : uwi c) (hx : PixR (fun b => b < L) w (.slice p c.pix.length k) c.pix) (hl : ws.length ≤ 800000000) :
  Calls Tryz.prog 65 #[.pointer (some ⟨L, 0, none⟩), .agg #[iV i.1, iV i.2], .agg (uak c (.slice p c.pix.length k))] w (LSF w L ws vs (if 0 ≤ c.kind ∧ c.kind ≤ 2 then some (unx i c) else none)) := by
 by_cases hk : 0 ≤ c.kind ∧ c.kind ≤ 2
 ·rw [if_pos hk]
  have h3 : c.kind = 0 ∨ c.kind = 1 ∨ c.kind = 2 := by omega
  rcases h3 with h0 | h0 | h0
  ·exact (content_0 h i c p k h0 hi hl).mono fun _ _ q => LSF.ok q
  ·exact (content_1 h i c p k h0 hi (hc.one h0).1 (hc.one h0).2 hl).mono fun _ _ q => LSF.ok q
  ·exact (content_2 h i c p k h0 hi (hc.two h0).1 (hc.two h0).2.1 (hc.two h0).2.2 hx hl).mono fun _ _ q => LSF.ok q
 ·rw [if_neg hk]
  exact content_x h i c p k hk
theorem tlook_5 {w : World} {L : Nat} {ws : List Wd} {vs : Value} (h : LS w L ws vs) (p1 : Option Addr) (k1 : Nat) (p2 : Option Addr) (k2 : Nat) (p3 : Option Addr) (k3 : Nat) (o : Opr) (hk : o.kind = 5) (hi : InR o.id.1 ∧ InR o.id.2) (hd : InR o.look.dx ∧ InR o.look.dy) (hx : LookR (fun b => b < L) w o.look (.slice p1 o.look.content.pix.length k1) (.slice p2 o.look.filt.nodes.length k2) (.slice p3 o.look.back.nodes.length k3)) (hl : ws.length ≤ 700000000) :
  Calls Tryz.prog 38 #[.pointer (some ⟨L, 0, none⟩), .agg (opS o p1 k1 p2 k2 p3 k3)] w (LSP w L ws vs (ulb o)) := by
 have HK := hd' hk
 have Hl := hd' hl
 have Hhi := hd' hi
 have Hhd := hd' hd
 have HSa := h.other (Gou.Mod.alloc0 _ (.cells (opS o p1 k1 p2 k2 p3 k3) 37))
 have HBa := Loc.new h 37 (opS o p1 k1 p2 k2 p3 k3) rfl
 have HiL : Hid ((Tryz.prog.info? 35).map (·.size) = some (lkS o.look p1 k1 p2 k2 p3 k3).toList.length) := hd' (size_look.trans (by simp [uai]))
 have Hrg : Hid ((w.alloc (.cells (opS o p1 k1 p2 k2 p3 k3) 37)).rangeAt w.heap.size 6 (lkS o.look p1 k1 p2 k2 p3 k3).toList) := hd' (Blk.range (post := []) HBa.blk (by rw [List.append_nil]; exact ukx o _ _ _) rfl)
 have hA := Loc.new (b := w.heap.size + 1) HSa 35 lz28 (by simp)
 have Hth : Hid (((w.alloc (.cells (opS o p1 k1 p2 k2 p3 k3) 37)).alloc (.cells lz28 35)).there (w.heap.size + 1) 0 (lkS o.look p1 k1 p2 k2 p3 k3).size) := hd' (hA.blk.there 0 _ (by rw [uj8]; simp))
 have HiL2 : Hid ((Tryz.prog.info? 35).map (·.size) = some (lkS o.look p1 k1 p2 k2 p3 k3).size) := hd' (size_look.trans (by rw [uj8]))
 have hA2 := hA.blk.sets 0 (lkS o.look p1 k1 p2 k2 p3 k3).toList
 rw [uef _ _ (by simp [uai])] at hA2
 have hM : Gou.Mod (fun _ => False) (w.alloc (.cells (opS o p1 k1 p2 k2 p3 k3) 37)) (((w.alloc (.cells (opS o p1 k1 p2 k2 p3 k3) 37)).alloc (.cells lz28 35)).setCells (w.heap.size + 1) 0 (lkS o.look p1 k1 p2 k2 p3 k3).toList) := (Gou.Mod.alloc0 _ _).trans (Blk.setMod _ _ _ _) (fun i hi e => by
  rw [World.size_alloc] at hi
  omega)
 have HL0 : Hid (Loc (((w.alloc (.cells (opS o p1 k1 p2 k2 p3 k3) 37)).alloc (.cells lz28 35)).setCells (w.heap.size + 1) 0 (lkS o.look p1 k1 p2 k2 p3 k3).toList) L vs (w.heap.size + 1) 35 (lkS o.look p1 k1 p2 k2 p3 k3)) := hd' ⟨hA2, hA.ne, hA.off⟩
 have HB0 := hd' (HBa.other hM)
 have HS0 := hd' (HSa.other hM)
 have HT0 := hd' (WTo.other (W := L) ((Gou.Mod.alloc0 w _).trans' hM) vs)
 have HX0 := hd' (hx.mod ((Gou.Mod.alloc0 w _).trans' hM) (fun _ _ _ h => h))
 have kd : (((w.alloc (.cells (opS o p1 k1 p2 k2 p3 k3) 37)).alloc (.cells lz28 35)).setCells (w.heap.size + 1) 0 (lkS o.look p1 k1 p2 k2 p3 k3).toList).cell? ⟨w.heap.size, 0, none⟩ = some (iV 5) := by rw [← HK.o]; exact HB0.o.blk.cell 0 rfl
 clear h hk hl hx HSa HBa hA hA2 hM hi hd
 go_enter Tryz.func38, Tryz.ntmps38
 go_wp2_with (first | ((with_reducible refine wpList_load_mid ?g1_1 35 ?x1_1 ?o1_1 w.heap.size 6 ?h1_1 (lkS o.look p1 k1 p2 k2 p3 k3).toList ?d1_1 ?c1_1 ?u1_1 ?s1_1 ?i1_1 ?r1_1); (case g1_1 => exact rfl); (case o1_1 => exact rfl); (case h1_1 => exact rfl); (case c1_1 => exact Hrg.o); (case u1_1 => exact Tryz.underlying35); (case s1_1 => exact rfl); (case i1_1 => exact HiL.o)) | ((with_reducible refine wpList_store_mid ?g1_2 35 ?x1_2 ?y1_2 ?o1_2 (w.heap.size + 1) 0 (lkS o.look p1 k1 p2 k2 p3 k3) ?h1_2 ?j1_2 ?t1_2 ?i1_2 ?s1_2 ?r1_2); (case g1_2 => exact rfl); (case o1_2 => exact rfl); (case h1_2 => exact rfl); (case j1_2 => exact rfl); (case t1_2 => exact Hth.o); (case i1_2 => exact HiL2.o); (case s1_2 => exact uka _ _ _ _ _ _ _ _ _ _)) | fail)
 try generalize hWq : (((w.alloc (.cells (opS o p1 k1 p2 k2 p3 k3) 37)).alloc (.cells lz28 35)).setCells (w.heap.size + 1) 0 (lkS o.look p1 k1 p2 k2 p3 k3).toList) = wq at *
 try clear hWq
 clear kd Hrg Hth
 refine (ulr HS0.o [uny] (by have := Hl.o; simp [nums]; omega) (by first | rfl | simp) rfl rfl).mono ?_
 rintro e w1 ⟨v1, rfl, hS1, hT1⟩
 have HS1 := hd' hS1
 have HT1 := hd' (HT0.o.trans hT1)
 have HB1 := hd' (HB0.o.step hT1)
 have HL1 := hd' (HL0.o.step hT1)
 have HX1 := hd' (HX0.o.mod (HS0.o.far hT1) (fun k hk hG => by omega))
 clear hS1 hT1
 have i1_1 : (w1).cell? ⟨w.heap.size, 1, none⟩ = some (iV o.id.1) := HB1.o.blk.cell 1 rfl
 have i1_2 : (w1).cell? ⟨w.heap.size, 2, none⟩ = some (iV o.id.2) := HB1.o.blk.cell 2 rfl
 go_wp2_with fail
 refine (un5 HS1.o (o.id.1) (o.id.2) Hhi.o (by have := Hl.o; simp [nums]; omega)).mono ?_
 rintro e w2 ⟨v2, rfl, hS2, hT2⟩
 have HS2 := hd' hS2
 have HT2 := hd' (HT1.o.trans hT2)
 have HB2 := hd' (HB1.o.step hT2)
 have HL2 := hd' (HL1.o.step hT2)
 have HX2 := hd' (HX1.o.mod (HS1.o.far hT2) (fun k hk hG => by omega))
 clear hS2 hT2
 clear i1_1 i1_2
 have c2_0 : (w2).cell? ⟨(w.heap.size + 1), 0, none⟩ = some (iV o.look.dx) := HL2.o.blk.cell 0 rfl
 have c2_1 : (w2).cell? ⟨(w.heap.size + 1), 1, none⟩ = some (iV o.look.dy) := HL2.o.blk.cell 1 rfl
 go_wp2_with fail
 refine (uok HS2.o [o.look.dx, o.look.dy] (ul8 Hhd.o.1 Hhd.o.2) (by have := Hl.o; simp [nums]; omega) (by first | rfl | simp) rfl rfl).mono ?_
 rintro e w3 ⟨v3, rfl, hS3, hT3⟩
 have HS3 := hd' hS3
 have HT3 := hd' (HT2.o.trans hT3)
 have HB3 := hd' (HB2.o.step hT3)
 have HL3 := hd' (HL2.o.step hT3)
 have HX3 := hd' (HX2.o.mod (HS2.o.far hT3) (fun k hk hG => by omega))
 clear hS3 hT3
 clear c2_0 c2_1
 go_wp2_with fail
 first | go_end0 | refine bpr (results_none rfl _ _ _) rfl ?_
 have e : ws ++ ulb o = ws ++ [uny] ++ nums [o.id.1, o.id.2] ++ nums [o.look.dx, o.look.dy] := by simp [ulb, HK.o, nums]
 exact ⟨v3, rfl, by rw [e]; exact HS3.o, HT3.o⟩
theorem tlook_7 {w : World} {L : Nat} {ws : List Wd} {vs : Value} (h : LS w L ws vs) (p1 : Option Addr) (k1 : Nat) (p2 : Option Addr) (k2 : Nat) (p3 : Option Addr) (k3 : Nat) (o : Opr) (hk : o.kind = 7) (hi : InR o.id.1 ∧ InR o.id.2) (hd : InR o.look.opacity) (hx : LookR (fun b => b < L) w o.look (.slice p1 o.look.content.pix.length k1) (.slice p2 o.look.filt.nodes.length k2) (.slice p3 o.look.back.nodes.length k3)) (hl : ws.length ≤ 700000000) :
  Calls Tryz.prog 38 #[.pointer (some ⟨L, 0, none⟩), .agg (opS o p1 k1 p2 k2 p3 k3)] w (LSP w L ws vs (ulb o)) := by
 have HK := hd' hk
 have Hl := hd' hl
 have Hhi := hd' hi
 have Hhd := hd' hd
 have HSa := h.other (Gou.Mod.alloc0 _ (.cells (opS o p1 k1 p2 k2 p3 k3) 37))
 have HBa := Loc.new h 37 (opS o p1 k1 p2 k2 p3 k3) rfl
 have HiL : Hid ((Tryz.prog.info? 35).map (·.size) = some (lkS o.look p1 k1 p2 k2 p3 k3).toList.length) := hd' (size_look.trans (by simp [uai]))
 have Hrg : Hid ((w.alloc (.cells (opS o p1 k1 p2 k2 p3 k3) 37)).rangeAt w.heap.size 6 (lkS o.look p1 k1 p2 k2 p3 k3).toList) := hd' (Blk.range (post := []) HBa.blk (by rw [List.append_nil]; exact ukx o _ _ _) rfl)
 have hA := Loc.new (b := w.heap.size + 1) HSa 35 lz28 (by simp)
 have Hth : Hid (((w.alloc (.cells (opS o p1 k1 p2 k2 p3 k3) 37)).alloc (.cells lz28 35)).there (w.heap.size + 1) 0 (lkS o.look p1 k1 p2 k2 p3 k3).size) := hd' (hA.blk.there 0 _ (by rw [uj8]; simp))
 have HiL2 : Hid ((Tryz.prog.info? 35).map (·.size) = some (lkS o.look p1 k1 p2 k2 p3 k3).size) := hd' (size_look.trans (by rw [uj8]))
 have hA2 := hA.blk.sets 0 (lkS o.look p1 k1 p2 k2 p3 k3).toList
 rw [uef _ _ (by simp [uai])] at hA2
 have hM : Gou.Mod (fun _ => False) (w.alloc (.cells (opS o p1 k1 p2 k2 p3 k3) 37)) (((w.alloc (.cells (opS o p1 k1 p2 k2 p3 k3) 37)).alloc (.cells lz28 35)).setCells (w.heap.size + 1) 0 (lkS o.look p1 k1 p2 k2 p3 k3).toList) := (Gou.Mod.alloc0 _ _).trans (Blk.setMod _ _ _ _) (fun i hi e => by
  rw [World.size_alloc] at hi
  omega)
 have HL0 : Hid (Loc (((w.alloc (.cells (opS o p1 k1 p2 k2 p3 k3) 37)).alloc (.cells lz28 35)).setCells (w.heap.size + 1) 0 (lkS o.look p1 k1 p2 k2 p3 k3).toList) L vs (w.heap.size + 1) 35 (lkS o.look p1 k1 p2 k2 p3 k3)) := hd' ⟨hA2, hA.ne, hA.off⟩
 have HB0 := hd' (HBa.other hM)
 have HS0 := hd' (HSa.other hM)
 have HT0 := hd' (WTo.other (W := L) ((Gou.Mod.alloc0 w _).trans' hM) vs)
 have HX0 := hd' (hx.mod ((Gou.Mod.alloc0 w _).trans' hM) (fun _ _ _ h => h))
 have kd : (((w.alloc (.cells (opS o p1 k1 p2 k2 p3 k3) 37)).alloc (.cells lz28 35)).setCells (w.heap.size + 1) 0 (lkS o.look p1 k1 p2 k2 p3 k3).toList).cell? ⟨w.heap.size, 0, none⟩ = some (iV 7) := by rw [← HK.o]; exact HB0.o.blk.cell 0 rfl
 clear h hk hl hx HSa HBa hA hA2 hM hi hd
 go_enter Tryz.func38, Tryz.ntmps38
 go_wp2_with (first | ((with_reducible refine wpList_load_mid ?g1_1 35 ?x1_1 ?o1_1 w.heap.size 6 ?h1_1 (lkS o.look p1 k1 p2 k2 p3 k3).toList ?d1_1 ?c1_1 ?u1_1 ?s1_1 ?i1_1 ?r1_1); (case g1_1 => exact rfl); (case o1_1 => exact rfl); (case h1_1 => exact rfl); (case c1_1 => exact Hrg.o); (case u1_1 => exact Tryz.underlying35); (case s1_1 => exact rfl); (case i1_1 => exact HiL.o)) | ((with_reducible refine wpList_store_mid ?g1_2 35 ?x1_2 ?y1_2 ?o1_2 (w.heap.size + 1) 0 (lkS o.look p1 k1 p2 k2 p3 k3) ?h1_2 ?j1_2 ?t1_2 ?i1_2 ?s1_2 ?r1_2); (case g1_2 => exact rfl); (case o1_2 => exact rfl); (case h1_2 => exact rfl); (case j1_2 => exact rfl); (case t1_2 => exact Hth.o); (case i1_2 => exact HiL2.o); (case s1_2 => exact uka _ _ _ _ _ _ _ _ _ _)) | fail)
 try generalize hWq : (((w.alloc (.cells (opS o p1 k1 p2 k2 p3 k3) 37)).alloc (.cells lz28 35)).setCells (w.heap.size + 1) 0 (lkS o.look p1 k1 p2 k2 p3 k3).toList) = wq at *
 try clear hWq
 clear kd Hrg Hth
 refine (ulr HS0.o [usg] (by have := Hl.o; simp [nums]; omega) (by first | rfl | simp) rfl rfl).mono ?_
 rintro e w1 ⟨v1, rfl, hS1, hT1⟩
 have HS1 := hd' hS1
 have HT1 := hd' (HT0.o.trans hT1)
 have HB1 := hd' (HB0.o.step hT1)
 have HL1 := hd' (HL0.o.step hT1)
 have HX1 := hd' (HX0.o.mod (HS0.o.far hT1) (fun k hk hG => by omega))
 clear hS1 hT1
 have i1_1 : (w1).cell? ⟨w.heap.size, 1, none⟩ = some (iV o.id.1) := HB1.o.blk.cell 1 rfl
 have i1_2 : (w1).cell? ⟨w.heap.size, 2, none⟩ = some (iV o.id.2) := HB1.o.blk.cell 2 rfl
 go_wp2_with fail
 refine (un5 HS1.o (o.id.1) (o.id.2) Hhi.o (by have := Hl.o; simp [nums]; omega)).mono ?_
 rintro e w2 ⟨v2, rfl, hS2, hT2⟩
 have HS2 := hd' hS2
 have HT2 := hd' (HT1.o.trans hT2)
 have HB2 := hd' (HB1.o.step hT2)
 have HL2 := hd' (HL1.o.step hT2)
 have HX2 := hd' (HX1.o.mod (HS1.o.far hT2) (fun k hk hG => by omega))
 clear hS2 hT2
 clear i1_1 i1_2
 have c2_7 : (w2).cell? ⟨(w.heap.size + 1), 7, none⟩ = some (iV o.look.opacity) := HL2.o.blk.cell 7 rfl
 go_wp2_with fail
 refine (uok HS2.o [o.look.opacity] (unv Hhd.o) (by have := Hl.o; simp [nums]; omega) (by first | rfl | simp) rfl rfl).mono ?_
 rintro e w3 ⟨v3, rfl, hS3, hT3⟩
 have HS3 := hd' hS3
 have HT3 := hd' (HT2.o.trans hT3)
 have HB3 := hd' (HB2.o.step hT3)
 have HL3 := hd' (HL2.o.step hT3)
 have HX3 := hd' (HX2.o.mod (HS2.o.far hT3) (fun k hk hG => by omega))
 clear hS3 hT3
 clear c2_7
 go_wp2_with fail
 first | go_end0 | refine bpr (results_none rfl _ _ _) rfl ?_
 have e : ws ++ ulb o = ws ++ [usg] ++ nums [o.id.1, o.id.2] ++ nums [o.look.opacity] := by simp [ulb, HK.o, nums]
 exact ⟨v3, rfl, by rw [e]; exact HS3.o, HT3.o⟩
theorem tlook_8 {w : World} {L : Nat} {ws : List Wd} {vs : Value} (h : LS w L ws vs) (p1 : Option Addr) (k1 : Nat) (p2 : Option Addr) (k2 : Nat) (p3 : Option Addr) (k3 : Nat) (o : Opr) (hk : o.kind = 8) (hi : InR o.id.1 ∧ InR o.id.2) (hd : InR o.look.mode) (hx : LookR (fun b => b < L) w o.look (.slice p1 o.look.content.pix.length k1) (.slice p2 o.look.filt.nodes.length k2) (.slice p3 o.look.back.nodes.length k3)) (hl : ws.length ≤ 700000000) :
  Calls Tryz.prog 38 #[.pointer (some ⟨L, 0, none⟩), .agg (opS o p1 k1 p2 k2 p3 k3)] w (LSP w L ws vs (ulb o)) := by
 have HK := hd' hk
 have Hl := hd' hl
 have Hhi := hd' hi
 have Hhd := hd' hd
 have HSa := h.other (Gou.Mod.alloc0 _ (.cells (opS o p1 k1 p2 k2 p3 k3) 37))
 have HBa := Loc.new h 37 (opS o p1 k1 p2 k2 p3 k3) rfl
 have HiL : Hid ((Tryz.prog.info? 35).map (·.size) = some (lkS o.look p1 k1 p2 k2 p3 k3).toList.length) := hd' (size_look.trans (by simp [uai]))
 have Hrg : Hid ((w.alloc (.cells (opS o p1 k1 p2 k2 p3 k3) 37)).rangeAt w.heap.size 6 (lkS o.look p1 k1 p2 k2 p3 k3).toList) := hd' (Blk.range (post := []) HBa.blk (by rw [List.append_nil]; exact ukx o _ _ _) rfl)
 have hA := Loc.new (b := w.heap.size + 1) HSa 35 lz28 (by simp)
 have Hth : Hid (((w.alloc (.cells (opS o p1 k1 p2 k2 p3 k3) 37)).alloc (.cells lz28 35)).there (w.heap.size + 1) 0 (lkS o.look p1 k1 p2 k2 p3 k3).size) := hd' (hA.blk.there 0 _ (by rw [uj8]; simp))
 have HiL2 : Hid ((Tryz.prog.info? 35).map (·.size) = some (lkS o.look p1 k1 p2 k2 p3 k3).size) := hd' (size_look.trans (by rw [uj8]))
 have hA2 := hA.blk.sets 0 (lkS o.look p1 k1 p2 k2 p3 k3).toList
 rw [uef _ _ (by simp [uai])] at hA2
 have hM : Gou.Mod (fun _ => False) (w.alloc (.cells (opS o p1 k1 p2 k2 p3 k3) 37)) (((w.alloc (.cells (opS o p1 k1 p2 k2 p3 k3) 37)).alloc (.cells lz28 35)).setCells (w.heap.size + 1) 0 (lkS o.look p1 k1 p2 k2 p3 k3).toList) := (Gou.Mod.alloc0 _ _).trans (Blk.setMod _ _ _ _) (fun i hi e => by
  rw [World.size_alloc] at hi
  omega)
 have HL0 : Hid (Loc (((w.alloc (.cells (opS o p1 k1 p2 k2 p3 k3) 37)).alloc (.cells lz28 35)).setCells (w.heap.size + 1) 0 (lkS o.look p1 k1 p2 k2 p3 k3).toList) L vs (w.heap.size + 1) 35 (lkS o.look p1 k1 p2 k2 p3 k3)) := hd' ⟨hA2, hA.ne, hA.off⟩
 have HB0 := hd' (HBa.other hM)
 have HS0 := hd' (HSa.other hM)
 have HT0 := hd' (WTo.other (W := L) ((Gou.Mod.alloc0 w _).trans' hM) vs)
 have HX0 := hd' (hx.mod ((Gou.Mod.alloc0 w _).trans' hM) (fun _ _ _ h => h))
 have kd : (((w.alloc (.cells (opS o p1 k1 p2 k2 p3 k3) 37)).alloc (.cells lz28 35)).setCells (w.heap.size + 1) 0 (lkS o.look p1 k1 p2 k2 p3 k3).toList).cell? ⟨w.heap.size, 0, none⟩ = some (iV 8) := by rw [← HK.o]; exact HB0.o.blk.cell 0 rfl
 clear h hk hl hx HSa HBa hA hA2 hM hi hd
 go_enter Tryz.func38, Tryz.ntmps38
 go_wp2_with (first | ((with_reducible refine wpList_load_mid ?g1_1 35 ?x1_1 ?o1_1 w.heap.size 6 ?h1_1 (lkS o.look p1 k1 p2 k2 p3 k3).toList ?d1_1 ?c1_1 ?u1_1 ?s1_1 ?i1_1 ?r1_1); (case g1_1 => exact rfl); (case o1_1 => exact rfl); (case h1_1 => exact rfl); (case c1_1 => exact Hrg.o); (case u1_1 => exact Tryz.underlying35); (case s1_1 => exact rfl); (case i1_1 => exact HiL.o)) | ((with_reducible refine wpList_store_mid ?g1_2 35 ?x1_2 ?y1_2 ?o1_2 (w.heap.size + 1) 0 (lkS o.look p1 k1 p2 k2 p3 k3) ?h1_2 ?j1_2 ?t1_2 ?i1_2 ?s1_2 ?r1_2); (case g1_2 => exact rfl); (case o1_2 => exact rfl); (case h1_2 => exact rfl); (case j1_2 => exact rfl); (case t1_2 => exact Hth.o); (case i1_2 => exact HiL2.o); (case s1_2 => exact uka _ _ _ _ _ _ _ _ _ _)) | fail)
 try generalize hWq : (((w.alloc (.cells (opS o p1 k1 p2 k2 p3 k3) 37)).alloc (.cells lz28 35)).setCells (w.heap.size + 1) 0 (lkS o.look p1 k1 p2 k2 p3 k3).toList) = wq at *
 try clear hWq
 clear kd Hrg Hth
 refine (ulr HS0.o [usd] (by have := Hl.o; simp [nums]; omega) (by first | rfl | simp) rfl rfl).mono ?_
 rintro e w1 ⟨v1, rfl, hS1, hT1⟩
 have HS1 := hd' hS1
 have HT1 := hd' (HT0.o.trans hT1)
 have HB1 := hd' (HB0.o.step hT1)
 have HL1 := hd' (HL0.o.step hT1)
 have HX1 := hd' (HX0.o.mod (HS0.o.far hT1) (fun k hk hG => by omega))
 clear hS1 hT1
 have i1_1 : (w1).cell? ⟨w.heap.size, 1, none⟩ = some (iV o.id.1) := HB1.o.blk.cell 1 rfl
 have i1_2 : (w1).cell? ⟨w.heap.size, 2, none⟩ = some (iV o.id.2) := HB1.o.blk.cell 2 rfl
 go_wp2_with fail
 refine (un5 HS1.o (o.id.1) (o.id.2) Hhi.o (by have := Hl.o; simp [nums]; omega)).mono ?_
 rintro e w2 ⟨v2, rfl, hS2, hT2⟩
 have HS2 := hd' hS2
 have HT2 := hd' (HT1.o.trans hT2)
 have HB2 := hd' (HB1.o.step hT2)
 have HL2 := hd' (HL1.o.step hT2)
 have HX2 := hd' (HX1.o.mod (HS1.o.far hT2) (fun k hk hG => by omega))
 clear hS2 hT2
 clear i1_1 i1_2
 have c2_8 : (w2).cell? ⟨(w.heap.size + 1), 8, none⟩ = some (iV o.look.mode) := HL2.o.blk.cell 8 rfl
 go_wp2_with fail
 refine (uok HS2.o [o.look.mode] (unv Hhd.o) (by have := Hl.o; simp [nums]; omega) (by first | rfl | simp) rfl rfl).mono ?_
 rintro e w3 ⟨v3, rfl, hS3, hT3⟩
 have HS3 := hd' hS3
 have HT3 := hd' (HT2.o.trans hT3)
 have HB3 := hd' (HB2.o.step hT3)
 have HL3 := hd' (HL2.o.step hT3)
 have HX3 := hd' (HX2.o.mod (HS2.o.far hT3) (fun k hk hG => by omega))
 clear hS3 hT3
 clear c2_8
 go_wp2_with fail
 first | go_end0 | refine bpr (results_none rfl _ _ _) rfl ?_
 have e : ws ++ ulb o = ws ++ [usd] ++ nums [o.id.1, o.id.2] ++ nums [o.look.mode] := by simp [ulb, HK.o, nums]
 exact ⟨v3, rfl, by rw [e]; exact HS3.o, HT3.o⟩
theorem tlook_6f {w : World} {L : Nat} {ws : List Wd} {vs : Value} (h : LS w L ws vs) (p1 : Option Addr) (k1 : Nat) (p2 : Option Addr) (k2 : Nat) (p3 : Option Addr) (k3 : Nat) (o : Opr) (hk : o.kind = 6) (hi : InR o.id.1 ∧ InR o.id.2) (hf : o.look.hasClip = false) (hx : LookR (fun b => b < L) w o.look (.slice p1 o.look.content.pix.length k1) (.slice p2 o.look.filt.nodes.length k2) (.slice p3 o.look.back.nodes.length k3)) (hl : ws.length ≤ 700000000) :
  Calls Tryz.prog 38 #[.pointer (some ⟨L, 0, none⟩), .agg (opS o p1 k1 p2 k2 p3 k3)] w (LSP w L ws vs (ulb o)) := by
 have HK := hd' hk
 have Hl := hd' hl
 have Hhi := hd' hi
 have Hhf := hd' hf
 have HSa := h.other (Gou.Mod.alloc0 _ (.cells (opS o p1 k1 p2 k2 p3 k3) 37))
 have HBa := Loc.new h 37 (opS o p1 k1 p2 k2 p3 k3) rfl
 have HiL : Hid ((Tryz.prog.info? 35).map (·.size) = some (lkS o.look p1 k1 p2 k2 p3 k3).toList.length) := hd' (size_look.trans (by simp [uai]))
 have Hrg : Hid ((w.alloc (.cells (opS o p1 k1 p2 k2 p3 k3) 37)).rangeAt w.heap.size 6 (lkS o.look p1 k1 p2 k2 p3 k3).toList) := hd' (Blk.range (post := []) HBa.blk (by rw [List.append_nil]; exact ukx o _ _ _) rfl)
 have hA := Loc.new (b := w.heap.size + 1) HSa 35 lz28 (by simp)
 have Hth : Hid (((w.alloc (.cells (opS o p1 k1 p2 k2 p3 k3) 37)).alloc (.cells lz28 35)).there (w.heap.size + 1) 0 (lkS o.look p1 k1 p2 k2 p3 k3).size) := hd' (hA.blk.there 0 _ (by rw [uj8]; simp))
 have HiL2 : Hid ((Tryz.prog.info? 35).map (·.size) = some (lkS o.look p1 k1 p2 k2 p3 k3).size) := hd' (size_look.trans (by rw [uj8]))
 have hA2 := hA.blk.sets 0 (lkS o.look p1 k1 p2 k2 p3 k3).toList
 rw [uef _ _ (by simp [uai])] at hA2
 have hM : Gou.Mod (fun _ => False) (w.alloc (.cells (opS o p1 k1 p2 k2 p3 k3) 37)) (((w.alloc (.cells (opS o p1 k1 p2 k2 p3 k3) 37)).alloc (.cells lz28 35)).setCells (w.heap.size + 1) 0 (lkS o.look p1 k1 p2 k2 p3 k3).toList) := (Gou.Mod.alloc0 _ _).trans (Blk.setMod _ _ _ _) (fun i hi e => by
  rw [World.size_alloc] at hi
  omega)
 have HL0 : Hid (Loc (((w.alloc (.cells (opS o p1 k1 p2 k2 p3 k3) 37)).alloc (.cells lz28 35)).setCells (w.heap.size + 1) 0 (lkS o.look p1 k1 p2 k2 p3 k3).toList) L vs (w.heap.size + 1) 35 (lkS o.look p1 k1 p2 k2 p3 k3)) := hd' ⟨hA2, hA.ne, hA.off⟩
 have HB0 := hd' (HBa.other hM)
 have HS0 := hd' (HSa.other hM)
 have HT0 := hd' (WTo.other (W := L) ((Gou.Mod.alloc0 w _).trans' hM) vs)
 have HX0 := hd' (hx.mod ((Gou.Mod.alloc0 w _).trans' hM) (fun _ _ _ h => h))
 have kd : (((w.alloc (.cells (opS o p1 k1 p2 k2 p3 k3) 37)).alloc (.cells lz28 35)).setCells (w.heap.size + 1) 0 (lkS o.look p1 k1 p2 k2 p3 k3).toList).cell? ⟨w.heap.size, 0, none⟩ = some (iV 6) := by rw [← HK.o]; exact HB0.o.blk.cell 0 rfl
 clear h hk hl hx HSa HBa hA hA2 hM hi hf
 go_enter Tryz.func38, Tryz.ntmps38
 go_wp2_with (first | ((with_reducible refine wpList_load_mid ?g1_1 35 ?x1_1 ?o1_1 w.heap.size 6 ?h1_1 (lkS o.look p1 k1 p2 k2 p3 k3).toList ?d1_1 ?c1_1 ?u1_1 ?s1_1 ?i1_1 ?r1_1); (case g1_1 => exact rfl); (case o1_1 => exact rfl); (case h1_1 => exact rfl); (case c1_1 => exact Hrg.o); (case u1_1 => exact Tryz.underlying35); (case s1_1 => exact rfl); (case i1_1 => exact HiL.o)) | ((with_reducible refine wpList_store_mid ?g1_2 35 ?x1_2 ?y1_2 ?o1_2 (w.heap.size + 1) 0 (lkS o.look p1 k1 p2 k2 p3 k3) ?h1_2 ?j1_2 ?t1_2 ?i1_2 ?s1_2 ?r1_2); (case g1_2 => exact rfl); (case o1_2 => exact rfl); (case h1_2 => exact rfl); (case j1_2 => exact rfl); (case t1_2 => exact Hth.o); (case i1_2 => exact HiL2.o); (case s1_2 => exact uka _ _ _ _ _ _ _ _ _ _)) | fail)
 try generalize hWq : (((w.alloc (.cells (opS o p1 k1 p2 k2 p3 k3) 37)).alloc (.cells lz28 35)).setCells (w.heap.size + 1) 0 (lkS o.look p1 k1 p2 k2 p3 k3).toList) = wq at *
 try clear hWq
 clear kd Hrg Hth
 refine (ulr HS0.o [wCut] (by have := Hl.o; simp [nums]; omega) (by first | rfl | simp) rfl rfl).mono ?_
 rintro e w1 ⟨v1, rfl, hS1, hT1⟩
 have HS1 := hd' hS1
 have HT1 := hd' (HT0.o.trans hT1)
 have HB1 := hd' (HB0.o.step hT1)
 have HL1 := hd' (HL0.o.step hT1)
 have HX1 := hd' (HX0.o.mod (HS0.o.far hT1) (fun k hk hG => by omega))
 clear hS1 hT1
 have i1_1 : (w1).cell? ⟨w.heap.size, 1, none⟩ = some (iV o.id.1) := HB1.o.blk.cell 1 rfl
 have i1_2 : (w1).cell? ⟨w.heap.size, 2, none⟩ = some (iV o.id.2) := HB1.o.blk.cell 2 rfl
 go_wp2_with fail
 refine (un5 HS1.o (o.id.1) (o.id.2) Hhi.o (by have := Hl.o; simp [nums]; omega)).mono ?_
 rintro e w2 ⟨v2, rfl, hS2, hT2⟩
 have HS2 := hd' hS2
 have HT2 := hd' (HT1.o.trans hT2)
 have HB2 := hd' (HB1.o.step hT2)
 have HL2 := hd' (HL1.o.step hT2)
 have HX2 := hd' (HX1.o.mod (HS1.o.far hT2) (fun k hk hG => by omega))
 clear hS2 hT2
 clear i1_1 i1_2
 have c2_2 : (w2).cell? ⟨(w.heap.size + 1), 2, none⟩ = some (.bool false) := (HL2.o.blk.cell (u := .bool o.look.hasClip) 2 rfl).trans (congrArg (fun b => some (Value.bool b)) Hhf.o)
 go_wp2_with fail
 refine (ulr HS2.o [wOff] (by have := Hl.o; simp [nums]; omega) (by first | rfl | simp) rfl rfl).mono ?_
 rintro e w3 ⟨v3, rfl, hS3, hT3⟩
 have HS3 := hd' hS3
 have HT3 := hd' (HT2.o.trans hT3)
 have HB3 := hd' (HB2.o.step hT3)
 have HL3 := hd' (HL2.o.step hT3)
 have HX3 := hd' (HX2.o.mod (HS2.o.far hT3) (fun k hk hG => by omega))
 clear hS3 hT3
 clear c2_2
 go_wp2_with fail
 first | go_end0 | refine bpr (results_none rfl _ _ _) rfl ?_
 have e : ws ++ ulb o = ws ++ [wCut] ++ nums [o.id.1, o.id.2] ++ [wOff] := by simp [ulb, HK.o, Hhf.o, nums]
 exact ⟨v3, rfl, by rw [e]; exact HS3.o, HT3.o⟩
theorem tlook_6t {w : World} {L : Nat} {ws : List Wd} {vs : Value} (h : LS w L ws vs) (p1 : Option Addr) (k1 : Nat) (p2 : Option Addr) (k2 : Nat) (p3 : Option Addr) (k3 : Nat) (o : Opr) (hk : o.kind = 6) (hi : InR o.id.1 ∧ InR o.id.2) (hf : o.look.hasClip = true) (hc : InR o.look.clip.x0 ∧ InR o.look.clip.y0 ∧ InR o.look.clip.x1 ∧ InR o.look.clip.y1) (hx : LookR (fun b => b < L) w o.look (.slice p1 o.look.content.pix.length k1) (.slice p2 o.look.filt.nodes.length k2) (.slice p3 o.look.back.nodes.length k3)) (hl : ws.length ≤ 700000000) :
  Calls Tryz.prog 38 #[.pointer (some ⟨L, 0, none⟩), .agg (opS o p1 k1 p2 k2 p3 k3)] w (LSP w L ws vs (ulb o)) := by
 have HK := hd' hk
 have Hl := hd' hl
 have Hhi := hd' hi
 have Hhf := hd' hf
 have Hhc := hd' hc
 have HSa := h.other (Gou.Mod.alloc0 _ (.cells (opS o p1 k1 p2 k2 p3 k3) 37))
 have HBa := Loc.new h 37 (opS o p1 k1 p2 k2 p3 k3) rfl
 have HiL : Hid ((Tryz.prog.info? 35).map (·.size) = some (lkS o.look p1 k1 p2 k2 p3 k3).toList.length) := hd' (size_look.trans (by simp [uai]))
 have Hrg : Hid ((w.alloc (.cells (opS o p1 k1 p2 k2 p3 k3) 37)).rangeAt w.heap.size 6 (lkS o.look p1 k1 p2 k2 p3 k3).toList) := hd' (Blk.range (post := []) HBa.blk (by rw [List.append_nil]; exact ukx o _ _ _) rfl)
 have hA := Loc.new (b := w.heap.size + 1) HSa 35 lz28 (by simp)
 have Hth : Hid (((w.alloc (.cells (opS o p1 k1 p2 k2 p3 k3) 37)).alloc (.cells lz28 35)).there (w.heap.size + 1) 0 (lkS o.look p1 k1 p2 k2 p3 k3).size) := hd' (hA.blk.there 0 _ (by rw [uj8]; simp))
 have HiL2 : Hid ((Tryz.prog.info? 35).map (·.size) = some (lkS o.look p1 k1 p2 k2 p3 k3).size) := hd' (size_look.trans (by rw [uj8]))
 have hA2 := hA.blk.sets 0 (lkS o.look p1 k1 p2 k2 p3 k3).toList
 rw [uef _ _ (by simp [uai])] at hA2
 have hM : Gou.Mod (fun _ => False) (w.alloc (.cells (opS o p1 k1 p2 k2 p3 k3) 37)) (((w.alloc (.cells (opS o p1 k1 p2 k2 p3 k3) 37)).alloc (.cells lz28 35)).setCells (w.heap.size + 1) 0 (lkS o.look p1 k1 p2 k2 p3 k3).toList) := (Gou.Mod.alloc0 _ _).trans (Blk.setMod _ _ _ _) (fun i hi e => by
  rw [World.size_alloc] at hi
  omega)
 have HL0 : Hid (Loc (((w.alloc (.cells (opS o p1 k1 p2 k2 p3 k3) 37)).alloc (.cells lz28 35)).setCells (w.heap.size + 1) 0 (lkS o.look p1 k1 p2 k2 p3 k3).toList) L vs (w.heap.size + 1) 35 (lkS o.look p1 k1 p2 k2 p3 k3)) := hd' ⟨hA2, hA.ne, hA.off⟩
 have HB0 := hd' (HBa.other hM)
 have HS0 := hd' (HSa.other hM)
 have HT0 := hd' (WTo.other (W := L) ((Gou.Mod.alloc0 w _).trans' hM) vs)
 have HX0 := hd' (hx.mod ((Gou.Mod.alloc0 w _).trans' hM) (fun _ _ _ h => h))
 have kd : (((w.alloc (.cells (opS o p1 k1 p2 k2 p3 k3) 37)).alloc (.cells lz28 35)).setCells (w.heap.size + 1) 0 (lkS o.look p1 k1 p2 k2 p3 k3).toList).cell? ⟨w.heap.size, 0, none⟩ = some (iV 6) := by rw [← HK.o]; exact HB0.o.blk.cell 0 rfl
 clear h hk hl hx HSa HBa hA hA2 hM hi hf hc
 go_enter Tryz.func38, Tryz.ntmps38
 go_wp2_with (first | ((with_reducible refine wpList_load_mid ?g1_1 35 ?x1_1 ?o1_1 w.heap.size 6 ?h1_1 (lkS o.look p1 k1 p2 k2 p3 k3).toList ?d1_1 ?c1_1 ?u1_1 ?s1_1 ?i1_1 ?r1_1); (case g1_1 => exact rfl); (case o1_1 => exact rfl); (case h1_1 => exact rfl); (case c1_1 => exact Hrg.o); (case u1_1 => exact Tryz.underlying35); (case s1_1 => exact rfl); (case i1_1 => exact HiL.o)) | ((with_reducible refine wpList_store_mid ?g1_2 35 ?x1_2 ?y1_2 ?o1_2 (w.heap.size + 1) 0 (lkS o.look p1 k1 p2 k2 p3 k3) ?h1_2 ?j1_2 ?t1_2 ?i1_2 ?s1_2 ?r1_2); (case g1_2 => exact rfl); (case o1_2 => exact rfl); (case h1_2 => exact rfl); (case j1_2 => exact rfl); (case t1_2 => exact Hth.o); (case i1_2 => exact HiL2.o); (case s1_2 => exact uka _ _ _ _ _ _ _ _ _ _)) | fail)
 try generalize hWq : (((w.alloc (.cells (opS o p1 k1 p2 k2 p3 k3) 37)).alloc (.cells lz28 35)).setCells (w.heap.size + 1) 0 (lkS o.look p1 k1 p2 k2 p3 k3).toList) = wq at *
 try clear hWq
 clear kd Hrg Hth
 refine (ulr HS0.o [wCut] (by have := Hl.o; simp [nums]; omega) (by first | rfl | simp) rfl rfl).mono ?_
 rintro e w1 ⟨v1, rfl, hS1, hT1⟩
 have HS1 := hd' hS1
 have HT1 := hd' (HT0.o.trans hT1)
 have HB1 := hd' (HB0.o.step hT1)
 have HL1 := hd' (HL0.o.step hT1)
 have HX1 := hd' (HX0.o.mod (HS0.o.far hT1) (fun k hk hG => by omega))
 clear hS1 hT1
 have i1_1 : (w1).cell? ⟨w.heap.size, 1, none⟩ = some (iV o.id.1) := HB1.o.blk.cell 1 rfl
 have i1_2 : (w1).cell? ⟨w.heap.size, 2, none⟩ = some (iV o.id.2) := HB1.o.blk.cell 2 rfl
 go_wp2_with fail
 refine (un5 HS1.o (o.id.1) (o.id.2) Hhi.o (by have := Hl.o; simp [nums]; omega)).mono ?_
 rintro e w2 ⟨v2, rfl, hS2, hT2⟩
 have HS2 := hd' hS2
 have HT2 := hd' (HT1.o.trans hT2)
 have HB2 := hd' (HB1.o.step hT2)
 have HL2 := hd' (HL1.o.step hT2)
 have HX2 := hd' (HX1.o.mod (HS1.o.far hT2) (fun k hk hG => by omega))
 clear hS2 hT2
 clear i1_1 i1_2
 have c2_2 : (w2).cell? ⟨(w.heap.size + 1), 2, none⟩ = some (.bool true) := (HL2.o.blk.cell (u := .bool o.look.hasClip) 2 rfl).trans (congrArg (fun b => some (Value.bool b)) Hhf.o)
 have c2_3 : (w2).cell? ⟨(w.heap.size + 1), 3, none⟩ = some (iV o.look.clip.x0) := HL2.o.blk.cell 3 rfl
 have c2_4 : (w2).cell? ⟨(w.heap.size + 1), 4, none⟩ = some (iV o.look.clip.y0) := HL2.o.blk.cell 4 rfl
 have c2_5 : (w2).cell? ⟨(w.heap.size + 1), 5, none⟩ = some (iV o.look.clip.x1) := HL2.o.blk.cell 5 rfl
 have c2_6 : (w2).cell? ⟨(w.heap.size + 1), 6, none⟩ = some (iV o.look.clip.y1) := HL2.o.blk.cell 6 rfl
 go_wp2_with fail
 refine (box_ls HS2.o (o.look.clip.x0) (o.look.clip.y0) (o.look.clip.x1) (o.look.clip.y1) Hhc.o (by have := Hl.o; simp [nums]; omega)).mono ?_
 rintro e w3 ⟨v3, rfl, hS3, hT3⟩
 have HS3 := hd' hS3
 have HT3 := hd' (HT2.o.trans hT3)
 have HB3 := hd' (HB2.o.step hT3)
 have HL3 := hd' (HL2.o.step hT3)
 have HX3 := hd' (HX2.o.mod (HS2.o.far hT3) (fun k hk hG => by omega))
 clear hS3 hT3
 clear c2_2 c2_3 c2_4 c2_5 c2_6
 go_wp2_with fail
 first | go_end0 | refine bpr (results_none rfl _ _ _) rfl ?_
 have e : ws ++ ulb o = ws ++ [wCut] ++ nums [o.id.1, o.id.2] ++ nums [o.look.clip.x0, o.look.clip.y0, o.look.clip.x1, o.look.clip.y1] := by simp [ulb, HK.o, Hhf.o, nums]
 exact ⟨v3, rfl, by rw [e]; exact HS3.o, HT3.o⟩
theorem tlook_10f {w : World} {L : Nat} {ws : List Wd} {vs : Value} (h : LS w L ws vs) (p1 : Option Addr) (k1 : Nat) (p2 : Option Addr) (k2 : Nat) (p3 : Option Addr) (k3 : Nat) (o : Opr) (hk : o.kind = 10) (hi : InR o.id.1 ∧ InR o.id.2) (hf : o.look.hasFilt = false) (hx : LookR (fun b => b < L) w o.look (.slice p1 o.look.content.pix.length k1) (.slice p2 o.look.filt.nodes.length k2) (.slice p3 o.look.back.nodes.length k3)) (hl : ws.length ≤ 700000000) :
  Calls Tryz.prog 38 #[.pointer (some ⟨L, 0, none⟩), .agg (opS o p1 k1 p2 k2 p3 k3)] w (LSP w L ws vs (ulb o)) := by
 have HK := hd' hk
 have Hl := hd' hl
 have Hhi := hd' hi
 have Hhf := hd' hf
 have HSa := h.other (Gou.Mod.alloc0 _ (.cells (opS o p1 k1 p2 k2 p3 k3) 37))
 have HBa := Loc.new h 37 (opS o p1 k1 p2 k2 p3 k3) rfl
 have HiL : Hid ((Tryz.prog.info? 35).map (·.size) = some (lkS o.look p1 k1 p2 k2 p3 k3).toList.length) := hd' (size_look.trans (by simp [uai]))
 have Hrg : Hid ((w.alloc (.cells (opS o p1 k1 p2 k2 p3 k3) 37)).rangeAt w.heap.size 6 (lkS o.look p1 k1 p2 k2 p3 k3).toList) := hd' (Blk.range (post := []) HBa.blk (by rw [List.append_nil]; exact ukx o _ _ _) rfl)
 have hA := Loc.new (b := w.heap.size + 1) HSa 35 lz28 (by simp)
 have Hth : Hid (((w.alloc (.cells (opS o p1 k1 p2 k2 p3 k3) 37)).alloc (.cells lz28 35)).there (w.heap.size + 1) 0 (lkS o.look p1 k1 p2 k2 p3 k3).size) := hd' (hA.blk.there 0 _ (by rw [uj8]; simp))
 have HiL2 : Hid ((Tryz.prog.info? 35).map (·.size) = some (lkS o.look p1 k1 p2 k2 p3 k3).size) := hd' (size_look.trans (by rw [uj8]))
 have hA2 := hA.blk.sets 0 (lkS o.look p1 k1 p2 k2 p3 k3).toList
 rw [uef _ _ (by simp [uai])] at hA2
 have hM : Gou.Mod (fun _ => False) (w.alloc (.cells (opS o p1 k1 p2 k2 p3 k3) 37)) (((w.alloc (.cells (opS o p1 k1 p2 k2 p3 k3) 37)).alloc (.cells lz28 35)).setCells (w.heap.size + 1) 0 (lkS o.look p1 k1 p2 k2 p3 k3).toList) := (Gou.Mod.alloc0 _ _).trans (Blk.setMod _ _ _ _) (fun i hi e => by
  rw [World.size_alloc] at hi
  omega)
 have HL0 : Hid (Loc (((w.alloc (.cells (opS o p1 k1 p2 k2 p3 k3) 37)).alloc (.cells lz28 35)).setCells (w.heap.size + 1) 0 (lkS o.look p1 k1 p2 k2 p3 k3).toList) L vs (w.heap.size + 1) 35 (lkS o.look p1 k1 p2 k2 p3 k3)) := hd' ⟨hA2, hA.ne, hA.off⟩
 have HB0 := hd' (HBa.other hM)
 have HS0 := hd' (HSa.other hM)
 have HT0 := hd' (WTo.other (W := L) ((Gou.Mod.alloc0 w _).trans' hM) vs)
 have HX0 := hd' (hx.mod ((Gou.Mod.alloc0 w _).trans' hM) (fun _ _ _ h => h))
 have kd : (((w.alloc (.cells (opS o p1 k1 p2 k2 p3 k3) 37)).alloc (.cells lz28 35)).setCells (w.heap.size + 1) 0 (lkS o.look p1 k1 p2 k2 p3 k3).toList).cell? ⟨w.heap.size, 0, none⟩ = some (iV 10) := by rw [← HK.o]; exact HB0.o.blk.cell 0 rfl
 clear h hk hl hx HSa HBa hA hA2 hM hi hf
 go_enter Tryz.func38, Tryz.ntmps38
 go_wp2_with (first | ((with_reducible refine wpList_load_mid ?g1_1 35 ?x1_1 ?o1_1 w.heap.size 6 ?h1_1 (lkS o.look p1 k1 p2 k2 p3 k3).toList ?d1_1 ?c1_1 ?u1_1 ?s1_1 ?i1_1 ?r1_1); (case g1_1 => exact rfl); (case o1_1 => exact rfl); (case h1_1 => exact rfl); (case c1_1 => exact Hrg.o); (case u1_1 => exact Tryz.underlying35); (case s1_1 => exact rfl); (case i1_1 => exact HiL.o)) | ((with_reducible refine wpList_store_mid ?g1_2 35 ?x1_2 ?y1_2 ?o1_2 (w.heap.size + 1) 0 (lkS o.look p1 k1 p2 k2 p3 k3) ?h1_2 ?j1_2 ?t1_2 ?i1_2 ?s1_2 ?r1_2); (case g1_2 => exact rfl); (case o1_2 => exact rfl); (case h1_2 => exact rfl); (case j1_2 => exact rfl); (case t1_2 => exact Hth.o); (case i1_2 => exact HiL2.o); (case s1_2 => exact uka _ _ _ _ _ _ _ _ _ _)) | fail)
 try generalize hWq : (((w.alloc (.cells (opS o p1 k1 p2 k2 p3 k3) 37)).alloc (.cells lz28 35)).setCells (w.heap.size + 1) 0 (lkS o.look p1 k1 p2 k2 p3 k3).toList) = wq at *
 try clear hWq
 clear kd Hrg Hth
 refine (ulr HS0.o [ul3] (by have := Hl.o; simp [nums]; omega) (by first | rfl | simp) rfl rfl).mono ?_
 rintro e w1 ⟨v1, rfl, hS1, hT1⟩
 have HS1 := hd' hS1
 have HT1 := hd' (HT0.o.trans hT1)
 have HB1 := hd' (HB0.o.step hT1)
 have HL1 := hd' (HL0.o.step hT1)
 have HX1 := hd' (HX0.o.mod (HS0.o.far hT1) (fun k hk hG => by omega))
 clear hS1 hT1
 have i1_1 : (w1).cell? ⟨w.heap.size, 1, none⟩ = some (iV o.id.1) := HB1.o.blk.cell 1 rfl
 have i1_2 : (w1).cell? ⟨w.heap.size, 2, none⟩ = some (iV o.id.2) := HB1.o.blk.cell 2 rfl
 go_wp2_with fail
 refine (un5 HS1.o (o.id.1) (o.id.2) Hhi.o (by have := Hl.o; simp [nums]; omega)).mono ?_
 rintro e w2 ⟨v2, rfl, hS2, hT2⟩
 have HS2 := hd' hS2
 have HT2 := hd' (HT1.o.trans hT2)
 have HB2 := hd' (HB1.o.step hT2)
 have HL2 := hd' (HL1.o.step hT2)
 have HX2 := hd' (HX1.o.mod (HS1.o.far hT2) (fun k hk hG => by omega))
 clear hS2 hT2
 clear i1_1 i1_2
 have c2_22 : (w2).cell? ⟨(w.heap.size + 1), 22, none⟩ = some (.bool false) := (HL2.o.blk.cell (u := .bool o.look.hasFilt) 22 rfl).trans (congrArg (fun b => some (Value.bool b)) Hhf.o)
 have c2_23 : (w2).cell? ⟨(w.heap.size + 1), 23, none⟩ = some (.slice p2 o.look.filt.nodes.length k2) := HL2.o.blk.cell 23 rfl
 have c2_24 : (w2).cell? ⟨(w.heap.size + 1), 24, none⟩ = some (iV o.look.filt.out) := HL2.o.blk.cell 24 rfl
 go_wp2_with fail
 refine (us9 HS2.o o.look.filt p2 k2 (by have := Hl.o; simp [nums]; omega)).mono ?_
 rintro e w3 ⟨v3, rfl, hS3, hT3⟩
 have HS3 := hd' hS3
 have HT3 := hd' (HT2.o.trans hT3)
 have HB3 := hd' (HB2.o.step hT3)
 have HL3 := hd' (HL2.o.step hT3)
 have HX3 := hd' (HX2.o.mod (HS2.o.far hT3) (fun k hk hG => by omega))
 clear hS3 hT3
 clear c2_22 c2_23 c2_24
 go_wp2_with fail
 first | go_end0 | refine bpr (results_none rfl _ _ _) rfl ?_
 have e : ws ++ ulb o = ws ++ [ul3] ++ nums [o.id.1, o.id.2] ++ ulg false o.look.filt := by simp [ulb, HK.o, Hhf.o, nums, ulg]
 exact ⟨v3, rfl, by rw [e]; exact HS3.o, HT3.o⟩
theorem tlook_10t {w : World} {L : Nat} {ws : List Wd} {vs : Value} (h : LS w L ws vs) (p1 : Option Addr) (k1 : Nat) (p2 : Option Addr) (k2 : Nat) (p3 : Option Addr) (k3 : Nat) (o : Opr) (hk : o.kind = 10) (hi : InR o.id.1 ∧ InR o.id.2) (hf : o.look.hasFilt = true) (hg : uom o.look.filt) (hx : LookR (fun b => b < L) w o.look (.slice p1 o.look.content.pix.length k1) (.slice p2 o.look.filt.nodes.length k2) (.slice p3 o.look.back.nodes.length k3)) (hl : ws.length ≤ 700000000) :
  Calls Tryz.prog 38 #[.pointer (some ⟨L, 0, none⟩), .agg (opS o p1 k1 p2 k2 p3 k3)] w (LSF w L ws vs (if una o.look.filt then some (ulb o) else none)) := by
 generalize hR : (if una o.look.filt then some (ulb o) else none) = R
 have HR := hd' hR
 clear hR
 have HK := hd' hk
 have Hl := hd' hl
 have Hhi := hd' hi
 have Hhf := hd' hf
 have Hhg := hd' hg
 have HSa := h.other (Gou.Mod.alloc0 _ (.cells (opS o p1 k1 p2 k2 p3 k3) 37))
 have HBa := Loc.new h 37 (opS o p1 k1 p2 k2 p3 k3) rfl
 have HiL : Hid ((Tryz.prog.info? 35).map (·.size) = some (lkS o.look p1 k1 p2 k2 p3 k3).toList.length) := hd' (size_look.trans (by simp [uai]))
 have Hrg : Hid ((w.alloc (.cells (opS o p1 k1 p2 k2 p3 k3) 37)).rangeAt w.heap.size 6 (lkS o.look p1 k1 p2 k2 p3 k3).toList) := hd' (Blk.range (post := []) HBa.blk (by rw [List.append_nil]; exact ukx o _ _ _) rfl)
 have hA := Loc.new (b := w.heap.size + 1) HSa 35 lz28 (by simp)
 have Hth : Hid (((w.alloc (.cells (opS o p1 k1 p2 k2 p3 k3) 37)).alloc (.cells lz28 35)).there (w.heap.size + 1) 0 (lkS o.look p1 k1 p2 k2 p3 k3).size) := hd' (hA.blk.there 0 _ (by rw [uj8]; simp))
 have HiL2 : Hid ((Tryz.prog.info? 35).map (·.size) = some (lkS o.look p1 k1 p2 k2 p3 k3).size) := hd' (size_look.trans (by rw [uj8]))
 have hA2 := hA.blk.sets 0 (lkS o.look p1 k1 p2 k2 p3 k3).toList
 rw [uef _ _ (by simp [uai])] at hA2
 have hM : Gou.Mod (fun _ => False) (w.alloc (.cells (opS o p1 k1 p2 k2 p3 k3) 37)) (((w.alloc (.cells (opS o p1 k1 p2 k2 p3 k3) 37)).alloc (.cells lz28 35)).setCells (w.heap.size + 1) 0 (lkS o.look p1 k1 p2 k2 p3 k3).toList) := (Gou.Mod.alloc0 _ _).trans (Blk.setMod _ _ _ _) (fun i hi e => by
  rw [World.size_alloc] at hi
  omega)
 have HL0 : Hid (Loc (((w.alloc (.cells (opS o p1 k1 p2 k2 p3 k3) 37)).alloc (.cells lz28 35)).setCells (w.heap.size + 1) 0 (lkS o.look p1 k1 p2 k2 p3 k3).toList) L vs (w.heap.size + 1) 35 (lkS o.look p1 k1 p2 k2 p3 k3)) := hd' ⟨hA2, hA.ne, hA.off⟩
 have HB0 := hd' (HBa.other hM)
 have HS0 := hd' (HSa.other hM)
 have HT0 := hd' (WTo.other (W := L) ((Gou.Mod.alloc0 w _).trans' hM) vs)
 have HX0 := hd' (hx.mod ((Gou.Mod.alloc0 w _).trans' hM) (fun _ _ _ h => h))
 have kd : (((w.alloc (.cells (opS o p1 k1 p2 k2 p3 k3) 37)).alloc (.cells lz28 35)).setCells (w.heap.size + 1) 0 (lkS o.look p1 k1 p2 k2 p3 k3).toList).cell? ⟨w.heap.size, 0, none⟩ = some (iV 10) := by rw [← HK.o]; exact HB0.o.blk.cell 0 rfl
 clear h hk hl hx HSa HBa hA hA2 hM hi hf hg
 go_enter Tryz.func38, Tryz.ntmps38
 go_wp2_with (first | ((with_reducible refine wpList_load_mid ?g1_1 35 ?x1_1 ?o1_1 w.heap.size 6 ?h1_1 (lkS o.look p1 k1 p2 k2 p3 k3).toList ?d1_1 ?c1_1 ?u1_1 ?s1_1 ?i1_1 ?r1_1); (case g1_1 => exact rfl); (case o1_1 => exact rfl); (case h1_1 => exact rfl); (case c1_1 => exact Hrg.o); (case u1_1 => exact Tryz.underlying35); (case s1_1 => exact rfl); (case i1_1 => exact HiL.o)) | ((with_reducible refine wpList_store_mid ?g1_2 35 ?x1_2 ?y1_2 ?o1_2 (w.heap.size + 1) 0 (lkS o.look p1 k1 p2 k2 p3 k3) ?h1_2 ?j1_2 ?t1_2 ?i1_2 ?s1_2 ?r1_2); (case g1_2 => exact rfl); (case o1_2 => exact rfl); (case h1_2 => exact rfl); (case j1_2 => exact rfl); (case t1_2 => exact Hth.o); (case i1_2 => exact HiL2.o); (case s1_2 => exact uka _ _ _ _ _ _ _ _ _ _)) | fail)
 try generalize hWq : (((w.alloc (.cells (opS o p1 k1 p2 k2 p3 k3) 37)).alloc (.cells lz28 35)).setCells (w.heap.size + 1) 0 (lkS o.look p1 k1 p2 k2 p3 k3).toList) = wq at *
 try clear hWq
 clear kd Hrg Hth
 refine (ulr HS0.o [ul3] (by have := Hl.o; simp [nums]; omega) (by first | rfl | simp) rfl rfl).mono ?_
 rintro e w1 ⟨v1, rfl, hS1, hT1⟩
 have HS1 := hd' hS1
 have HT1 := hd' (HT0.o.trans hT1)
 have HB1 := hd' (HB0.o.step hT1)
 have HL1 := hd' (HL0.o.step hT1)
 have HX1 := hd' (HX0.o.mod (HS0.o.far hT1) (fun k hk hG => by omega))
 clear hS1 hT1
 have i1_1 : (w1).cell? ⟨w.heap.size, 1, none⟩ = some (iV o.id.1) := HB1.o.blk.cell 1 rfl
 have i1_2 : (w1).cell? ⟨w.heap.size, 2, none⟩ = some (iV o.id.2) := HB1.o.blk.cell 2 rfl
 go_wp2_with fail
 refine (un5 HS1.o (o.id.1) (o.id.2) Hhi.o (by have := Hl.o; simp [nums]; omega)).mono ?_
 rintro e w2 ⟨v2, rfl, hS2, hT2⟩
 have HS2 := hd' hS2
 have HT2 := hd' (HT1.o.trans hT2)
 have HB2 := hd' (HB1.o.step hT2)
 have HL2 := hd' (HL1.o.step hT2)
 have HX2 := hd' (HX1.o.mod (HS1.o.far hT2) (fun k hk hG => by omega))
 clear hS2 hT2
 clear i1_1 i1_2
 have c2_22 : (w2).cell? ⟨(w.heap.size + 1), 22, none⟩ = some (.bool true) := (HL2.o.blk.cell (u := .bool o.look.hasFilt) 22 rfl).trans (congrArg (fun b => some (Value.bool b)) Hhf.o)
 have c2_23 : (w2).cell? ⟨(w.heap.size + 1), 23, none⟩ = some (.slice p2 o.look.filt.nodes.length k2) := HL2.o.blk.cell 23 rfl
 have c2_24 : (w2).cell? ⟨(w.heap.size + 1), 24, none⟩ = some (iV o.look.filt.out) := HL2.o.blk.cell 24 rfl
 go_wp2_with fail
 refine (uvg HS2.o o.look.filt p2 k2 HX2.o.filt Hhg.o (by have := Hl.o; simp [nums]; omega)).mono ?_
 rintro e w9 ⟨v9, hT9, h9⟩
 have HT9 := hd' (HT2.o.trans hT9)
 by_cases hok : una o.look.filt
 ·rw [if_pos hok] at h9
  obtain ⟨rfl, hS9⟩ := h9
  have HS9 := hd' hS9
  have Hok : Hid (R = some (ulb o)) := hd' (HR.o.symm.trans (if_pos hok))
  clear hS9 hT9 hok
  clear c2_22 c2_23 c2_24
  go_wp2_with fail
  first | go_end0 | refine bpr (results_none rfl _ _ _) rfl ?_
  have e : ws ++ ulb o = ws ++ [ul3] ++ nums [o.id.1, o.id.2] ++ ulg true o.look.filt := by simp [ulb, HK.o, Hhf.o, nums]
  exact ⟨v9, HT9.o, by rw [Hok.o]; exact ⟨rfl, by rw [e]; exact HS9.o⟩⟩
 ·rw [if_neg hok] at h9
  subst h9
  exact ⟨rfl, v9, HT9.o, by rw [← HR.o, if_neg hok]⟩
theorem tlook_11f {w : World} {L : Nat} {ws : List Wd} {vs : Value} (h : LS w L ws vs) (p1 : Option Addr) (k1 : Nat) (p2 : Option Addr) (k2 : Nat) (p3 : Option Addr) (k3 : Nat) (o : Opr) (hk : o.kind = 11) (hi : InR o.id.1 ∧ InR o.id.2) (hf : o.look.hasBack = false) (hx : LookR (fun b => b < L) w o.look (.slice p1 o.look.content.pix.length k1) (.slice p2 o.look.filt.nodes.length k2) (.slice p3 o.look.back.nodes.length k3)) (hl : ws.length ≤ 700000000) :
  Calls Tryz.prog 38 #[.pointer (some ⟨L, 0, none⟩), .agg (opS o p1 k1 p2 k2 p3 k3)] w (LSP w L ws vs (ulb o)) := by
 have HK := hd' hk
 have Hl := hd' hl
 have Hhi := hd' hi
 have Hhf := hd' hf
 have HSa := h.other (Gou.Mod.alloc0 _ (.cells (opS o p1 k1 p2 k2 p3 k3) 37))
 have HBa := Loc.new h 37 (opS o p1 k1 p2 k2 p3 k3) rfl
 have HiL : Hid ((Tryz.prog.info? 35).map (·.size) = some (lkS o.look p1 k1 p2 k2 p3 k3).toList.length) := hd' (size_look.trans (by simp [uai]))
 have Hrg : Hid ((w.alloc (.cells (opS o p1 k1 p2 k2 p3 k3) 37)).rangeAt w.heap.size 6 (lkS o.look p1 k1 p2 k2 p3 k3).toList) := hd' (Blk.range (post := []) HBa.blk (by rw [List.append_nil]; exact ukx o _ _ _) rfl)
 have hA := Loc.new (b := w.heap.size + 1) HSa 35 lz28 (by simp)
 have Hth : Hid (((w.alloc (.cells (opS o p1 k1 p2 k2 p3 k3) 37)).alloc (.cells lz28 35)).there (w.heap.size + 1) 0 (lkS o.look p1 k1 p2 k2 p3 k3).size) := hd' (hA.blk.there 0 _ (by rw [uj8]; simp))
 have HiL2 : Hid ((Tryz.prog.info? 35).map (·.size) = some (lkS o.look p1 k1 p2 k2 p3 k3).size) := hd' (size_look.trans (by rw [uj8]))
 have hA2 := hA.blk.sets 0 (lkS o.look p1 k1 p2 k2 p3 k3).toList
 rw [uef _ _ (by simp [uai])] at hA2
 have hM : Gou.Mod (fun _ => False) (w.alloc (.cells (opS o p1 k1 p2 k2 p3 k3) 37)) (((w.alloc (.cells (opS o p1 k1 p2 k2 p3 k3) 37)).alloc (.cells lz28 35)).setCells (w.heap.size + 1) 0 (lkS o.look p1 k1 p2 k2 p3 k3).toList) := (Gou.Mod.alloc0 _ _).trans (Blk.setMod _ _ _ _) (fun i hi e => by
  rw [World.size_alloc] at hi
  omega)
 have HL0 : Hid (Loc (((w.alloc (.cells (opS o p1 k1 p2 k2 p3 k3) 37)).alloc (.cells lz28 35)).setCells (w.heap.size + 1) 0 (lkS o.look p1 k1 p2 k2 p3 k3).toList) L vs (w.heap.size + 1) 35 (lkS o.look p1 k1 p2 k2 p3 k3)) := hd' ⟨hA2, hA.ne, hA.off⟩
 have HB0 := hd' (HBa.other hM)
 have HS0 := hd' (HSa.other hM)
 have HT0 := hd' (WTo.other (W := L) ((Gou.Mod.alloc0 w _).trans' hM) vs)
 have HX0 := hd' (hx.mod ((Gou.Mod.alloc0 w _).trans' hM) (fun _ _ _ h => h))
 have kd : (((w.alloc (.cells (opS o p1 k1 p2 k2 p3 k3) 37)).alloc (.cells lz28 35)).setCells (w.heap.size + 1) 0 (lkS o.look p1 k1 p2 k2 p3 k3).toList).cell? ⟨w.heap.size, 0, none⟩ = some (iV 11) := by rw [← HK.o]; exact HB0.o.blk.cell 0 rfl
 clear h hk hl hx HSa HBa hA hA2 hM hi hf
 go_enter Tryz.func38, Tryz.ntmps38
 go_wp2_with (first | ((with_reducible refine wpList_load_mid ?g1_1 35 ?x1_1 ?o1_1 w.heap.size 6 ?h1_1 (lkS o.look p1 k1 p2 k2 p3 k3).toList ?d1_1 ?c1_1 ?u1_1 ?s1_1 ?i1_1 ?r1_1); (case g1_1 => exact rfl); (case o1_1 => exact rfl); (case h1_1 => exact rfl); (case c1_1 => exact Hrg.o); (case u1_1 => exact Tryz.underlying35); (case s1_1 => exact rfl); (case i1_1 => exact HiL.o)) | ((with_reducible refine wpList_store_mid ?g1_2 35 ?x1_2 ?y1_2 ?o1_2 (w.heap.size + 1) 0 (lkS o.look p1 k1 p2 k2 p3 k3) ?h1_2 ?j1_2 ?t1_2 ?i1_2 ?s1_2 ?r1_2); (case g1_2 => exact rfl); (case o1_2 => exact rfl); (case h1_2 => exact rfl); (case j1_2 => exact rfl); (case t1_2 => exact Hth.o); (case i1_2 => exact HiL2.o); (case s1_2 => exact uka _ _ _ _ _ _ _ _ _ _)) | fail)
 try generalize hWq : (((w.alloc (.cells (opS o p1 k1 p2 k2 p3 k3) 37)).alloc (.cells lz28 35)).setCells (w.heap.size + 1) 0 (lkS o.look p1 k1 p2 k2 p3 k3).toList) = wq at *
 try clear hWq
 clear kd Hrg Hth
 refine (ulr HS0.o [uls] (by have := Hl.o; simp [nums]; omega) (by first | rfl | simp) rfl rfl).mono ?_
 rintro e w1 ⟨v1, rfl, hS1, hT1⟩
 have HS1 := hd' hS1
 have HT1 := hd' (HT0.o.trans hT1)
 have HB1 := hd' (HB0.o.step hT1)
 have HL1 := hd' (HL0.o.step hT1)
 have HX1 := hd' (HX0.o.mod (HS0.o.far hT1) (fun k hk hG => by omega))
 clear hS1 hT1
 have i1_1 : (w1).cell? ⟨w.heap.size, 1, none⟩ = some (iV o.id.1) := HB1.o.blk.cell 1 rfl
 have i1_2 : (w1).cell? ⟨w.heap.size, 2, none⟩ = some (iV o.id.2) := HB1.o.blk.cell 2 rfl
 go_wp2_with fail
 refine (un5 HS1.o (o.id.1) (o.id.2) Hhi.o (by have := Hl.o; simp [nums]; omega)).mono ?_
 rintro e w2 ⟨v2, rfl, hS2, hT2⟩
 have HS2 := hd' hS2
 have HT2 := hd' (HT1.o.trans hT2)
 have HB2 := hd' (HB1.o.step hT2)
 have HL2 := hd' (HL1.o.step hT2)
 have HX2 := hd' (HX1.o.mod (HS1.o.far hT2) (fun k hk hG => by omega))
 clear hS2 hT2
 clear i1_1 i1_2
 have c2_25 : (w2).cell? ⟨(w.heap.size + 1), 25, none⟩ = some (.bool false) := (HL2.o.blk.cell (u := .bool o.look.hasBack) 25 rfl).trans (congrArg (fun b => some (Value.bool b)) Hhf.o)
 have c2_26 : (w2).cell? ⟨(w.heap.size + 1), 26, none⟩ = some (.slice p3 o.look.back.nodes.length k3) := HL2.o.blk.cell 26 rfl
 have c2_27 : (w2).cell? ⟨(w.heap.size + 1), 27, none⟩ = some (iV o.look.back.out) := HL2.o.blk.cell 27 rfl
 go_wp2_with fail
 refine (us9 HS2.o o.look.back p3 k3 (by have := Hl.o; simp [nums]; omega)).mono ?_
 rintro e w3 ⟨v3, rfl, hS3, hT3⟩
 have HS3 := hd' hS3
 have HT3 := hd' (HT2.o.trans hT3)
 have HB3 := hd' (HB2.o.step hT3)
 have HL3 := hd' (HL2.o.step hT3)
 have HX3 := hd' (HX2.o.mod (HS2.o.far hT3) (fun k hk hG => by omega))
 clear hS3 hT3
 clear c2_25 c2_26 c2_27
 go_wp2_with fail
 first | go_end0 | refine bpr (results_none rfl _ _ _) rfl ?_
 have e : ws ++ ulb o = ws ++ [uls] ++ nums [o.id.1, o.id.2] ++ ulg false o.look.back := by simp [ulb, HK.o, Hhf.o, nums, ulg]
 exact ⟨v3, rfl, by rw [e]; exact HS3.o, HT3.o⟩
theorem tlook_11t {w : World} {L : Nat} {ws : List Wd} {vs : Value} (h : LS w L ws vs) (p1 : Option Addr) (k1 : Nat) (p2 : Option Addr) (k2 : Nat) (p3 : Option Addr) (k3 : Nat) (o : Opr) (hk : o.kind = 11) (hi : InR o.id.1 ∧ InR o.id.2) (hf : o.look.hasBack = true) (hg : uom o.look.back) (hx : LookR (fun b => b < L) w o.look (.slice p1 o.look.content.pix.length k1) (.slice p2 o.look.filt.nodes.length k2) (.slice p3 o.look.back.nodes.length k3)) (hl : ws.length ≤ 700000000) :
  Calls Tryz.prog 38 #[.pointer (some ⟨L, 0, none⟩), .agg (opS o p1 k1 p2 k2 p3 k3)] w (LSF w L ws vs (if una o.look.back then some (ulb o) else none)) := by
 generalize hR : (if una o.look.back then some (ulb o) else none) = R
 have HR := hd' hR
 clear hR
 have HK := hd' hk
 have Hl := hd' hl
 have Hhi := hd' hi
 have Hhf := hd' hf
 have Hhg := hd' hg
 have HSa := h.other (Gou.Mod.alloc0 _ (.cells (opS o p1 k1 p2 k2 p3 k3) 37))
 have HBa := Loc.new h 37 (opS o p1 k1 p2 k2 p3 k3) rfl
 have HiL : Hid ((Tryz.prog.info? 35).map (·.size) = some (lkS o.look p1 k1 p2 k2 p3 k3).toList.length) := hd' (size_look.trans (by simp [uai]))
 have Hrg : Hid ((w.alloc (.cells (opS o p1 k1 p2 k2 p3 k3) 37)).rangeAt w.heap.size 6 (lkS o.look p1 k1 p2 k2 p3 k3).toList) := hd' (Blk.range (post := []) HBa.blk (by rw [List.append_nil]; exact ukx o _ _ _) rfl)
 have hA := Loc.new (b := w.heap.size + 1) HSa 35 lz28 (by simp)
 have Hth : Hid (((w.alloc (.cells (opS o p1 k1 p2 k2 p3 k3) 37)).alloc (.cells lz28 35)).there (w.heap.size + 1) 0 (lkS o.look p1 k1 p2 k2 p3 k3).size) := hd' (hA.blk.there 0 _ (by rw [uj8]; simp))
 have HiL2 : Hid ((Tryz.prog.info? 35).map (·.size) = some (lkS o.look p1 k1 p2 k2 p3 k3).size) := hd' (size_look.trans (by rw [uj8]))
 have hA2 := hA.blk.sets 0 (lkS o.look p1 k1 p2 k2 p3 k3).toList
 rw [uef _ _ (by simp [uai])] at hA2
 have hM : Gou.Mod (fun _ => False) (w.alloc (.cells (opS o p1 k1 p2 k2 p3 k3) 37)) (((w.alloc (.cells (opS o p1 k1 p2 k2 p3 k3) 37)).alloc (.cells lz28 35)).setCells (w.heap.size + 1) 0 (lkS o.look p1 k1 p2 k2 p3 k3).toList) := (Gou.Mod.alloc0 _ _).trans (Blk.setMod _ _ _ _) (fun i hi e => by
  rw [World.size_alloc] at hi
  omega)
 have HL0 : Hid (Loc (((w.alloc (.cells (opS o p1 k1 p2 k2 p3 k3) 37)).alloc (.cells lz28 35)).setCells (w.heap.size + 1) 0 (lkS o.look p1 k1 p2 k2 p3 k3).toList) L vs (w.heap.size + 1) 35 (lkS o.look p1 k1 p2 k2 p3 k3)) := hd' ⟨hA2, hA.ne, hA.off⟩
 have HB0 := hd' (HBa.other hM)
 have HS0 := hd' (HSa.other hM)
 have HT0 := hd' (WTo.other (W := L) ((Gou.Mod.alloc0 w _).trans' hM) vs)
 have HX0 := hd' (hx.mod ((Gou.Mod.alloc0 w _).trans' hM) (fun _ _ _ h => h))
 have kd : (((w.alloc (.cells (opS o p1 k1 p2 k2 p3 k3) 37)).alloc (.cells lz28 35)).setCells (w.heap.size + 1) 0 (lkS o.look p1 k1 p2 k2 p3 k3).toList).cell? ⟨w.heap.size, 0, none⟩ = some (iV 11) := by rw [← HK.o]; exact HB0.o.blk.cell 0 rfl
 clear h hk hl hx HSa HBa hA hA2 hM hi hf hg
 go_enter Tryz.func38, Tryz.ntmps38
 go_wp2_with (first | ((with_reducible refine wpList_load_mid ?g1_1 35 ?x1_1 ?o1_1 w.heap.size 6 ?h1_1 (lkS o.look p1 k1 p2 k2 p3 k3).toList ?d1_1 ?c1_1 ?u1_1 ?s1_1 ?i1_1 ?r1_1); (case g1_1 => exact rfl); (case o1_1 => exact rfl); (case h1_1 => exact rfl); (case c1_1 => exact Hrg.o); (case u1_1 => exact Tryz.underlying35); (case s1_1 => exact rfl); (case i1_1 => exact HiL.o)) | ((with_reducible refine wpList_store_mid ?g1_2 35 ?x1_2 ?y1_2 ?o1_2 (w.heap.size + 1) 0 (lkS o.look p1 k1 p2 k2 p3 k3) ?h1_2 ?j1_2 ?t1_2 ?i1_2 ?s1_2 ?r1_2); (case g1_2 => exact rfl); (case o1_2 => exact rfl); (case h1_2 => exact rfl); (case j1_2 => exact rfl); (case t1_2 => exact Hth.o); (case i1_2 => exact HiL2.o); (case s1_2 => exact uka _ _ _ _ _ _ _ _ _ _)) | fail)
 try generalize hWq : (((w.alloc (.cells (opS o p1 k1 p2 k2 p3 k3) 37)).alloc (.cells lz28 35)).setCells (w.heap.size + 1) 0 (lkS o.look p1 k1 p2 k2 p3 k3).toList) = wq at *
 try clear hWq
 clear kd Hrg Hth
 refine (ulr HS0.o [uls] (by have := Hl.o; simp [nums]; omega) (by first | rfl | simp) rfl rfl).mono ?_
 rintro e w1 ⟨v1, rfl, hS1, hT1⟩
 have HS1 := hd' hS1
 have HT1 := hd' (HT0.o.trans hT1)
 have HB1 := hd' (HB0.o.step hT1)
 have HL1 := hd' (HL0.o.step hT1)
 have HX1 := hd' (HX0.o.mod (HS0.o.far hT1) (fun k hk hG => by omega))
 clear hS1 hT1
 have i1_1 : (w1).cell? ⟨w.heap.size, 1, none⟩ = some (iV o.id.1) := HB1.o.blk.cell 1 rfl
 have i1_2 : (w1).cell? ⟨w.heap.size, 2, none⟩ = some (iV o.id.2) := HB1.o.blk.cell 2 rfl
 go_wp2_with fail
 refine (un5 HS1.o (o.id.1) (o.id.2) Hhi.o (by have := Hl.o; simp [nums]; omega)).mono ?_
 rintro e w2 ⟨v2, rfl, hS2, hT2⟩
 have HS2 := hd' hS2
 have HT2 := hd' (HT1.o.trans hT2)
 have HB2 := hd' (HB1.o.step hT2)
 have HL2 := hd' (HL1.o.step hT2)
 have HX2 := hd' (HX1.o.mod (HS1.o.far hT2) (fun k hk hG => by omega))
 clear hS2 hT2
 clear i1_1 i1_2
 have c2_25 : (w2).cell? ⟨(w.heap.size + 1), 25, none⟩ = some (.bool true) := (HL2.o.blk.cell (u := .bool o.look.hasBack) 25 rfl).trans (congrArg (fun b => some (Value.bool b)) Hhf.o)
 have c2_26 : (w2).cell? ⟨(w.heap.size + 1), 26, none⟩ = some (.slice p3 o.look.back.nodes.length k3) := HL2.o.blk.cell 26 rfl
 have c2_27 : (w2).cell? ⟨(w.heap.size + 1), 27, none⟩ = some (iV o.look.back.out) := HL2.o.blk.cell 27 rfl
 go_wp2_with fail
 refine (uvg HS2.o o.look.back p3 k3 HX2.o.back Hhg.o (by have := Hl.o; simp [nums]; omega)).mono ?_
 rintro e w9 ⟨v9, hT9, h9⟩
 have HT9 := hd' (HT2.o.trans hT9)
 by_cases hok : una o.look.back
 ·rw [if_pos hok] at h9
  obtain ⟨rfl, hS9⟩ := h9
  have HS9 := hd' hS9
  have Hok : Hid (R = some (ulb o)) := hd' (HR.o.symm.trans (if_pos hok))
  clear hS9 hT9 hok
  clear c2_25 c2_26 c2_27
  go_wp2_with fail
  first | go_end0 | refine bpr (results_none rfl _ _ _) rfl ?_
  have e : ws ++ ulb o = ws ++ [uls] ++ nums [o.id.1, o.id.2] ++ ulg true o.look.back := by simp [ulb, HK.o, Hhf.o, nums]
  exact ⟨v9, HT9.o, by rw [Hok.o]; exact ⟨rfl, by rw [e]; exact HS9.o⟩⟩
 ·rw [if_neg hok] at h9
  subst h9
  exact ⟨rfl, v9, HT9.o, by rw [← HR.o, if_neg hok]⟩
theorem tlook_9 {w : World} {L : Nat} {ws : List Wd} {vs : Value} (h : LS w L ws vs) (p1 : Option Addr) (k1 : Nat) (p2 : Option Addr) (k2 : Nat) (p3 : Option Addr) (k3 : Nat) (o : Opr) (hk : o.kind = 9) (hi : InR o.id.1 ∧ InR o.id.2) (hc : uwi o.look.content) (hx : LookR (fun b => b < L) w o.look (.slice p1 o.look.content.pix.length k1) (.slice p2 o.look.filt.nodes.length k2) (.slice p3 o.look.back.nodes.length k3)) (hl : ws.length ≤ 700000000) :
  Calls Tryz.prog 38 #[.pointer (some ⟨L, 0, none⟩), .agg (opS o p1 k1 p2 k2 p3 k3)] w (LSF w L ws vs (if 0 ≤ o.look.content.kind ∧ o.look.content.kind ≤ 2 then some (ulb o) else none)) := by
 generalize hR : (if 0 ≤ o.look.content.kind ∧ o.look.content.kind ≤ 2 then some (ulb o) else none) = R
 have HR := hd' hR
 clear hR
 have HK := hd' hk
 have Hl := hd' hl
 have Hhi := hd' hi
 have Hhc := hd' hc
 have HSa := h.other (Gou.Mod.alloc0 _ (.cells (opS o p1 k1 p2 k2 p3 k3) 37))
 have HBa := Loc.new h 37 (opS o p1 k1 p2 k2 p3 k3) rfl
 have HiL : Hid ((Tryz.prog.info? 35).map (·.size) = some (lkS o.look p1 k1 p2 k2 p3 k3).toList.length) := hd' (size_look.trans (by simp [uai]))
 have Hrg : Hid ((w.alloc (.cells (opS o p1 k1 p2 k2 p3 k3) 37)).rangeAt w.heap.size 6 (lkS o.look p1 k1 p2 k2 p3 k3).toList) := hd' (Blk.range (post := []) HBa.blk (by rw [List.append_nil]; exact ukx o _ _ _) rfl)
 have hA := Loc.new (b := w.heap.size + 1) HSa 35 lz28 (by simp)
 have Hth : Hid (((w.alloc (.cells (opS o p1 k1 p2 k2 p3 k3) 37)).alloc (.cells lz28 35)).there (w.heap.size + 1) 0 (lkS o.look p1 k1 p2 k2 p3 k3).size) := hd' (hA.blk.there 0 _ (by rw [uj8]; simp))
 have HiL2 : Hid ((Tryz.prog.info? 35).map (·.size) = some (lkS o.look p1 k1 p2 k2 p3 k3).size) := hd' (size_look.trans (by rw [uj8]))
 have hA2 := hA.blk.sets 0 (lkS o.look p1 k1 p2 k2 p3 k3).toList
 rw [uef _ _ (by simp [uai])] at hA2
 have hM : Gou.Mod (fun _ => False) (w.alloc (.cells (opS o p1 k1 p2 k2 p3 k3) 37)) (((w.alloc (.cells (opS o p1 k1 p2 k2 p3 k3) 37)).alloc (.cells lz28 35)).setCells (w.heap.size + 1) 0 (lkS o.look p1 k1 p2 k2 p3 k3).toList) := (Gou.Mod.alloc0 _ _).trans (Blk.setMod _ _ _ _) (fun i hi e => by
  rw [World.size_alloc] at hi
  omega)
 have HL0 : Hid (Loc (((w.alloc (.cells (opS o p1 k1 p2 k2 p3 k3) 37)).alloc (.cells lz28 35)).setCells (w.heap.size + 1) 0 (lkS o.look p1 k1 p2 k2 p3 k3).toList) L vs (w.heap.size + 1) 35 (lkS o.look p1 k1 p2 k2 p3 k3)) := hd' ⟨hA2, hA.ne, hA.off⟩
 have HB0 := hd' (HBa.other hM)
 have HS0 := hd' (HSa.other hM)
 have HT0 := hd' (WTo.other (W := L) ((Gou.Mod.alloc0 w _).trans' hM) vs)
 have HX0 := hd' (hx.mod ((Gou.Mod.alloc0 w _).trans' hM) (fun _ _ _ h => h))
 have kd : (((w.alloc (.cells (opS o p1 k1 p2 k2 p3 k3) 37)).alloc (.cells lz28 35)).setCells (w.heap.size + 1) 0 (lkS o.look p1 k1 p2 k2 p3 k3).toList).cell? ⟨w.heap.size, 0, none⟩ = some (iV 9) := by rw [← HK.o]; exact HB0.o.blk.cell 0 rfl
 clear h hk hl hx HSa HBa hA hA2 hM hi hc
 go_enter Tryz.func38, Tryz.ntmps38
 have Hrc : Hid ((((w.alloc (.cells (opS o p1 k1 p2 k2 p3 k3) 37)).alloc (.cells lz28 35)).setCells (w.heap.size + 1) 0 (lkS o.look p1 k1 p2 k2 p3 k3).toList).rangeAt (w.heap.size + 1) 9 (uak o.look.content (.slice p1 o.look.content.pix.length k1)).toList) := hd' (Blk.range HL0.o.blk (ug0 o.look _ _ _) rfl)
 have HiC : Hid ((Tryz.prog.info? 30).map (·.size) = some (uak o.look.content (.slice p1 o.look.content.pix.length k1)).toList.length) := hd' (size_content.trans (by simp [uak]))
 have i1_0 : ((((w.alloc (.cells (opS o p1 k1 p2 k2 p3 k3) 37)).alloc (.cells lz28 35)).setCells (w.heap.size + 1) 0 (lkS o.look p1 k1 p2 k2 p3 k3).toList)).cell? ⟨w.heap.size, 1, none⟩ = some (iV o.id.1) := HB0.o.blk.cell 1 rfl
 have i2_0 : ((((w.alloc (.cells (opS o p1 k1 p2 k2 p3 k3) 37)).alloc (.cells lz28 35)).setCells (w.heap.size + 1) 0 (lkS o.look p1 k1 p2 k2 p3 k3).toList)).cell? ⟨w.heap.size, 2, none⟩ = some (iV o.id.2) := HB0.o.blk.cell 2 rfl
 go_wp2_with (first | ((with_reducible refine wpList_load_mid ?g1_1 35 ?x1_1 ?o1_1 w.heap.size 6 ?h1_1 (lkS o.look p1 k1 p2 k2 p3 k3).toList ?d1_1 ?c1_1 ?u1_1 ?s1_1 ?i1_1 ?r1_1); (case g1_1 => exact rfl); (case o1_1 => exact rfl); (case h1_1 => exact rfl); (case c1_1 => exact Hrg.o); (case u1_1 => exact Tryz.underlying35); (case s1_1 => exact rfl); (case i1_1 => exact HiL.o)) | ((with_reducible refine wpList_store_mid ?g1_2 35 ?x1_2 ?y1_2 ?o1_2 (w.heap.size + 1) 0 (lkS o.look p1 k1 p2 k2 p3 k3) ?h1_2 ?j1_2 ?t1_2 ?i1_2 ?s1_2 ?r1_2); (case g1_2 => exact rfl); (case o1_2 => exact rfl); (case h1_2 => exact rfl); (case j1_2 => exact rfl); (case t1_2 => exact Hth.o); (case i1_2 => exact HiL2.o); (case s1_2 => exact uka _ _ _ _ _ _ _ _ _ _)) | ((with_reducible refine wpList_load_mid ?g1_3 30 ?x1_3 ?o1_3 (w.heap.size + 1) 9 ?h1_3 (uak o.look.content (.slice p1 o.look.content.pix.length k1)).toList ?d1_3 ?c1_3 ?u1_3 ?s1_3 ?i1_3 ?r1_3); (case g1_3 => exact rfl); (case o1_3 => exact rfl); (case h1_3 => exact rfl); (case c1_3 => exact Hrc.o); (case u1_3 => exact Tryz.underlying30); (case s1_3 => exact rfl); (case i1_3 => exact HiC.o)) | fail)
 try generalize hWq : (((w.alloc (.cells (opS o p1 k1 p2 k2 p3 k3) 37)).alloc (.cells lz28 35)).setCells (w.heap.size + 1) 0 (lkS o.look p1 k1 p2 k2 p3 k3).toList) = wq at *
 try clear hWq
 clear kd Hrg Hth
 refine (content_t HS0.o o.id o.look.content p1 k1 Hhi.o Hhc.o HX0.o.pix (by have := Hl.o; omega)).mono ?_
 rintro e w9 ⟨v9, hT9, h9⟩
 have HT9 := hd' (HT0.o.trans hT9)
 by_cases hok : 0 ≤ o.look.content.kind ∧ o.look.content.kind ≤ 2
 ·rw [if_pos hok] at h9
  obtain ⟨rfl, hS9⟩ := h9
  have HS9 := hd' hS9
  have Hok : Hid (R = some (ulb o)) := hd' (HR.o.symm.trans (if_pos hok))
  clear hS9 hT9 hok
  go_wp2_with fail
  first | go_end0 | refine bpr (results_none rfl _ _ _) rfl ?_
  have e : ulb o = unx o.id o.look.content := by simp [ulb, HK.o]
  exact ⟨v9, HT9.o, by rw [Hok.o]; exact ⟨rfl, by rw [e]; exact HS9.o⟩⟩
 ·rw [if_neg hok] at h9
  subst h9
  exact ⟨rfl, v9, HT9.o, by rw [← HR.o, if_neg hok]⟩
theorem tlook_0 {w : World} {L : Nat} {ws : List Wd} {vs : Value} (h : LS w L ws vs) (p1 : Option Addr) (k1 : Nat) (p2 : Option Addr) (k2 : Nat) (p3 : Option Addr) (k3 : Nat) (o : Opr) (hk : o.kind ≤ 4) (hx : LookR (fun b => b < L) w o.look (.slice p1 o.look.content.pix.length k1) (.slice p2 o.look.filt.nodes.length k2) (.slice p3 o.look.back.nodes.length k3)) (hl : ws.length ≤ 700000000) :
  Calls Tryz.prog 38 #[.pointer (some ⟨L, 0, none⟩), .agg (opS o p1 k1 p2 k2 p3 k3)] w (LSP w L ws vs []) := by
 have HK := hd' hk
 have Hl := hd' hl
 have HSa := h.other (Gou.Mod.alloc0 _ (.cells (opS o p1 k1 p2 k2 p3 k3) 37))
 have HBa := Loc.new h 37 (opS o p1 k1 p2 k2 p3 k3) rfl
 have HiL : Hid ((Tryz.prog.info? 35).map (·.size) = some (lkS o.look p1 k1 p2 k2 p3 k3).toList.length) := hd' (size_look.trans (by simp [uai]))
 have Hrg : Hid ((w.alloc (.cells (opS o p1 k1 p2 k2 p3 k3) 37)).rangeAt w.heap.size 6 (lkS o.look p1 k1 p2 k2 p3 k3).toList) := hd' (Blk.range (post := []) HBa.blk (by rw [List.append_nil]; exact ukx o _ _ _) rfl)
 have hA := Loc.new (b := w.heap.size + 1) HSa 35 lz28 (by simp)
 have Hth : Hid (((w.alloc (.cells (opS o p1 k1 p2 k2 p3 k3) 37)).alloc (.cells lz28 35)).there (w.heap.size + 1) 0 (lkS o.look p1 k1 p2 k2 p3 k3).size) := hd' (hA.blk.there 0 _ (by rw [uj8]; simp))
 have HiL2 : Hid ((Tryz.prog.info? 35).map (·.size) = some (lkS o.look p1 k1 p2 k2 p3 k3).size) := hd' (size_look.trans (by rw [uj8]))
 have hA2 := hA.blk.sets 0 (lkS o.look p1 k1 p2 k2 p3 k3).toList
 rw [uef _ _ (by simp [uai])] at hA2
 have hM : Gou.Mod (fun _ => False) (w.alloc (.cells (opS o p1 k1 p2 k2 p3 k3) 37)) (((w.alloc (.cells (opS o p1 k1 p2 k2 p3 k3) 37)).alloc (.cells lz28 35)).setCells (w.heap.size + 1) 0 (lkS o.look p1 k1 p2 k2 p3 k3).toList) := (Gou.Mod.alloc0 _ _).trans (Blk.setMod _ _ _ _) (fun i hi e => by
  rw [World.size_alloc] at hi
  omega)
 have HL0 : Hid (Loc (((w.alloc (.cells (opS o p1 k1 p2 k2 p3 k3) 37)).alloc (.cells lz28 35)).setCells (w.heap.size + 1) 0 (lkS o.look p1 k1 p2 k2 p3 k3).toList) L vs (w.heap.size + 1) 35 (lkS o.look p1 k1 p2 k2 p3 k3)) := hd' ⟨hA2, hA.ne, hA.off⟩
 have HB0 := hd' (HBa.other hM)
 have HS0 := hd' (HSa.other hM)
 have HT0 := hd' (WTo.other (W := L) ((Gou.Mod.alloc0 w _).trans' hM) vs)
 have HX0 := hd' (hx.mod ((Gou.Mod.alloc0 w _).trans' hM) (fun _ _ _ h => h))
 have kd : (((w.alloc (.cells (opS o p1 k1 p2 k2 p3 k3) 37)).alloc (.cells lz28 35)).setCells (w.heap.size + 1) 0 (lkS o.look p1 k1 p2 k2 p3 k3).toList).cell? ⟨w.heap.size, 0, none⟩ = some (iV o.kind) := HB0.o.blk.cell 0 rfl
 have d5 : (o.kind == 5) = false := bqf.2 (by omega)
 have d6 : (o.kind == 6) = false := bqf.2 (by omega)
 have d7 : (o.kind == 7) = false := bqf.2 (by omega)
 have d8 : (o.kind == 8) = false := bqf.2 (by omega)
 have d9 : (o.kind == 9) = false := bqf.2 (by omega)
 have d10 : (o.kind == 10) = false := bqf.2 (by omega)
 have d11 : (o.kind == 11) = false := bqf.2 (by omega)
 clear h hk hl hx HSa HBa hA hA2 hM
 go_enter Tryz.func38, Tryz.ntmps38
 go_wp2_with (first | ((with_reducible refine wpList_load_mid ?g1_1 35 ?x1_1 ?o1_1 w.heap.size 6 ?h1_1 (lkS o.look p1 k1 p2 k2 p3 k3).toList ?d1_1 ?c1_1 ?u1_1 ?s1_1 ?i1_1 ?r1_1); (case g1_1 => exact rfl); (case o1_1 => exact rfl); (case h1_1 => exact rfl); (case c1_1 => exact Hrg.o); (case u1_1 => exact Tryz.underlying35); (case s1_1 => exact rfl); (case i1_1 => exact HiL.o)) | ((with_reducible refine wpList_store_mid ?g1_2 35 ?x1_2 ?y1_2 ?o1_2 (w.heap.size + 1) 0 (lkS o.look p1 k1 p2 k2 p3 k3) ?h1_2 ?j1_2 ?t1_2 ?i1_2 ?s1_2 ?r1_2); (case g1_2 => exact rfl); (case o1_2 => exact rfl); (case h1_2 => exact rfl); (case j1_2 => exact rfl); (case t1_2 => exact Hth.o); (case i1_2 => exact HiL2.o); (case s1_2 => exact uka _ _ _ _ _ _ _ _ _ _)) | fail)
 try generalize hWq : (((w.alloc (.cells (opS o p1 k1 p2 k2 p3 k3) 37)).alloc (.cells lz28 35)).setCells (w.heap.size + 1) 0 (lkS o.look p1 k1 p2 k2 p3 k3).toList) = wq at *
 try clear hWq
 clear kd Hrg Hth
 first | go_end0 | refine bpr (results_none rfl _ _ _) rfl ?_
 exact ⟨vs, rfl, by rw [List.append_nil]; exact HS0.o, HT0.o⟩
end Go.Proofs.YtgolafbneiffpaaGreatDoor
