/- Texts of the scenes' proofs, laid together: TyF, TyG, TyI, TyJ, SamJ, PutA, PutB, TyK, TyL. -/
import Derived.Test.YtgolafbneiffpaaGreatDoorZal
import Derived.RegionDies
import Derived.Test.YtgolafbneiffpaaGreatDoorZai
import Derived.Laws.Concat
set_option maxHeartbeats 64000000
set_option linter.unusedSimpArgs false
set_option linter.unusedVariables false
set_option linter.unusedSectionVars false
set_option linter.constructorNameAsVariable false
namespace Go.Proofs.YtgolafbneiffpaaGreatDoor
open Go.RowKit Go.Gou Go.Txt
set_option maxRecDepth 100000
theorem uoy (w : World) : Calls Tryz.prog 62 #[] w fun e w' => e = .returned (.slice (some ⟨w.heap.size, 0, none⟩) 4 4) ∧ w' = w.alloc (.cells #[.string ⟨wFuse.toArray⟩, .string ⟨wAlias.toArray⟩, .string ⟨wRoi.toArray⟩, .string ⟨wDamage.toArray⟩] 9) := by
 go_enter Tryz.func62, Tryz.ntmps62
 go_wp2_with fail
 go_ret
 exact ⟨rfl, rfl⟩
theorem ury {n j : Nat} (h : j < n) : n - (intOf (iV ((j : Int) + 1))).toNat < n - (intOf (iV (j : Int))).toNat := by
 simp [intOf]
 omega
def bit (c : Cf) (i : Nat) : Bool := if i = 0 then c.fuse else if i = 1 then c.alias else if i = 2 then c.roi else c.damage
def un7 (i : Nat) : Wd := if i = 0 then wFuse else if i = 1 then wAlias else if i = 2 then wRoi else wDamage
def umv (c : Cf) : Nat → List Wd
 | 0 => []
 | i + 1 => umv c i ++ if bit c i then [un7 i] else []
theorem uqc (c : Cf) : umv c 4 = um7 c := by
 simp [umv, um7, bit, un7]
theorem uo9 (c : Cf) : ∀ i, (umv c i).length ≤ i
 | 0 => Nat.le_refl _
 | i + 1 => by
  have := uo9 c i
  rw [umv, List.length_append]
  split <;> simp <;> omega
theorem flags_any (w : World) (c : Cf) :
  Calls Tryz.prog 36 #[.agg #[.bool c.fuse, .bool c.alias, .bool c.roi, .bool c.damage, iV c.room]] w fun e w' => ∃ v, e = .returned v ∧ RowG (fun b => w.heap.size ≤ b) w' 1 v (um7 c).length (strs (um7 c)) ∧ Gou.Mod (fun _ => False) w w' := by
 have HM0 := hd' (Gou.Mod.alloc0 w (.cells #[.bool c.fuse, .bool c.alias, .bool c.roi, .bool c.damage, iV c.room] 39))
 have HS0 : Hid ((w.alloc (.cells #[.bool c.fuse, .bool c.alias, .bool c.roi, .bool c.damage, iV c.room] 39)).heap.size = w.heap.size + 1) := hd' (by simp)
 have HB0 := hd' (Blk.new w 39 #[.bool c.fuse, .bool c.alias, .bool c.roi, .bool c.damage, iV c.room])
 have k0 := HB0.o.cell 0 rfl
 have k1 := HB0.o.cell 1 rfl
 have k2 := HB0.o.cell 2 rfl
 have k3 := HB0.o.cell 3 rfl
 go_enter Tryz.func36, Tryz.ntmps36
 go_wp2_with fail
 generalize hW0 : (w.alloc (.cells #[.bool c.fuse, .bool c.alias, .bool c.roi, .bool c.damage, iV c.room] 39)) = W0 at *
 clear hW0 k0 k1 k2 k3
 go_loopw [3, 15] (fun vb vi wr => ∃ i : Nat, vi = iV i ∧ i ≤ 4 ∧ wr.ownsRow W0.heap.size 9 1 vb (umv c i).length (strs (umv c i)) ∧ Gou.Mod (fun _ => False) W0 wr) (fun _ vi _ => 4 - (intOf vi).toNat)
 case atStart => exact ⟨0, rfl, by omega, World.ownsRow_nil _ _ _ _, Gou.Mod.refl _ _⟩
 case round =>
  obtain ⟨i, rfl, hi, hown, hm⟩ := hrel
  have Hown := hd' hown
  have Hm := hd' hm
  obtain ⟨pb, cb, rfl⟩ := Gou.ownsRow_form hown
  clear hown hm
  have hi1 : wrap64 ((i : Int) + 1) = (i : Int) + 1 := IntWalk.wrap64_in _ (by omega)
  by_cases hi4 : i < 4
  ·have t1 : decide ((i : Int) < 4) = true := dqt (by omega)
   have j0 : (0 : Int) ≤ (i : Int) := by omega
   have j1 : (i : Int) < 4 := by omega
   have ij : ∀ w' : World, (Instr.index 131 (.agg #[.bool c.fuse, .bool c.alias, .bool c.roi, .bool c.damage]) (iV (i : Int))).run Tryz.prog w' = .ok (.bool (bit c i)) w' := by
    rcases lt4 hi4 with rfl | rfl | rfl | rfl <;> (intro w'; kernel_rfl)
   have Hi4 := hd' hi4
   have Hf : Hid (umv c (i + 1) = umv c i ++ if bit c i then [un7 i] else []) := hd' rfl
   have Hl := hd' (uo9 c i)
   have kw : ((wr.alloc (.cells #[.string ⟨wFuse.toArray⟩, .string ⟨wAlias.toArray⟩, .string ⟨wRoi.toArray⟩, .string ⟨wDamage.toArray⟩] 9))).cell? ⟨wr.heap.size, i, none⟩ = some (.string ⟨(un7 i).toArray⟩) := by
    rcases lt4 hi4 with rfl | rfl | rfl | rfl
    ·exact (Blk.new wr 9 #[.string ⟨wFuse.toArray⟩, .string ⟨wAlias.toArray⟩, .string ⟨wRoi.toArray⟩, .string ⟨wDamage.toArray⟩]).cell 0 rfl
    ·exact (Blk.new wr 9 #[.string ⟨wFuse.toArray⟩, .string ⟨wAlias.toArray⟩, .string ⟨wRoi.toArray⟩, .string ⟨wDamage.toArray⟩]).cell 1 rfl
    ·exact (Blk.new wr 9 #[.string ⟨wFuse.toArray⟩, .string ⟨wAlias.toArray⟩, .string ⟨wRoi.toArray⟩, .string ⟨wDamage.toArray⟩]).cell 2 rfl
    ·exact (Blk.new wr 9 #[.string ⟨wFuse.toArray⟩, .string ⟨wAlias.toArray⟩, .string ⟨wRoi.toArray⟩, .string ⟨wDamage.toArray⟩]).cell 3 rfl
   rcases hbit : bit c i with _ | _
   ·have ib := fun w' => (ij w').trans (by rw [hbit])
    rw [hbit] at Hf
    clear ij hbit
    go_wp2_with fail
    go_roundw
    case rel =>
     refine ⟨i + 1, by go_num, by have := Hi4.o; omega, ?_, Hm.o⟩
     rw [Hf.o]
     simp only [if_false, Bool.false_eq_true, List.append_nil]
     exact Hown.o
    case measure => first | exact ury Hi4.o | exact up5 Hi4.o hi1
   ·have ib := fun w' => (ij w').trans (by rw [hbit])
    rw [hbit] at Hf
    clear ij hbit
    go_wp2_with fail
    refine (uoy _).mono ?_
    rintro e w2 ⟨rfl, rfl⟩
    have HM2 := hd' ((Gou.Mod.alloc0 wr (.cells #[.string ⟨wFuse.toArray⟩, .string ⟨wAlias.toArray⟩, .string ⟨wRoi.toArray⟩, .string ⟨wDamage.toArray⟩] 9)).trans' (Gou.Mod.alloc0 _ (.cells #[.string ⟨(un7 i).toArray⟩] 9)))
    have HB2 : Hid (Blk ((wr.alloc (.cells #[.string ⟨wFuse.toArray⟩, .string ⟨wAlias.toArray⟩, .string ⟨wRoi.toArray⟩, .string ⟨wDamage.toArray⟩] 9)).alloc (.cells #[.string ⟨(un7 i).toArray⟩] 9)) (wr.heap.size + 1) 9 #[.string ⟨(un7 i).toArray⟩]) := hd' (by
     have := Blk.new (wr.alloc (.cells #[.string ⟨wFuse.toArray⟩, .string ⟨wAlias.toArray⟩, .string ⟨wRoi.toArray⟩, .string ⟨wDamage.toArray⟩] 9)) 9 #[.string ⟨(un7 i).toArray⟩]
     rwa [World.size_alloc] at this)
    go_wp2_with (first | ((with_reducible show wpList _ _ _ (⟨_, Op.call ⟨.builtin .append, _, _⟩, _, _, _, _⟩ :: _) _ _); refine halt ?_) | fail)
    refine uaz T_str rfl _ _ rfl W0.heap.size (.slice pb (umv c i).length cb) (umv c i).length (strs (umv c i)) (fun _ => True) (.slice (some ⟨wr.heap.size + 1, 0, none⟩) 1 1) 1 (strs [un7 i]) rfl rfl (by have h1 := Hm.o.size; have h2 := HM2.o.size; omega) (uac Hown.o HM2.o (fun _ _ h => h)) (RowG.of_blk HB2.o 1 1 rfl _ trivial) (uuw _) (by have := Hl.o; have := Hi4.o; unfold maxLen; omega) (by have := Hl.o; have := Hi4.o; omega) ?_
    intro v2 w2 G
    have HG := hd' G
    obtain ⟨p2, c2, rfl⟩ := Gou.ownsRow_form G.own
    clear G
    go_wp2_with fail
    go_roundw
    case rel =>
     refine ⟨i + 1, by go_num, by have := Hi4.o; omega, ?_, (Hm.o.trans' HM2.o).trans HG.o.mod (fun k hk e => by have := (Hown.o.lt _ e).1; omega)⟩
     rw [Hf.o]
     simp only [if_true]
     rw [List.length_append, show strs (umv c i ++ [un7 i]) = strs (umv c i) ++ strs [un7 i] by simp]
     exact HG.o.own
    case measure => first | exact ury Hi4.o | exact up5 Hi4.o hi1
  ·obtain rfl : i = 4 := by omega
   have t1 : decide (((4 : Nat) : Int) < 4) = false := rfl
   go_wp2_with fail
   go_ret
   refine ⟨.slice pb (umv c 4).length cb, rfl, ?_, HM0.o.trans' Hm.o⟩
   have h1 := RowG.of_own Hown.o
   rw [← uqc]
   exact RowG.imp h1 fun k _ hk => by have := HS0.o; omega
structure OprN (o : Opr) : Prop where
 kind : 1 ≤ o.kind ∧ o.kind ≤ 11
 id : o.kind ≠ 1 → InR o.id.1 ∧ InR o.id.2
 tt : o.kind = 1 ∨ o.kind = 3 → InR o.to.1 ∧ InR o.to.2
 at_ : o.kind = 1 ∨ o.kind = 3 ∨ o.kind = 4 → InR o.at_
 shift : o.kind = 5 → InR o.look.dx ∧ InR o.look.dy
 clip : o.kind = 6 → o.look.hasClip = true → InR o.look.clip.x0 ∧ InR o.look.clip.y0 ∧ InR o.look.clip.x1 ∧ InR o.look.clip.y1
 fade : o.kind = 7 → InR o.look.opacity
 mode : o.kind = 8 → InR o.look.mode
 show_ : o.kind = 9 → uwi o.look.content
 filt : o.kind = 10 → o.look.hasFilt = true → uom o.look.filt
 back : o.kind = 11 → o.look.hasBack = true → uom o.look.back
structure ActN (a : Ac) : Prop where
 view : a.kind = 12 → InR a.w ∧ InR a.h
 conf : a.kind = 13 → InR a.conf.room
 opr : a.kind ≠ 12 → a.kind ≠ 13 → a.kind ≠ 14 → OprN a.op
def okO (o : Opr) : Prop := (o.kind = 9 → 0 ≤ o.look.content.kind ∧ o.look.content.kind ≤ 2) ∧ (o.kind = 10 → o.look.hasFilt = true → una o.look.filt) ∧ (o.kind = 11 → o.look.hasBack = true → una o.look.back)
instance (o : Opr) : Decidable (okO o) := by unfold okO; infer_instance
theorem tree_t {w : World} {L : Nat} {ws : List Wd} {vs : Value} (h : LS w L ws vs) (o : Opr) (vp vf vb : Value) (ho : OprN o) (hl : ws.length ≤ 700000000) :
  Calls Tryz.prog 37 #[.pointer (some ⟨L, 0, none⟩), .agg (oprC o vp vf vb)] w (LSP w L ws vs (uml o)) := by
 by_cases k1 : o.kind = 1
 ·exact tree_1 h o vp vf vb k1 (ho.tt (.inl k1)) (ho.at_ (.inl k1)) (by omega)
 by_cases k2 : o.kind = 2
 ·exact tree_2 h o vp vf vb k2 (ho.id (by omega)) (by omega)
 by_cases k3 : o.kind = 3
 ·exact tree_3 h o vp vf vb k3 (ho.id (by omega)) (ho.tt (.inr k3)) (ho.at_ (.inr (.inl k3))) (by omega)
 by_cases k4 : o.kind = 4
 ·exact tree_4 h o vp vf vb k4 (ho.id (by omega)) (ho.at_ (.inr (.inr k4))) (by omega)
 have e : uml o = [] := by simp [uml, k1, k2, k3, k4]
 rw [e]
 exact tree_0 h o vp vf vb (by have := ho.kind; omega)
theorem treeW_len (o : Opr) : (uml o).length ≤ 10 := by
 unfold uml
 split
 ·simp [nums]
 split
 ·simp [nums]
 split
 ·simp [nums]
 split
 ·simp [nums]
 ·simp
theorem LSF.of {w : World} {L : Nat} {ws us : List Wd} {vs : Value} {e : Ending} {w' : World} {c : Prop} [Decidable c] (hc : c) (h : LSP w L ws vs us e w') : LSF w L ws vs (if c then some us else none) e w' := by
 rw [if_pos hc]
 exact LSF.ok h
theorem LSF.iff {w : World} {L : Nat} {ws us : List Wd} {vs : Value} {e : Ending} {w' : World} {c d : Prop} [Decidable c] [Decidable d] (hc : c ↔ d) (h : LSF w L ws vs (if c then some us else none) e w') : LSF w L ws vs (if d then some us else none) e w' := by
 by_cases hd : d
 ·rw [if_pos (hc.2 hd)] at h
  rwa [if_pos hd]
 ·rw [if_neg fun h => hd (hc.1 h)] at h
  rwa [if_neg hd]
theorem look_t {w : World} {L : Nat} {ws : List Wd} {vs : Value} (h : LS w L ws vs) (p1 : Option Addr) (k1 : Nat) (p2 : Option Addr) (k2 : Nat) (p3 : Option Addr) (k3 : Nat) (o : Opr) (ho : OprN o) (hx : LookR (fun b => b < L) w o.look (.slice p1 o.look.content.pix.length k1) (.slice p2 o.look.filt.nodes.length k2) (.slice p3 o.look.back.nodes.length k3)) (hl : ws.length ≤ 700000000) :
  Calls Tryz.prog 38 #[.pointer (some ⟨L, 0, none⟩), .agg (opS o p1 k1 p2 k2 p3 k3)] w (LSF w L ws vs (if okO o then some (ulb o) else none)) := by
 by_cases k5 : o.kind = 5
 ·exact (tlook_5 h p1 k1 p2 k2 p3 k3 o k5 (ho.id (by omega)) (ho.shift k5) hx hl).mono fun _ _ q => LSF.of ⟨fun h => by omega, fun h => by omega, fun h => by omega⟩ q
 by_cases k6 : o.kind = 6
 ·cases hf : o.look.hasClip
  ·exact (tlook_6f h p1 k1 p2 k2 p3 k3 o k6 (ho.id (by omega)) hf hx hl).mono fun _ _ q => LSF.of ⟨fun h => by omega, fun h => by omega, fun h => by omega⟩ q
  ·exact (tlook_6t h p1 k1 p2 k2 p3 k3 o k6 (ho.id (by omega)) hf (ho.clip k6 hf) hx hl).mono fun _ _ q => LSF.of ⟨fun h => by omega, fun h => by omega, fun h => by omega⟩ q
 by_cases k7 : o.kind = 7
 ·exact (tlook_7 h p1 k1 p2 k2 p3 k3 o k7 (ho.id (by omega)) (ho.fade k7) hx hl).mono fun _ _ q => LSF.of ⟨fun h => by omega, fun h => by omega, fun h => by omega⟩ q
 by_cases k8 : o.kind = 8
 ·exact (tlook_8 h p1 k1 p2 k2 p3 k3 o k8 (ho.id (by omega)) (ho.mode k8) hx hl).mono fun _ _ q => LSF.of ⟨fun h => by omega, fun h => by omega, fun h => by omega⟩ q
 by_cases k9 : o.kind = 9
 ·exact (tlook_9 h p1 k1 p2 k2 p3 k3 o k9 (ho.id (by omega)) (ho.show_ k9) hx hl).mono fun _ _ q => LSF.iff ⟨fun c => ⟨fun _ => c, fun h => by omega, fun h => by omega⟩, fun c => c.1 k9⟩ q
 by_cases k10 : o.kind = 10
 ·cases hf : o.look.hasFilt
  ·exact (tlook_10f h p1 k1 p2 k2 p3 k3 o k10 (ho.id (by omega)) hf hx hl).mono fun _ _ q => LSF.of ⟨fun h => by omega, fun _ h => by simp [hf] at h, fun h => by omega⟩ q
  ·exact (tlook_10t h p1 k1 p2 k2 p3 k3 o k10 (ho.id (by omega)) hf (ho.filt k10 hf) hx hl).mono fun _ _ q => LSF.iff ⟨fun c => ⟨fun h => by omega, fun _ _ => c, fun h => by omega⟩, fun c => c.2.1 k10 hf⟩ q
 by_cases k11 : o.kind = 11
 ·cases hf : o.look.hasBack
  ·exact (tlook_11f h p1 k1 p2 k2 p3 k3 o k11 (ho.id (by omega)) hf hx hl).mono fun _ _ q => LSF.of ⟨fun h => by omega, fun h => by omega, fun _ h => by simp [hf] at h⟩ q
  ·exact (tlook_11t h p1 k1 p2 k2 p3 k3 o k11 (ho.id (by omega)) hf (ho.back k11 hf) hx hl).mono fun _ _ q => LSF.iff ⟨fun c => ⟨fun h => by omega, fun h => by omega, fun _ _ => c⟩, fun c => c.2.2 k11 hf⟩ q
 have e : ulb o = [] := by simp [ulb, k5, k6, k7, k8, k9, k10, k11]
 rw [e]
 exact (tlook_0 h p1 k1 p2 k2 p3 k3 o (by have := ho.kind; omega) hx hl).mono fun _ _ q => LSF.of ⟨fun h => by omega, fun h => by omega, fun h => by omega⟩ q
theorem sayr_ls {w : World} {L : Nat} {ws : List Wd} {vs v : Value} (h : LS w L ws vs) (us : List Wd) {B : Nat} (hB : L < B) (hv : ∀ g, vs.ownBlock = some g → g < B) (hx : RowG (fun b => B ≤ b) w 1 v us.length (strs us)) (hl : ws.length + us.length ≤ 1000000000) :
  Calls Tryz.prog 34 #[.pointer (some ⟨L, 0, none⟩), v] w (LSP w L ws vs us) :=
 (ut4 w L ws us vs v h.ln (RowG.imp hx fun k _ hk => ⟨by omega, fun e => by have := hv _ e; omega⟩) hl).mono fun _ _ hp => LSP.of h hp
theorem flagsW_len (c : Cf) : (um7 c).length ≤ 4 := by
 have := uo9 c 4
 rwa [uqc] at this
theorem act_12 {w : World} {L : Nat} {ws : List Wd} {vs : Value} (h : LS w L ws vs) (p1 : Option Addr) (k1 : Nat) (p2 : Option Addr) (k2 : Nat) (p3 : Option Addr) (k3 : Nat) (a : Ac) (hk : a.kind = 12) (hd : InR a.w ∧ InR a.h) (hl : ws.length ≤ 600000000) :
  Calls Tryz.prog 18 #[.pointer (some ⟨L, 0, none⟩), .agg (actC a (.slice p1 a.op.look.content.pix.length k1) (.slice p2 a.op.look.filt.nodes.length k2) (.slice p3 a.op.look.back.nodes.length k3))] w (LSP w L ws vs (ukp a)) := by
 have HK := hd' hk
 have Hl := hd' hl
 have Hhd := hd' hd
 have HB0 := hd' (Loc.new h 41 (actC a (.slice p1 a.op.look.content.pix.length k1) (.slice p2 a.op.look.filt.nodes.length k2) (.slice p3 a.op.look.back.nodes.length k3)) rfl)
 have HS0 := hd' (h.other (Gou.Mod.alloc0 _ (.cells (actC a (.slice p1 a.op.look.content.pix.length k1) (.slice p2 a.op.look.filt.nodes.length k2) (.slice p3 a.op.look.back.nodes.length k3)) 41)))
 have HT0 := hd' (WTo.other (W := L) (Gou.Mod.alloc0 w (.cells (actC a (.slice p1 a.op.look.content.pix.length k1) (.slice p2 a.op.look.filt.nodes.length k2) (.slice p3 a.op.look.back.nodes.length k3)) 41)) vs)
 clear h hk hl hd
 go_enter Tryz.func18, Tryz.ntmps18
 have c0_0 : ((w.alloc (.cells (actC a (.slice p1 a.op.look.content.pix.length k1) (.slice p2 a.op.look.filt.nodes.length k2) (.slice p3 a.op.look.back.nodes.length k3)) 41))).cell? ⟨w.heap.size, 0, none⟩ = some (iV 12) := by rw [← HK.o]; exact HB0.o.blk.cell 0 rfl
 go_wp2_with fail
 refine (ulr HS0.o [usc] (by have := Hl.o; simp [nums]; omega) (by first | rfl | simp) rfl rfl).mono ?_
 rintro e w1 ⟨v1, rfl, hS1, hT1⟩
 have HS1 := hd' hS1
 have HT1 := hd' (HT0.o.trans hT1)
 have HB1 := hd' (HB0.o.step hT1)
 clear hS1 hT1
 clear c0_0
 have c1_35 : (w1).cell? ⟨w.heap.size, 35, none⟩ = some (iV a.w) := HB1.o.blk.cell 35 rfl
 have c1_36 : (w1).cell? ⟨w.heap.size, 36, none⟩ = some (iV a.h) := HB1.o.blk.cell 36 rfl
 go_wp2_with fail
 refine (uok HS1.o [a.w, a.h] (ul8 Hhd.o.1 Hhd.o.2) (by have := Hl.o; simp [nums]; omega) (by first | rfl | simp) rfl rfl).mono ?_
 rintro e w2 ⟨v2, rfl, hS2, hT2⟩
 have HS2 := hd' hS2
 have HT2 := hd' (HT1.o.trans hT2)
 have HB2 := hd' (HB1.o.step hT2)
 clear hS2 hT2
 clear c1_35 c1_36
 go_wp2_with fail
 first | go_end0 | refine bpr (results_none rfl _ _ _) rfl ?_
 have e : ws ++ ukp a = ws ++ [usc] ++ nums [a.w, a.h] := by simp [ukp, HK.o, nums]
 exact ⟨v2, rfl, by rw [e]; exact HS2.o, HT2.o⟩
theorem act_13 {w : World} {L : Nat} {ws : List Wd} {vs : Value} (h : LS w L ws vs) (p1 : Option Addr) (k1 : Nat) (p2 : Option Addr) (k2 : Nat) (p3 : Option Addr) (k3 : Nat) (a : Ac) (hk : a.kind = 13) (hd : InR a.conf.room) (hl : ws.length ≤ 600000000) :
  Calls Tryz.prog 18 #[.pointer (some ⟨L, 0, none⟩), .agg (actC a (.slice p1 a.op.look.content.pix.length k1) (.slice p2 a.op.look.filt.nodes.length k2) (.slice p3 a.op.look.back.nodes.length k3))] w (LSP w L ws vs (ukp a)) := by
 have HK := hd' hk
 have Hl := hd' hl
 have Hhd := hd' hd
 have HB0 := hd' (Loc.new h 41 (actC a (.slice p1 a.op.look.content.pix.length k1) (.slice p2 a.op.look.filt.nodes.length k2) (.slice p3 a.op.look.back.nodes.length k3)) rfl)
 have HS0 := hd' (h.other (Gou.Mod.alloc0 _ (.cells (actC a (.slice p1 a.op.look.content.pix.length k1) (.slice p2 a.op.look.filt.nodes.length k2) (.slice p3 a.op.look.back.nodes.length k3)) 41)))
 have HT0 := hd' (WTo.other (W := L) (Gou.Mod.alloc0 w (.cells (actC a (.slice p1 a.op.look.content.pix.length k1) (.slice p2 a.op.look.filt.nodes.length k2) (.slice p3 a.op.look.back.nodes.length k3)) 41)) vs)
 clear h hk hl hd
 go_enter Tryz.func18, Tryz.ntmps18
 have c0_0 : ((w.alloc (.cells (actC a (.slice p1 a.op.look.content.pix.length k1) (.slice p2 a.op.look.filt.nodes.length k2) (.slice p3 a.op.look.back.nodes.length k3)) 41))).cell? ⟨w.heap.size, 0, none⟩ = some (iV 13) := by rw [← HK.o]; exact HB0.o.blk.cell 0 rfl
 go_wp2_with fail
 refine (ulr HS0.o [uql] (by have := Hl.o; simp [nums]; omega) (by first | rfl | simp) rfl rfl).mono ?_
 rintro e w1 ⟨v1, rfl, hS1, hT1⟩
 have HS1 := hd' hS1
 have HT1 := hd' (HT0.o.trans hT1)
 have HB1 := hd' (HB0.o.step hT1)
 clear hS1 hT1
 clear c0_0
 have c1_41 : (w1).cell? ⟨w.heap.size, 41, none⟩ = some (iV a.conf.room) := HB1.o.blk.cell 41 rfl
 go_wp2_with fail
 refine (uok HS1.o [a.conf.room] (unv Hhd.o) (by have := Hl.o; simp [nums]; omega) (by first | rfl | simp) rfl rfl).mono ?_
 rintro e w2 ⟨v2, rfl, hS2, hT2⟩
 have HS2 := hd' hS2
 have HT2 := hd' (HT1.o.trans hT2)
 have HB2 := hd' (HB1.o.step hT2)
 clear hS2 hT2
 clear c1_41
 have c2_37 : (w2).cell? ⟨w.heap.size, 37, none⟩ = some (.bool a.conf.fuse) := HB2.o.blk.cell 37 rfl
 have c2_38 : (w2).cell? ⟨w.heap.size, 38, none⟩ = some (.bool a.conf.alias) := HB2.o.blk.cell 38 rfl
 have c2_39 : (w2).cell? ⟨w.heap.size, 39, none⟩ = some (.bool a.conf.roi) := HB2.o.blk.cell 39 rfl
 have c2_40 : (w2).cell? ⟨w.heap.size, 40, none⟩ = some (.bool a.conf.damage) := HB2.o.blk.cell 40 rfl
 have c2_41 : (w2).cell? ⟨w.heap.size, 41, none⟩ = some (iV a.conf.room) := HB2.o.blk.cell 41 rfl
 go_wp2_with fail
 refine (flags_any _ a.conf).mono ?_
 rintro e w3 ⟨fv, rfl, hr3, hm3⟩
 obtain ⟨q3, j3, rfl, -⟩ := RowG.form hr3
 have HR3 := hd' hr3
 have HS3 := hd' (HS2.o.other hm3)
 have HT3 := hd' (HT2.o.trans (WTo.other hm3 v2))
 have Hlt := hd' (Blk.lt HS2.o.ln.box)
 have Hown := hd' (fun g hg => (HS2.o.ln.own.lt g hg).2)
 clear hr3 hm3
 clear c2_37 c2_38 c2_39 c2_40 c2_41
 go_wp2_with fail
 refine (sayr_ls HS3.o (um7 a.conf) Hlt.o Hown.o HR3.o (by have := Hl.o; have := flagsW_len a.conf; simp [nums]; omega)).mono ?_
 rintro e w4 ⟨v4, rfl, hS4, hT4⟩
 have HS4 := hd' hS4
 have HT4 := hd' (HT3.o.trans hT4)
 clear hS4 hT4
 go_wp2_with fail
 first | go_end0 | refine bpr (results_none rfl _ _ _) rfl ?_
 have e : ws ++ ukp a = ws ++ [uql] ++ nums [a.conf.room] ++ um7 a.conf := by simp [ukp, HK.o, nums]
 exact ⟨v4, rfl, by rw [e]; exact HS4.o, HT4.o⟩
theorem act_14 {w : World} {L : Nat} {ws : List Wd} {vs : Value} (h : LS w L ws vs) (p1 : Option Addr) (k1 : Nat) (p2 : Option Addr) (k2 : Nat) (p3 : Option Addr) (k3 : Nat) (a : Ac) (hk : a.kind = 14) (hl : ws.length ≤ 600000000) :
  Calls Tryz.prog 18 #[.pointer (some ⟨L, 0, none⟩), .agg (actC a (.slice p1 a.op.look.content.pix.length k1) (.slice p2 a.op.look.filt.nodes.length k2) (.slice p3 a.op.look.back.nodes.length k3))] w (LSP w L ws vs (ukp a)) := by
 have HK := hd' hk
 have Hl := hd' hl
 have HB0 := hd' (Loc.new h 41 (actC a (.slice p1 a.op.look.content.pix.length k1) (.slice p2 a.op.look.filt.nodes.length k2) (.slice p3 a.op.look.back.nodes.length k3)) rfl)
 have HS0 := hd' (h.other (Gou.Mod.alloc0 _ (.cells (actC a (.slice p1 a.op.look.content.pix.length k1) (.slice p2 a.op.look.filt.nodes.length k2) (.slice p3 a.op.look.back.nodes.length k3)) 41)))
 have HT0 := hd' (WTo.other (W := L) (Gou.Mod.alloc0 w (.cells (actC a (.slice p1 a.op.look.content.pix.length k1) (.slice p2 a.op.look.filt.nodes.length k2) (.slice p3 a.op.look.back.nodes.length k3)) 41)) vs)
 clear h hk hl
 go_enter Tryz.func18, Tryz.ntmps18
 have c0_0 : ((w.alloc (.cells (actC a (.slice p1 a.op.look.content.pix.length k1) (.slice p2 a.op.look.filt.nodes.length k2) (.slice p3 a.op.look.back.nodes.length k3)) 41))).cell? ⟨w.heap.size, 0, none⟩ = some (iV 14) := by rw [← HK.o]; exact HB0.o.blk.cell 0 rfl
 go_wp2_with fail
 refine (ulr HS0.o [umj] (by have := Hl.o; simp [nums]; omega) (by first | rfl | simp) rfl rfl).mono ?_
 rintro e w1 ⟨v1, rfl, hS1, hT1⟩
 have HS1 := hd' hS1
 have HT1 := hd' (HT0.o.trans hT1)
 have HB1 := hd' (HB0.o.step hT1)
 clear hS1 hT1
 clear c0_0
 go_wp2_with fail
 first | go_end0 | refine bpr (results_none rfl _ _ _) rfl ?_
 have e : ws ++ ukp a = ws ++ [umj] := by simp [ukp, HK.o, nums]
 exact ⟨v1, rfl, by rw [e]; exact HS1.o, HT1.o⟩
theorem act_o {w : World} {L : Nat} {ws : List Wd} {vs : Value} (h : LS w L ws vs) (p1 : Option Addr) (k1 : Nat) (p2 : Option Addr) (k2 : Nat) (p3 : Option Addr) (k3 : Nat) (a : Ac) (hk : a.kind ≠ 12) (hn3 : a.kind ≠ 13) (hn4 : a.kind ≠ 14) (ho : OprN a.op) (hx : LookR (fun b => b < L) w a.op.look (.slice p1 a.op.look.content.pix.length k1) (.slice p2 a.op.look.filt.nodes.length k2) (.slice p3 a.op.look.back.nodes.length k3)) (hl : ws.length ≤ 600000000) :
  Calls Tryz.prog 18 #[.pointer (some ⟨L, 0, none⟩), .agg (actC a (.slice p1 a.op.look.content.pix.length k1) (.slice p2 a.op.look.filt.nodes.length k2) (.slice p3 a.op.look.back.nodes.length k3))] w (LSF w L ws vs (if okO a.op then some (ukp a) else none)) := by
 generalize hR : (if okO a.op then some (ukp a) else none) = R
 have HR := hd' hR
 clear hR
 have HK := hd' hk
 have Hl := hd' hl
 have Hhn3 := hd' hn3
 have Hhn4 := hd' hn4
 have Hho := hd' ho
 have Hhx := hd' hx
 have HB0 := hd' (Loc.new h 41 (actC a (.slice p1 a.op.look.content.pix.length k1) (.slice p2 a.op.look.filt.nodes.length k2) (.slice p3 a.op.look.back.nodes.length k3)) rfl)
 have HS0 := hd' (h.other (Gou.Mod.alloc0 _ (.cells (actC a (.slice p1 a.op.look.content.pix.length k1) (.slice p2 a.op.look.filt.nodes.length k2) (.slice p3 a.op.look.back.nodes.length k3)) 41)))
 have HT0 := hd' (WTo.other (W := L) (Gou.Mod.alloc0 w (.cells (actC a (.slice p1 a.op.look.content.pix.length k1) (.slice p2 a.op.look.filt.nodes.length k2) (.slice p3 a.op.look.back.nodes.length k3)) 41)) vs)
 have HX0 := hd' (hx.mod (Gou.Mod.alloc0 w (.cells (actC a (.slice p1 a.op.look.content.pix.length k1) (.slice p2 a.op.look.filt.nodes.length k2) (.slice p3 a.op.look.back.nodes.length k3)) 41)) (fun _ _ _ h => h))
 have d2 : (a.kind == 12) = false := bqf.2 hk
 have d3 : (a.kind == 13) = false := bqf.2 hn3
 have d4 : (a.kind == 14) = false := bqf.2 hn4
 have Hn2 := hd' hk
 have Hn3 := hd' hn3
 have Hn4 := hd' hn4
 clear Hhx Hhn3 Hhn4
 clear h hk hl hn3 hn4 ho hx
 go_enter Tryz.func18, Tryz.ntmps18
 have c0_0 : ((w.alloc (.cells (actC a (.slice p1 a.op.look.content.pix.length k1) (.slice p2 a.op.look.filt.nodes.length k2) (.slice p3 a.op.look.back.nodes.length k3)) 41))).cell? ⟨w.heap.size, 0, none⟩ = some (iV a.kind) := HB0.o.blk.cell 0 rfl
 have HiO : Hid ((Tryz.prog.info? 37).map (·.size) = some (opS a.op p1 k1 p2 k2 p3 k3).toList.length) := hd' (size_op.trans (by simp [oprC]))
 have Hrg0 : Hid ((w.alloc (.cells (actC a (.slice p1 a.op.look.content.pix.length k1) (.slice p2 a.op.look.filt.nodes.length k2) (.slice p3 a.op.look.back.nodes.length k3)) 41)).rangeAt w.heap.size 1 (opS a.op p1 k1 p2 k2 p3 k3).toList) := hd' (Blk.range HB0.o.blk (utr a _ _ _) rfl)
 go_wp2_with (first | ((with_reducible refine wpList_load_mid ?g1_1 37 ?x1_1 ?o1_1 w.heap.size 1 ?h1_1 (opS a.op p1 k1 p2 k2 p3 k3).toList ?d1_1 ?c1_1 ?u1_1 ?s1_1 ?i1_1 ?r1_1); (case g1_1 => exact rfl); (case o1_1 => exact rfl); (case h1_1 => exact rfl); (case c1_1 => exact Hrg0.o); (case u1_1 => exact Tryz.underlying37); (case s1_1 => exact rfl); (case i1_1 => exact HiO.o)) | fail)
 refine (tree_t HS0.o a.op _ _ _ Hho.o (by have := Hl.o; omega)).mono ?_
 rintro e w1 ⟨v1, rfl, hS1, hT1⟩
 have HS1 := hd' hS1
 have HT1 := hd' (HT0.o.trans hT1)
 have HB1 := hd' (HB0.o.step hT1)
 have HX1 := hd' (HX0.o.mod (HS0.o.far hT1) (fun k hk hG => by omega))
 have Hrg1 : Hid (w1.rangeAt w.heap.size 1 (opS a.op p1 k1 p2 k2 p3 k3).toList) := hd' (Blk.range HB1.o.blk (utr a _ _ _) rfl)
 clear hS1 hT1 Hrg0
 clear c0_0
 go_wp2_with (first | ((with_reducible refine wpList_load_mid ?g1_2 37 ?x1_2 ?o1_2 w.heap.size 1 ?h1_2 (opS a.op p1 k1 p2 k2 p3 k3).toList ?d1_2 ?c1_2 ?u1_2 ?s1_2 ?i1_2 ?r1_2); (case g1_2 => exact rfl); (case o1_2 => exact rfl); (case h1_2 => exact rfl); (case c1_2 => exact Hrg1.o); (case u1_2 => exact Tryz.underlying37); (case s1_2 => exact rfl); (case i1_2 => exact HiO.o)) | fail)
 refine (look_t HS1.o p1 k1 p2 k2 p3 k3 a.op Hho.o HX1.o (by have := Hl.o; have := treeW_len a.op; simp only [List.length_append]; omega)).mono ?_
 rintro e w9 ⟨v9, hT9, h9⟩
 have HT9 := hd' (HT1.o.trans hT9)
 have Hkk := hd' (And.intro Hn2.o (And.intro Hn3.o Hn4.o))
 by_cases hok : okO a.op
 ·rw [if_pos hok] at h9
  obtain ⟨rfl, hS9⟩ := h9
  have HS9 := hd' hS9
  have Hok : Hid (R = some (ukp a)) := hd' (HR.o.symm.trans (if_pos hok))
  clear hS9 hT9 hok Hrg1
  go_wp2_with fail
  first | go_end0 | refine bpr (results_none rfl _ _ _) rfl ?_
  have e : ws ++ ukp a = ws ++ uml a.op ++ ulb a.op := by simp [ukp, Hkk.o.1, Hkk.o.2.1, Hkk.o.2.2]
  exact ⟨v9, HT9.o, by rw [Hok.o]; exact ⟨rfl, by rw [e]; exact HS9.o⟩⟩
 ·rw [if_neg hok] at h9
  subst h9
  exact ⟨rfl, v9, HT9.o, by rw [← HR.o, if_neg hok]⟩
theorem act_t {w : World} {L : Nat} {ws : List Wd} {vs : Value} (h : LS w L ws vs) (p1 : Option Addr) (k1 : Nat) (p2 : Option Addr) (k2 : Nat) (p3 : Option Addr) (k3 : Nat) (a : Ac) (ha : ActN a) (hq : a.kind = 12 ∨ a.kind = 13 ∨ a.kind = 14 → okO a.op) (hx : LookR (fun b => b < L) w a.op.look (.slice p1 a.op.look.content.pix.length k1) (.slice p2 a.op.look.filt.nodes.length k2) (.slice p3 a.op.look.back.nodes.length k3)) (hl : ws.length ≤ 600000000) :
  Calls Tryz.prog 18 #[.pointer (some ⟨L, 0, none⟩), .agg (actC a (.slice p1 a.op.look.content.pix.length k1) (.slice p2 a.op.look.filt.nodes.length k2) (.slice p3 a.op.look.back.nodes.length k3))] w (LSF w L ws vs (if upj a then some (ukp a) else none)) := by
 by_cases k2' : a.kind = 12
 ·exact (act_12 h p1 k1 p2 k2 p3 k3 a k2' (ha.view k2') hl).mono fun _ _ q => LSF.of (hq (.inl k2')) q
 by_cases k3' : a.kind = 13
 ·exact (act_13 h p1 k1 p2 k2 p3 k3 a k3' (ha.conf k3') hl).mono fun _ _ q => LSF.of (hq (.inr (.inl k3'))) q
 by_cases k4' : a.kind = 14
 ·exact (act_14 h p1 k1 p2 k2 p3 k3 a k4' hl).mono fun _ _ q => LSF.of (hq (.inr (.inr k4'))) q
 exact (act_o h p1 k1 p2 k2 p3 k3 a k2' k3' k4' (ha.opr k2' k3' k4') hx hl).mono fun _ _ q => LSF.iff Iff.rfl q
theorem uta {g : Gr} {es : List Nat} (h : uqa g es) : uom g := ⟨(uow h).1, (uow h).2.1, (uow h).2.2⟩
theorem oprN_of {k : Int} {o : Opr} {es : List Nat} (h : oprG k o es) (hk0 : 1 ≤ k) (hk1 : k ≤ 11) : OprN o := by
 obtain ⟨i, a, _, hi, ⟨t, e2, _, ht, ⟨at_, e3, _, ha, ⟨l, e4, _, hl, ⟨rfl, rfl⟩, rfl⟩, rfl⟩, rfl⟩, rfl⟩ := h
 have Hi : k ≠ 1 → InR i.1 ∧ InR i.2 := fun h1 => us8 (show idG i a by simpa [GIte, h1] using hi)
 have Ht : k = 1 ∨ k = 3 → InR t.1 ∧ InR t.2 := fun h1 => us8 (show idG t e2 by simpa [GIte, h1] using ht)
 have Ha : k = 1 ∨ k = 3 ∨ k = 4 → InR at_ := fun h1 => (show numG at_ e3 by simpa [GIte, h1] using ha).1
 clear hi ht ha
 have mk : (k = 5 → InR l.dx ∧ InR l.dy) → (k = 6 → l.hasClip = true → InR l.clip.x0 ∧ InR l.clip.y0 ∧ InR l.clip.x1 ∧ InR l.clip.y1) → (k = 7 → InR l.opacity) → (k = 8 → InR l.mode) → (k = 9 → uwi l.content) → (k = 10 → l.hasFilt = true → uom l.filt) → (k = 11 → l.hasBack = true → uom l.back) → OprN ⟨k, i, t, at_, l⟩ :=
  fun a5 a6 a7 a8 a9 a10 a11 => ⟨⟨hk0, hk1⟩, Hi, Ht, Ha, a5, a6, a7, a8, a9, a10, a11⟩
 clear Hi Ht Ha
 rcases hl with ⟨rfl, x, e1, _, h1, ⟨y, e2, _, h2, ⟨rfl, rfl⟩, rfl⟩, rfl⟩ | ⟨h5, h⟩
 ·exact mk (fun _ => ⟨h1.1, h2.1⟩) (fun h => by omega) (fun h => by omega) (fun h => by omega) (fun h => by omega) (fun h => by omega) (fun h => by omega)
 rcases h with ⟨rfl, f, e1, _, h1, h, rfl⟩ | ⟨h6, h⟩
 ·rcases h with ⟨rfl, b, e2, _, h2, ⟨rfl, rfl⟩, rfl⟩ | ⟨hf, ⟨rfl, rfl⟩⟩
  ·exact mk (fun h => by omega) (fun _ _ => ur8 h2) (fun h => by omega) (fun h => by omega) (fun h => by omega) (fun h => by omega) (fun h => by omega)
  ·exact mk (fun h => by omega) (fun _ h => by cases h) (fun h => by omega) (fun h => by omega) (fun h => by omega) (fun h => by omega) (fun h => by omega)
 rcases h with ⟨rfl, x, e1, _, h1, ⟨rfl, rfl⟩, rfl⟩ | ⟨h7, h⟩
 ·exact mk (fun h => by omega) (fun h => by omega) (fun _ => h1.1) (fun h => by omega) (fun h => by omega) (fun h => by omega) (fun h => by omega)
 rcases h with ⟨rfl, x, e1, _, h1, ⟨rfl, rfl⟩, rfl⟩ | ⟨h8, h⟩
 ·exact mk (fun h => by omega) (fun h => by omega) (fun h => by omega) (fun _ => h1.1) (fun h => by omega) (fun h => by omega) (fun h => by omega)
 rcases h with ⟨rfl, c, e1, _, h1, ⟨rfl, rfl⟩, rfl⟩ | ⟨h9, h⟩
 ·refine mk (fun h => by omega) (fun h => by omega) (fun h => by omega) (fun h => by omega) (fun _ => ?_) (fun h => by omega) (fun h => by omega)
  show uwi c
  obtain ⟨kk, f1, _, g1, h, rfl⟩ := h1
  rcases h with ⟨rfl, ⟨b, e2, _, hb, ⟨p, e3, _, hp, ⟨rfl, rfl⟩, rfl⟩, rfl⟩⟩ | ⟨hk1', h⟩
  ·exact ⟨fun _ => ⟨ur8 hb, (une hp).2⟩, fun h => by cases h⟩
  ·rcases h with ⟨rfl, ⟨x, f1, _, g1, ⟨y, f2, _, g2, ⟨w, f3, _, g3, ⟨h, f4, _, g4, ⟨t, f5, _, g5, ⟨ps, f6, _, g6, ⟨rfl, rfl⟩, rfl⟩, rfl⟩, rfl⟩, rfl⟩, rfl⟩, rfl⟩⟩ | ⟨hk2, ⟨rfl, rfl⟩⟩
   ·refine ⟨fun h => (by cases h), fun _ => ⟨⟨g1.1, g2.1, g3.1, g4.1, g5.1⟩, (ums g6).2, ?_⟩⟩
    have h1 := uq2 g6
    have h2 := congrArg List.length (ums g6).1
    have h3 := unk w h
    have h4 : ∀ l : List Pxl, (ulp l).length = 4 * l.length := by
     intro l
     induction l with
     | nil => rfl
     | cons a l ih => simp [ulp] at ih ⊢; omega
    rw [h4] at h2
    show (ps.map Pxl.of).length ≤ 10000000
    omega
   ·exact ⟨fun h => absurd h hk1', fun h => absurd h hk2⟩
 rcases h with ⟨rfl, f, e1, _, h1, h, rfl⟩ | ⟨h10, h⟩
 ·rcases h with ⟨rfl, b, e2, _, h2, ⟨rfl, rfl⟩, rfl⟩ | ⟨hf, ⟨rfl, rfl⟩⟩
  ·exact mk (fun h => by omega) (fun h => by omega) (fun h => by omega) (fun h => by omega) (fun h => by omega) (fun _ _ => uta h2) (fun h => by omega)
  ·exact mk (fun h => by omega) (fun h => by omega) (fun h => by omega) (fun h => by omega) (fun h => by omega) (fun _ h => by cases h) (fun h => by omega)
 rcases h with ⟨rfl, f, e1, _, h1, h, rfl⟩ | ⟨h11, h⟩
 ·rcases h with ⟨rfl, b, e2, _, h2, ⟨rfl, rfl⟩, rfl⟩ | ⟨hf, ⟨rfl, rfl⟩⟩
  ·exact mk (fun h => by omega) (fun h => by omega) (fun h => by omega) (fun h => by omega) (fun h => by omega) (fun h => by omega) (fun _ _ => uta h2)
  ·exact mk (fun h => by omega) (fun h => by omega) (fun h => by omega) (fun h => by omega) (fun h => by omega) (fun h => by omega) (fun _ h => by cases h)
 exact mk (fun h => absurd h h5) (fun h => absurd h h6) (fun h => absurd h h7) (fun h => absurd h h8) (fun h => absurd h h9) (fun h => absurd h h10) (fun h => absurd h h11)
theorem actN_of {a : Ac} {es : List Nat} (h : actG a es) : ActN a ∧ (a.kind = 12 ∨ a.kind = 13 ∨ a.kind = 14 → okO a.op) := by
 obtain ⟨b, _, _, ⟨hb, rfl⟩, h, rfl⟩ := h
 have hz : okO Opr.zero := ⟨fun h => (by cases h), fun h => (by cases h), fun h => (by cases h)⟩
 rcases h with ⟨hr, h⟩ | ⟨_, h⟩
 ·rcases h with ⟨rfl, x, e1, _, h1, ⟨y, e2, _, h2, ⟨rfl, rfl⟩, rfl⟩, rfl⟩ | ⟨h12, h⟩
  ·exact ⟨⟨fun _ => ⟨h1.1, h2.1⟩, fun h => (by cases h), fun h => absurd rfl h⟩, fun _ => hz⟩
  rcases h with ⟨rfl, c, e1, _, ⟨n, f1, _, _, ⟨r, f2, _, h2, ⟨rfl, rfl⟩, rfl⟩, rfl⟩, ⟨rfl, rfl⟩, rfl⟩ | ⟨h13, h⟩
  ·exact ⟨⟨fun h => (by cases h), fun _ => h2.1, fun _ h => absurd rfl h⟩, fun _ => hz⟩
  rcases h with ⟨rfl, ⟨rfl, rfl⟩⟩ | ⟨h14, h⟩
  ·exact ⟨⟨fun h => (by cases h), fun h => (by cases h), fun _ _ h => absurd rfl h⟩, fun _ => hz⟩
  obtain ⟨o, e1, _, h1, ⟨rfl, rfl⟩, rfl⟩ := h
  refine ⟨⟨fun h => ?_, fun h => ?_, fun _ _ _ => oprN_of h1 (by omega) (by omega)⟩, fun h => ?_⟩
  ·have h : (b : Int) = 12 := h
   omega
  ·have h : (b : Int) = 13 := h
   omega
  ·have h : (b : Int) = 12 ∨ (b : Int) = 13 ∨ (b : Int) = 14 := h
   omega
 ·exact h.elim
theorem uup : ∀ (k u : Nat), u < 10 ^ (k + 1) → (Lib.decDigits u).length ≤ k + 1
 | 0, u, h => by
  rw [Lib.decDigits, dif_pos (by simpa using h)]
  simp
 | k + 1, u, h => by
  by_cases hu : u < 10
  ·rw [Lib.decDigits, dif_pos hu]
   simp
  ·rw [Lib.decDigits, dif_neg hu, List.length_append]
   have := uup k (u / 10) (by
    rw [Nat.div_lt_iff_lt_mul (by omega)]
    rw [Nat.pow_succ] at h
    exact h)
   simp
   omega
theorem ur0 {n : Int} (h : InR n) : (Lib.itoa n).length ≤ 12 := by
 obtain ⟨h0, h1⟩ := h
 unfold Lib.itoa
 split
 ·have := uup 10 n.natAbs (by simp; omega)
  simp
  omega
 ·have := uup 10 n.toNat (by simp; omega)
  omega
def Short (ws : List Wd) : Prop := ∀ u ∈ ws, u.length ≤ 12
theorem Short.nil : Short [] := fun u hu => by cases hu
theorem Short.cons {u : Wd} {ws : List Wd} (h : u.length ≤ 12) (hs : Short ws) : Short (u :: ws) := fun v hv => by
 rcases List.mem_cons.1 hv with rfl | hv
 ·exact h
 ·exact hs v hv
theorem Short.app {us ws : List Wd} (h : Short us) (hs : Short ws) : Short (us ++ ws) := fun v hv => by
 rcases List.mem_append.1 hv with hv | hv
 ·exact h v hv
 ·exact hs v hv
theorem Short.nms {xs : List Int} (h : ∀ x ∈ xs, InR x) : Short (nums xs) := fun u hu => by
 obtain ⟨x, hx, rfl⟩ := List.mem_map.1 hu
 exact ur0 (h x hx)
theorem kindW_le (op : Int) : (uuf op).length ≤ 12 := by
 unfold uuf
 have h : ∀ u ∈ kinds, u.length ≤ 12 := by decide
 rcases hk : kinds[op.toNat - 1]? with _ | u
 ·simp [List.getD, hk]
 ·simp only [List.getD, hk, Option.getD_some]
  exact h u (lmG hk)
theorem Short.node {n : ubb} (h : uwh n) : Short (umz n) :=
 .cons (kindW_le _) (.app (.nms h.ir) (.cons (by decide) (.app (.nms h.pr) (.cons (by decide) .nil))))
theorem Short.graph {g : Gr} (h : uom g) (b : Bool) : Short (ulg b g) ∧ (ulg b g).length ≤ 203001 := by
 cases b
 ·exact ⟨.cons (by decide) .nil, by simp [ulg]⟩
 ·refine ⟨.cons (ur0 h.out) fun u hu => ?_, ?_⟩
  ·obtain ⟨n, hn, hu⟩ := List.mem_flatMap.1 hu
   exact Short.node (h.nodes n hn) u hu
  ·have h1 := ui2 g.nodes h.nodes
   have h2 := h.len
   show (Lib.itoa g.out :: g.nodes.flatMap umz).length ≤ 203001
   rw [List.length_cons]
   omega
theorem Short.cont {i : Int × Int} {c : Ct} (hi : InR i.1 ∧ InR i.2) (h : uwi c) (hk : 0 ≤ c.kind ∧ c.kind ≤ 2) : Short (unx i c) ∧ (unx i c).length ≤ 10000008 := by
 have h3 : c.kind = 0 ∨ c.kind = 1 ∨ c.kind = 2 := by omega
 rcases h3 with h0 | h0 | h0
 ·rw [unx, if_pos h0]
  exact ⟨.cons (by decide) (.nms (ul8 hi.1 hi.2)), by simp [nums]⟩
 ·rw [unx, if_neg (by omega), if_pos h0]
  obtain ⟨⟨b0, b1, b2, b3⟩, -⟩ := h.one h0
  refine ⟨.cons (by decide) (.app (.app (us := nums [i.1, i.2]) (.nms (ul8 hi.1 hi.2)) (.nms (ur1 b0 b1 b2 b3))) (.cons (by simp [pxW]) .nil)), by simp [nums]⟩
 ·rw [unx, if_neg (by omega), if_neg (by omega)]
  obtain ⟨⟨b0, b1, b2, b3, b4⟩, -, hl⟩ := h.two h0
  refine ⟨.cons (by decide) (.app (.app (us := nums [i.1, i.2]) (.nms (ul8 hi.1 hi.2)) (.nms (in_five b0 b1 b2 b3 b4))) fun u hu => ?_), by simp [nums]; omega⟩
  obtain ⟨p, -, rfl⟩ := List.mem_map.1 hu
  simp [pxW]
theorem Short.tree {o : Opr} (h : OprN o) : Short (uml o) := by
 unfold uml
 split
 ·rename_i k
  exact .cons (by decide) (.app (us := nums [o.to.1, o.to.2]) (.nms (ul8 (h.tt (.inl k)).1 (h.tt (.inl k)).2)) (.nms (unv (h.at_ (.inl k)))))
 split
 ·exact .cons (by decide) (.nms (ul8 (h.id (by omega)).1 (h.id (by omega)).2))
 split
 ·rename_i k
  exact .cons (by decide) (.app (us := nums [o.id.1, o.id.2, o.to.1, o.to.2]) (.nms (ur1 (h.id (by omega)).1 (h.id (by omega)).2 (h.tt (.inr k)).1 (h.tt (.inr k)).2)) (.nms (unv (h.at_ (.inr (.inl k))))))
 split
 ·rename_i k
  exact .cons (by decide) (.app (us := nums [o.id.1, o.id.2]) (.nms (ul8 (h.id (by omega)).1 (h.id (by omega)).2)) (.nms (unv (h.at_ (.inr (.inr k))))))
 ·exact .nil
theorem Short.look {o : Opr} (h : OprN o) (hk : okO o) : Short (ulb o) ∧ (ulb o).length ≤ 10000020 := by
 unfold ulb
 split
 ·rename_i k
  have hi := h.id (by omega)
  exact ⟨.cons (by decide) (.app (us := nums [o.id.1, o.id.2]) (.nms (ul8 hi.1 hi.2)) (.nms (ul8 (h.shift k).1 (h.shift k).2))), by simp [nums]⟩
 split
 ·rename_i k
  have hi := h.id (by omega)
  refine ⟨.cons (by decide) (.app (.nms (ul8 hi.1 hi.2)) ?_), ?_⟩
  ·split
   ·rename_i hc
    obtain ⟨b0, b1, b2, b3⟩ := h.clip k hc
    exact .nms (ur1 b0 b1 b2 b3)
   ·exact .cons (by decide) .nil
  ·split <;> simp [nums]
 split
 ·rename_i k
  have hi := h.id (by omega)
  exact ⟨.cons (by decide) (.app (us := nums [o.id.1, o.id.2]) (.nms (ul8 hi.1 hi.2)) (.nms (unv (h.fade k)))), by simp [nums]⟩
 split
 ·rename_i k
  have hi := h.id (by omega)
  exact ⟨.cons (by decide) (.app (us := nums [o.id.1, o.id.2]) (.nms (ul8 hi.1 hi.2)) (.nms (unv (h.mode k)))), by simp [nums]⟩
 split
 ·rename_i k
  have := Short.cont (h.id (by omega)) (h.show_ k) (hk.1 k)
  exact ⟨this.1, by omega⟩
 split
 ·rename_i k
  have hi := h.id (by omega)
  rcases hf : o.look.hasFilt with _ | _
  ·exact ⟨.cons (by decide) (.app (.nms (ul8 hi.1 hi.2)) (.cons (by decide) .nil)), by simp [nums, ulg]⟩
  ·have := Short.graph (h.filt k hf) true
   exact ⟨.cons (by decide) (.app (.nms (ul8 hi.1 hi.2)) this.1), by simp [nums]; omega⟩
 split
 ·rename_i k
  have hi := h.id (by omega)
  rcases hf : o.look.hasBack with _ | _
  ·exact ⟨.cons (by decide) (.app (.nms (ul8 hi.1 hi.2)) (.cons (by decide) .nil)), by simp [nums, ulg]⟩
  ·have := Short.graph (h.back k hf) true
   exact ⟨.cons (by decide) (.app (.nms (ul8 hi.1 hi.2)) this.1), by simp [nums]; omega⟩
 ·exact ⟨.nil, by simp⟩
theorem Short.flags (c : Cf) : Short (um7 c) := by
 unfold um7
 refine .app ?_ (.app ?_ (.app ?_ ?_)) <;> split <;> first | exact .nil | exact .cons (by decide) .nil
theorem Short.words {a : Ac} (h : ActN a) (hk : okO a.op) : Short (ukp a) ∧ (ukp a).length ≤ 10000100 := by
 unfold ukp
 split
 ·rename_i k
  exact ⟨.cons (by decide) (.nms (ul8 (h.view k).1 (h.view k).2)), by simp [nums]⟩
 split
 ·rename_i k
  have := flagsW_len a.conf
  exact ⟨.cons (by decide) (.cons (ur0 (h.conf k)) (.flags _)), by simp; omega⟩
 split
 ·exact ⟨.cons (by decide) .nil, by simp⟩
 ·rename_i k2 k3 k4
  have ho := h.opr k2 k3 k4
  have h1 := Short.look ho hk
  have h2 := treeW_len a.op
  exact ⟨.app (.tree ho) h1.1, by rw [List.length_append]; omega⟩
theorem join_len : ∀ (ws : List Wd), Short ws → ([32].intercalate ws).length ≤ 13 * ws.length
 | [], _ => by simp [List.intercalate]
 | [w], h => by
  have := h w List.mem_cons_self
  simp [List.intercalate]
  omega
 | w :: v :: ws, h => by
  have h1 := h w List.mem_cons_self
  have h2 := join_len (v :: ws) fun u hu => h u (List.mem_cons_of_mem _ hu)
  rw [show [32].intercalate (w :: v :: ws) = w ++ 32 :: [32].intercalate (v :: ws) by simp [List.intercalate, List.intersperse]]
  simp only [List.length_append, List.length_cons] at *
  omega
open Go.RowKit Go.Gou
theorem upu (w : World) : Calls Tryz.prog 15 #[.nilIface] w fun e w' => e = .returned (.bool false) ∧ w' = w := by
 go_enter Tryz.func15, Tryz.ntmps15
 go_wp2
 go_ret
 exact ⟨rfl, rfl⟩
set_option maxRecDepth 100000 in
theorem uot (w : World) : Calls Tryz.prog 15 #[.iface 84 (.agg #[])] w fun e w' => e = .returned (.bool true) ∧ Gou.Mod (fun _ => False) w w' := by
 go_enter Tryz.func15, Tryz.ntmps15
 have ha : (Instr.typeAssert (.iface 84 (.agg #[])) 20 84 true).run Tryz.prog w = .ok (.tuple #[.agg #[], .bool true]) w := by
  simp [Instr.typeAssert, go_sem, Tryz.underlying84]
 go_wp2
 go_ret
 exact ⟨rfl, Mod.alloc _ _ _⟩
set_option maxRecDepth 100000 in
theorem tput_idle (p0 p1 : Value) (w : World) :
  CallsD Tryz.prog 14 #[p0, p1] .returning w fun e u' w' => e = .returned (.tuple #[]) ∧ u' = .returning ∧ w' = w := by
 refine callsD_of_wpS Tryz.func14 rfl fun c₀ cs hu => ?_
 apply wpS_seq
 apply wpS_region
 simp [wpOpsS, go_sem, recoverD, hu, Tryz.ntmps14, Exit.thenS]
 refine (upu _).mono ?_
 rintro e w' ⟨rfl, rfl⟩
 simp [wpOpsS, go_sem, recoverD, hu, Tryz.ntmps14, Exit.thenS]
 refine wpS_cond (t := false) (by simp [Act.eval, Array.replicate]) ?_
 simp only [Bool.false_eq_true, if_false]
 refine wpS_of_wp (wp_skip ?_)
 cases c₀
 simp_all [bodyPostS, results, Tryz.results14]
set_option maxRecDepth 100000 in
theorem utx (O E : Nat) (vo ve : Value) (w0 w : World) (older : List PanicEntry) (hm0 : Gou.Mod (fun _ => False) w0 w)
  (hO : Blk w O 9 #[vo]) (hE : Blk w E 44 #[ve]) (hO0 : w0.heap.size ≤ O) (hE0 : w0.heap.size ≤ E) (hOE : O ≠ E) :
  CallsD Tryz.prog 14 #[.pointer (some ⟨O, 0, none⟩), .pointer (some ⟨E, 0, none⟩)] (.panicking ({ v := .iface 84 (.agg #[]), recovered := false } :: older)) w fun e u' w' =>
   e = .returned (.tuple #[]) ∧ u' = .panicking ({ v := .iface 84 (.agg #[]), recovered := true } :: older) ∧ Gou.Mod (fun _ => False) w0 w' ∧ Blk w' O 9 #[.string ⟨#[]⟩] ∧ Blk w' E 44 #[iV 1] := by
 refine callsD_of_wpS Tryz.func14 rfl fun c₀ cs' hu => ?_
 apply wpS_seq
 apply wpS_region
 simp [wpOpsS, go_sem, recoverD, hu, Tryz.ntmps14, Exit.thenS]
 refine (uot _).mono ?_
 rintro e w1 ⟨rfl, hm1⟩
 have hO1 := hO.mod hm1 (fun h => h)
 have hE1 := hE.mod hm1 (fun h => h)
 have cO := hO1.cell 0 rfl
 have fO := hO1.frozen 0
 have hE2 := hE1.mod (Gou.Mod.setCell w1 ⟨O, 0, none⟩ (.string ⟨#[]⟩)) (fun h => hOE h.symm)
 have cE := hE2.cell 0 rfl
 have fE := hE2.frozen 0
 have hO3 := (hO1.set 0 (.string ⟨#[]⟩)).mod (Gou.Mod.setCell _ ⟨E, 0, none⟩ (iV 1)) (fun h => hOE h)
 have hE3 := hE2.set 0 (iV 1)
 have hm3 := ((hm0.trans' hm1).own ⟨O, 0, none⟩ (.string ⟨#[]⟩) hO0).own ⟨E, 0, none⟩ (iV 1) hE0
 have HE := hd' (And.intro hm3 (And.intro hO3 hE3))
 clear hO3 hE3 hm3 hE2 hO1 hE1 hm0 hO hE hm1
 simp [wpOpsS, go_sem, recoverD, hu, Tryz.ntmps14, Exit.thenS]
 refine wpS_cond (t := true) (by simp [Act.eval, Array.replicate]) ?_
 simp only [if_true]
 refine wpS_of_wp ?_
 go_wp2_with fail
 cases c₀
 simp_all [bodyPostS, results, Tryz.results14]
 exact HE.o
end Go.Proofs.YtgolafbneiffpaaGreatDoor
namespace Go.Gou
open Go.RowKit
theorem unu (c e : Ac) : c = e ↔ c.op.kind = e.op.kind ∧ c.op.id = e.op.id ∧ c.op.to = e.op.to ∧ c.op.at_ = e.op.at_ ∧ c.op.look = e.op.look ∧ c.kind = e.kind ∧ c.w = e.w ∧ c.h = e.h ∧ c.conf = e.conf := by
 obtain ⟨a1, ⟨a2, a3, a4, a5, a6⟩, a7, a8, a9⟩ := c
 obtain ⟨b1, ⟨b2, b3, b4, b5, b6⟩, b7, b8, b9⟩ := e
 constructor
 ·intro h; cases h; simp
 ·rintro ⟨h1, h2, h3, h4, h5, h6, h7, h8, h9⟩
  simp only at h1 h2 h3 h4 h5 h6 h7 h8 h9
  subst h1 h2 h3 h4 h5 h6 h7 h8 h9
  rfl
theorem uo1 (a : Ac) (vp vf vb : Value) : (actC a vp vf vb).toList = [iV a.kind, iV a.op.kind, iV a.op.id.1, iV a.op.id.2, iV a.op.to.1, iV a.op.to.2, iV a.op.at_] ++ ((uai a.op.look vp vf vb).toList ++ [iV a.w, iV a.h, .bool a.conf.fuse, .bool a.conf.alias, .bool a.conf.roi, .bool a.conf.damage, iV a.conf.room]) := rfl
end Go.Gou
namespace Go.Proofs.YtgolafbneiffpaaGreatDoor
open Go.RowKit Go.Gou
set_option maxRecDepth 100000
theorem udm (a b : Int × Int) (w : World) : (binOp .eql 23 (.agg #[iV a.1, iV a.2]) (.agg #[iV b.1, iV b.2])).run Tryz.prog w = .ok (.bool (decide (a = b))) w := by
 simp only [binOp, Sem.run_bind, id_eql, Result.andThen_ok, Sem.run_pure, Prod.ext_iff]
theorem conf_op (a b : Cf) (w : World) : (binOp .eql 39 (.agg #[.bool a.fuse, .bool a.alias, .bool a.roi, .bool a.damage, iV a.room]) (.agg #[.bool b.fuse, .bool b.alias, .bool b.roi, .bool b.damage, iV b.room])).run Tryz.prog w = .ok (.bool (decide (a = b))) w := by
 simp only [binOp, Sem.run_bind, conf_eql, Result.andThen_ok, Sem.run_pure]
theorem uon (w : World) (G1 G2 : Nat → Prop) (p1 p2 p3 q1 q2 q3 : Option Addr) (k1 k2 k3 j1 j2 j3 : Nat) (c e : Ac) (hx : LookR G1 w c.op.look (.slice p1 c.op.look.content.pix.length k1) (.slice p2 c.op.look.filt.nodes.length k2) (.slice p3 c.op.look.back.nodes.length k3)) (hy : LookR G2 w e.op.look (.slice q1 e.op.look.content.pix.length j1) (.slice q2 e.op.look.filt.nodes.length j2) (.slice q3 e.op.look.back.nodes.length j3)) (l1 : LookBorne c.op.look) (l2 : LookBorne e.op.look) :
  Calls Tryz.prog 32 #[.agg (actC c (.slice p1 c.op.look.content.pix.length k1) (.slice p2 c.op.look.filt.nodes.length k2) (.slice p3 c.op.look.back.nodes.length k3)), .agg (actC e (.slice q1 e.op.look.content.pix.length j1) (.slice q2 e.op.look.filt.nodes.length j2) (.slice q3 e.op.look.back.nodes.length j3))] w fun r w' => r = .returned (.bool (decide (c = e))) ∧ Gou.Mod (fun _ => False) w w' := by
 have HM : Hid (Gou.Mod (fun _ => False) w ((w.alloc (.cells (actC c (.slice p1 c.op.look.content.pix.length k1) (.slice p2 c.op.look.filt.nodes.length k2) (.slice p3 c.op.look.back.nodes.length k3)) 41)).alloc (.cells (actC e (.slice q1 e.op.look.content.pix.length j1) (.slice q2 e.op.look.filt.nodes.length j2) (.slice q3 e.op.look.back.nodes.length j3)) 41))) := hd' ((Gou.Mod.alloc _ _ _).trans' (Gou.Mod.alloc _ _ _))
 have Hx := hd' (LookR.mod hx HM.o (fun _ _ _ h => h))
 have Hy := hd' (LookR.mod hy HM.o (fun _ _ _ h => h))
 have L1 := hd' l1
 have L2 := hd' l2
 have HA : Hid (Blk ((w.alloc (.cells (actC c (.slice p1 c.op.look.content.pix.length k1) (.slice p2 c.op.look.filt.nodes.length k2) (.slice p3 c.op.look.back.nodes.length k3)) 41)).alloc (.cells (actC e (.slice q1 e.op.look.content.pix.length j1) (.slice q2 e.op.look.filt.nodes.length j2) (.slice q3 e.op.look.back.nodes.length j3)) 41)) w.heap.size 41 (actC c (.slice p1 c.op.look.content.pix.length k1) (.slice p2 c.op.look.filt.nodes.length k2) (.slice p3 c.op.look.back.nodes.length k3))) := hd' ((show Blk (w.alloc (.cells (actC c (.slice p1 c.op.look.content.pix.length k1) (.slice p2 c.op.look.filt.nodes.length k2) (.slice p3 c.op.look.back.nodes.length k3)) 41)) w.heap.size 41 _ from heap_alloc_new w _).mod (Gou.Mod.alloc (fun _ => False) _ _) (fun h => h))
 have HB : Hid (Blk ((w.alloc (.cells (actC c (.slice p1 c.op.look.content.pix.length k1) (.slice p2 c.op.look.filt.nodes.length k2) (.slice p3 c.op.look.back.nodes.length k3)) 41)).alloc (.cells (actC e (.slice q1 e.op.look.content.pix.length j1) (.slice q2 e.op.look.filt.nodes.length j2) (.slice q3 e.op.look.back.nodes.length j3)) 41)) (w.heap.size + 1) 41 (actC e (.slice q1 e.op.look.content.pix.length j1) (.slice q2 e.op.look.filt.nodes.length j2) (.slice q3 e.op.look.back.nodes.length j3))) := hd' (by
  have := heap_alloc_new (w.alloc (.cells (actC c (.slice p1 c.op.look.content.pix.length k1) (.slice p2 c.op.look.filt.nodes.length k2) (.slice p3 c.op.look.back.nodes.length k3)) 41)) (.cells (actC e (.slice q1 e.op.look.content.pix.length j1) (.slice q2 e.op.look.filt.nodes.length j2) (.slice q3 e.op.look.back.nodes.length j3)) 41)
  rw [World.size_alloc] at this
  exact this)
 have Hra : Hid ((((w.alloc (.cells (actC c (.slice p1 c.op.look.content.pix.length k1) (.slice p2 c.op.look.filt.nodes.length k2) (.slice p3 c.op.look.back.nodes.length k3)) 41)).alloc (.cells (actC e (.slice q1 e.op.look.content.pix.length j1) (.slice q2 e.op.look.filt.nodes.length j2) (.slice q3 e.op.look.back.nodes.length j3)) 41))).rangeAt w.heap.size 7 (lkS c.op.look p1 k1 p2 k2 p3 k3).toList) := hd' (Blk.range HA.o (uo1 c _ _ _) rfl)
 have Hrb : Hid ((((w.alloc (.cells (actC c (.slice p1 c.op.look.content.pix.length k1) (.slice p2 c.op.look.filt.nodes.length k2) (.slice p3 c.op.look.back.nodes.length k3)) 41)).alloc (.cells (actC e (.slice q1 e.op.look.content.pix.length j1) (.slice q2 e.op.look.filt.nodes.length j2) (.slice q3 e.op.look.back.nodes.length j3)) 41))).rangeAt (w.heap.size + 1) 7 (lkS e.op.look q1 j1 q2 j2 q3 j3).toList) := hd' (Blk.range HB.o (uo1 e _ _ _) rfl)
 have HiA : Hid ((Tryz.prog.info? 35).map (·.size) = some (lkS c.op.look p1 k1 p2 k2 p3 k3).toList.length) := hd' (size_look.trans (by simp [uai]))
 have HiB : Hid ((Tryz.prog.info? 35).map (·.size) = some (lkS e.op.look q1 j1 q2 j2 q3 j3).toList.length) := hd' (size_look.trans (by simp [uai]))
 clear hx hy l1 l2
 have a1 : (((w.alloc (.cells (actC c (.slice p1 c.op.look.content.pix.length k1) (.slice p2 c.op.look.filt.nodes.length k2) (.slice p3 c.op.look.back.nodes.length k3)) 41)).alloc (.cells (actC e (.slice q1 e.op.look.content.pix.length j1) (.slice q2 e.op.look.filt.nodes.length j2) (.slice q3 e.op.look.back.nodes.length j3)) 41))).cell? ⟨w.heap.size, 1, none⟩ = some (iV c.op.kind) := HA.o.cell 1 rfl
 have b1 : (((w.alloc (.cells (actC c (.slice p1 c.op.look.content.pix.length k1) (.slice p2 c.op.look.filt.nodes.length k2) (.slice p3 c.op.look.back.nodes.length k3)) 41)).alloc (.cells (actC e (.slice q1 e.op.look.content.pix.length j1) (.slice q2 e.op.look.filt.nodes.length j2) (.slice q3 e.op.look.back.nodes.length j3)) 41))).cell? ⟨w.heap.size + 1, 1, none⟩ = some (iV e.op.kind) := HB.o.cell 1 rfl
 have a2 : (((w.alloc (.cells (actC c (.slice p1 c.op.look.content.pix.length k1) (.slice p2 c.op.look.filt.nodes.length k2) (.slice p3 c.op.look.back.nodes.length k3)) 41)).alloc (.cells (actC e (.slice q1 e.op.look.content.pix.length j1) (.slice q2 e.op.look.filt.nodes.length j2) (.slice q3 e.op.look.back.nodes.length j3)) 41))).cell? ⟨w.heap.size, 2, none⟩ = some (iV c.op.id.1) := HA.o.cell 2 rfl
 have b2 : (((w.alloc (.cells (actC c (.slice p1 c.op.look.content.pix.length k1) (.slice p2 c.op.look.filt.nodes.length k2) (.slice p3 c.op.look.back.nodes.length k3)) 41)).alloc (.cells (actC e (.slice q1 e.op.look.content.pix.length j1) (.slice q2 e.op.look.filt.nodes.length j2) (.slice q3 e.op.look.back.nodes.length j3)) 41))).cell? ⟨w.heap.size + 1, 2, none⟩ = some (iV e.op.id.1) := HB.o.cell 2 rfl
 have a3 : (((w.alloc (.cells (actC c (.slice p1 c.op.look.content.pix.length k1) (.slice p2 c.op.look.filt.nodes.length k2) (.slice p3 c.op.look.back.nodes.length k3)) 41)).alloc (.cells (actC e (.slice q1 e.op.look.content.pix.length j1) (.slice q2 e.op.look.filt.nodes.length j2) (.slice q3 e.op.look.back.nodes.length j3)) 41))).cell? ⟨w.heap.size, 3, none⟩ = some (iV c.op.id.2) := HA.o.cell 3 rfl
 have b3 : (((w.alloc (.cells (actC c (.slice p1 c.op.look.content.pix.length k1) (.slice p2 c.op.look.filt.nodes.length k2) (.slice p3 c.op.look.back.nodes.length k3)) 41)).alloc (.cells (actC e (.slice q1 e.op.look.content.pix.length j1) (.slice q2 e.op.look.filt.nodes.length j2) (.slice q3 e.op.look.back.nodes.length j3)) 41))).cell? ⟨w.heap.size + 1, 3, none⟩ = some (iV e.op.id.2) := HB.o.cell 3 rfl
 have a4 : (((w.alloc (.cells (actC c (.slice p1 c.op.look.content.pix.length k1) (.slice p2 c.op.look.filt.nodes.length k2) (.slice p3 c.op.look.back.nodes.length k3)) 41)).alloc (.cells (actC e (.slice q1 e.op.look.content.pix.length j1) (.slice q2 e.op.look.filt.nodes.length j2) (.slice q3 e.op.look.back.nodes.length j3)) 41))).cell? ⟨w.heap.size, 4, none⟩ = some (iV c.op.to.1) := HA.o.cell 4 rfl
 have b4 : (((w.alloc (.cells (actC c (.slice p1 c.op.look.content.pix.length k1) (.slice p2 c.op.look.filt.nodes.length k2) (.slice p3 c.op.look.back.nodes.length k3)) 41)).alloc (.cells (actC e (.slice q1 e.op.look.content.pix.length j1) (.slice q2 e.op.look.filt.nodes.length j2) (.slice q3 e.op.look.back.nodes.length j3)) 41))).cell? ⟨w.heap.size + 1, 4, none⟩ = some (iV e.op.to.1) := HB.o.cell 4 rfl
 have a5 : (((w.alloc (.cells (actC c (.slice p1 c.op.look.content.pix.length k1) (.slice p2 c.op.look.filt.nodes.length k2) (.slice p3 c.op.look.back.nodes.length k3)) 41)).alloc (.cells (actC e (.slice q1 e.op.look.content.pix.length j1) (.slice q2 e.op.look.filt.nodes.length j2) (.slice q3 e.op.look.back.nodes.length j3)) 41))).cell? ⟨w.heap.size, 5, none⟩ = some (iV c.op.to.2) := HA.o.cell 5 rfl
 have b5 : (((w.alloc (.cells (actC c (.slice p1 c.op.look.content.pix.length k1) (.slice p2 c.op.look.filt.nodes.length k2) (.slice p3 c.op.look.back.nodes.length k3)) 41)).alloc (.cells (actC e (.slice q1 e.op.look.content.pix.length j1) (.slice q2 e.op.look.filt.nodes.length j2) (.slice q3 e.op.look.back.nodes.length j3)) 41))).cell? ⟨w.heap.size + 1, 5, none⟩ = some (iV e.op.to.2) := HB.o.cell 5 rfl
 have a6 : (((w.alloc (.cells (actC c (.slice p1 c.op.look.content.pix.length k1) (.slice p2 c.op.look.filt.nodes.length k2) (.slice p3 c.op.look.back.nodes.length k3)) 41)).alloc (.cells (actC e (.slice q1 e.op.look.content.pix.length j1) (.slice q2 e.op.look.filt.nodes.length j2) (.slice q3 e.op.look.back.nodes.length j3)) 41))).cell? ⟨w.heap.size, 6, none⟩ = some (iV c.op.at_) := HA.o.cell 6 rfl
 have b6 : (((w.alloc (.cells (actC c (.slice p1 c.op.look.content.pix.length k1) (.slice p2 c.op.look.filt.nodes.length k2) (.slice p3 c.op.look.back.nodes.length k3)) 41)).alloc (.cells (actC e (.slice q1 e.op.look.content.pix.length j1) (.slice q2 e.op.look.filt.nodes.length j2) (.slice q3 e.op.look.back.nodes.length j3)) 41))).cell? ⟨w.heap.size + 1, 6, none⟩ = some (iV e.op.at_) := HB.o.cell 6 rfl
 have Hr1 := hd' (udm c.op.id e.op.id)
 have Hr2 := hd' (udm c.op.to e.op.to)
 have Hr3 := hd' (conf_op c.conf e.conf)
 have HRi := Hr1.o
 have HRt := Hr2.o
 have HRc := Hr3.o
 go_enter Tryz.func32, Tryz.ntmps32
 by_cases h_op_kind : c.op.kind = e.op.kind
 case neg =>
  have q_op_kind : (c.op.kind == e.op.kind) = false := by simp [h_op_kind]
  have Hq : Hid (decide (c = e) = false) := hd' (by simp [unu, h_op_kind])
  clear h_op_kind
  go_wp2_with fail
  go_ret
  exact ⟨by rw [Hq.o]; rfl, HM.o⟩
 have q_op_kind : (c.op.kind == e.op.kind) = true := by simp [h_op_kind]
 have I_op_kind := hd' h_op_kind
 clear h_op_kind
 by_cases h_op_id : c.op.id = e.op.id
 case neg =>
  have q_op_id : decide (c.op.id = e.op.id) = false := by simp [h_op_id]
  have Hq : Hid (decide (c = e) = false) := hd' (by simp [unu, h_op_id])
  clear h_op_id
  go_wp2_with fail
  go_ret
  exact ⟨by rw [Hq.o]; rfl, HM.o⟩
 have q_op_id : decide (c.op.id = e.op.id) = true := by simp [h_op_id]
 have I_op_id := hd' h_op_id
 clear h_op_id
 by_cases h_op_to : c.op.to = e.op.to
 case neg =>
  have q_op_to : decide (c.op.to = e.op.to) = false := by simp [h_op_to]
  have Hq : Hid (decide (c = e) = false) := hd' (by simp [unu, h_op_to])
  clear h_op_to
  go_wp2_with fail
  go_ret
  exact ⟨by rw [Hq.o]; rfl, HM.o⟩
 have q_op_to : decide (c.op.to = e.op.to) = true := by simp [h_op_to]
 have I_op_to := hd' h_op_to
 clear h_op_to
 by_cases h_op_at_ : c.op.at_ = e.op.at_
 case neg =>
  have q_op_at_ : (c.op.at_ == e.op.at_) = false := by simp [h_op_at_]
  have Hq : Hid (decide (c = e) = false) := hd' (by simp [unu, h_op_at_])
  clear h_op_at_
  go_wp2_with fail
  go_ret
  exact ⟨by rw [Hq.o]; rfl, HM.o⟩
 have q_op_at_ : (c.op.at_ == e.op.at_) = true := by simp [h_op_at_]
 have I_op_at_ := hd' h_op_at_
 clear h_op_at_
 go_wp2_with (first | ((with_reducible refine uj6 ?g1_1 35 ?x1_1 ?o1_1 w.heap.size 7 ?h1_1 (lkS c.op.look p1 k1 p2 k2 p3 k3).toList ?d1_1 ?c1_1 ?u1_1 ?s1_1 ?i1_1 ?r1_1); (case g1_1 => exact rfl); (case o1_1 => exact rfl); (case h1_1 => exact rfl); (case c1_1 => exact Hra.o); (case u1_1 => exact Tryz.underlying35); (case s1_1 => exact rfl); (case i1_1 => exact HiA.o)) | ((with_reducible refine uj6 ?g1_2 35 ?x1_2 ?o1_2 (w.heap.size + 1) 7 ?h1_2 (lkS e.op.look q1 j1 q2 j2 q3 j3).toList ?d1_2 ?c1_2 ?u1_2 ?s1_2 ?i1_2 ?r1_2); (case g1_2 => exact rfl); (case o1_2 => exact rfl); (case h1_2 => exact rfl); (case c1_2 => exact Hrb.o); (case u1_2 => exact Tryz.underlying35); (case s1_2 => exact rfl); (case i1_2 => exact HiB.o)) | fail)
 refine (usp _ G1 G2 p1 p2 p3 q1 q2 q3 k1 k2 k3 j1 j2 j3 c.op.look e.op.look Hx.o Hy.o L1.o L2.o).mono ?_
 rintro r w1 ⟨rfl, hm1⟩
 have HM1 := hd' (HM.o.trans' hm1)
 have HA1 := hd' (HA.o.mod hm1 (fun h => h))
 have HB1 := hd' (HB.o.mod hm1 (fun h => h))
 clear hm1
 have a0 : w1.cell? ⟨w.heap.size, 0, none⟩ = some (iV c.kind) := HA1.o.cell 0 rfl
 have b0 : w1.cell? ⟨w.heap.size + 1, 0, none⟩ = some (iV e.kind) := HB1.o.cell 0 rfl
 have a35 : w1.cell? ⟨w.heap.size, 35, none⟩ = some (iV c.w) := HA1.o.cell 35 rfl
 have b35 : w1.cell? ⟨w.heap.size + 1, 35, none⟩ = some (iV e.w) := HB1.o.cell 35 rfl
 have a36 : w1.cell? ⟨w.heap.size, 36, none⟩ = some (iV c.h) := HA1.o.cell 36 rfl
 have b36 : w1.cell? ⟨w.heap.size + 1, 36, none⟩ = some (iV e.h) := HB1.o.cell 36 rfl
 have a37 : w1.cell? ⟨w.heap.size, 37, none⟩ = some (.bool c.conf.fuse) := HA1.o.cell 37 rfl
 have b37 : w1.cell? ⟨w.heap.size + 1, 37, none⟩ = some (.bool e.conf.fuse) := HB1.o.cell 37 rfl
 have a38 : w1.cell? ⟨w.heap.size, 38, none⟩ = some (.bool c.conf.alias) := HA1.o.cell 38 rfl
 have b38 : w1.cell? ⟨w.heap.size + 1, 38, none⟩ = some (.bool e.conf.alias) := HB1.o.cell 38 rfl
 have a39 : w1.cell? ⟨w.heap.size, 39, none⟩ = some (.bool c.conf.roi) := HA1.o.cell 39 rfl
 have b39 : w1.cell? ⟨w.heap.size + 1, 39, none⟩ = some (.bool e.conf.roi) := HB1.o.cell 39 rfl
 have a40 : w1.cell? ⟨w.heap.size, 40, none⟩ = some (.bool c.conf.damage) := HA1.o.cell 40 rfl
 have b40 : w1.cell? ⟨w.heap.size + 1, 40, none⟩ = some (.bool e.conf.damage) := HB1.o.cell 40 rfl
 have a41 : w1.cell? ⟨w.heap.size, 41, none⟩ = some (iV c.conf.room) := HA1.o.cell 41 rfl
 have b41 : w1.cell? ⟨w.heap.size + 1, 41, none⟩ = some (iV e.conf.room) := HB1.o.cell 41 rfl
 by_cases h_look : c.op.look = e.op.look
 case neg =>
  have q_look : decide (c.op.look = e.op.look) = false := by simp [h_look]
  have Hq : Hid (decide (c = e) = false) := hd' (by simp [unu, h_look])
  clear h_look
  generalize decide (c.op.look = e.op.look) = q at *
  subst q_look
  go_wp2_with fail
  go_ret
  exact ⟨by rw [Hq.o]; rfl, HM1.o⟩
 have q_look : decide (c.op.look = e.op.look) = true := by simp [h_look]
 have I_look := hd' h_look
 clear h_look
 generalize decide (c.op.look = e.op.look) = q at *
 subst q_look
 by_cases h_kind : c.kind = e.kind
 case neg =>
  have q_kind : (c.kind == e.kind) = false := by simp [h_kind]
  have Hq : Hid (decide (c = e) = false) := hd' (by simp [unu, h_kind])
  clear h_kind
  go_wp2_with fail
  go_ret
  exact ⟨by rw [Hq.o]; rfl, HM1.o⟩
 have q_kind : (c.kind == e.kind) = true := by simp [h_kind]
 have I_kind := hd' h_kind
 clear h_kind
 by_cases h_w : c.w = e.w
 case neg =>
  have q_w : (c.w == e.w) = false := by simp [h_w]
  have Hq : Hid (decide (c = e) = false) := hd' (by simp [unu, h_w])
  clear h_w
  go_wp2_with fail
  go_ret
  exact ⟨by rw [Hq.o]; rfl, HM1.o⟩
 have q_w : (c.w == e.w) = true := by simp [h_w]
 have I_w := hd' h_w
 clear h_w
 by_cases h_h : c.h = e.h
 case neg =>
  have q_h : (c.h == e.h) = false := by simp [h_h]
  have Hq : Hid (decide (c = e) = false) := hd' (by simp [unu, h_h])
  clear h_h
  go_wp2_with fail
  go_ret
  exact ⟨by rw [Hq.o]; rfl, HM1.o⟩
 have q_h : (c.h == e.h) = true := by simp [h_h]
 have I_h := hd' h_h
 clear h_h
 by_cases h_conf : c.conf = e.conf
 case neg =>
  have q_conf : decide (c.conf = e.conf) = false := by simp [h_conf]
  have Hq : Hid (decide (c = e) = false) := hd' (by simp [unu, h_conf])
  clear h_conf
  go_wp2_with fail
  go_ret
  exact ⟨by rw [Hq.o]; rfl, HM1.o⟩
 have q_conf : decide (c.conf = e.conf) = true := by simp [h_conf]
 have I_conf := hd' h_conf
 clear h_conf
 have Hq : Hid (decide (c = e) = true) := hd' (by simp [unu, I_op_kind.o, I_op_id.o, I_op_to.o, I_op_at_.o, I_look.o, I_kind.o, I_w.o, I_h.o, I_conf.o])
 go_wp2_with fail
 go_ret
 exact ⟨by rw [Hq.o]; rfl, HM1.o⟩
set_option maxRecDepth 100000 in
theorem urt (p0 p1 : Value) (w : World) :
  CallsD Tryz.prog 28 #[p0, p1] .returning w fun e u' w' => e = .returned (.tuple #[]) ∧ u' = .returning ∧ w' = w := by
 refine callsD_of_wpS Tryz.func28 rfl fun c₀ cs hu => ?_
 apply wpS_seq
 apply wpS_region
 simp [wpOpsS, go_sem, recoverD, hu, Tryz.ntmps28, Exit.thenS]
 refine (uwg _).mono ?_
 rintro e w' ⟨rfl, rfl⟩
 simp [wpOpsS, go_sem, recoverD, hu, Tryz.ntmps28, Exit.thenS]
 refine wpS_cond (t := false) (by simp [Act.eval, Array.replicate]) ?_
 simp only [Bool.false_eq_true, if_false]
 refine wpS_of_wp (wp_skip ?_)
 cases c₀
 simp_all [bodyPostS, results, Tryz.results28]
set_option maxRecDepth 100000 in
theorem uvx (O E : Nat) (vo ve : Value) (w0 w : World) (older : List PanicEntry) (hm0 : Gou.Mod (fun _ => False) w0 w)
  (hO : Blk w O 61 #[vo]) (hE : Blk w E 44 #[ve]) (hO0 : w0.heap.size ≤ O) (hE0 : w0.heap.size ≤ E) (hOE : O ≠ E) :
  CallsD Tryz.prog 28 #[.pointer (some ⟨O, 0, none⟩), .pointer (some ⟨E, 0, none⟩)] (.panicking ({ v := .iface 124 (.agg #[]), recovered := false } :: older)) w fun e u' w' =>
   e = .returned (.tuple #[]) ∧ u' = .panicking ({ v := .iface 124 (.agg #[]), recovered := true } :: older) ∧ Gou.Mod (fun _ => False) w0 w' ∧ Blk w' O 61 #[.slice none 0 0] ∧ Blk w' E 44 #[iV 1] := by
 refine callsD_of_wpS Tryz.func28 rfl fun c₀ cs' hu => ?_
 apply wpS_seq
 apply wpS_region
 simp [wpOpsS, go_sem, recoverD, hu, Tryz.ntmps28, Exit.thenS]
 refine (utn _).mono ?_
 rintro e w1 ⟨rfl, hm1⟩
 have hO1 := hO.mod hm1 (fun h => h)
 have hE1 := hE.mod hm1 (fun h => h)
 have cO := hO1.cell 0 rfl
 have fO := hO1.frozen 0
 have hE2 := hE1.mod (Gou.Mod.setCell w1 ⟨O, 0, none⟩ nlS) (fun h => hOE h.symm)
 have cE := hE2.cell 0 rfl
 have fE := hE2.frozen 0
 have hO3 := (hO1.set 0 nlS).mod (Gou.Mod.setCell _ ⟨E, 0, none⟩ (iV 1)) (fun h => hOE h)
 have hE3 := hE2.set 0 (iV 1)
 have hm3 := ((hm0.trans' hm1).own ⟨O, 0, none⟩ nlS hO0).own ⟨E, 0, none⟩ (iV 1) hE0
 have HE := hd' (And.intro hm3 (And.intro hO3 hE3))
 clear hO3 hE3 hm3 hE2 hO1 hE1 hm0 hO hE hm1
 simp [wpOpsS, go_sem, recoverD, hu, Tryz.ntmps28, Exit.thenS]
 refine wpS_cond (t := true) (by simp [Act.eval, Array.replicate]) ?_
 simp only [if_true]
 refine wpS_of_wp ?_
 go_wp2_with fail
 cases c₀
 simp_all [bodyPostS, results, Tryz.results28]
 exact HE.o
end Go.Proofs.YtgolafbneiffpaaGreatDoor
namespace Go.Gou
open Go.RowKit
theorem BytesAt.of_own {w : World} {base : Nat} {e : TypeId} {v : Value} {bs : List Nat} (h : w.ownsRow base e 1 v bs.length (u8s bs)) : BytesAt (fun _ => True) w v bs := by
 have hlt := h.lt
 obtain ⟨hl, h⟩ := h
 rcases h with ⟨rfl, h0⟩ | ⟨g, cap, cur, rfl, hg, hh, hn, _, _, ht⟩
 ·obtain rfl := List.length_eq_zero_iff.1 h0
  exact ⟨none, 0, rfl, Nat.le_refl _, .inl rfl⟩
 ·refine ⟨_, cap, rfl, hn, .inr ⟨g, 0, rfl, (hlt g rfl).2, trivial, fun j hj => ?_⟩⟩
  rw [Nat.zero_add, cell_of_row w g j cur e (0, 0) hh]
  have : cur.toList[j]? = (u8s bs)[j]? := by rw [← ht, List.getElem?_take, if_pos (by omega)]
  rw [← agT, this]
  simp [hj]
end Go.Gou
namespace Go.Proofs.YtgolafbneiffpaaGreatDoor
open Go.RowKit Go.Gou
def PutP (w : World) (res : Option (List Nat)) (e : Ending) (w' : World) : Prop :=
 Gou.Mod (fun _ => False) w w' ∧ match res with
  | some bs => ∃ v, e = .returned (.tuple #[v, iV 0]) ∧ w'.ownsRow w.heap.size 5 1 v bs.length (u8s bs)
  | none => e = .returned (.tuple #[.slice none 0 0, iV 1])
theorem um3 (w : World) (o : Nat) (p : Option Addr) (n c : Nat) (h : w.cell? ⟨o, 0, none⟩ = some (.slice p n c)) : (loadVar 61 ⟨o, 0, none⟩).run Tryz.prog w = .ok (.slice p n c) w := by simp [go_sem, h]
theorem umo (w : World) (o : Nat) (n : Int) (h : w.cell? ⟨o, 0, none⟩ = some (iV n)) : (loadVar 44 ⟨o, 0, none⟩).run Tryz.prog w = .ok (iV n) w := by simp [go_sem, h]
structure PutIn (w : World) (ac : Array Value) (w' : World) : Prop where
 mod : Gou.Mod (fun _ => False) w w'
 act : Blk w' w.heap.size 41 ac
 out : Blk w' (w.heap.size + 1) 61 #[.slice none 0 0]
 err : Blk w' (w.heap.size + 1 + 1) 44 #[iV 0]
theorem PutIn.next {w : World} {ac : Array Value} {w1 w2 : World} {S : Nat → Prop} (h : PutIn w ac w1) (hm : Gou.Mod S w1 w2) (hS : ∀ k, S k → w.heap.size + 1 + 1 < k) : PutIn w ac w2 :=
 ⟨h.mod.trans hm fun i hi hs => by have := hS i hs; omega, h.act.mod hm fun hs => by have := hS _ hs; omega, h.out.mod hm fun hs => by have := hS _ hs; omega, h.err.mod hm fun hs => by have := hS _ hs; omega⟩
theorem ut8 (w : World) (ac : Array Value) : PutIn w ac (((w.alloc (.cells ac 41)).alloc (.cells #[.slice none 0 0] 61)).alloc (.cells #[iV 0] 44)) := by
 refine ⟨((Gou.Mod.alloc _ _ _).trans' (Gou.Mod.alloc _ _ _)).trans' (Gou.Mod.alloc _ _ _), ?_, ?_, ?_⟩
 ·exact ((show Blk (w.alloc (.cells ac 41)) w.heap.size 41 _ from heap_alloc_new w _).mod (Gou.Mod.alloc (fun _ => False) _ _) (fun h => h)).mod (Gou.Mod.alloc (fun _ => False) _ _) (fun h => h)
 ·have h1 : Blk ((w.alloc (.cells ac 41)).alloc (.cells #[.slice none 0 0] 61)) (w.heap.size + 1) 61 #[.slice none 0 0] := by
   have := heap_alloc_new (w.alloc (.cells ac 41)) (.cells #[.slice none 0 0] 61)
   rw [World.size_alloc] at this
   exact this
  exact h1.mod (Gou.Mod.alloc (fun _ => False) _ _) (fun h => h)
 ·have := heap_alloc_new ((w.alloc (.cells ac 41)).alloc (.cells #[.slice none 0 0] 61)) (.cells #[iV 0] 44)
  rw [World.size_alloc, World.size_alloc] at this
  exact this
theorem unn {w w1 : World} {ac : Array Value} (h : PutIn w ac w1) (older : List PanicEntry) {res : Option (List Nat)} (hr : res = none) (fn : Func) (tmps : Array Value) (hf : fn.results = #[.cell 2 61, .cell 3 44]) (h2 : tmps.getD 2 undef = .pointer (some ⟨w.heap.size + 1, 0, none⟩)) (h3 : tmps.getD 3 undef = .pointer (some ⟨w.heap.size + 1 + 1, 0, none⟩)) :
  Leaves Tryz.prog fn tmps (PutP w res) [{ target := .fn (.func 28) #[.pointer (some ⟨w.heap.size + 1, 0, none⟩), .pointer (some ⟨w.heap.size + 1 + 1, 0, none⟩)], args := #[] }] (.panicking ({ v := .iface 124 (.agg #[]), recovered := false } :: [])) w1 := by
 refine leaves_cons (f := 28) (args := #[.pointer (some ⟨w.heap.size + 1, 0, none⟩), .pointer (some ⟨w.heap.size + 1 + 1, 0, none⟩)]) (by simp) (by simp [go_sem]) ?_
 refine (uvx _ _ _ _ w w1 _ h.mod h.out h.err (by omega) (by omega) (by omega)).mono ?_
 rintro e u' w2 ⟨rfl, rfl, hm, hO, hE⟩
 have hlO := um3 _ _ _ _ _ (hO.cell 0 rfl)
 have hlE := umo _ _ _ (hE.cell 0 rfl)
 refine ⟨.tuple #[.slice none 0 0, iV 1], ?_, hm, by subst hr; rfl⟩
 exact ult hf _ _ _ _ _ _ h2 h3 hlO hlE
set_option maxRecDepth 100000 in
theorem uru (w : World) (p1 p2 p3 : Option Addr) (k1 k2 k3 : Nat) (a : Ac) (hx : LookR (fun _ => True) w a.op.look (.slice p1 a.op.look.content.pix.length k1) (.slice p2 a.op.look.filt.nodes.length k2) (.slice p3 a.op.look.back.nodes.length k3)) (hb : LookBorne a.op.look) (hs : PxSmall a.op.look.content) :
  Calls Tryz.prog 16 #[.agg (actC a (.slice p1 a.op.look.content.pix.length k1) (.slice p2 a.op.look.filt.nodes.length k2) (.slice p3 a.op.look.back.nodes.length k3))] w (PutP w (uk6 a)) := by
 have H := hd' (ut8 w (actC a (.slice p1 a.op.look.content.pix.length k1) (.slice p2 a.op.look.filt.nodes.length k2) (.slice p3 a.op.look.back.nodes.length k3)))
 have HB := hd' hb
 have HS := hd' hs
 have Hx := hd' (hx.imp (G' := fun b => b < w.heap.size) fun k hk _ => hk)
 have Hsz : Hid (((((w.alloc (.cells (actC a (.slice p1 a.op.look.content.pix.length k1) (.slice p2 a.op.look.filt.nodes.length k2) (.slice p3 a.op.look.back.nodes.length k3)) 41)).alloc (.cells #[.slice none 0 0] 61)).alloc (.cells #[iV 0] 44))).heap.size = w.heap.size + 1 + 1 + 1) := hd' (by simp)
 clear hb hs hx
 have H1 : Hid (PutIn w (actC a (.slice p1 a.op.look.content.pix.length k1) (.slice p2 a.op.look.filt.nodes.length k2) (.slice p3 a.op.look.back.nodes.length k3)) ((((w.alloc (.cells (actC a (.slice p1 a.op.look.content.pix.length k1) (.slice p2 a.op.look.filt.nodes.length k2) (.slice p3 a.op.look.back.nodes.length k3)) 41)).alloc (.cells #[.slice none 0 0] 61)).alloc (.cells #[iV 0] 44)).alloc (.cells #[.slice none 0 0] 88))) := hd' (H.o.next (S := fun _ => False) (Gou.Mod.alloc _ _ _) (fun _ h => h.elim))
 have Ha := hd' H1.o.act
 have HW : Hid (Wr ((((w.alloc (.cells (actC a (.slice p1 a.op.look.content.pix.length k1) (.slice p2 a.op.look.filt.nodes.length k2) (.slice p3 a.op.look.back.nodes.length k3)) 41)).alloc (.cells #[.slice none 0 0] 61)).alloc (.cells #[iV 0] 44)).alloc (.cells #[.slice none 0 0] 88)) (w.heap.size + 1 + 1 + 1) [] nlS) := hd' ⟨by
  have := heap_alloc_new ((((w.alloc (.cells (actC a (.slice p1 a.op.look.content.pix.length k1) (.slice p2 a.op.look.filt.nodes.length k2) (.slice p3 a.op.look.back.nodes.length k3)) 41)).alloc (.cells #[.slice none 0 0] 61)).alloc (.cells #[iV 0] 44))) (.cells #[.slice none 0 0] 88)
  rw [Hsz.o] at this
  exact this, ⟨rfl, .inl ⟨rfl, rfl⟩⟩⟩
 have Hl : Hid (LookR (fun b => b < (w.heap.size + 1 + 1 + 1)) ((((w.alloc (.cells (actC a (.slice p1 a.op.look.content.pix.length k1) (.slice p2 a.op.look.filt.nodes.length k2) (.slice p3 a.op.look.back.nodes.length k3)) 41)).alloc (.cells #[.slice none 0 0] 61)).alloc (.cells #[iV 0] 44)).alloc (.cells #[.slice none 0 0] 88)) a.op.look (.slice p1 a.op.look.content.pix.length k1) (.slice p2 a.op.look.filt.nodes.length k2) (.slice p3 a.op.look.back.nodes.length k3)) := hd' ((Hx.o.mod H1.o.mod (fun _ _ _ h => h)).imp fun k _ hk => by omega)
 go_enter_defers Tryz.func16, Tryz.ntmps16
 go_wp2_with (first | ((with_reducible refine wpList_load_row ?g1_1 41 ?x1_1 ?o1_1 w.heap.size ?h1_1 ?t1_1 ?c1_1 ?f1_1 ?d1_1 ?b1_1 ?u1_1 ?s1_1 ?i1_1 ?r1_1); (case g1_1 => exact rfl); (case o1_1 => exact rfl); (case h1_1 => exact rfl); (case b1_1 => exact Ha.o); (case u1_1 => exact Tryz.underlying41); (case s1_1 => exact rfl); (case i1_1 => exact size_act.trans (by simp [actC]))) | fail)
 refine (wact_any _ (w.heap.size + 1 + 1 + 1) [] nlS p1 k1 p2 k2 p3 k3 a HW.o Hl.o (by simp)).mono ?_
 rintro e w2 ⟨vs, t2, h2⟩
 have H2 : Hid (PutIn w (actC a (.slice p1 a.op.look.content.pix.length k1) (.slice p2 a.op.look.filt.nodes.length k2) (.slice p3 a.op.look.back.nodes.length k3)) w2) := hd' (H1.o.next t2.mod (fun k hk => by
  rcases hk with rfl | hk
  ·omega
  ·cases hk))
 rcases he : ukf a with _ | es
 ·rw [he] at h2
  subst h2
  have Hno : Hid (uk6 a = none) := hd' (by unfold uk6; rw [he]; rfl)
  clear t2 he
  go_wp2_with fail
  exact unn H2.o [] Hno.o _ _ rfl rfl rfl
 rw [he] at h2
 obtain ⟨rfl, hw2⟩ := h2
 rw [List.nil_append] at hw2
 have Hw2 := hd' hw2
 have Hfi := hd' (umx he HS.o)
 have He := hd' he
 obtain ⟨pv, cv, rfl⟩ := Gou.ownsRow_form hw2.own
 have cb := hw2.box.cell 0 rfl
 have hBlt := Blk.lt hw2.box
 have Hrd : Hid (RdAt (w2.alloc (.cells #[.slice pv es.length cv, iV 0] 91)) w2.heap.size (.slice pv es.length cv) es 0) := hd' (RdAt.make (BytesAt.of_own hw2.own) Hfi.o.2 (by have := Hfi.o.1; unfold maxLen; omega))
 have H3 : Hid (PutIn w (actC a (.slice p1 a.op.look.content.pix.length k1) (.slice p2 a.op.look.filt.nodes.length k2) (.slice p3 a.op.look.back.nodes.length k3)) (w2.alloc (.cells #[.slice pv es.length cv, iV 0] 91))) := hd' (H2.o.next (S := fun _ => False) (Gou.Mod.alloc _ _ _) (fun _ h => h.elim))
 have Hw3 : Hid (Wr (w2.alloc (.cells #[.slice pv es.length cv, iV 0] 91)) (w.heap.size + 1 + 1 + 1) es (.slice pv es.length cv)) := hd' (hw2.alloc _)
 have Hs3 : Hid (w2.heap.size < (w2.alloc (.cells #[.slice pv es.length cv, iV 0] 91)).heap.size) := hd' (by simp)
 have hvlt := hw2.own.lt
 have Hvlt := hd' hvlt
 clear hvlt hw2 t2 he
 go_wp2_with fail
 generalize hW3 : w2.alloc (.cells #[.slice pv es.length cv, iV 0] 91) = w3 at *
 clear hW3 cb
 have Ha3 : Hid (Blk w3.drew w.heap.size 41 (actC a (.slice p1 a.op.look.content.pix.length k1) (.slice p2 a.op.look.filt.nodes.length k2) (.slice p3 a.op.look.back.nodes.length k3))) := hd' H3.o.act
 refine wp_region_any (by kernel_rfl) ?_
 try (change wpAny _ _ _ _ _ _ _ (World.drew _))
 refine wpAny_ready (rs := [0, 2]) (by kernel_rfl) (by simp) ?_
 refine AllReady.cons rfl (fun K hK => ?_) (AllReady.cons rfl (fun K hK => ?_) AllReady.nil)
 ·go_simp
  refine hK _ _ ?_
  clear hK K
  refine wpAny_ready (rs := [1, 2]) (by kernel_rfl) (by simp) ?_
  refine AllReady.cons rfl (fun K hK => ?_) (AllReady.cons rfl (fun K hK => ?_) AllReady.nil)
  ·go_simp
   refine (uus w3.drew w2.heap.size (.slice pv es.length cv) es 0 Hrd.o.drew).mono ?_
   rintro e w4 ⟨hm4, h4⟩
   have H4 : Hid (PutIn w (actC a (.slice p1 a.op.look.content.pix.length k1) (.slice p2 a.op.look.filt.nodes.length k2) (.slice p3 a.op.look.back.nodes.length k3)) w4) := hd' (H3.o.next ((Gou.Mod.drew (fun k => k = w2.heap.size) w3).trans' hm4) (fun k hk => by subst hk; omega))
   have Hw4 : Hid (Wr w4 (w.heap.size + 1 + 1 + 1) es (.slice pv es.length cv)) := hd' (Hw3.o.other ((Gou.Mod.drew (fun k => k = w2.heap.size) w3).trans' hm4) (by omega) (fun k hk e => by subst e; have := (Hvlt.o _ hk).2; omega))
   rcases hn : uk9 es 0 with _ | ⟨x, m⟩
   ·rw [hn] at h4
    obtain ⟨rfl, _⟩ := h4
    have Hno : Hid (uk6 a = none) := hd' (by unfold uk6; rw [He.o, Option.bind_some, hn]; rfl)
    exact unn H4.o [] Hno.o _ _ rfl rfl rfl
   rw [hn] at h4
   obtain ⟨_, rfl, ⟨vp, vf, vb, rfl, hlr, hsoft⟩, hr4⟩ := h4
   obtain ⟨q1, j1, rfl, _⟩ := RowG.form hlr.pix
   obtain ⟨q2, j2, rfl⟩ := hlr.filt.form
   obtain ⟨q3, j3, rfl⟩ := hlr.back.form
   have Hlr := hd' hlr
   have Hn := hd' hn
   have Hbx : Hid (LookBorne x.op.look) := hd' (by
    obtain ⟨_, _, _, _, h, _⟩ := um4 Hfi.o.2 hn
    exact h)
   have HR4 := hd' (Hx.o.mod H4.o.mod (fun _ _ _ h => h))
   clear hlr hn hr4 hsoft hm4
   refine hK _ _ ?_
   clear hK K
   refine wpAny_ready (rs := [2]) (by kernel_rfl) (by simp) ?_
   refine AllReady.cons rfl (fun K hK => ?_) AllReady.nil
   refine wp_load_mid 41 _ rfl w.heap.size 0 rfl (actC a (.slice p1 a.op.look.content.pix.length k1) (.slice p2 a.op.look.filt.nodes.length k2) (.slice p3 a.op.look.back.nodes.length k3)).toList _ (Blk.range (pre := []) (post := []) H4.o.act (by rw [List.append_nil]; rfl) rfl) Tryz.underlying41 rfl (size_act.trans (by simp [actC])) ?_
   refine hK _ _ ?_
   clear hK K
   refine wpAny_ready (rs := [3]) (by kernel_rfl) (by simp) ?_
   refine AllReady.cons rfl (fun K3 hK3 => ?_) AllReady.nil
   go_simp
   refine (uon w4 _ _ q1 q2 q3 p1 p2 p3 j1 j2 j3 k1 k2 k3 x a Hlr.o HR4.o Hbx.o HB.o).mono ?_
   rintro e w5 ⟨rfl, hm5⟩
   have H5 : Hid (PutIn w (actC a (.slice p1 a.op.look.content.pix.length k1) (.slice p2 a.op.look.filt.nodes.length k2) (.slice p3 a.op.look.back.nodes.length k3)) w5) := hd' (H4.o.next hm5 (fun _ h => h.elim))
   have Hw5 : Hid (Wr w5 (w.heap.size + 1 + 1 + 1) es (.slice pv es.length cv)) := hd' (Hw4.o.other hm5 (fun h => h) (fun _ _ h => h))
   clear hm5
   refine hK3 _ _ ?_
   clear hK3 K3
   by_cases hxa : x = a
   ·have Hyes : Hid (uk6 a = some es) := hd' (by unfold uk6; rw [He.o, Option.bind_some, Hn.o, Option.bind_some, if_pos hxa])
    have hd : decide (x = a) = true := by simp [hxa]
    clear hxa
    generalize decide (x = a) = q at *
    subst hd
    refine wpAny_ready (rs := [4]) (by kernel_rfl) (by simp) ?_
    refine AllReady.cons rfl (fun K3 hK3 => ?_) AllReady.nil
    go_simp
    refine (uku _).mono ?_
    rintro e w6 ⟨rfl, hww⟩
    obtain rfl : w5 = w6 := hww.symm
    clear hww
    refine hK3 _ _ ?_
    clear hK3 K3
    refine wpAny_done (by kernel_rfl) ?_ _
    have cb := Hw5.o.box.cell 0 rfl
    have cO := H5.o.out.cell 0 rfl
    have fO := H5.o.out.frozen 0
    have hO1 := H5.o.out.set 0 (.slice pv es.length cv)
    have hE1 := H5.o.err.mod (Gou.Mod.setCell w5 ⟨(w.heap.size + 1), 0, none⟩ (.slice pv es.length cv)) (by simp)
    have cE := hE1.cell 0 rfl
    have fE := hE1.frozen 0
    have hE2 := hE1.set 0 (iV 0)
    have hO2 := hO1.mod (Gou.Mod.setCell _ ⟨(w.heap.size + 1 + 1), 0, none⟩ (iV 0)) (by simp)
    have hmm := (H5.o.mod.own ⟨(w.heap.size + 1), 0, none⟩ (.slice pv es.length cv) (by simp)).own ⟨(w.heap.size + 1 + 1), 0, none⟩ (iV 0) (by simp; omega)
    have hown := uac (uac Hw5.o.own (Gou.Mod.setCell w5 ⟨(w.heap.size + 1), 0, none⟩ (.slice pv es.length cv)) (fun k hk e => by have := (Hw5.o.own.lt k hk).1; simp at e; omega)) (Gou.Mod.setCell _ ⟨(w.heap.size + 1 + 1), 0, none⟩ (iV 0)) (fun k hk e => by have := (Hw5.o.own.lt k hk).1; simp at e; omega)
    have HE := hd' (And.intro hO2 (And.intro hE2 (And.intro hmm (uno (base' := w.heap.size) hown (by omega)))))
    clear hO1 hE1 hE2 hO2 hmm hown
    go_wp2_with fail
    refine leaves_cons (f := 28) (args := #[.pointer (some ⟨(w.heap.size + 1), 0, none⟩), .pointer (some ⟨(w.heap.size + 1 + 1), 0, none⟩)]) (by simp) (by simp [go_sem]) ?_
    refine (urt _ _ _).mono ?_
    rintro e u' w7 ⟨rfl, rfl, rfl⟩
    obtain ⟨hO2, hE2, hmm, hown⟩ := HE.o
    refine ⟨.tuple #[.slice pv es.length cv, iV 0], ?_, hmm, by rw [Hyes.o]; exact ⟨_, rfl, hown⟩⟩
    exact ult rfl _ _ _ _ _ _ rfl rfl (um3 _ _ _ _ _ (hO2.cell 0 rfl)) (umo _ _ _ (hE2.cell 0 rfl))
   ·have Hno : Hid (uk6 a = none) := hd' (by unfold uk6; rw [He.o, Option.bind_some, Hn.o, Option.bind_some, if_neg hxa])
    have hd : decide (x = a) = false := by simp [hxa]
    clear hxa
    generalize decide (x = a) = q at *
    subst hd
    refine wpAny_ready (rs := [4]) (by kernel_rfl) (by simp) ?_
    refine AllReady.cons rfl (fun K3 hK3 => ?_) AllReady.nil
    go_simp
    refine (ukq _).mono ?_
    rintro e w6 ⟨rfl, hww⟩
    obtain rfl : w5 = w6 := hww.symm
    exact unn H5.o [] Hno.o _ _ rfl rfl rfl
  ·refine wp_load_mid 41 _ rfl w.heap.size 0 rfl (actC a (.slice p1 a.op.look.content.pix.length k1) (.slice p2 a.op.look.filt.nodes.length k2) (.slice p3 a.op.look.back.nodes.length k3)).toList _ (Blk.range (pre := []) (post := []) Ha3.o (by rw [List.append_nil]; rfl) rfl) Tryz.underlying41 rfl (size_act.trans (by simp [actC])) ?_
   refine hK _ _ ?_
   clear hK K
   refine wpAny_ready (rs := [1]) (by kernel_rfl) (by simp) ?_
   refine AllReady.cons rfl (fun K hK => ?_) AllReady.nil
   go_simp
   refine (uus w3.drew w2.heap.size (.slice pv es.length cv) es 0 Hrd.o.drew).mono ?_
   rintro e w4 ⟨hm4, h4⟩
   have H4 : Hid (PutIn w (actC a (.slice p1 a.op.look.content.pix.length k1) (.slice p2 a.op.look.filt.nodes.length k2) (.slice p3 a.op.look.back.nodes.length k3)) w4) := hd' (H3.o.next ((Gou.Mod.drew (fun k => k = w2.heap.size) w3).trans' hm4) (fun k hk => by subst hk; omega))
   have Hw4 : Hid (Wr w4 (w.heap.size + 1 + 1 + 1) es (.slice pv es.length cv)) := hd' (Hw3.o.other ((Gou.Mod.drew (fun k => k = w2.heap.size) w3).trans' hm4) (by omega) (fun k hk e => by subst e; have := (Hvlt.o _ hk).2; omega))
   rcases hn : uk9 es 0 with _ | ⟨x, m⟩
   ·rw [hn] at h4
    obtain ⟨rfl, _⟩ := h4
    have Hno : Hid (uk6 a = none) := hd' (by unfold uk6; rw [He.o, Option.bind_some, hn]; rfl)
    exact unn H4.o [] Hno.o _ _ rfl rfl rfl
   rw [hn] at h4
   obtain ⟨_, rfl, ⟨vp, vf, vb, rfl, hlr, hsoft⟩, hr4⟩ := h4
   obtain ⟨q1, j1, rfl, _⟩ := RowG.form hlr.pix
   obtain ⟨q2, j2, rfl⟩ := hlr.filt.form
   obtain ⟨q3, j3, rfl⟩ := hlr.back.form
   have Hlr := hd' hlr
   have Hn := hd' hn
   have Hbx : Hid (LookBorne x.op.look) := hd' (by
    obtain ⟨_, _, _, _, h, _⟩ := um4 Hfi.o.2 hn
    exact h)
   have HR4 := hd' (Hx.o.mod H4.o.mod (fun _ _ _ h => h))
   clear hlr hn hr4 hsoft hm4
   refine hK _ _ ?_
   clear hK K
   refine wpAny_ready (rs := [3]) (by kernel_rfl) (by simp) ?_
   refine AllReady.cons rfl (fun K3 hK3 => ?_) AllReady.nil
   go_simp
   refine (uon w4 _ _ q1 q2 q3 p1 p2 p3 j1 j2 j3 k1 k2 k3 x a Hlr.o HR4.o Hbx.o HB.o).mono ?_
   rintro e w5 ⟨rfl, hm5⟩
   have H5 : Hid (PutIn w (actC a (.slice p1 a.op.look.content.pix.length k1) (.slice p2 a.op.look.filt.nodes.length k2) (.slice p3 a.op.look.back.nodes.length k3)) w5) := hd' (H4.o.next hm5 (fun _ h => h.elim))
   have Hw5 : Hid (Wr w5 (w.heap.size + 1 + 1 + 1) es (.slice pv es.length cv)) := hd' (Hw4.o.other hm5 (fun h => h) (fun _ _ h => h))
   clear hm5
   refine hK3 _ _ ?_
   clear hK3 K3
   by_cases hxa : x = a
   ·have Hyes : Hid (uk6 a = some es) := hd' (by unfold uk6; rw [He.o, Option.bind_some, Hn.o, Option.bind_some, if_pos hxa])
    have hd : decide (x = a) = true := by simp [hxa]
    clear hxa
    generalize decide (x = a) = q at *
    subst hd
    refine wpAny_ready (rs := [4]) (by kernel_rfl) (by simp) ?_
    refine AllReady.cons rfl (fun K3 hK3 => ?_) AllReady.nil
    go_simp
    refine (uku _).mono ?_
    rintro e w6 ⟨rfl, hww⟩
    obtain rfl : w5 = w6 := hww.symm
    clear hww
    refine hK3 _ _ ?_
    clear hK3 K3
    refine wpAny_done (by kernel_rfl) ?_ _
    have cb := Hw5.o.box.cell 0 rfl
    have cO := H5.o.out.cell 0 rfl
    have fO := H5.o.out.frozen 0
    have hO1 := H5.o.out.set 0 (.slice pv es.length cv)
    have hE1 := H5.o.err.mod (Gou.Mod.setCell w5 ⟨(w.heap.size + 1), 0, none⟩ (.slice pv es.length cv)) (by simp)
    have cE := hE1.cell 0 rfl
    have fE := hE1.frozen 0
    have hE2 := hE1.set 0 (iV 0)
    have hO2 := hO1.mod (Gou.Mod.setCell _ ⟨(w.heap.size + 1 + 1), 0, none⟩ (iV 0)) (by simp)
    have hmm := (H5.o.mod.own ⟨(w.heap.size + 1), 0, none⟩ (.slice pv es.length cv) (by simp)).own ⟨(w.heap.size + 1 + 1), 0, none⟩ (iV 0) (by simp; omega)
    have hown := uac (uac Hw5.o.own (Gou.Mod.setCell w5 ⟨(w.heap.size + 1), 0, none⟩ (.slice pv es.length cv)) (fun k hk e => by have := (Hw5.o.own.lt k hk).1; simp at e; omega)) (Gou.Mod.setCell _ ⟨(w.heap.size + 1 + 1), 0, none⟩ (iV 0)) (fun k hk e => by have := (Hw5.o.own.lt k hk).1; simp at e; omega)
    have HE := hd' (And.intro hO2 (And.intro hE2 (And.intro hmm (uno (base' := w.heap.size) hown (by omega)))))
    clear hO1 hE1 hE2 hO2 hmm hown
    go_wp2_with fail
    refine leaves_cons (f := 28) (args := #[.pointer (some ⟨(w.heap.size + 1), 0, none⟩), .pointer (some ⟨(w.heap.size + 1 + 1), 0, none⟩)]) (by simp) (by simp [go_sem]) ?_
    refine (urt _ _ _).mono ?_
    rintro e u' w7 ⟨rfl, rfl, rfl⟩
    obtain ⟨hO2, hE2, hmm, hown⟩ := HE.o
    refine ⟨.tuple #[.slice pv es.length cv, iV 0], ?_, hmm, by rw [Hyes.o]; exact ⟨_, rfl, hown⟩⟩
    exact ult rfl _ _ _ _ _ _ rfl rfl (um3 _ _ _ _ _ (hO2.cell 0 rfl)) (umo _ _ _ (hE2.cell 0 rfl))
   ·have Hno : Hid (uk6 a = none) := hd' (by unfold uk6; rw [He.o, Option.bind_some, Hn.o, Option.bind_some, if_neg hxa])
    have hd : decide (x = a) = false := by simp [hxa]
    clear hxa
    generalize decide (x = a) = q at *
    subst hd
    refine wpAny_ready (rs := [4]) (by kernel_rfl) (by simp) ?_
    refine AllReady.cons rfl (fun K3 hK3 => ?_) AllReady.nil
    go_simp
    refine (ukq _).mono ?_
    rintro e w6 ⟨rfl, hww⟩
    obtain rfl : w5 = w6 := hww.symm
    exact unn H5.o [] Hno.o _ _ rfl rfl rfl
 ·refine wp_load_mid 41 _ rfl w.heap.size 0 rfl (actC a (.slice p1 a.op.look.content.pix.length k1) (.slice p2 a.op.look.filt.nodes.length k2) (.slice p3 a.op.look.back.nodes.length k3)).toList _ (Blk.range (pre := []) (post := []) Ha3.o (by rw [List.append_nil]; rfl) rfl) Tryz.underlying41 rfl (size_act.trans (by simp [actC])) ?_
  refine hK _ _ ?_
  clear hK K
  refine wpAny_ready (rs := [0]) (by kernel_rfl) (by simp) ?_
  refine AllReady.cons rfl (fun K hK => ?_) AllReady.nil
  go_simp
  refine hK _ _ ?_
  clear hK K
  refine wpAny_ready (rs := [1]) (by kernel_rfl) (by simp) ?_
  refine AllReady.cons rfl (fun K hK => ?_) AllReady.nil
  go_simp
  refine (uus w3.drew w2.heap.size (.slice pv es.length cv) es 0 Hrd.o.drew).mono ?_
  rintro e w4 ⟨hm4, h4⟩
  have H4 : Hid (PutIn w (actC a (.slice p1 a.op.look.content.pix.length k1) (.slice p2 a.op.look.filt.nodes.length k2) (.slice p3 a.op.look.back.nodes.length k3)) w4) := hd' (H3.o.next ((Gou.Mod.drew (fun k => k = w2.heap.size) w3).trans' hm4) (fun k hk => by subst hk; omega))
  have Hw4 : Hid (Wr w4 (w.heap.size + 1 + 1 + 1) es (.slice pv es.length cv)) := hd' (Hw3.o.other ((Gou.Mod.drew (fun k => k = w2.heap.size) w3).trans' hm4) (by omega) (fun k hk e => by subst e; have := (Hvlt.o _ hk).2; omega))
  rcases hn : uk9 es 0 with _ | ⟨x, m⟩
  ·rw [hn] at h4
   obtain ⟨rfl, _⟩ := h4
   have Hno : Hid (uk6 a = none) := hd' (by unfold uk6; rw [He.o, Option.bind_some, hn]; rfl)
   exact unn H4.o [] Hno.o _ _ rfl rfl rfl
  rw [hn] at h4
  obtain ⟨_, rfl, ⟨vp, vf, vb, rfl, hlr, hsoft⟩, hr4⟩ := h4
  obtain ⟨q1, j1, rfl, _⟩ := RowG.form hlr.pix
  obtain ⟨q2, j2, rfl⟩ := hlr.filt.form
  obtain ⟨q3, j3, rfl⟩ := hlr.back.form
  have Hlr := hd' hlr
  have Hn := hd' hn
  have Hbx : Hid (LookBorne x.op.look) := hd' (by
   obtain ⟨_, _, _, _, h, _⟩ := um4 Hfi.o.2 hn
   exact h)
  have HR4 := hd' (Hx.o.mod H4.o.mod (fun _ _ _ h => h))
  clear hlr hn hr4 hsoft hm4
  refine hK _ _ ?_
  clear hK K
  refine wpAny_ready (rs := [3]) (by kernel_rfl) (by simp) ?_
  refine AllReady.cons rfl (fun K3 hK3 => ?_) AllReady.nil
  go_simp
  refine (uon w4 _ _ q1 q2 q3 p1 p2 p3 j1 j2 j3 k1 k2 k3 x a Hlr.o HR4.o Hbx.o HB.o).mono ?_
  rintro e w5 ⟨rfl, hm5⟩
  have H5 : Hid (PutIn w (actC a (.slice p1 a.op.look.content.pix.length k1) (.slice p2 a.op.look.filt.nodes.length k2) (.slice p3 a.op.look.back.nodes.length k3)) w5) := hd' (H4.o.next hm5 (fun _ h => h.elim))
  have Hw5 : Hid (Wr w5 (w.heap.size + 1 + 1 + 1) es (.slice pv es.length cv)) := hd' (Hw4.o.other hm5 (fun h => h) (fun _ _ h => h))
  clear hm5
  refine hK3 _ _ ?_
  clear hK3 K3
  by_cases hxa : x = a
  ·have Hyes : Hid (uk6 a = some es) := hd' (by unfold uk6; rw [He.o, Option.bind_some, Hn.o, Option.bind_some, if_pos hxa])
   have hd : decide (x = a) = true := by simp [hxa]
   clear hxa
   generalize decide (x = a) = q at *
   subst hd
   refine wpAny_ready (rs := [4]) (by kernel_rfl) (by simp) ?_
   refine AllReady.cons rfl (fun K3 hK3 => ?_) AllReady.nil
   go_simp
   refine (uku _).mono ?_
   rintro e w6 ⟨rfl, hww⟩
   obtain rfl : w5 = w6 := hww.symm
   clear hww
   refine hK3 _ _ ?_
   clear hK3 K3
   refine wpAny_done (by kernel_rfl) ?_ _
   have cb := Hw5.o.box.cell 0 rfl
   have cO := H5.o.out.cell 0 rfl
   have fO := H5.o.out.frozen 0
   have hO1 := H5.o.out.set 0 (.slice pv es.length cv)
   have hE1 := H5.o.err.mod (Gou.Mod.setCell w5 ⟨(w.heap.size + 1), 0, none⟩ (.slice pv es.length cv)) (by simp)
   have cE := hE1.cell 0 rfl
   have fE := hE1.frozen 0
   have hE2 := hE1.set 0 (iV 0)
   have hO2 := hO1.mod (Gou.Mod.setCell _ ⟨(w.heap.size + 1 + 1), 0, none⟩ (iV 0)) (by simp)
   have hmm := (H5.o.mod.own ⟨(w.heap.size + 1), 0, none⟩ (.slice pv es.length cv) (by simp)).own ⟨(w.heap.size + 1 + 1), 0, none⟩ (iV 0) (by simp; omega)
   have hown := uac (uac Hw5.o.own (Gou.Mod.setCell w5 ⟨(w.heap.size + 1), 0, none⟩ (.slice pv es.length cv)) (fun k hk e => by have := (Hw5.o.own.lt k hk).1; simp at e; omega)) (Gou.Mod.setCell _ ⟨(w.heap.size + 1 + 1), 0, none⟩ (iV 0)) (fun k hk e => by have := (Hw5.o.own.lt k hk).1; simp at e; omega)
   have HE := hd' (And.intro hO2 (And.intro hE2 (And.intro hmm (uno (base' := w.heap.size) hown (by omega)))))
   clear hO1 hE1 hE2 hO2 hmm hown
   go_wp2_with fail
   refine leaves_cons (f := 28) (args := #[.pointer (some ⟨(w.heap.size + 1), 0, none⟩), .pointer (some ⟨(w.heap.size + 1 + 1), 0, none⟩)]) (by simp) (by simp [go_sem]) ?_
   refine (urt _ _ _).mono ?_
   rintro e u' w7 ⟨rfl, rfl, rfl⟩
   obtain ⟨hO2, hE2, hmm, hown⟩ := HE.o
   refine ⟨.tuple #[.slice pv es.length cv, iV 0], ?_, hmm, by rw [Hyes.o]; exact ⟨_, rfl, hown⟩⟩
   exact ult rfl _ _ _ _ _ _ rfl rfl (um3 _ _ _ _ _ (hO2.cell 0 rfl)) (umo _ _ _ (hE2.cell 0 rfl))
  ·have Hno : Hid (uk6 a = none) := hd' (by unfold uk6; rw [He.o, Option.bind_some, Hn.o, Option.bind_some, if_neg hxa])
   have hd : decide (x = a) = false := by simp [hxa]
   clear hxa
   generalize decide (x = a) = q at *
   subst hd
   refine wpAny_ready (rs := [4]) (by kernel_rfl) (by simp) ?_
   refine AllReady.cons rfl (fun K3 hK3 => ?_) AllReady.nil
   go_simp
   refine (ukq _).mono ?_
   rintro e w6 ⟨rfl, hww⟩
   obtain rfl : w5 = w6 := hww.symm
   exact unn H5.o [] Hno.o _ _ rfl rfl rfl
open Go.RowKit Go.Gou Go.Txt
set_option maxRecDepth 100000
theorem urr (x y : List UInt8) : (⟨x.toArray⟩ : ByteArray) ++ ⟨y.toArray⟩ = ⟨(x ++ y).toArray⟩ := by
 apply ByteArray.ext
 simp [ByteArray.data_append]
theorem join_any {G : Nat → Prop} (w : World) (v : Value) (us : List Wd) (hx : RowG G w 1 v us.length (strs us)) (hl : us.length ≤ 1000000000) (hj : ([32].intercalate us).length ≤ 100000000000) :
  Calls Tryz.prog 19 #[v, .string ⟨#[32]⟩] w fun e w' => e = .returned (.string ⟨([32].intercalate us).toArray⟩) ∧ Gou.Mod (fun _ => False) w w' := by
 obtain ⟨-, p, cap, rfl, hcap, hc⟩ := hx
 rcases hc with h0 | ⟨b, o, rfl, hb, -, hc⟩
 ·obtain rfl := List.length_eq_zero_iff.1 h0
  refine (Tryz.strings_Join_none p cap ⟨#[32]⟩ w).mono ?_
  rintro e w' ⟨rfl, rfl⟩
  exact ⟨rfl, Gou.Mod.refl _ _⟩
 ·have h := Tryz.strings_Join b o cap (us.map fun u => ⟨u.toArray⟩) ⟨#[32]⟩ w (fun j x hx => by
   rw [List.getElem?_map] at hx
   rcases hu : us[j]? with _ | u
   ·rw [hu] at hx
    cases hx
   ·rw [hu] at hx
    simp only [Option.map_some, Option.some.injEq] at hx
    subst hx
    exact hc j _ (by rw [strs, List.getElem?_map, hu]; rfl)) hb (by rw [List.length_map]; omega) (by rw [List.length_map]; exact hcap) (by
   simp only [List.map_map, Function.comp_def, List.map_id']
   exact Nat.le_trans hj (by omega))
  rw [List.length_map] at h
  refine h.mono ?_
  rintro e w' ⟨rfl, hbl⟩
  refine ⟨?_, Gou.Mod.of_below hbl _⟩
  simp only [List.map_map, Function.comp_def, List.map_id']
  rfl
def TPutP (w : World) (res : Option (List UInt8)) (e : Ending) (w' : World) : Prop :=
 Gou.Mod (fun _ => False) w w' ∧ match res with
  | some s => e = .returned (.tuple #[.string ⟨s.toArray⟩, iV 0])
  | none => e = .returned (.tuple #[.string ⟨#[]⟩, iV 1])
theorem uqy (w : World) (o : Nat) (s : ByteArray) (h : w.cell? ⟨o, 0, none⟩ = some (.string s)) : (loadVar 9 ⟨o, 0, none⟩).run Tryz.prog w = .ok (.string s) w := by simp [go_sem, h]
structure TIn (w : World) (ac : Array Value) (er : Int) (w' : World) : Prop where
 mod : Gou.Mod (fun _ => False) w w'
 act : Blk w' w.heap.size 41 ac
 out : Blk w' (w.heap.size + 1) 9 #[.string ⟨#[]⟩]
 err : Blk w' (w.heap.size + 1 + 1) 44 #[iV er]
theorem TIn.next {w : World} {ac : Array Value} {er : Int} {w1 w2 : World} {S : Nat → Prop} (h : TIn w ac er w1) (hm : Gou.Mod S w1 w2) (hS : ∀ k, S k → w.heap.size + 1 + 1 < k) : TIn w ac er w2 :=
 ⟨h.mod.trans hm fun i hi hs => by have := hS i hs; omega, h.act.mod hm fun hs => by have := hS _ hs; omega, h.out.mod hm fun hs => by have := hS _ hs; omega, h.err.mod hm fun hs => by have := hS _ hs; omega⟩
theorem TIn.seterr {w : World} {ac : Array Value} {er : Int} {w1 : World} (h : TIn w ac er w1) (n : Int) : TIn w ac n (w1.setCell ⟨w.heap.size + 1 + 1, 0, none⟩ (iV n)) :=
 ⟨h.mod.own _ _ (by show w.heap.size ≤ w.heap.size + 1 + 1; omega), h.act.mod (Gou.Mod.setCell w1 ⟨w.heap.size + 1 + 1, 0, none⟩ _) (fun e => by simp at e; omega), h.out.mod (Gou.Mod.setCell w1 ⟨w.heap.size + 1 + 1, 0, none⟩ _) (fun e => by simp at e), h.err.set 0 _⟩
theorem tin_start (w : World) (ac : Array Value) : TIn w ac 0 (((w.alloc (.cells ac 41)).alloc (.cells #[.string ⟨#[]⟩] 9)).alloc (.cells #[iV 0] 44)) := by
 refine ⟨((Gou.Mod.alloc _ _ _).trans' (Gou.Mod.alloc _ _ _)).trans' (Gou.Mod.alloc _ _ _), ?_, ?_, ?_⟩
 ·exact ((show Blk (w.alloc (.cells ac 41)) w.heap.size 41 _ from heap_alloc_new w _).mod (Gou.Mod.alloc (fun _ => False) _ _) (fun h => h)).mod (Gou.Mod.alloc (fun _ => False) _ _) (fun h => h)
 ·have h1 : Blk ((w.alloc (.cells ac 41)).alloc (.cells #[.string ⟨#[]⟩] 9)) (w.heap.size + 1) 9 #[.string ⟨#[]⟩] := by
   have := heap_alloc_new (w.alloc (.cells ac 41)) (.cells #[.string ⟨#[]⟩] 9)
   rw [World.size_alloc] at this
   exact this
  exact h1.mod (Gou.Mod.alloc (fun _ => False) _ _) (fun h => h)
 ·have := heap_alloc_new ((w.alloc (.cells ac 41)).alloc (.cells #[.string ⟨#[]⟩] 9)) (.cells #[iV 0] 44)
  rw [World.size_alloc, World.size_alloc] at this
  exact this
theorem usj {w w1 : World} {ac : Array Value} {er : Int} (h : TIn w ac er w1) (older : List PanicEntry) {res : Option (List UInt8)} (hr : res = none) (fn : Func) (tmps : Array Value) (hf : fn.results = #[.cell 2 9, .cell 3 44]) (h2 : tmps.getD 2 undef = .pointer (some ⟨w.heap.size + 1, 0, none⟩)) (h3 : tmps.getD 3 undef = .pointer (some ⟨w.heap.size + 1 + 1, 0, none⟩)) :
  Leaves Tryz.prog fn tmps (TPutP w res) [{ target := .fn (.func 14) #[.pointer (some ⟨w.heap.size + 1, 0, none⟩), .pointer (some ⟨w.heap.size + 1 + 1, 0, none⟩)], args := #[] }] (.panicking ({ v := .iface 84 (.agg #[]), recovered := false } :: [])) w1 := by
 refine leaves_cons (f := 14) (args := #[.pointer (some ⟨w.heap.size + 1, 0, none⟩), .pointer (some ⟨w.heap.size + 1 + 1, 0, none⟩)]) (by simp) (by simp [go_sem]) ?_
 refine (utx _ _ _ _ w w1 _ h.mod h.out h.err (by omega) (by omega) (by omega)).mono ?_
 rintro e u' w2 ⟨rfl, rfl, hm, hO, hE⟩
 have hlO := uqy _ _ _ (hO.cell 0 rfl)
 have hlE := umo _ _ _ (hE.cell 0 rfl)
 refine ⟨.tuple #[.string ⟨#[]⟩, iV 1], ?_, hm, by subst hr; rfl⟩
 exact ult hf _ _ _ _ _ _ h2 h3 hlO hlE
theorem tput_any (w : World) (p1 p2 p3 : Option Addr) (k1 k2 k3 : Nat) (a : Ac) (ht : LT w) (hx : LookR (fun _ => True) w a.op.look (.slice p1 a.op.look.content.pix.length k1) (.slice p2 a.op.look.filt.nodes.length k2) (.slice p3 a.op.look.back.nodes.length k3)) (hb : LookBorne a.op.look) (hs : PxSmall a.op.look.content) :
  Calls Tryz.prog 9 #[.agg (actC a (.slice p1 a.op.look.content.pix.length k1) (.slice p2 a.op.look.filt.nodes.length k2) (.slice p3 a.op.look.back.nodes.length k3))] w (TPutP w (putT a)) := by
 generalize hR : putT a = R
 have HR := hd' hR
 clear hR
 have H0 := hd' (tin_start w (actC a (.slice p1 a.op.look.content.pix.length k1) (.slice p2 a.op.look.filt.nodes.length k2) (.slice p3 a.op.look.back.nodes.length k3)))
 have HB := hd' hb
 have HS := hd' hs
 have Ht := hd' ht
 have Hx := hd' hx
 have Hsz : Hid (((((w.alloc (.cells (actC a (.slice p1 a.op.look.content.pix.length k1) (.slice p2 a.op.look.filt.nodes.length k2) (.slice p3 a.op.look.back.nodes.length k3)) 41)).alloc (.cells #[.string ⟨#[]⟩] 9)).alloc (.cells #[iV 0] 44))).heap.size = w.heap.size + 1 + 1 + 1) := hd' (by simp)
 have Ha := hd' H0.o.act
 clear hb hs hx ht
 go_enter_defers Tryz.func9, Tryz.ntmps9
 go_wp2_with (first | ((with_reducible refine wpList_load_row ?g1_1 41 ?x1_1 ?o1_1 w.heap.size ?h1_1 ?t1_1 ?c1_1 ?f1_1 ?d1_1 ?b1_1 ?u1_1 ?s1_1 ?i1_1 ?r1_1); (case g1_1 => exact rfl); (case o1_1 => exact rfl); (case h1_1 => exact rfl); (case b1_1 => exact Ha.o); (case u1_1 => exact Tryz.underlying41); (case s1_1 => exact rfl); (case i1_1 => exact size_act.trans (by simp [actC]))) | fail)
 refine (uru _ p1 p2 p3 k1 k2 k3 a (Hx.o.mod H0.o.mod (fun _ _ _ h => h)) HB.o HS.o).mono ?_
 rintro e w2 ⟨hm2, h2⟩
 have H2 := hd' (H0.o.next hm2 (fun _ h => h.elim))
 clear hm2
 rcases he : uk6 a with _ | es
 ·rw [he] at h2
  subst h2
  have Hno : Hid (R = none) := hd' (by rw [← HR.o, putT, he]; rfl)
  have cE := H2.o.err.cell 0 rfl
  have fE := H2.o.err.frozen 0
  have H3 := hd' (H2.o.seterr 1)
  have cE3 := H3.o.err.cell 0 rfl
  clear he
  go_wp2_with fail
  refine (ukv _).mono ?_
  rintro e w' ⟨rfl, hww⟩
  subst hww
  exact usj H3.o [] Hno.o _ _ rfl rfl rfl
 ·rw [he] at h2
  obtain ⟨v2, rfl, hv2⟩ := h2
  obtain ⟨pv, cv, rfl⟩ := Gou.ownsRow_form hv2
  have He := hd' he
  have cE := H2.o.err.cell 0 rfl
  have fE := H2.o.err.frozen 0
  have H3 := hd' (H2.o.seterr 0)
  have cE3 := H3.o.err.cell 0 rfl
  clear he hv2
  go_wp2_with fail
  refine (ulo _).mono ?_
  rintro e w' ⟨rfl, hww⟩
  subst hww
  generalize (w2.setCell ⟨w.heap.size + 1 + 1, 0, none⟩ (iV 0)) = w3 at *
  clear cE fE cE3
  have Hz3 := hd' (show w.heap.size + 1 + 1 < w3.heap.size from Blk.lt H3.o.err)
  have H4 := hd' (H3.o.next (Gou.Mod.alloc0 w3 (.cells #[.slice none 0 0] 68)) (fun _ h => h.elim))
  have HS4 : Hid (LS (w3.alloc (.cells #[.slice none 0 0] 68)) w3.heap.size [] nlS) := hd' ⟨Ht.o.up0 (H3.o.mod.trans' (Gou.Mod.alloc0 _ _)), by have := Ht.o.sz; have := Hz3.o; omega, ⟨Blk.new w3 68 #[.slice none 0 0], World.ownsRow_nil _ _ _ _⟩⟩
  have Ha4 := hd' H4.o.act
  have HX4 := hd' (((Hx.o.mod H3.o.mod (fun _ _ _ h => h)).imp (G' := fun b => b < w3.heap.size) (fun k hk _ => hk)).mod (Gou.Mod.alloc0 w3 (.cells #[.slice none 0 0] 68)) (fun _ _ _ h => h))
  have Hact := hd' (actN_of ((uov HS.o).1 He.o))
  go_wp2_with (first | ((with_reducible refine wpList_load_row ?g1_2 41 ?x1_2 ?o1_2 w.heap.size ?h1_2 ?t1_2 ?c1_2 ?f1_2 ?d1_2 ?b1_2 ?u1_2 ?s1_2 ?i1_2 ?r1_2); (case g1_2 => exact rfl); (case o1_2 => exact rfl); (case h1_2 => exact rfl); (case b1_2 => exact Ha4.o); (case u1_2 => exact Tryz.underlying41); (case s1_2 => exact rfl); (case i1_2 => exact size_act.trans (by simp [actC]))) | fail)
  refine (act_t HS4.o p1 k1 p2 k2 p3 k3 a Hact.o.1 Hact.o.2 HX4.o (by simp)).mono ?_
  rintro e w5 ⟨v5, hT5, h5⟩
  have H5 := hd' (H4.o.next hT5.mod (fun k hk => by
   rcases hk with rfl | hk
   ·exact Hz3.o
   ·cases hk))
  by_cases hok : upj a
  ·rw [if_pos hok] at h5
   obtain ⟨rfl, hS5⟩ := h5
   have Hyes : Hid (R = some ([32].intercalate (ukp a) ++ [10])) := hd' (by rw [← HR.o, putT, if_pos ⟨by rw [He.o]; rfl, hok⟩])
   have Hsh := hd' (Short.words Hact.o.1 hok)
   rw [List.nil_append] at hS5
   obtain ⟨p5, c5, rfl⟩ := Gou.ownsRow_form hS5.ln.own
   have HS5 := hd' hS5
   have cL := hS5.ln.box.cell 0 rfl
   clear hT5 hS5 hok
   go_wp2_with fail
   refine (join_any _ _ (ukp a) (RowG.of_own HS5.o.ln.own) (by have := Hsh.o.2; omega) (by have h1 := join_len _ Hsh.o.1; have := Hsh.o.2; omega)).mono ?_
   rintro e w6 ⟨rfl, hm6⟩
   have H6 := hd' (H5.o.next hm6 (fun _ h => h.elim))
   have hXl : ([32].intercalate (ukp a)).length ≤ 1000000000 := by have h1 := join_len _ Hsh.o.1; have := Hsh.o.2; omega
   generalize [32].intercalate (ukp a) = X at *
   have hXs : ¬ 9223372036854775807 < X.length + 1 := by omega
   obtain ⟨S, hS⟩ : ∃ S : ByteArray, S = ⟨X.toArray⟩ ++ ⟨#[10]⟩ := ⟨_, rfl⟩
   have hadd : (⟨X.toArray⟩ : ByteArray) ++ ⟨#[10]⟩ = S := hS.symm
   have HSS : Hid (S = ⟨(X ++ [10]).toArray⟩) := hd' (hS.trans (urr X [10]))
   have hO1 := H6.o.out
   have hE1 := H6.o.err
   have cO := hO1.cell 0 rfl
   have fO := hO1.frozen 0
   have hE2 := hE1.mod (Gou.Mod.setCell w6 ⟨(w.heap.size + 1), 0, none⟩ (.string S)) (by simp)
   have cE := hE2.cell 0 rfl
   have fE := hE2.frozen 0
   have hmm := (H6.o.mod.own ⟨(w.heap.size + 1), 0, none⟩ (.string S) (by simp)).own ⟨(w.heap.size + 1 + 1), 0, none⟩ (iV 0) (by simp; omega)
   have hO2 := (hO1.set 0 (.string S)).mod (Gou.Mod.setCell _ ⟨(w.heap.size + 1 + 1), 0, none⟩ (iV 0)) (by simp)
   have hE3 := hE2.set 0 (iV 0)
   have HE := hd' (And.intro hO2 (And.intro hE3 hmm))
   clear hO2 hE3 hmm hO1 hE1 hE2 cL hm6 hXl hS
   go_wp2_with fail
   show Leaves _ _ _ _ _ _ _
   refine leaves_cons (f := 14) (args := #[.pointer (some ⟨(w.heap.size + 1), 0, none⟩), .pointer (some ⟨(w.heap.size + 1 + 1), 0, none⟩)]) (by simp) (by simp [go_sem]) ?_
   refine (tput_idle _ _ _).mono ?_
   rintro e u' w7 ⟨rfl, rfl, hww⟩
   subst hww
   obtain ⟨hO2, hE2, hmm⟩ := HE.o
   refine ⟨.tuple #[.string S, iV 0], ?_, hmm, by rw [Hyes.o, HSS.o]⟩
   exact ult rfl _ _ _ _ _ _ rfl rfl (uqy _ _ _ (hO2.cell 0 rfl)) (umo _ _ _ (hE2.cell 0 rfl))
  ·rw [if_neg hok] at h5
   subst h5
   exact usj H5.o [] (by rw [← HR.o, putT, if_neg (fun h => hok h.2)]) _ _ rfl rfl rfl
structure RdW (w : World) (R : Nat) (vs : Value) (ws : List Wd) (n : Nat) : Prop where
 lt : LT w
 h10 : 10 ≤ R
 box : Blk w R 122 #[vs, iV n]
 row : RowG (fun b => b < R) w 1 vs ws.length (strs ws)
 le : n ≤ ws.length
 len : ws.length ≤ 1000000000
 lim : ∀ u ∈ ws, u.length ≤ 1000000000
theorem RdW.mod {S : Nat → Prop} {w w' : World} {R : Nat} {vs : Value} {ws : List Wd} {n : Nat} (h : RdW w R vs ws n) (hm : Gou.Mod S w w') (hS : ∀ k, k ≤ R → ¬ S k) : RdW w' R vs ws n :=
 ⟨h.lt.up hm (fun k hk => hS k (by have := h.h10; omega)), h.h10, h.box.mod hm (hS R (Nat.le_refl _)), RowG.mod h.row hm (fun k _ hG => hS k (Nat.le_of_lt hG)), h.le, h.len, h.lim⟩
theorem RdW.other {w w' : World} {R : Nat} {vs : Value} {ws : List Wd} {n : Nat} (h : RdW w R vs ws n) (hm : Gou.Mod (fun _ => False) w w') : RdW w' R vs ws n := h.mod hm fun _ _ h => h
theorem RdW.own {w : World} {R : Nat} {vs : Value} {ws : List Wd} {n : Nat} (h : RdW w R vs ws n) (p : Addr) (u : Value) (hp : R < p.block) : RdW (w.setCell p u) R vs ws n := h.mod (Gou.Mod.setCell w p u) fun k hk e => by omega
theorem RdW.setAt {w : World} {R : Nat} {vs : Value} {ws : List Wd} {n : Nat} (h : RdW w R vs ws n) (m : Nat) (hm : m ≤ ws.length) : RdW (w.setCell ⟨R, 1, none⟩ (iV m)) R vs ws m :=
 ⟨h.lt.up (Gou.Mod.setCell w ⟨R, 1, none⟩ _) (fun k hk e => by have := h.h10; simp at e; omega), h.h10, h.box.set 1 _, RowG.mod h.row (Gou.Mod.setCell w ⟨R, 1, none⟩ _) (fun k _ hk e => by simp at e; omega), hm, h.len, h.lim⟩
def RP {α : Type} (w : World) (R : Nat) (vs : Value) (ws : List Wd) (V : α → World → Value → Prop) (res : Option (α × List Wd)) (e : Ending) (w' : World) : Prop :=
 Gou.Mod (fun k => k = R) w w' ∧ match res with
  | none => e = .panicked ute
  | some p => ∃ v m, e = .returned v ∧ V p.1 w' v ∧ RdW w' R vs ws m ∧ ws.drop m = p.2
def VNum (x : Int) (_ : World) (v : Value) : Prop := v = iV x
theorem ulv {ws : List Wd} {n : Nat} (h : n < ws.length) : ws.drop n = ws[n] :: ws.drop (n + 1) := List.drop_eq_getElem_cons h
theorem RdW.word {w : World} {R : Nat} {vs : Value} {ws : List Wd} {n : Nat} (h : RdW w R vs ws n) (hn : n < ws.length) : ∃ b o c, vs = .slice (some ⟨b, o, none⟩) ws.length c ∧ ws.length ≤ c ∧ b < w.heap.size ∧ b ≠ R ∧ w.cell? ⟨b, o + n, none⟩ = some (.string ⟨(ws[n]).toArray⟩) := by
 obtain ⟨-, p, c, rfl, hcap, hc⟩ := h.row
 rcases hc with h0 | ⟨b, o, rfl, hb, hG, hc⟩
 ·omega
 ·exact ⟨b, o, c, rfl, hcap, hb, Nat.ne_of_lt hG, hc n _ (by simp [strs, hn])⟩
theorem ups {w : World} {R : Nat} {vs : Value} {ws : List Wd} (h : RdW w R vs ws ws.length) :
  Calls Tryz.prog 141 #[.pointer (some ⟨R, 0, none⟩)] w fun e w' => e = .panicked ute ∧ Gou.Mod (fun k => k = R) w w' := by
 have H := hd' h
 obtain ⟨p, cap, rfl, -⟩ := RowG.form h.row
 have c0 := h.box.cell 0 rfl
 have c1 := h.box.cell 1 rfl
 have hl := h.len
 clear h
 go_enter Tryz.func141, Tryz.ntmps141
 go_wp2_with fail
 have hd : decide ((ws.length : Int) < (ws.length : Int)) = false := by simp
 go_still_tail 10, (by kernel_rfl)
 change wpList _ _ _ _ _ w.drew
 have Hm := hd' (Gou.Mod.drew (fun k => k = R) w)
 generalize w.drew = w2 at *
 clear H c0 c1
 go_wp2_with (first | (go_at_call 17; refine (ukv _).mono ?_; rintro e w' ⟨rfl, rfl⟩))
 exact ⟨rfl, rfl, Hm.o⟩
theorem uor {w : World} {R : Nat} {vs : Value} {ws : List Wd} {n : Nat} (h : RdW w R vs ws n) (hn : n < ws.length) :
  Calls Tryz.prog 141 #[.pointer (some ⟨R, 0, none⟩)] w fun e w' => e = .returned (.string ⟨(ws[n]).toArray⟩) ∧ RdW w' R vs ws (n + 1) ∧ Gou.Mod (fun k => k = R) w w' := by
 have H := hd' h
 obtain ⟨b, o, cap, rfl, hcap, hb, hbR, hx⟩ := h.word hn
 have c0 := h.box.cell 0 rfl
 have c1 := h.box.cell 1 rfl
 have f1 := h.box.frozen 1
 have hl := h.len
 clear h
 have hnI : (n : Int) < (ws.length : Int) := by omega
 have hd : decide ((n : Int) < (ws.length : Int)) = true := by simp [hnI]
 have hw1 : wrap64 ((n : Int) + 1) = (n : Int) + 1 := IntWalk.wrap64_in _ (by omega)
 generalize ws[n] = u at *
 go_enter Tryz.func141, Tryz.ntmps141
 go_wp2_with fail
 go_quiet (first | (go_at_call 17; exact Calls.quiet_of_same (ulo _)))
 obtain ⟨nq1, rfl⟩ : ∃ q : Nat, q = nq := ⟨_, rfl⟩
 go_wp2_with fail
 have hs1 : wrap64 ((n : Int) + 1 - 1) = n := by
  have : (n : Int) + 1 - 1 = n := by omega
  rw [this]
  exact IntWalk.wrap64_in _ (by omega)
 go_quiet (fail)
 go_wp2_with fail
 go_ret
 refine ⟨rfl, ?_, ?_⟩
 ·have h1 := ((H.o.other (Gou.Mod.drewN (fun _ => False) w nq1)).setAt (n + 1) (by omega)).other (Gou.Mod.drewN (fun _ => False) _ nq)
  simpa using h1
 ·exact (((Gou.Mod.drewN (fun _ => False) w nq1).imp fun _ _ h => h.elim).trans' (Gou.Mod.setCell (w.drewN nq1) ⟨R, 1, none⟩ _)).trans (Gou.Mod.drewN (fun _ => False) _ nq) fun _ _ h => h.elim
end Go.Proofs.YtgolafbneiffpaaGreatDoor
