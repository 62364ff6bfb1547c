/- Regions: the law's waking; what regions come to, for the laws' own walks. -/
import Derived.Test.YtapeafokcailkaaRoB
set_option linter.unusedSimpArgs false
set_option linter.unusedVariables false
set_option linter.unusedSectionVars false
set_option linter.constructorNameAsVariable false
namespace Go.Reg
def wA : List Rt := [⟨0, 0, 2, 1⟩, ⟨0, 1, 3, 2⟩, ⟨1, 2, 3, 3⟩]
def wB : List Rt := [⟨0, 0, 2, 1⟩]
def wC1 : List Rt := [⟨0, 0, 3, 3⟩]
def wC2 : List Rt := [⟨1, 1, 2, 2⟩]
def wC : List Rt := [⟨0, 0, 3, 1⟩, ⟨0, 1, 1, 2⟩, ⟨2, 1, 3, 2⟩, ⟨0, 2, 3, 3⟩]
theorem ok_bd (a b c d : Int) (h : a < b) (h2 : c < d) : Bd.Ok ⟨a, b, [⟨c, d⟩]⟩ := ⟨h, by simp, h2⟩
theorem reg_A : RegOf wA (Pts [⟨0, 0, 2, 2⟩, ⟨1, 1, 3, 3⟩] [] orF) := by
  refine ⟨[⟨0, 1, [⟨0, 2⟩]⟩, ⟨1, 2, [⟨0, 3⟩]⟩, ⟨2, 3, [⟨1, 3⟩]⟩], ⟨ok_bd _ _ _ _ (by omega) (by omega), by simp, by simp, ok_bd _ _ _ _ (by omega) (by omega), by simp, by simp, ok_bd _ _ _ _ (by omega) (by omega)⟩, rfl, fun x y => ?_⟩
  simp [In2, In, Pts, orF, Has, Rt.Has]
  omega
theorem reg_A2 : RegOf wA (Pts wA [] orF) := by
  refine ⟨[⟨0, 1, [⟨0, 2⟩]⟩, ⟨1, 2, [⟨0, 3⟩]⟩, ⟨2, 3, [⟨1, 3⟩]⟩], ⟨ok_bd _ _ _ _ (by omega) (by omega), by simp, by simp, ok_bd _ _ _ _ (by omega) (by omega), by simp, by simp, ok_bd _ _ _ _ (by omega) (by omega)⟩, rfl, fun x y => ?_⟩
  simp [In2, In, Pts, orF, Has, Rt.Has, wA]
  omega
theorem right_A : IsRight wA := ⟨by decide, reg_A2⟩
theorem reg_B : RegOf wB (Pts [⟨0, 0, 1, 1⟩, ⟨1, 0, 2, 1⟩] [] orF) := by
  refine ⟨[⟨0, 1, [⟨0, 2⟩]⟩], ok_bd _ _ _ _ (by omega) (by omega), rfl, fun x y => ?_⟩
  simp [In2, In, Pts, orF, Has, Rt.Has]
  omega
theorem reg_C1 : RegOf wC1 (Pts [⟨0, 0, 3, 3⟩] [] orF) := by
  refine ⟨[⟨0, 3, [⟨0, 3⟩]⟩], ok_bd _ _ _ _ (by omega) (by omega), rfl, fun x y => ?_⟩
  simp [In2, In, Pts, orF, Has, Rt.Has]
  omega
theorem reg_C2 : RegOf wC2 (Pts [⟨1, 1, 2, 2⟩] [] orF) := by
  refine ⟨[⟨1, 2, [⟨1, 2⟩]⟩], ok_bd _ _ _ _ (by omega) (by omega), rfl, fun x y => ?_⟩
  simp [In2, In, Pts, orF, Has, Rt.Has]
  omega
theorem reg_C : RegOf wC (Pts wC1 wC2 cutF) := by
  refine ⟨[⟨0, 1, [⟨0, 3⟩]⟩, ⟨1, 2, [⟨0, 1⟩, ⟨2, 3⟩]⟩, ⟨2, 3, [⟨0, 3⟩]⟩], ⟨ok_bd _ _ _ _ (by omega) (by omega), by simp, by simp, ⟨by decide, by simp, ⟨by decide, by decide, (by decide : (2 : Int) < 3)⟩⟩, by simp, by simp, ok_bd _ _ _ _ (by omega) (by omega)⟩, rfl, fun x y => ?_⟩
  simp [In2, In, Pts, cutF, Has, Rt.Has, wC1, wC2]
  omega
end Go.Reg
namespace Go.Gou
open Go.RowKit Go.Reg
/-- A row of rectangles that was written out. -/
theorem RtR.lit {w : World} {N : Nat} {T : TypeId} {cs : Array Value} (l : List Rt) (hcs : cs.toList = rts l) (hN : N = w.heap.size) : RtR (fun _ => True) (w.alloc (.cells cs T)) (.slice (some ⟨N, 0, none⟩) l.length l.length) l := by
  subst hN
  have h := RowG.of_blk (Blk.new w T cs) 4 l.length (by rw [← Array.length_toList, hcs, rts_len]) (fun _ => True) trivial
  rw [hcs] at h
  exact h
end Go.Gou
namespace Go.Proofs.Ytapeafokcailkaa
open Go.RowKit Go.Gou Go.Reg Go.Shelf
set_option maxRecDepth 100000

/-- What comes of a contract when the points are known. -/
theorem CombP.is {w : World} {a b : List Rt} {f : Bool → Bool → Bool} {e : Ending} {w' : World} (h : CombP w a b f e w') {out : List Rt} (hr : RegOf out (Pts a b f)) :
    ∃ p c, e = .returned (.slice p out.length c) ∧ RtR (fun _ => True) w' (.slice p out.length c) out ∧ Gou.Mod (fun _ => False) w w' := by
  obtain ⟨hm, v, o, rfl, hown, h2, _⟩ := h
  obtain rfl := h2.uniq hr (fun _ _ => Iff.rfl)
  obtain ⟨p, c, rfl⟩ := Gou.ownsRow_form hown
  exact ⟨p, c, rfl, RowG.own_of hown (fun _ _ _ => trivial), hm⟩

theorem of_lit (w : World) (N : Nat) (l out : List Rt) (T : TypeId) (cs : Array Value) (hcs : cs.toList = rts l) (hN : N = w.heap.size) (hr : RegOf out (Pts l [] orF)) (hx : ∀ r ∈ l, Near r.x0) (hn : l.length ≤ 100000) (n : Nat) (hln : n = l.length) :
    Calls Try.prog 12 #[.slice (some ⟨N, 0, none⟩) n n] (w.alloc (.cells cs T)) fun e w' => ∃ p c, e = .returned (.slice p out.length c) ∧ RtR (fun _ => True) w' (.slice p out.length c) out ∧ Gou.Mod (fun _ => False) w w' := by
  subst hln
  refine (regOf_any _ _ _ l (RtR.lit l hcs hN) hx hn).mono fun e w' h => ?_
  obtain ⟨p, c, h1, h2, h3⟩ := h.is hr
  exact ⟨p, c, h1, h2, (Gou.Mod.alloc0 _ _).trans' h3⟩

theorem same_lit (w : World) (p : Option Addr) (c N : Nat) (a l : List Rt) (T : TypeId) (cs : Array Value) (ha : RtR (fun _ => True) w (.slice p a.length c) a) (hcs : cs.toList = rts l) (hN : N = w.heap.size) (hn : a.length ≤ 100000) (hn2 : l.length ≤ 100000) (n : Nat) (hln : n = l.length) :
    Calls Try.prog 11 #[.slice p a.length c, .slice (some ⟨N, 0, none⟩) n n] (w.alloc (.cells cs T)) fun e w' => e = .returned (.bool (decide (a = l))) ∧ Gou.Mod (fun _ => False) w w' := by
  subst hln
  refine (refSame_any _ _ _ p (some ⟨N, 0, none⟩) c l.length a l (ha.under (Gou.Mod.alloc0 _ _)) (RtR.lit l hcs hN) (by omega) (by omega)).mono fun e w' h => ?_
  exact ⟨h.1, (Gou.Mod.alloc0 _ _).trans' h.2⟩

set_option maxHeartbeats 8000000 in
/-- The waking: answers that the document fixes. -/
theorem awake_any (w : World) : Calls Try.prog 8 #[] w fun e w' => e = .returned (.bool true) ∧ Gou.Mod (fun _ => False) w w' := by
  go_enter Try.func8, Try.ntmps8
  go_wp2_with fail
  refine (of_any 0 0 2 2 _).mono ?_
  rintro e w1 ⟨rfl, hb⟩
  have hs := Gou.Mod.of_below hb (fun _ => False)
  clear hb
  have Hm1 := Lib.hid (hs)
  clear hs
  go_wp2_with fail
  refine (of_any 1 1 3 3 _).mono ?_
  rintro e w2 ⟨rfl, hb⟩
  have hs := Gou.Mod.of_below hb (fun _ => False)
  clear hb
  have Hm2 := Lib.hid (Hm1.out.trans' hs)
  clear Hm1
  clear hs
  go_wp2_with fail
  refine (of_lit _ _ [⟨0, 0, 2, 2⟩, ⟨1, 1, 3, 3⟩] _ _ _ rfl rfl reg_A (by decide) (by decide) _ rfl).mono ?_
  rintro e w3 ⟨pa, ca, rfl, hr, hs⟩
  have Ha3 := Lib.hid hr
  clear hr
  have Hm3 := Lib.hid (Hm2.out.trans' hs)
  clear Hm2
  clear hs
  go_wp2_with fail
  refine (of_any 0 0 1 1 _).mono ?_
  rintro e w4 ⟨rfl, hb⟩
  have hs := Gou.Mod.of_below hb (fun _ => False)
  clear hb
  have Hm4 := Lib.hid (Hm3.out.trans' hs)
  have Ha4 := Lib.hid (Ha3.out.under hs)
  clear Hm3 Ha3
  clear hs
  go_wp2_with fail
  refine (of_any 1 0 2 1 _).mono ?_
  rintro e w5 ⟨rfl, hb⟩
  have hs := Gou.Mod.of_below hb (fun _ => False)
  clear hb
  have Hm5 := Lib.hid (Hm4.out.trans' hs)
  have Ha5 := Lib.hid (Ha4.out.under hs)
  clear Hm4 Ha4
  clear hs
  go_wp2_with fail
  refine (of_lit _ _ [⟨0, 0, 1, 1⟩, ⟨1, 0, 2, 1⟩] _ _ _ rfl rfl reg_B (by decide) (by decide) _ rfl).mono ?_
  rintro e w6 ⟨pb, cb, rfl, hr, hs⟩
  have Hb6 := Lib.hid hr
  clear hr
  have Hm6 := Lib.hid (Hm5.out.trans' hs)
  have Ha6 := Lib.hid (Ha5.out.under hs)
  clear Hm5 Ha5
  clear hs
  go_wp2_with fail
  refine (of_any 0 0 3 3 _).mono ?_
  rintro e w7 ⟨rfl, hb⟩
  have hs := Gou.Mod.of_below hb (fun _ => False)
  clear hb
  have Hm7 := Lib.hid (Hm6.out.trans' hs)
  have Ha7 := Lib.hid (Ha6.out.under hs)
  have Hb7 := Lib.hid (Hb6.out.under hs)
  clear Hm6 Ha6 Hb6
  clear hs
  go_wp2_with fail
  refine (of_lit _ _ [⟨0, 0, 3, 3⟩] _ _ _ rfl rfl reg_C1 (by decide) (by decide) _ rfl).mono ?_
  rintro e w8 ⟨pd, cd, rfl, hr, hs⟩
  have Hd8 := Lib.hid hr
  clear hr
  have Hm8 := Lib.hid (Hm7.out.trans' hs)
  have Ha8 := Lib.hid (Ha7.out.under hs)
  have Hb8 := Lib.hid (Hb7.out.under hs)
  clear Hm7 Ha7 Hb7
  clear hs
  go_wp2_with fail
  refine (of_any 1 1 2 2 _).mono ?_
  rintro e w9 ⟨rfl, hb⟩
  have hs := Gou.Mod.of_below hb (fun _ => False)
  clear hb
  have Hm9 := Lib.hid (Hm8.out.trans' hs)
  have Ha9 := Lib.hid (Ha8.out.under hs)
  have Hb9 := Lib.hid (Hb8.out.under hs)
  have Hd9 := Lib.hid (Hd8.out.under hs)
  clear Hm8 Ha8 Hb8 Hd8
  clear hs
  go_wp2_with fail
  refine (of_lit _ _ [⟨1, 1, 2, 2⟩] _ _ _ rfl rfl reg_C2 (by decide) (by decide) _ rfl).mono ?_
  rintro e w10 ⟨pe, ce, rfl, hr, hs⟩
  have He10 := Lib.hid hr
  clear hr
  have Hm10 := Lib.hid (Hm9.out.trans' hs)
  have Ha10 := Lib.hid (Ha9.out.under hs)
  have Hb10 := Lib.hid (Hb9.out.under hs)
  have Hd10 := Lib.hid (Hd9.out.under hs)
  clear Hm9 Ha9 Hb9 Hd9
  clear hs
  go_wp2_with fail
  refine (regCut_any _ pd pe cd ce wC1 wC2 Hd10.out He10.out (by decide) (by decide) (by decide)).mono ?_
  rintro e w11 hc
  obtain ⟨pc, cc, rfl, hr, hs⟩ := hc.is reg_C
  have Hc11 := Lib.hid hr
  clear hr hc
  have Hm11 := Lib.hid (Hm10.out.trans' hs)
  have Ha11 := Lib.hid (Ha10.out.under hs)
  have Hb11 := Lib.hid (Hb10.out.under hs)
  have Hd11 := Lib.hid (Hd10.out.under hs)
  have He11 := Lib.hid (He10.out.under hs)
  clear Hm10 Ha10 Hb10 Hd10 He10
  clear hs
  go_wp2_with fail
  refine (of_any 0 0 2 1 _).mono ?_
  rintro e w12 ⟨rfl, hb⟩
  have hs := Gou.Mod.of_below hb (fun _ => False)
  clear hb
  have Hm12 := Lib.hid (Hm11.out.trans' hs)
  have Ha12 := Lib.hid (Ha11.out.under hs)
  have Hb12 := Lib.hid (Hb11.out.under hs)
  have Hd12 := Lib.hid (Hd11.out.under hs)
  have He12 := Lib.hid (He11.out.under hs)
  have Hc12 := Lib.hid (Hc11.out.under hs)
  clear Hm11 Ha11 Hb11 Hd11 He11 Hc11
  clear hs
  go_wp2_with fail
  refine (of_any 0 1 3 2 _).mono ?_
  rintro e w13 ⟨rfl, hb⟩
  have hs := Gou.Mod.of_below hb (fun _ => False)
  clear hb
  have Hm13 := Lib.hid (Hm12.out.trans' hs)
  have Ha13 := Lib.hid (Ha12.out.under hs)
  have Hb13 := Lib.hid (Hb12.out.under hs)
  have Hd13 := Lib.hid (Hd12.out.under hs)
  have He13 := Lib.hid (He12.out.under hs)
  have Hc13 := Lib.hid (Hc12.out.under hs)
  clear Hm12 Ha12 Hb12 Hd12 He12 Hc12
  clear hs
  go_wp2_with fail
  refine (of_any 1 2 3 3 _).mono ?_
  rintro e w14 ⟨rfl, hb⟩
  have hs := Gou.Mod.of_below hb (fun _ => False)
  clear hb
  have Hm14 := Lib.hid (Hm13.out.trans' hs)
  have Ha14 := Lib.hid (Ha13.out.under hs)
  have Hb14 := Lib.hid (Hb13.out.under hs)
  have Hd14 := Lib.hid (Hd13.out.under hs)
  have He14 := Lib.hid (He13.out.under hs)
  have Hc14 := Lib.hid (Hc13.out.under hs)
  clear Hm13 Ha13 Hb13 Hd13 He13 Hc13
  clear hs
  go_wp2_with fail
  refine (same_lit _ pa ca _ wA wA _ _ Ha14.out rfl rfl (by decide) (by decide) _ rfl).mono ?_
  rintro e w15 ⟨rfl, hs⟩
  rw [decide_eq_true (show wA = wA from rfl)]
  have Hm15 := Lib.hid (Hm14.out.trans' hs)
  have Ha15 := Lib.hid (Ha14.out.under hs)
  have Hb15 := Lib.hid (Hb14.out.under hs)
  have Hd15 := Lib.hid (Hd14.out.under hs)
  have He15 := Lib.hid (He14.out.under hs)
  have Hc15 := Lib.hid (Hc14.out.under hs)
  clear Hm14 Ha14 Hb14 Hd14 He14 Hc14
  clear hs
  go_wp2_with fail
  refine (of_any 0 0 2 1 _).mono ?_
  rintro e w16 ⟨rfl, hb⟩
  have hs := Gou.Mod.of_below hb (fun _ => False)
  clear hb
  have Hm16 := Lib.hid (Hm15.out.trans' hs)
  have Ha16 := Lib.hid (Ha15.out.under hs)
  have Hb16 := Lib.hid (Hb15.out.under hs)
  have Hd16 := Lib.hid (Hd15.out.under hs)
  have He16 := Lib.hid (He15.out.under hs)
  have Hc16 := Lib.hid (Hc15.out.under hs)
  clear Hm15 Ha15 Hb15 Hd15 He15 Hc15
  clear hs
  go_wp2_with fail
  refine (same_lit _ pb cb _ wB wB _ _ Hb16.out rfl rfl (by decide) (by decide) _ rfl).mono ?_
  rintro e w17 ⟨rfl, hs⟩
  rw [decide_eq_true (show wB = wB from rfl)]
  have Hm17 := Lib.hid (Hm16.out.trans' hs)
  have Ha17 := Lib.hid (Ha16.out.under hs)
  have Hb17 := Lib.hid (Hb16.out.under hs)
  have Hd17 := Lib.hid (Hd16.out.under hs)
  have He17 := Lib.hid (He16.out.under hs)
  have Hc17 := Lib.hid (Hc16.out.under hs)
  clear Hm16 Ha16 Hb16 Hd16 He16 Hc16
  clear hs
  go_wp2_with fail
  refine (of_any 0 0 3 1 _).mono ?_
  rintro e w18 ⟨rfl, hb⟩
  have hs := Gou.Mod.of_below hb (fun _ => False)
  clear hb
  have Hm18 := Lib.hid (Hm17.out.trans' hs)
  have Ha18 := Lib.hid (Ha17.out.under hs)
  have Hb18 := Lib.hid (Hb17.out.under hs)
  have Hd18 := Lib.hid (Hd17.out.under hs)
  have He18 := Lib.hid (He17.out.under hs)
  have Hc18 := Lib.hid (Hc17.out.under hs)
  clear Hm17 Ha17 Hb17 Hd17 He17 Hc17
  clear hs
  go_wp2_with fail
  refine (of_any 0 1 1 2 _).mono ?_
  rintro e w19 ⟨rfl, hb⟩
  have hs := Gou.Mod.of_below hb (fun _ => False)
  clear hb
  have Hm19 := Lib.hid (Hm18.out.trans' hs)
  have Ha19 := Lib.hid (Ha18.out.under hs)
  have Hb19 := Lib.hid (Hb18.out.under hs)
  have Hd19 := Lib.hid (Hd18.out.under hs)
  have He19 := Lib.hid (He18.out.under hs)
  have Hc19 := Lib.hid (Hc18.out.under hs)
  clear Hm18 Ha18 Hb18 Hd18 He18 Hc18
  clear hs
  go_wp2_with fail
  refine (of_any 2 1 3 2 _).mono ?_
  rintro e w20 ⟨rfl, hb⟩
  have hs := Gou.Mod.of_below hb (fun _ => False)
  clear hb
  have Hm20 := Lib.hid (Hm19.out.trans' hs)
  have Ha20 := Lib.hid (Ha19.out.under hs)
  have Hb20 := Lib.hid (Hb19.out.under hs)
  have Hd20 := Lib.hid (Hd19.out.under hs)
  have He20 := Lib.hid (He19.out.under hs)
  have Hc20 := Lib.hid (Hc19.out.under hs)
  clear Hm19 Ha19 Hb19 Hd19 He19 Hc19
  clear hs
  go_wp2_with fail
  refine (of_any 0 2 3 3 _).mono ?_
  rintro e w21 ⟨rfl, hb⟩
  have hs := Gou.Mod.of_below hb (fun _ => False)
  clear hb
  have Hm21 := Lib.hid (Hm20.out.trans' hs)
  have Ha21 := Lib.hid (Ha20.out.under hs)
  have Hb21 := Lib.hid (Hb20.out.under hs)
  have Hd21 := Lib.hid (Hd20.out.under hs)
  have He21 := Lib.hid (He20.out.under hs)
  have Hc21 := Lib.hid (Hc20.out.under hs)
  clear Hm20 Ha20 Hb20 Hd20 He20 Hc20
  clear hs
  go_wp2_with fail
  refine (same_lit _ pc cc _ wC wC _ _ Hc21.out rfl rfl (by decide) (by decide) _ rfl).mono ?_
  rintro e w22 ⟨rfl, hs⟩
  rw [decide_eq_true (show wC = wC from rfl)]
  have Hm22 := Lib.hid (Hm21.out.trans' hs)
  have Ha22 := Lib.hid (Ha21.out.under hs)
  have Hb22 := Lib.hid (Hb21.out.under hs)
  have Hd22 := Lib.hid (Hd21.out.under hs)
  have He22 := Lib.hid (He21.out.under hs)
  have Hc22 := Lib.hid (Hc21.out.under hs)
  clear Hm21 Ha21 Hb21 Hd21 He21 Hc21
  clear hs
  go_wp2_with fail
  refine (regRight_any _ pa ca wA Ha22.out (by decide)).mono ?_
  rintro e w23 ⟨hs, q, rfl, hq⟩
  obtain rfl : q = true := hq.2 right_A
  clear hq
  have Hm23 := Lib.hid (Hm22.out.trans' hs)
  have Ha23 := Lib.hid (Ha22.out.under hs)
  have Hb23 := Lib.hid (Hb22.out.under hs)
  have Hd23 := Lib.hid (Hd22.out.under hs)
  have He23 := Lib.hid (He22.out.under hs)
  have Hc23 := Lib.hid (Hc22.out.under hs)
  clear Hm22 Ha22 Hb22 Hd22 He22 Hc22
  clear hs
  go_wp2_with fail
  go_ret
  exact ⟨rfl, Hm23.out⟩

end Go.Proofs.Ytapeafokcailkaa
