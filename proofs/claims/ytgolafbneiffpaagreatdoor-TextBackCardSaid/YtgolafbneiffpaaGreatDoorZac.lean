/- Texts of the scenes' proofs, laid together: CRdI. -/
import Derived.Test.YtgolafbneiffpaaGreatDoorZab
set_option maxHeartbeats 64000000
set_option linter.unusedSimpArgs false
set_option linter.unusedVariables false
set_option linter.unusedSectionVars false
set_option linter.constructorNameAsVariable false
namespace Go.Gou
open Go.RowKit
def ukd (bs : List Nat) (n : Nat) (k : Int) : Option (Lk × Nat) :=
 if k = 5 then (ukw bs n).bind fun x => (ukw bs x.2).bind fun y => some ({ Lk.zero with dx := x.1, dy := y.1 }, y.2)
 else if k = 6 then (umw bs n).bind fun f => if f.1 then (ur9 bs f.2).bind fun b => some ({ Lk.zero with hasClip := true, clip := Rc.of b.1 }, b.2) else some (Lk.zero, f.2)
 else if k = 7 then (ukw bs n).bind fun x => some ({ Lk.zero with opacity := x.1 }, x.2)
 else if k = 8 then (ukw bs n).bind fun x => some ({ Lk.zero with mode := x.1 }, x.2)
 else if k = 9 then (ukg bs n).bind fun c => some ({ Lk.zero with content := c.1 }, c.2)
 else if k = 10 then (umw bs n).bind fun f => if f.1 then (ulq bs f.2).bind fun b => some ({ Lk.zero with hasFilt := true, filt := b.1 }, b.2) else some (Lk.zero, f.2)
 else if k = 11 then (umw bs n).bind fun f => if f.1 then (ulq bs f.2).bind fun b => some ({ Lk.zero with hasBack := true, back := b.1 }, b.2) else some (Lk.zero, f.2)
 else some (Lk.zero, n)
theorem uka (l : Lk) (p1 : Option Addr) (n1 k1 : Nat) (p2 : Option Addr) (n2 k2 : Nat) (p3 : Option Addr) (n3 k3 : Nat) : (uai l (.slice p1 n1 k1) (.slice p2 n2 k2) (.slice p3 n3 k3)).all (·.oneCell') = true := by simp [uai, Value.oneCell']
theorem PixR.far {w1 W : World} {B base L N : Nat} {v : Value} {ps : List Pxl} (h : PixR (fun b => B ≤ b) w1 v ps) (hm : Mod (fun k => k = L ∨ k = N) w1 W) (hL : L < B) (hN : N < B) (hb : base ≤ B) : PixR (fun b => base ≤ b) W v ps :=
 (RowG.mod h hm (fun k _ hG hS => by omega)).imp fun k _ hG => by omega
theorem NodesR.far {w1 W : World} {B base L N : Nat} {v : Value} {ns : List ubb} (h : NodesR (fun b => B ≤ b) w1 v ns) (hm : Mod (fun k => k = L ∨ k = N) w1 W) (hL : L < B) (hN : N < B) (hb : base ≤ B) : NodesR (fun b => base ≤ b) W v ns :=
 (NodesR.mod h hm (fun k _ hG hS => by omega)).imp fun k _ hG => by omega
theorem SoftB.far {w1 W : World} {B base L N : Nat} {v : Value} (h : SoftB B w1 v) (hm : Mod (fun k => k = L ∨ k = N) w1 W) (hL : L < B) (hN : N < B) (hb : base ≤ B) : SoftB base W v :=
 (SoftB.mod h hm (fun b hb _ hS => by omega)).low hb
theorem LookR.nil (G : Nat → Prop) (w : World) (l : Lk) (h1 : l.content.pix = []) (h2 : l.filt.nodes = []) (h3 : l.back.nodes = []) : LookR G w l nlS nlS nlS :=
 ⟨by rw [h1]; exact PixR.nil _ _, by rw [h2]; exact NodesR.nil _ _, by rw [h3]; exact NodesR.nil _ _⟩
theorem LookR.far {w1 W : World} {B base L N : Nat} {l : Lk} {vp vf vb : Value} (h : LookR (fun b => B ≤ b) w1 l vp vf vb) (hm : Mod (fun k => k = L ∨ k = N) w1 W) (hL : L < B) (hN : N < B) (hb : base ≤ B) : LookR (fun b => base ≤ b) W l vp vf vb :=
 ⟨h.pix.far hm hL hN hb, h.filt.far hm hL hN hb, h.back.far hm hL hN hb⟩
theorem usn (c : Ct) (vp : Value) : uao lz28 9 (uak c vp).toList = uai { Lk.zero with content := c } vp nlS nlS := by
 simp [uak, uai, uao, Lk.zero, Rc.zero, Gr.zero]
theorem Mod.two {L N o : Nat} {vs : List Value} {w1 W : World} (h : Mod (fun k => k = N) (w1.setCells L o vs) W) : Mod (fun k => k = L ∨ k = N) w1 W :=
 ((Blk.setMod w1 L o vs).imp fun _ _ h => .inl h).trans' (h.imp fun _ _ h => .inr h)
end Go.Gou
namespace Go.Proofs.YtgolafbneiffpaaGreatDoor
open Go.RowKit Go.Gou
def ul2 (B : Nat) (w : World) (v : Value) (l : Lk) : Prop := ∃ vp vf vb, v = .agg (uai l vp vf vb) ∧ LookR (fun b => B ≤ b) w l vp vf vb ∧ SoftB B w vp
set_option maxRecDepth 100000 in
theorem look_5 (w : World) (R : Nat) (vb : Value) (bs : List Nat) (n : Nat) (h : RdAt w R vb bs n) :
  Calls Tryz.prog 104 #[.pointer (some ⟨R, 0, none⟩), iV 5] w (RdP w R vb bs (ul2 w.heap.size) (ukd bs n 5)) := by
 have H := hd' h
 have hR := h.lt
 clear h
 go_enter Tryz.func104, Tryz.ntmps104
 go_wp2_with fail
 have Hl0 : Hid (Gou.Loc w R _ bs 35 w.heap.size (w.heap.size + 1) lz28 lz28 n ((w.alloc (.cells lz28 35)).alloc (.cells lz28 35))) := hd' (by
  have := Loc.start H.o (Mod.refl _ (w.alloc (.cells lz28 35))) (H.o.alloc _) lz28
  simpa using this)
 generalize hW : (w.alloc (.cells lz28 35)).alloc (.cells lz28 35) = W0 at *
 generalize hL : w.heap.size + 1 = L at *
 clear hW hL
 refine (ukk _ R _ bs n Hl0.o.rd).mono ?_
 intro e w1 h1
 cases hn1 : ukw bs n with
 | none =>
  rw [hn1] at h1
  obtain ⟨rfl, hq⟩ := h1.fault (J := ul2 w.heap.size) (res := ukd bs n 5) Hl0.o.mod (by simp [ukd, hn1])
  exact ⟨rfl, hq⟩
 | some p1 =>
  obtain ⟨x1, m1⟩ := p1
  rw [hn1] at h1
  obtain ⟨hm1, _, rfl, rfl, hr1⟩ := h1
  have Hn1 := hd' hn1
  have hl1 := Hl0.o.step hm1 hr1
  clear hn1 hm1 hr1
  have c0 := hl1.loc.cell 0 rfl
  have fc0 := hl1.loc.frozen 0
  have Hl1 : Hid (Gou.Loc w R _ bs 35 w.heap.size L lz28 (List.toArray (iV x1 :: iV 0 :: Value.bool false :: iV 0 :: iV 0 :: iV 0 :: iV 0 :: iV 0 :: iV 0 :: iV 0 :: iV 0 :: iV 0 :: iV 0 :: iV 0 :: Value.int .u8 0 :: Value.int .u8 0 :: Value.int .u8 0 :: Value.int .u8 0 :: iV 0 :: iV 0 :: iV 0 :: Value.slice none 0 0 :: Value.bool false :: Value.slice none 0 0 :: iV 0 :: Value.bool false :: Value.slice none 0 0 :: iV 0 :: [])) m1 _) := hd' (hl1.put 0 (iV x1))
  clear hl1
  go_wp2_with fail
  refine (ukk _ R _ bs m1 Hl1.o.rd).mono ?_
  intro e w2 h2
  cases hn2 : ukw bs m1 with
  | none =>
   rw [hn2] at h2
   obtain ⟨rfl, hq⟩ := h2.fault (J := ul2 w.heap.size) (res := ukd bs n 5) Hl1.o.mod (by have g1 := Hn1.o; simp [ukd, g1, hn2])
   exact ⟨rfl, hq⟩
  | some p2 =>
   obtain ⟨x2, m2⟩ := p2
   rw [hn2] at h2
   obtain ⟨hm2, _, rfl, rfl, hr2⟩ := h2
   have Hn2 := hd' hn2
   have hl2 := Hl1.o.step hm2 hr2
   clear hn2 hm2 hr2
   have c1 := hl2.loc.cell 1 rfl
   have fc1 := hl2.loc.frozen 1
   have Hl2 : Hid (Gou.Loc w R _ bs 35 w.heap.size L lz28 (List.toArray (iV x1 :: iV x2 :: Value.bool false :: iV 0 :: iV 0 :: iV 0 :: iV 0 :: iV 0 :: iV 0 :: iV 0 :: iV 0 :: iV 0 :: iV 0 :: iV 0 :: Value.int .u8 0 :: Value.int .u8 0 :: Value.int .u8 0 :: Value.int .u8 0 :: iV 0 :: iV 0 :: iV 0 :: Value.slice none 0 0 :: Value.bool false :: Value.slice none 0 0 :: iV 0 :: Value.bool false :: Value.slice none 0 0 :: iV 0 :: [])) m2 _) := hd' (hl2.put 1 (iV x2))
   clear hl2
   have Hres : Hid (ukd bs n 5 = some ({ Lk.zero with dx := x1, dy := x2 }, m2)) := hd' (by have g1 := Hn1.o; have g2 := Hn2.o; simp [ukd, g1, g2])
   have HB : Hid (Blk _ (L) 35 (uai { Lk.zero with dx := x1, dy := x2 } nlS nlS nlS)) := hd' Hl2.o.loc
   have Hth := hd' (Hl2.o.res.there 0 28 (by simp))
   have Hd := hd' (Loc.done (cs := uai { Lk.zero with dx := x1, dy := x2 } nlS nlS nlS) Hl2.o rfl)
   go_wp2_with (first | ((with_reducible refine wpList_load_row ?g1_1 35 ?x1_1 ?o1_1 (L) ?h1_1 ?t1_1 ?c1_1 ?f1_1 ?d1_1 ?b1_1 ?u1_1 ?s1_1 ?i1_1 ?r1_1); (case g1_1 => exact rfl); (case o1_1 => exact rfl); (case h1_1 => exact rfl); (case b1_1 => exact HB.o); (case u1_1 => exact Tryz.underlying35); (case s1_1 => exact rfl); (case i1_1 => exact size_look)) | ((with_reducible refine wpList_store_mid ?g2_1 35 ?x2_1 ?y2_1 ?o2_1 w.heap.size 0 (uai { Lk.zero with dx := x1, dy := x2 } nlS nlS nlS) ?h2_1 ?j2_1 ?t2_1 ?i2_1 ?s2_1 ?r2_1); (case g2_1 => exact rfl); (case o2_1 => exact rfl); (case h2_1 => exact rfl); (case j2_1 => exact rfl); (case t2_1 => exact Hth.o); (case i2_1 => exact size_look); (case s2_1 => exact uka _ _ _ _ _ _ _ _ _ _)) | fail)
   obtain ⟨d1, d2, d3, d4⟩ := Hd.o
   refine RdP.ends rfl rfl rfl d3 Tryz.underlying35 rfl size_look (res := ukd bs n 5) Hres.o d2 ⟨_, _, _, rfl, LookR.nil _ _ _ rfl rfl rfl, SoftB.nil _ _⟩ d1
set_option maxRecDepth 100000 in
theorem look_6 (w : World) (R : Nat) (vb : Value) (bs : List Nat) (n : Nat) (h : RdAt w R vb bs n) :
  Calls Tryz.prog 104 #[.pointer (some ⟨R, 0, none⟩), iV 6] w (RdP w R vb bs (ul2 w.heap.size) (ukd bs n 6)) := by
 have H := hd' h
 have hR := h.lt
 clear h
 go_enter Tryz.func104, Tryz.ntmps104
 go_wp2_with fail
 have Hl0 : Hid (Gou.Loc w R _ bs 35 w.heap.size (w.heap.size + 1) lz28 lz28 n ((w.alloc (.cells lz28 35)).alloc (.cells lz28 35))) := hd' (by
  have := Loc.start H.o (Mod.refl _ (w.alloc (.cells lz28 35))) (H.o.alloc _) lz28
  simpa using this)
 generalize hW : (w.alloc (.cells lz28 35)).alloc (.cells lz28 35) = W0 at *
 generalize hL : w.heap.size + 1 = L at *
 clear hW hL
 refine (ur3 _ R _ bs n Hl0.o.rd).mono ?_
 intro e w1 h1
 cases hn1 : umw bs n with
 | none =>
  rw [hn1] at h1
  obtain ⟨rfl, hq⟩ := h1.fault (J := ul2 w.heap.size) (res := ukd bs n 6) Hl0.o.mod (by simp [ukd, hn1])
  exact ⟨rfl, hq⟩
 | some p1 =>
  obtain ⟨x1, m1⟩ := p1
  rw [hn1] at h1
  obtain ⟨hm1, _, rfl, rfl, hr1⟩ := h1
  have Hn1 := hd' hn1
  cases x1 with
  | false =>
   have hl1 := Hl0.o.step hm1 hr1
   clear hn1 hm1 hr1
   have c2 := hl1.loc.cell 2 rfl
   have fc2 := hl1.loc.frozen 2
   have Hl1 : Hid (Gou.Loc w R _ bs 35 w.heap.size L lz28 lz28 m1 _) := hd' (hl1.put 2 (.bool false))
   clear hl1
   have Hres : Hid (ukd bs n 6 = some (Lk.zero, m1)) := hd' (by have g1 := Hn1.o; simp [ukd, g1])
   have HB : Hid (Blk _ (L) 35 lkZz) := hd' Hl1.o.loc
   have Hth := hd' (Hl1.o.res.there 0 28 (by simp))
   have Hd := hd' (Loc.done (cs := lkZz) Hl1.o rfl)
   go_wp2_with (first | ((with_reducible refine wpList_load_row ?g1_2 35 ?x1_2 ?o1_2 (L) ?h1_2 ?t1_2 ?c1_2 ?f1_2 ?d1_2 ?b1_2 ?u1_2 ?s1_2 ?i1_2 ?r1_2); (case g1_2 => exact rfl); (case o1_2 => exact rfl); (case h1_2 => exact rfl); (case b1_2 => exact HB.o); (case u1_2 => exact Tryz.underlying35); (case s1_2 => exact rfl); (case i1_2 => exact size_look)) | ((with_reducible refine wpList_store_mid ?g2_2 35 ?x2_2 ?y2_2 ?o2_2 w.heap.size 0 lkZz ?h2_2 ?j2_2 ?t2_2 ?i2_2 ?s2_2 ?r2_2); (case g2_2 => exact rfl); (case o2_2 => exact rfl); (case h2_2 => exact rfl); (case j2_2 => exact rfl); (case t2_2 => exact Hth.o); (case i2_2 => exact size_look); (case s2_2 => exact uka _ _ _ _ _ _ _ _ _ _)) | fail)
   obtain ⟨d1, d2, d3, d4⟩ := Hd.o
   refine RdP.ends rfl rfl rfl d3 Tryz.underlying35 rfl size_look (res := ukd bs n 6) Hres.o d2 ⟨_, _, _, rfl, LookR.nil _ _ _ rfl rfl rfl, SoftB.nil _ _⟩ d1
  | true =>
   have hl1 := Hl0.o.step hm1 hr1
   clear hn1 hm1 hr1
   have c2 := hl1.loc.cell 2 rfl
   have fc2 := hl1.loc.frozen 2
   have Hl1 : Hid (Gou.Loc w R _ bs 35 w.heap.size L lz28 (List.toArray (iV 0 :: iV 0 :: Value.bool true :: iV 0 :: iV 0 :: iV 0 :: iV 0 :: iV 0 :: iV 0 :: iV 0 :: iV 0 :: iV 0 :: iV 0 :: iV 0 :: Value.int .u8 0 :: Value.int .u8 0 :: Value.int .u8 0 :: Value.int .u8 0 :: iV 0 :: iV 0 :: iV 0 :: Value.slice none 0 0 :: Value.bool false :: Value.slice none 0 0 :: iV 0 :: Value.bool false :: Value.slice none 0 0 :: iV 0 :: [])) m1 _) := hd' (hl1.put 2 (.bool true))
   clear hl1
   go_wp2_with fail
   refine (box_any _ R _ bs m1 Hl1.o.rd).mono ?_
   intro e w2 h2
   cases hn2 : ur9 bs m1 with
   | none =>
    rw [hn2] at h2
    obtain ⟨rfl, hq⟩ := h2.fault (J := ul2 w.heap.size) (res := ukd bs n 6) Hl1.o.mod (by have g1 := Hn1.o; simp [ukd, g1, hn2])
    exact ⟨rfl, hq⟩
   | some p2 =>
    obtain ⟨x2, m2⟩ := p2
    rw [hn2] at h2
    obtain ⟨hm2, _, rfl, ⟨hlen2, rfl⟩, hr2⟩ := h2
    have Hn2 := hd' hn2
    obtain ⟨a, b, c, d, rfl⟩ := list4 hlen2
    simp only [List.getD_cons_zero, List.getD_cons_succ]
    have hl2 := Hl1.o.step hm2 hr2
    clear hn2 hm2 hr2
    have c3 := hl2.loc.cell 3 rfl
    have fc3 := hl2.loc.frozen 3
    have c4 := hl2.loc.cell 4 rfl
    have fc4 := hl2.loc.frozen 4
    have c5 := hl2.loc.cell 5 rfl
    have fc5 := hl2.loc.frozen 5
    have c6 := hl2.loc.cell 6 rfl
    have fc6 := hl2.loc.frozen 6
    have hs2 := hl2.puts 3 [iV a, iV b, iV c, iV d]
    simp only [World.setCells, Nat.reduceAdd] at hs2
    have Hl2 : Hid (Gou.Loc w R _ bs 35 w.heap.size L lz28 (List.toArray (iV 0 :: iV 0 :: Value.bool true :: iV a :: iV b :: iV c :: iV d :: iV 0 :: iV 0 :: iV 0 :: iV 0 :: iV 0 :: iV 0 :: iV 0 :: Value.int .u8 0 :: Value.int .u8 0 :: Value.int .u8 0 :: Value.int .u8 0 :: iV 0 :: iV 0 :: iV 0 :: Value.slice none 0 0 :: Value.bool false :: Value.slice none 0 0 :: iV 0 :: Value.bool false :: Value.slice none 0 0 :: iV 0 :: [])) m2 _) := hd' (hs2)
    clear hl2 hs2
    have Hres : Hid (ukd bs n 6 = some ({ Lk.zero with hasClip := true, clip := ⟨a, b, c, d⟩ }, m2)) := hd' (by have g1 := Hn1.o; have g2 := Hn2.o; simp [ukd, g1, g2]; rfl)
    have HB : Hid (Blk _ (L) 35 (uai { Lk.zero with hasClip := true, clip := ⟨a, b, c, d⟩ } nlS nlS nlS)) := hd' Hl2.o.loc
    have Hth := hd' (Hl2.o.res.there 0 28 (by simp))
    have Hd := hd' (Loc.done (cs := uai { Lk.zero with hasClip := true, clip := ⟨a, b, c, d⟩ } nlS nlS nlS) Hl2.o rfl)
    go_wp2_with (first | ((with_reducible refine wpList_load_row ?g1_3 35 ?x1_3 ?o1_3 (L) ?h1_3 ?t1_3 ?c1_3 ?f1_3 ?d1_3 ?b1_3 ?u1_3 ?s1_3 ?i1_3 ?r1_3); (case g1_3 => exact rfl); (case o1_3 => exact rfl); (case h1_3 => exact rfl); (case b1_3 => exact HB.o); (case u1_3 => exact Tryz.underlying35); (case s1_3 => exact rfl); (case i1_3 => exact size_look)) | ((with_reducible refine wpList_store_mid ?g2_3 35 ?x2_3 ?y2_3 ?o2_3 w.heap.size 0 (uai { Lk.zero with hasClip := true, clip := ⟨a, b, c, d⟩ } nlS nlS nlS) ?h2_3 ?j2_3 ?t2_3 ?i2_3 ?s2_3 ?r2_3); (case g2_3 => exact rfl); (case o2_3 => exact rfl); (case h2_3 => exact rfl); (case j2_3 => exact rfl); (case t2_3 => exact Hth.o); (case i2_3 => exact size_look); (case s2_3 => exact uka _ _ _ _ _ _ _ _ _ _)) | fail)
    obtain ⟨d1, d2, d3, d4⟩ := Hd.o
    refine RdP.ends rfl rfl rfl d3 Tryz.underlying35 rfl size_look (res := ukd bs n 6) Hres.o d2 ⟨_, _, _, rfl, LookR.nil _ _ _ rfl rfl rfl, SoftB.nil _ _⟩ d1
set_option maxRecDepth 100000 in
theorem look_7 (w : World) (R : Nat) (vb : Value) (bs : List Nat) (n : Nat) (h : RdAt w R vb bs n) :
  Calls Tryz.prog 104 #[.pointer (some ⟨R, 0, none⟩), iV 7] w (RdP w R vb bs (ul2 w.heap.size) (ukd bs n 7)) := by
 have H := hd' h
 have hR := h.lt
 clear h
 go_enter Tryz.func104, Tryz.ntmps104
 go_wp2_with fail
 have Hl0 : Hid (Gou.Loc w R _ bs 35 w.heap.size (w.heap.size + 1) lz28 lz28 n ((w.alloc (.cells lz28 35)).alloc (.cells lz28 35))) := hd' (by
  have := Loc.start H.o (Mod.refl _ (w.alloc (.cells lz28 35))) (H.o.alloc _) lz28
  simpa using this)
 generalize hW : (w.alloc (.cells lz28 35)).alloc (.cells lz28 35) = W0 at *
 generalize hL : w.heap.size + 1 = L at *
 clear hW hL
 refine (ukk _ R _ bs n Hl0.o.rd).mono ?_
 intro e w1 h1
 cases hn1 : ukw bs n with
 | none =>
  rw [hn1] at h1
  obtain ⟨rfl, hq⟩ := h1.fault (J := ul2 w.heap.size) (res := ukd bs n 7) Hl0.o.mod (by simp [ukd, hn1])
  exact ⟨rfl, hq⟩
 | some p1 =>
  obtain ⟨x1, m1⟩ := p1
  rw [hn1] at h1
  obtain ⟨hm1, _, rfl, rfl, hr1⟩ := h1
  have Hn1 := hd' hn1
  have hl1 := Hl0.o.step hm1 hr1
  clear hn1 hm1 hr1
  have c7 := hl1.loc.cell 7 rfl
  have fc7 := hl1.loc.frozen 7
  have Hl1 : Hid (Gou.Loc w R _ bs 35 w.heap.size L lz28 (List.toArray (iV 0 :: iV 0 :: Value.bool false :: iV 0 :: iV 0 :: iV 0 :: iV 0 :: iV x1 :: iV 0 :: iV 0 :: iV 0 :: iV 0 :: iV 0 :: iV 0 :: Value.int .u8 0 :: Value.int .u8 0 :: Value.int .u8 0 :: Value.int .u8 0 :: iV 0 :: iV 0 :: iV 0 :: Value.slice none 0 0 :: Value.bool false :: Value.slice none 0 0 :: iV 0 :: Value.bool false :: Value.slice none 0 0 :: iV 0 :: [])) m1 _) := hd' (hl1.put 7 (iV x1))
  clear hl1
  have Hres : Hid (ukd bs n 7 = some ({ Lk.zero with opacity := x1 }, m1)) := hd' (by have g1 := Hn1.o; simp [ukd, g1])
  have HB : Hid (Blk _ (L) 35 (uai { Lk.zero with opacity := x1 } nlS nlS nlS)) := hd' Hl1.o.loc
  have Hth := hd' (Hl1.o.res.there 0 28 (by simp))
  have Hd := hd' (Loc.done (cs := uai { Lk.zero with opacity := x1 } nlS nlS nlS) Hl1.o rfl)
  go_wp2_with (first | ((with_reducible refine wpList_load_row ?g1_4 35 ?x1_4 ?o1_4 (L) ?h1_4 ?t1_4 ?c1_4 ?f1_4 ?d1_4 ?b1_4 ?u1_4 ?s1_4 ?i1_4 ?r1_4); (case g1_4 => exact rfl); (case o1_4 => exact rfl); (case h1_4 => exact rfl); (case b1_4 => exact HB.o); (case u1_4 => exact Tryz.underlying35); (case s1_4 => exact rfl); (case i1_4 => exact size_look)) | ((with_reducible refine wpList_store_mid ?g2_4 35 ?x2_4 ?y2_4 ?o2_4 w.heap.size 0 (uai { Lk.zero with opacity := x1 } nlS nlS nlS) ?h2_4 ?j2_4 ?t2_4 ?i2_4 ?s2_4 ?r2_4); (case g2_4 => exact rfl); (case o2_4 => exact rfl); (case h2_4 => exact rfl); (case j2_4 => exact rfl); (case t2_4 => exact Hth.o); (case i2_4 => exact size_look); (case s2_4 => exact uka _ _ _ _ _ _ _ _ _ _)) | fail)
  obtain ⟨d1, d2, d3, d4⟩ := Hd.o
  refine RdP.ends rfl rfl rfl d3 Tryz.underlying35 rfl size_look (res := ukd bs n 7) Hres.o d2 ⟨_, _, _, rfl, LookR.nil _ _ _ rfl rfl rfl, SoftB.nil _ _⟩ d1
set_option maxRecDepth 100000 in
theorem look_8 (w : World) (R : Nat) (vb : Value) (bs : List Nat) (n : Nat) (h : RdAt w R vb bs n) :
  Calls Tryz.prog 104 #[.pointer (some ⟨R, 0, none⟩), iV 8] w (RdP w R vb bs (ul2 w.heap.size) (ukd bs n 8)) := by
 have H := hd' h
 have hR := h.lt
 clear h
 go_enter Tryz.func104, Tryz.ntmps104
 go_wp2_with fail
 have Hl0 : Hid (Gou.Loc w R _ bs 35 w.heap.size (w.heap.size + 1) lz28 lz28 n ((w.alloc (.cells lz28 35)).alloc (.cells lz28 35))) := hd' (by
  have := Loc.start H.o (Mod.refl _ (w.alloc (.cells lz28 35))) (H.o.alloc _) lz28
  simpa using this)
 generalize hW : (w.alloc (.cells lz28 35)).alloc (.cells lz28 35) = W0 at *
 generalize hL : w.heap.size + 1 = L at *
 clear hW hL
 refine (ukk _ R _ bs n Hl0.o.rd).mono ?_
 intro e w1 h1
 cases hn1 : ukw bs n with
 | none =>
  rw [hn1] at h1
  obtain ⟨rfl, hq⟩ := h1.fault (J := ul2 w.heap.size) (res := ukd bs n 8) Hl0.o.mod (by simp [ukd, hn1])
  exact ⟨rfl, hq⟩
 | some p1 =>
  obtain ⟨x1, m1⟩ := p1
  rw [hn1] at h1
  obtain ⟨hm1, _, rfl, rfl, hr1⟩ := h1
  have Hn1 := hd' hn1
  have hl1 := Hl0.o.step hm1 hr1
  clear hn1 hm1 hr1
  have c8 := hl1.loc.cell 8 rfl
  have fc8 := hl1.loc.frozen 8
  have Hl1 : Hid (Gou.Loc w R _ bs 35 w.heap.size L lz28 (List.toArray (iV 0 :: iV 0 :: Value.bool false :: iV 0 :: iV 0 :: iV 0 :: iV 0 :: iV 0 :: iV x1 :: iV 0 :: iV 0 :: iV 0 :: iV 0 :: iV 0 :: Value.int .u8 0 :: Value.int .u8 0 :: Value.int .u8 0 :: Value.int .u8 0 :: iV 0 :: iV 0 :: iV 0 :: Value.slice none 0 0 :: Value.bool false :: Value.slice none 0 0 :: iV 0 :: Value.bool false :: Value.slice none 0 0 :: iV 0 :: [])) m1 _) := hd' (hl1.put 8 (iV x1))
  clear hl1
  have Hres : Hid (ukd bs n 8 = some ({ Lk.zero with mode := x1 }, m1)) := hd' (by have g1 := Hn1.o; simp [ukd, g1])
  have HB : Hid (Blk _ (L) 35 (uai { Lk.zero with mode := x1 } nlS nlS nlS)) := hd' Hl1.o.loc
  have Hth := hd' (Hl1.o.res.there 0 28 (by simp))
  have Hd := hd' (Loc.done (cs := uai { Lk.zero with mode := x1 } nlS nlS nlS) Hl1.o rfl)
  go_wp2_with (first | ((with_reducible refine wpList_load_row ?g1_5 35 ?x1_5 ?o1_5 (L) ?h1_5 ?t1_5 ?c1_5 ?f1_5 ?d1_5 ?b1_5 ?u1_5 ?s1_5 ?i1_5 ?r1_5); (case g1_5 => exact rfl); (case o1_5 => exact rfl); (case h1_5 => exact rfl); (case b1_5 => exact HB.o); (case u1_5 => exact Tryz.underlying35); (case s1_5 => exact rfl); (case i1_5 => exact size_look)) | ((with_reducible refine wpList_store_mid ?g2_5 35 ?x2_5 ?y2_5 ?o2_5 w.heap.size 0 (uai { Lk.zero with mode := x1 } nlS nlS nlS) ?h2_5 ?j2_5 ?t2_5 ?i2_5 ?s2_5 ?r2_5); (case g2_5 => exact rfl); (case o2_5 => exact rfl); (case h2_5 => exact rfl); (case j2_5 => exact rfl); (case t2_5 => exact Hth.o); (case i2_5 => exact size_look); (case s2_5 => exact uka _ _ _ _ _ _ _ _ _ _)) | fail)
  obtain ⟨d1, d2, d3, d4⟩ := Hd.o
  refine RdP.ends rfl rfl rfl d3 Tryz.underlying35 rfl size_look (res := ukd bs n 8) Hres.o d2 ⟨_, _, _, rfl, LookR.nil _ _ _ rfl rfl rfl, SoftB.nil _ _⟩ d1
set_option maxRecDepth 100000 in
theorem look_9 (w : World) (R : Nat) (vb : Value) (bs : List Nat) (n : Nat) (h : RdAt w R vb bs n) :
  Calls Tryz.prog 104 #[.pointer (some ⟨R, 0, none⟩), iV 9] w (RdP w R vb bs (ul2 w.heap.size) (ukd bs n 9)) := by
 have H := hd' h
 have hR := h.lt
 clear h
 go_enter Tryz.func104, Tryz.ntmps104
 go_wp2_with fail
 have Hl0 : Hid (Gou.Loc w R _ bs 35 w.heap.size (w.heap.size + 1) lz28 lz28 n ((w.alloc (.cells lz28 35)).alloc (.cells lz28 35))) := hd' (by
  have := Loc.start H.o (Mod.refl _ (w.alloc (.cells lz28 35))) (H.o.alloc _) lz28
  simpa using this)
 generalize hW : (w.alloc (.cells lz28 35)).alloc (.cells lz28 35) = W0 at *
 generalize hL : w.heap.size + 1 = L at *
 clear hW hL
 refine (uig _ R _ bs n Hl0.o.rd).mono ?_
 intro e w1 h1
 cases hn1 : ukg bs n with
 | none =>
  rw [hn1] at h1
  obtain ⟨rfl, hq⟩ := h1.fault (J := ul2 w.heap.size) (res := ukd bs n 9) Hl0.o.mod (by simp [ukd, hn1])
  exact ⟨rfl, hq⟩
 | some p1 =>
  obtain ⟨x1, m1⟩ := p1
  rw [hn1] at h1
  obtain ⟨hm1, _, rfl, ⟨cp, cc, rfl, hpx, hsoft⟩, hr1⟩ := h1
  have Hn1 := hd' hn1
  have hLB := Blk.lt Hl0.o.loc
  have hNB := Blk.lt Hl0.o.res
  have hwB := Hl0.o.mod.size
  have HP := hd' hpx
  have HS := hd' hsoft
  have Hlt := hd' (And.intro hLB (And.intro hNB hwB))
  clear hpx hsoft hLB hNB hwB
  have hl1 := Hl0.o.step hm1 hr1
  clear hn1 hm1 hr1
  have Ht1 := hd' (hl1.loc.there 9 13 (by simp))
  have hs1 := hl1.puts 9 (uak x1 (.slice cp x1.pix.length cc)).toList
  rw [usn] at hs1
  have Hl1 := hd' hs1
  clear hs1
  clear hl1
  have Hres : Hid (ukd bs n 9 = some ({ Lk.zero with content := x1 }, m1)) := hd' (by have g1 := Hn1.o; simp [ukd, g1])
  have HB : Hid (Blk _ (L) 35 (uai { Lk.zero with content := x1 } (.slice cp x1.pix.length cc) nlS nlS)) := hd' Hl1.o.loc
  have Hth := hd' (Hl1.o.res.there 0 28 (by simp))
  have Hd := hd' (Loc.done (cs := uai { Lk.zero with content := x1 } (.slice cp x1.pix.length cc) nlS nlS) Hl1.o rfl)
  go_wp2_with (first | ((with_reducible refine wpList_store_mid ?g1_6 30 ?x1_6 ?y1_6 ?o1_6 L 9 (uak x1 (.slice cp x1.pix.length cc)) ?h1_6 ?j1_6 ?t1_6 ?i1_6 ?s1_6 ?r1_6); (case g1_6 => exact rfl); (case o1_6 => exact rfl); (case h1_6 => exact rfl); (case j1_6 => exact rfl); (case t1_6 => exact Ht1.o); (case i1_6 => exact size_content); (case s1_6 => exact umy _ _ _ _)) | ((with_reducible refine wpList_load_row ?g1_7 35 ?x1_7 ?o1_7 (L) ?h1_7 ?t1_7 ?c1_7 ?f1_7 ?d1_7 ?b1_7 ?u1_7 ?s1_7 ?i1_7 ?r1_7); (case g1_7 => exact rfl); (case o1_7 => exact rfl); (case h1_7 => exact rfl); (case b1_7 => exact HB.o); (case u1_7 => exact Tryz.underlying35); (case s1_7 => exact rfl); (case i1_7 => exact size_look)) | ((with_reducible refine wpList_store_mid ?g2_7 35 ?x2_7 ?y2_7 ?o2_7 w.heap.size 0 (uai { Lk.zero with content := x1 } (.slice cp x1.pix.length cc) nlS nlS) ?h2_7 ?j2_7 ?t2_7 ?i2_7 ?s2_7 ?r2_7); (case g2_7 => exact rfl); (case o2_7 => exact rfl); (case h2_7 => exact rfl); (case j2_7 => exact rfl); (case t2_7 => exact Hth.o); (case i2_7 => exact size_look); (case s2_7 => exact uka _ _ _ _ _ _ _ _ _ _)) | fail)
  obtain ⟨d1, d2, d3, d4⟩ := Hd.o
  refine RdP.ends rfl rfl rfl d3 Tryz.underlying35 rfl size_look (res := ukd bs n 9) Hres.o d2 ⟨_, _, _, rfl, ⟨HP.o.far (Mod.two (L := L) (o := 9) (vs := (uak x1 (.slice cp x1.pix.length cc)).toList) d4) Hlt.o.1 Hlt.o.2.1 Hlt.o.2.2, NodesR.nil _ _, NodesR.nil _ _⟩, HS.o.far (Mod.two (L := L) (o := 9) (vs := (uak x1 (.slice cp x1.pix.length cc)).toList) d4) Hlt.o.1 Hlt.o.2.1 Hlt.o.2.2⟩ d1
set_option maxRecDepth 100000 in
theorem look_10 (w : World) (R : Nat) (vb : Value) (bs : List Nat) (n : Nat) (h : RdAt w R vb bs n) :
  Calls Tryz.prog 104 #[.pointer (some ⟨R, 0, none⟩), iV 10] w (RdP w R vb bs (ul2 w.heap.size) (ukd bs n 10)) := by
 have H := hd' h
 have hR := h.lt
 clear h
 go_enter Tryz.func104, Tryz.ntmps104
 go_wp2_with fail
 have Hl0 : Hid (Gou.Loc w R _ bs 35 w.heap.size (w.heap.size + 1) lz28 lz28 n ((w.alloc (.cells lz28 35)).alloc (.cells lz28 35))) := hd' (by
  have := Loc.start H.o (Mod.refl _ (w.alloc (.cells lz28 35))) (H.o.alloc _) lz28
  simpa using this)
 generalize hW : (w.alloc (.cells lz28 35)).alloc (.cells lz28 35) = W0 at *
 generalize hL : w.heap.size + 1 = L at *
 clear hW hL
 refine (ur3 _ R _ bs n Hl0.o.rd).mono ?_
 intro e w1 h1
 cases hn1 : umw bs n with
 | none =>
  rw [hn1] at h1
  obtain ⟨rfl, hq⟩ := h1.fault (J := ul2 w.heap.size) (res := ukd bs n 10) Hl0.o.mod (by simp [ukd, hn1])
  exact ⟨rfl, hq⟩
 | some p1 =>
  obtain ⟨x1, m1⟩ := p1
  rw [hn1] at h1
  obtain ⟨hm1, _, rfl, rfl, hr1⟩ := h1
  have Hn1 := hd' hn1
  cases x1 with
  | false =>
   have hl1 := Hl0.o.step hm1 hr1
   clear hn1 hm1 hr1
   have c22 := hl1.loc.cell 22 rfl
   have fc22 := hl1.loc.frozen 22
   have Hl1 : Hid (Gou.Loc w R _ bs 35 w.heap.size L lz28 lz28 m1 _) := hd' (hl1.put 22 (.bool false))
   clear hl1
   have Hres : Hid (ukd bs n 10 = some (Lk.zero, m1)) := hd' (by have g1 := Hn1.o; simp [ukd, g1])
   have HB : Hid (Blk _ (L) 35 lkZz) := hd' Hl1.o.loc
   have Hth := hd' (Hl1.o.res.there 0 28 (by simp))
   have Hd := hd' (Loc.done (cs := lkZz) Hl1.o rfl)
   go_wp2_with (first | ((with_reducible refine wpList_load_row ?g1_8 35 ?x1_8 ?o1_8 (L) ?h1_8 ?t1_8 ?c1_8 ?f1_8 ?d1_8 ?b1_8 ?u1_8 ?s1_8 ?i1_8 ?r1_8); (case g1_8 => exact rfl); (case o1_8 => exact rfl); (case h1_8 => exact rfl); (case b1_8 => exact HB.o); (case u1_8 => exact Tryz.underlying35); (case s1_8 => exact rfl); (case i1_8 => exact size_look)) | ((with_reducible refine wpList_store_mid ?g2_8 35 ?x2_8 ?y2_8 ?o2_8 w.heap.size 0 lkZz ?h2_8 ?j2_8 ?t2_8 ?i2_8 ?s2_8 ?r2_8); (case g2_8 => exact rfl); (case o2_8 => exact rfl); (case h2_8 => exact rfl); (case j2_8 => exact rfl); (case t2_8 => exact Hth.o); (case i2_8 => exact size_look); (case s2_8 => exact uka _ _ _ _ _ _ _ _ _ _)) | fail)
   obtain ⟨d1, d2, d3, d4⟩ := Hd.o
   refine RdP.ends rfl rfl rfl d3 Tryz.underlying35 rfl size_look (res := ukd bs n 10) Hres.o d2 ⟨_, _, _, rfl, LookR.nil _ _ _ rfl rfl rfl, SoftB.nil _ _⟩ d1
  | true =>
   have hl1 := Hl0.o.step hm1 hr1
   clear hn1 hm1 hr1
   have c22 := hl1.loc.cell 22 rfl
   have fc22 := hl1.loc.frozen 22
   have Hl1 : Hid (Gou.Loc w R _ bs 35 w.heap.size L lz28 (List.toArray (iV 0 :: iV 0 :: Value.bool false :: iV 0 :: iV 0 :: iV 0 :: iV 0 :: iV 0 :: iV 0 :: iV 0 :: iV 0 :: iV 0 :: iV 0 :: iV 0 :: Value.int .u8 0 :: Value.int .u8 0 :: Value.int .u8 0 :: Value.int .u8 0 :: iV 0 :: iV 0 :: iV 0 :: Value.slice none 0 0 :: Value.bool true :: Value.slice none 0 0 :: iV 0 :: Value.bool false :: Value.slice none 0 0 :: iV 0 :: [])) m1 _) := hd' (hl1.put 22 (.bool true))
   clear hl1
   go_wp2_with fail
   refine (ue1 _ R _ bs m1 Hl1.o.rd).mono ?_
   intro e w2 h2
   cases hn2 : ulq bs m1 with
   | none =>
    rw [hn2] at h2
    obtain ⟨rfl, hq⟩ := h2.fault (J := ul2 w.heap.size) (res := ukd bs n 10) Hl1.o.mod (by have g1 := Hn1.o; simp [ukd, g1, hn2])
    exact ⟨rfl, hq⟩
   | some p2 =>
    obtain ⟨x2, m2⟩ := p2
    rw [hn2] at h2
    obtain ⟨hm2, _, rfl, ⟨gp, gc, rfl, hnd⟩, hr2⟩ := h2
    have Hn2 := hd' hn2
    have hLB := Blk.lt Hl1.o.loc
    have hNB := Blk.lt Hl1.o.res
    have hwB := Hl1.o.mod.size
    have HP := hd' hnd
    have Hlt := hd' (And.intro hLB (And.intro hNB hwB))
    clear hnd hLB hNB hwB
    have hl2 := Hl1.o.step hm2 hr2
    clear hn2 hm2 hr2
    have c23 := hl2.loc.cell 23 rfl
    have fc23 := hl2.loc.frozen 23
    have c24 := hl2.loc.cell 24 rfl
    have fc24 := hl2.loc.frozen 24
    have hs2 := hl2.puts 23 [.slice gp x2.nodes.length gc, iV x2.out]
    simp only [World.setCells, Nat.reduceAdd] at hs2
    have Hl2 : Hid (Gou.Loc w R _ bs 35 w.heap.size L lz28 (List.toArray (iV 0 :: iV 0 :: Value.bool false :: iV 0 :: iV 0 :: iV 0 :: iV 0 :: iV 0 :: iV 0 :: iV 0 :: iV 0 :: iV 0 :: iV 0 :: iV 0 :: Value.int .u8 0 :: Value.int .u8 0 :: Value.int .u8 0 :: Value.int .u8 0 :: iV 0 :: iV 0 :: iV 0 :: Value.slice none 0 0 :: Value.bool true :: Value.slice gp x2.nodes.length gc :: iV x2.out :: Value.bool false :: Value.slice none 0 0 :: iV 0 :: [])) m2 _) := hd' (hs2)
    clear hl2 hs2
    have Hres : Hid (ukd bs n 10 = some ({ Lk.zero with hasFilt := true, filt := x2 }, m2)) := hd' (by have g1 := Hn1.o; have g2 := Hn2.o; simp [ukd, g1, g2])
    have HB : Hid (Blk _ (L) 35 (uai { Lk.zero with hasFilt := true, filt := x2 } nlS (.slice gp x2.nodes.length gc) nlS)) := hd' Hl2.o.loc
    have Hth := hd' (Hl2.o.res.there 0 28 (by simp))
    have Hd := hd' (Loc.done (cs := uai { Lk.zero with hasFilt := true, filt := x2 } nlS (.slice gp x2.nodes.length gc) nlS) Hl2.o rfl)
    go_wp2_with (first | ((with_reducible refine wpList_load_row ?g1_9 35 ?x1_9 ?o1_9 (L) ?h1_9 ?t1_9 ?c1_9 ?f1_9 ?d1_9 ?b1_9 ?u1_9 ?s1_9 ?i1_9 ?r1_9); (case g1_9 => exact rfl); (case o1_9 => exact rfl); (case h1_9 => exact rfl); (case b1_9 => exact HB.o); (case u1_9 => exact Tryz.underlying35); (case s1_9 => exact rfl); (case i1_9 => exact size_look)) | ((with_reducible refine wpList_store_mid ?g2_9 35 ?x2_9 ?y2_9 ?o2_9 w.heap.size 0 (uai { Lk.zero with hasFilt := true, filt := x2 } nlS (.slice gp x2.nodes.length gc) nlS) ?h2_9 ?j2_9 ?t2_9 ?i2_9 ?s2_9 ?r2_9); (case g2_9 => exact rfl); (case o2_9 => exact rfl); (case h2_9 => exact rfl); (case j2_9 => exact rfl); (case t2_9 => exact Hth.o); (case i2_9 => exact size_look); (case s2_9 => exact uka _ _ _ _ _ _ _ _ _ _)) | fail)
    obtain ⟨d1, d2, d3, d4⟩ := Hd.o
    refine RdP.ends rfl rfl rfl d3 Tryz.underlying35 rfl size_look (res := ukd bs n 10) Hres.o d2 ⟨_, _, _, rfl, ⟨PixR.nil _ _, HP.o.far (Mod.two (L := L) (o := 23) (vs := [.slice gp x2.nodes.length gc, iV x2.out]) d4) Hlt.o.1 Hlt.o.2.1 Hlt.o.2.2, NodesR.nil _ _⟩, SoftB.nil _ _⟩ d1
set_option maxRecDepth 100000 in
theorem look_11 (w : World) (R : Nat) (vb : Value) (bs : List Nat) (n : Nat) (h : RdAt w R vb bs n) :
  Calls Tryz.prog 104 #[.pointer (some ⟨R, 0, none⟩), iV 11] w (RdP w R vb bs (ul2 w.heap.size) (ukd bs n 11)) := by
 have H := hd' h
 have hR := h.lt
 clear h
 go_enter Tryz.func104, Tryz.ntmps104
 go_wp2_with fail
 have Hl0 : Hid (Gou.Loc w R _ bs 35 w.heap.size (w.heap.size + 1) lz28 lz28 n ((w.alloc (.cells lz28 35)).alloc (.cells lz28 35))) := hd' (by
  have := Loc.start H.o (Mod.refl _ (w.alloc (.cells lz28 35))) (H.o.alloc _) lz28
  simpa using this)
 generalize hW : (w.alloc (.cells lz28 35)).alloc (.cells lz28 35) = W0 at *
 generalize hL : w.heap.size + 1 = L at *
 clear hW hL
 refine (ur3 _ R _ bs n Hl0.o.rd).mono ?_
 intro e w1 h1
 cases hn1 : umw bs n with
 | none =>
  rw [hn1] at h1
  obtain ⟨rfl, hq⟩ := h1.fault (J := ul2 w.heap.size) (res := ukd bs n 11) Hl0.o.mod (by simp [ukd, hn1])
  exact ⟨rfl, hq⟩
 | some p1 =>
  obtain ⟨x1, m1⟩ := p1
  rw [hn1] at h1
  obtain ⟨hm1, _, rfl, rfl, hr1⟩ := h1
  have Hn1 := hd' hn1
  cases x1 with
  | false =>
   have hl1 := Hl0.o.step hm1 hr1
   clear hn1 hm1 hr1
   have c25 := hl1.loc.cell 25 rfl
   have fc25 := hl1.loc.frozen 25
   have Hl1 : Hid (Gou.Loc w R _ bs 35 w.heap.size L lz28 lz28 m1 _) := hd' (hl1.put 25 (.bool false))
   clear hl1
   have Hres : Hid (ukd bs n 11 = some (Lk.zero, m1)) := hd' (by have g1 := Hn1.o; simp [ukd, g1])
   have HB : Hid (Blk _ (L) 35 lkZz) := hd' Hl1.o.loc
   have Hth := hd' (Hl1.o.res.there 0 28 (by simp))
   have Hd := hd' (Loc.done (cs := lkZz) Hl1.o rfl)
   go_wp2_with (first | ((with_reducible refine wpList_load_row ?g1_10 35 ?x1_10 ?o1_10 (L) ?h1_10 ?t1_10 ?c1_10 ?f1_10 ?d1_10 ?b1_10 ?u1_10 ?s1_10 ?i1_10 ?r1_10); (case g1_10 => exact rfl); (case o1_10 => exact rfl); (case h1_10 => exact rfl); (case b1_10 => exact HB.o); (case u1_10 => exact Tryz.underlying35); (case s1_10 => exact rfl); (case i1_10 => exact size_look)) | ((with_reducible refine wpList_store_mid ?g2_10 35 ?x2_10 ?y2_10 ?o2_10 w.heap.size 0 lkZz ?h2_10 ?j2_10 ?t2_10 ?i2_10 ?s2_10 ?r2_10); (case g2_10 => exact rfl); (case o2_10 => exact rfl); (case h2_10 => exact rfl); (case j2_10 => exact rfl); (case t2_10 => exact Hth.o); (case i2_10 => exact size_look); (case s2_10 => exact uka _ _ _ _ _ _ _ _ _ _)) | fail)
   obtain ⟨d1, d2, d3, d4⟩ := Hd.o
   refine RdP.ends rfl rfl rfl d3 Tryz.underlying35 rfl size_look (res := ukd bs n 11) Hres.o d2 ⟨_, _, _, rfl, LookR.nil _ _ _ rfl rfl rfl, SoftB.nil _ _⟩ d1
  | true =>
   have hl1 := Hl0.o.step hm1 hr1
   clear hn1 hm1 hr1
   have c25 := hl1.loc.cell 25 rfl
   have fc25 := hl1.loc.frozen 25
   have Hl1 : Hid (Gou.Loc w R _ bs 35 w.heap.size L lz28 (List.toArray (iV 0 :: iV 0 :: Value.bool false :: iV 0 :: iV 0 :: iV 0 :: iV 0 :: iV 0 :: iV 0 :: iV 0 :: iV 0 :: iV 0 :: iV 0 :: iV 0 :: Value.int .u8 0 :: Value.int .u8 0 :: Value.int .u8 0 :: Value.int .u8 0 :: iV 0 :: iV 0 :: iV 0 :: Value.slice none 0 0 :: Value.bool false :: Value.slice none 0 0 :: iV 0 :: Value.bool true :: Value.slice none 0 0 :: iV 0 :: [])) m1 _) := hd' (hl1.put 25 (.bool true))
   clear hl1
   go_wp2_with fail
   refine (ue1 _ R _ bs m1 Hl1.o.rd).mono ?_
   intro e w2 h2
   cases hn2 : ulq bs m1 with
   | none =>
    rw [hn2] at h2
    obtain ⟨rfl, hq⟩ := h2.fault (J := ul2 w.heap.size) (res := ukd bs n 11) Hl1.o.mod (by have g1 := Hn1.o; simp [ukd, g1, hn2])
    exact ⟨rfl, hq⟩
   | some p2 =>
    obtain ⟨x2, m2⟩ := p2
    rw [hn2] at h2
    obtain ⟨hm2, _, rfl, ⟨gp, gc, rfl, hnd⟩, hr2⟩ := h2
    have Hn2 := hd' hn2
    have hLB := Blk.lt Hl1.o.loc
    have hNB := Blk.lt Hl1.o.res
    have hwB := Hl1.o.mod.size
    have HP := hd' hnd
    have Hlt := hd' (And.intro hLB (And.intro hNB hwB))
    clear hnd hLB hNB hwB
    have hl2 := Hl1.o.step hm2 hr2
    clear hn2 hm2 hr2
    have c26 := hl2.loc.cell 26 rfl
    have fc26 := hl2.loc.frozen 26
    have c27 := hl2.loc.cell 27 rfl
    have fc27 := hl2.loc.frozen 27
    have hs2 := hl2.puts 26 [.slice gp x2.nodes.length gc, iV x2.out]
    simp only [World.setCells, Nat.reduceAdd] at hs2
    have Hl2 : Hid (Gou.Loc w R _ bs 35 w.heap.size L lz28 (List.toArray (iV 0 :: iV 0 :: Value.bool false :: iV 0 :: iV 0 :: iV 0 :: iV 0 :: iV 0 :: iV 0 :: iV 0 :: iV 0 :: iV 0 :: iV 0 :: iV 0 :: Value.int .u8 0 :: Value.int .u8 0 :: Value.int .u8 0 :: Value.int .u8 0 :: iV 0 :: iV 0 :: iV 0 :: Value.slice none 0 0 :: Value.bool false :: Value.slice none 0 0 :: iV 0 :: Value.bool true :: Value.slice gp x2.nodes.length gc :: iV x2.out :: [])) m2 _) := hd' (hs2)
    clear hl2 hs2
    have Hres : Hid (ukd bs n 11 = some ({ Lk.zero with hasBack := true, back := x2 }, m2)) := hd' (by have g1 := Hn1.o; have g2 := Hn2.o; simp [ukd, g1, g2])
    have HB : Hid (Blk _ (L) 35 (uai { Lk.zero with hasBack := true, back := x2 } nlS nlS (.slice gp x2.nodes.length gc))) := hd' Hl2.o.loc
    have Hth := hd' (Hl2.o.res.there 0 28 (by simp))
    have Hd := hd' (Loc.done (cs := uai { Lk.zero with hasBack := true, back := x2 } nlS nlS (.slice gp x2.nodes.length gc)) Hl2.o rfl)
    go_wp2_with (first | ((with_reducible refine wpList_load_row ?g1_11 35 ?x1_11 ?o1_11 (L) ?h1_11 ?t1_11 ?c1_11 ?f1_11 ?d1_11 ?b1_11 ?u1_11 ?s1_11 ?i1_11 ?r1_11); (case g1_11 => exact rfl); (case o1_11 => exact rfl); (case h1_11 => exact rfl); (case b1_11 => exact HB.o); (case u1_11 => exact Tryz.underlying35); (case s1_11 => exact rfl); (case i1_11 => exact size_look)) | ((with_reducible refine wpList_store_mid ?g2_11 35 ?x2_11 ?y2_11 ?o2_11 w.heap.size 0 (uai { Lk.zero with hasBack := true, back := x2 } nlS nlS (.slice gp x2.nodes.length gc)) ?h2_11 ?j2_11 ?t2_11 ?i2_11 ?s2_11 ?r2_11); (case g2_11 => exact rfl); (case o2_11 => exact rfl); (case h2_11 => exact rfl); (case j2_11 => exact rfl); (case t2_11 => exact Hth.o); (case i2_11 => exact size_look); (case s2_11 => exact uka _ _ _ _ _ _ _ _ _ _)) | fail)
    obtain ⟨d1, d2, d3, d4⟩ := Hd.o
    refine RdP.ends rfl rfl rfl d3 Tryz.underlying35 rfl size_look (res := ukd bs n 11) Hres.o d2 ⟨_, _, _, rfl, ⟨PixR.nil _ _, NodesR.nil _ _, HP.o.far (Mod.two (L := L) (o := 26) (vs := [.slice gp x2.nodes.length gc, iV x2.out]) d4) Hlt.o.1 Hlt.o.2.1 Hlt.o.2.2⟩, SoftB.nil _ _⟩ d1
set_option maxRecDepth 100000 in
theorem look_0 (w : World) (R : Nat) (vb : Value) (bs : List Nat) (n : Nat) (k : Int) (h : RdAt w R vb bs n) (hk5 : k ≠ 5) (hk6 : k ≠ 6) (hk7 : k ≠ 7) (hk8 : k ≠ 8) (hk9 : k ≠ 9) (hk10 : k ≠ 10) (hk11 : k ≠ 11) :
  Calls Tryz.prog 104 #[.pointer (some ⟨R, 0, none⟩), iV k] w (RdP w R vb bs (ul2 w.heap.size) (ukd bs n k)) := by
 have H := hd' h
 have hR := h.lt
 clear h
 go_enter Tryz.func104, Tryz.ntmps104
 have e5 : (k == 5) = false := bqf.2 hk5
 have H5 := hd' hk5
 clear hk5
 have e6 : (k == 6) = false := bqf.2 hk6
 have H6 := hd' hk6
 clear hk6
 have e7 : (k == 7) = false := bqf.2 hk7
 have H7 := hd' hk7
 clear hk7
 have e8 : (k == 8) = false := bqf.2 hk8
 have H8 := hd' hk8
 clear hk8
 have e9 : (k == 9) = false := bqf.2 hk9
 have H9 := hd' hk9
 clear hk9
 have e10 : (k == 10) = false := bqf.2 hk10
 have H10 := hd' hk10
 clear hk10
 have e11 : (k == 11) = false := bqf.2 hk11
 have H11 := hd' hk11
 clear hk11
 have Hl0 : Hid (Gou.Loc w R _ bs 35 w.heap.size (w.heap.size + 1) lz28 lz28 n ((w.alloc (.cells lz28 35)).alloc (.cells lz28 35))) := hd' (by
  have := Loc.start H.o (Mod.refl _ (w.alloc (.cells lz28 35))) (H.o.alloc _) lz28
  simpa using this)
 have Hres : Hid (ukd bs n k = some (Lk.zero, n)) := hd' (by simp [ukd, H5.o, H6.o, H7.o, H8.o, H9.o, H10.o, H11.o])
 have HB : Hid (Blk _ (w.heap.size + 1) 35 lkZz) := hd' Hl0.o.loc
 have Hth := hd' (Hl0.o.res.there 0 28 (by simp))
 have Hd := hd' (Loc.done (cs := lkZz) Hl0.o rfl)
 go_wp2_with (first | ((with_reducible refine wpList_load_row ?g1_12 35 ?x1_12 ?o1_12 (w.heap.size + 1) ?h1_12 ?t1_12 ?c1_12 ?f1_12 ?d1_12 ?b1_12 ?u1_12 ?s1_12 ?i1_12 ?r1_12); (case g1_12 => exact rfl); (case o1_12 => exact rfl); (case h1_12 => exact rfl); (case b1_12 => exact HB.o); (case u1_12 => exact Tryz.underlying35); (case s1_12 => exact rfl); (case i1_12 => exact size_look)) | ((with_reducible refine wpList_store_mid ?g2_12 35 ?x2_12 ?y2_12 ?o2_12 w.heap.size 0 lkZz ?h2_12 ?j2_12 ?t2_12 ?i2_12 ?s2_12 ?r2_12); (case g2_12 => exact rfl); (case o2_12 => exact rfl); (case h2_12 => exact rfl); (case j2_12 => exact rfl); (case t2_12 => exact Hth.o); (case i2_12 => exact size_look); (case s2_12 => exact uka _ _ _ _ _ _ _ _ _ _)) | fail)
 obtain ⟨d1, d2, d3, d4⟩ := Hd.o
 refine RdP.ends rfl rfl rfl d3 Tryz.underlying35 rfl size_look (res := ukd bs n k) Hres.o d2 ⟨_, _, _, rfl, LookR.nil _ _ _ rfl rfl rfl, SoftB.nil _ _⟩ d1
theorem uiz (w : World) (R : Nat) (vb : Value) (bs : List Nat) (n : Nat) (k : Int) (h : RdAt w R vb bs n) :
  Calls Tryz.prog 104 #[.pointer (some ⟨R, 0, none⟩), iV k] w (RdP w R vb bs (ul2 w.heap.size) (ukd bs n k)) := by
 by_cases hk5 : k = 5
 ·subst hk5; exact look_5 w R vb bs n h
 by_cases hk6 : k = 6
 ·subst hk6; exact look_6 w R vb bs n h
 by_cases hk7 : k = 7
 ·subst hk7; exact look_7 w R vb bs n h
 by_cases hk8 : k = 8
 ·subst hk8; exact look_8 w R vb bs n h
 by_cases hk9 : k = 9
 ·subst hk9; exact look_9 w R vb bs n h
 by_cases hk10 : k = 10
 ·subst hk10; exact look_10 w R vb bs n h
 by_cases hk11 : k = 11
 ·subst hk11; exact look_11 w R vb bs n h
 exact look_0 w R vb bs n k h hk5 hk6 hk7 hk8 hk9 hk10 hk11
end Go.Proofs.YtgolafbneiffpaaGreatDoor
