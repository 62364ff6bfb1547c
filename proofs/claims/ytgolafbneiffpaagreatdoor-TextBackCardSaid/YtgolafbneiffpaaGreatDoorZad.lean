/- Texts of the scenes' proofs, laid together: CRdJ, CRdK, CRdL. -/
import Derived.Test.YtgolafbneiffpaaGreatDoorZac
import Derived.Defers
import Derived.Recover
set_option maxHeartbeats 64000000
set_option linter.unusedSimpArgs false
set_option linter.unusedVariables false
set_option linter.unusedSectionVars false
set_option linter.constructorNameAsVariable false
namespace Go.Gou
open Go.RowKit
def uld (bs : List Nat) (n : Nat) (k : Int) : Option (Opr × Nat) :=
 (if k = 1 then some ((0, 0), n) else idAt bs n).bind fun i => (if k = 1 ∨ k = 3 then idAt bs i.2 else some ((0, 0), i.2)).bind fun t =>
   (if k = 1 ∨ k = 3 ∨ k = 4 then ukw bs t.2 else some (0, t.2)).bind fun a => (ukd bs a.2 k).bind fun l => some (⟨k, i.1, t.1, a.1, l.1⟩, l.2)
theorem uk4 (o : Opr) (p1 : Option Addr) (n1 k1 : Nat) (p2 : Option Addr) (n2 k2 : Nat) (p3 : Option Addr) (n3 k3 : Nat) : (oprC o (.slice p1 n1 k1) (.slice p2 n2 k2) (.slice p3 n3 k3)).all (·.oneCell') = true := by simp [oprC, Value.oneCell']
theorem unm (k i1 i2 t1 t2 a : Int) (l : Lk) (vp vf vb : Value) : uao (List.toArray (iV k :: iV i1 :: iV i2 :: iV t1 :: iV t2 :: iV a :: iV 0 :: iV 0 :: Value.bool false :: iV 0 :: iV 0 :: iV 0 :: iV 0 :: iV 0 :: iV 0 :: iV 0 :: iV 0 :: iV 0 :: iV 0 :: iV 0 :: Value.int .u8 0 :: Value.int .u8 0 :: Value.int .u8 0 :: Value.int .u8 0 :: iV 0 :: iV 0 :: iV 0 :: Value.slice none 0 0 :: Value.bool false :: Value.slice none 0 0 :: iV 0 :: Value.bool false :: Value.slice none 0 0 :: iV 0 :: [])) 6 (uai l vp vf vb).toList = oprC ⟨k, (i1, i2), (t1, t2), a, l⟩ vp vf vb := by
 simp [uai, oprC, uao]
theorem NodesR.form {G : Nat → Prop} {w : World} {v : Value} {ns : List ubb} (h : NodesR G w v ns) : ∃ p c, v = .slice p ns.length c := by
 obtain ⟨_, h, _⟩ := h
 obtain ⟨p, c, e, _⟩ := h.form
 exact ⟨p, c, e⟩
theorem LookR.forms {G : Nat → Prop} {w : World} {l : Lk} {vp vf vb : Value} (h : LookR G w l vp vf vb) : ∃ p1 n1 k1 p2 n2 k2 p3 n3 k3, vp = .slice p1 n1 k1 ∧ vf = .slice p2 n2 k2 ∧ vb = .slice p3 n3 k3 := by
 obtain ⟨p1, k1, e1, _⟩ := RowG.form h.pix
 obtain ⟨p2, k2, e2⟩ := h.filt.form
 obtain ⟨p3, k3, e3⟩ := h.back.form
 exact ⟨_, _, _, _, _, _, _, _, _, e1, e2, e3⟩
end Go.Gou
namespace Go.Proofs.YtgolafbneiffpaaGreatDoor
open Go.RowKit Go.Gou
def uob (B : Nat) (w : World) (v : Value) (o : Opr) : Prop := ∃ vp vf vb, v = .agg (oprC o vp vf vb) ∧ LookR (fun b => B ≤ b) w o.look vp vf vb ∧ SoftB B w vp
set_option maxRecDepth 100000 in
theorem op_1 (w : World) (R : Nat) (vb : Value) (bs : List Nat) (n : Nat) (h : RdAt w R vb bs n) :
  Calls Tryz.prog 60 #[.pointer (some ⟨R, 0, none⟩), iV 1] w (RdP w R vb bs (uob w.heap.size) (uld bs n 1)) := by
 have H := hd' h
 have hR := h.lt
 clear h
 go_enter Tryz.func60, Tryz.ntmps60
 have HZ : Hid (Gou.Loc w R _ bs 37 w.heap.size (w.heap.size + 1) lz34 lz34 n ((w.alloc (.cells lz34 37)).alloc (.cells lz34 37))) := hd' (by
  have := Loc.start H.o (Mod.refl _ (w.alloc (.cells lz34 37))) (H.o.alloc _) lz34
  simpa using this)
 have Ht0 := hd' (HZ.o.loc.there 0 34 (by simp))
 have hp := HZ.o.puts 0 (iV 1 :: iV 0 :: iV 0 :: iV 0 :: iV 0 :: iV 0 :: iV 0 :: iV 0 :: Value.bool false :: iV 0 :: iV 0 :: iV 0 :: iV 0 :: iV 0 :: iV 0 :: iV 0 :: iV 0 :: iV 0 :: iV 0 :: iV 0 :: Value.int .u8 0 :: Value.int .u8 0 :: Value.int .u8 0 :: Value.int .u8 0 :: iV 0 :: iV 0 :: iV 0 :: Value.slice none 0 0 :: Value.bool false :: Value.slice none 0 0 :: iV 0 :: Value.bool false :: Value.slice none 0 0 :: iV 0 :: [])
 rw [uef _ _ (by simp)] at hp
 have Hl0 : Hid (Gou.Loc w R _ bs 37 w.heap.size (w.heap.size + 1) lz34 (List.toArray (iV 1 :: iV 0 :: iV 0 :: iV 0 :: iV 0 :: iV 0 :: iV 0 :: iV 0 :: Value.bool false :: iV 0 :: iV 0 :: iV 0 :: iV 0 :: iV 0 :: iV 0 :: iV 0 :: iV 0 :: iV 0 :: iV 0 :: iV 0 :: Value.int .u8 0 :: Value.int .u8 0 :: Value.int .u8 0 :: Value.int .u8 0 :: iV 0 :: iV 0 :: iV 0 :: Value.slice none 0 0 :: Value.bool false :: Value.slice none 0 0 :: iV 0 :: Value.bool false :: Value.slice none 0 0 :: iV 0 :: [])) n (((w.alloc (.cells lz34 37)).alloc (.cells lz34 37)).setCells (w.heap.size + 1) 0 (iV 1 :: iV 0 :: iV 0 :: iV 0 :: iV 0 :: iV 0 :: iV 0 :: iV 0 :: Value.bool false :: iV 0 :: iV 0 :: iV 0 :: iV 0 :: iV 0 :: iV 0 :: iV 0 :: iV 0 :: iV 0 :: iV 0 :: iV 0 :: Value.int .u8 0 :: Value.int .u8 0 :: Value.int .u8 0 :: Value.int .u8 0 :: iV 0 :: iV 0 :: iV 0 :: Value.slice none 0 0 :: Value.bool false :: Value.slice none 0 0 :: iV 0 :: Value.bool false :: Value.slice none 0 0 :: iV 0 :: []))) := hd' hp
 clear hp HZ
 go_wp2_with (first | ((with_reducible refine wpList_store_mid ?g1_1 37 ?x1_1 ?y1_1 ?o1_1 (w.heap.size + 1) 0 (List.toArray (iV 1 :: iV 0 :: iV 0 :: iV 0 :: iV 0 :: iV 0 :: iV 0 :: iV 0 :: Value.bool false :: iV 0 :: iV 0 :: iV 0 :: iV 0 :: iV 0 :: iV 0 :: iV 0 :: iV 0 :: iV 0 :: iV 0 :: iV 0 :: Value.int .u8 0 :: Value.int .u8 0 :: Value.int .u8 0 :: Value.int .u8 0 :: iV 0 :: iV 0 :: iV 0 :: Value.slice none 0 0 :: Value.bool false :: Value.slice none 0 0 :: iV 0 :: Value.bool false :: Value.slice none 0 0 :: iV 0 :: [])) ?h1_1 ?j1_1 ?t1_1 ?i1_1 ?s1_1 ?r1_1); (case g1_1 => exact rfl); (case o1_1 => exact rfl); (case h1_1 => exact rfl); (case j1_1 => exact rfl); (case t1_1 => exact Ht0.o); (case i1_1 => exact size_op); (case s1_1 => exact uk4 ⟨1, (0, 0), (0, 0), 0, Lk.zero⟩ none 0 0 none 0 0 none 0 0)) | fail)
 generalize hW : ((w.alloc (.cells lz34 37)).alloc (.cells lz34 37)).setCells (w.heap.size + 1) 0 (iV 1 :: iV 0 :: iV 0 :: iV 0 :: iV 0 :: iV 0 :: iV 0 :: iV 0 :: Value.bool false :: iV 0 :: iV 0 :: iV 0 :: iV 0 :: iV 0 :: iV 0 :: iV 0 :: iV 0 :: iV 0 :: iV 0 :: iV 0 :: Value.int .u8 0 :: Value.int .u8 0 :: Value.int .u8 0 :: Value.int .u8 0 :: iV 0 :: iV 0 :: iV 0 :: Value.slice none 0 0 :: Value.bool false :: Value.slice none 0 0 :: iV 0 :: Value.bool false :: Value.slice none 0 0 :: iV 0 :: []) = W0 at *
 generalize hL : w.heap.size + 1 = L at *
 clear hW hL
 refine (us7 _ R _ bs n Hl0.o.rd).mono ?_
 intro e w1 h1
 cases hn1 : idAt bs n with
 | none =>
  rw [hn1] at h1
  obtain ⟨rfl, hq⟩ := h1.fault (J := uob w.heap.size) (res := uld bs n 1) Hl0.o.mod (by simp [uld, hn1])
  exact ⟨rfl, hq⟩
 | some p1 =>
  obtain ⟨x1, m1⟩ := p1
  rw [hn1] at h1
  obtain ⟨hm1, _, rfl, rfl, hr1⟩ := h1
  have Hn1 := hd' hn1
  have hl1 := Hl0.o.step hm1 hr1
  clear hn1 hm1 hr1
  have c3 := hl1.loc.cell 3 rfl
  have fc3 := hl1.loc.frozen 3
  have c4 := hl1.loc.cell 4 rfl
  have fc4 := hl1.loc.frozen 4
  have hs1 := hl1.puts 3 [iV x1.1, iV x1.2]
  simp only [World.setCells, Nat.reduceAdd] at hs1
  have Hl1 : Hid (Gou.Loc w R _ bs 37 w.heap.size L lz34 (List.toArray (iV 1 :: iV 0 :: iV 0 :: iV x1.1 :: iV x1.2 :: iV 0 :: iV 0 :: iV 0 :: Value.bool false :: iV 0 :: iV 0 :: iV 0 :: iV 0 :: iV 0 :: iV 0 :: iV 0 :: iV 0 :: iV 0 :: iV 0 :: iV 0 :: Value.int .u8 0 :: Value.int .u8 0 :: Value.int .u8 0 :: Value.int .u8 0 :: iV 0 :: iV 0 :: iV 0 :: Value.slice none 0 0 :: Value.bool false :: Value.slice none 0 0 :: iV 0 :: Value.bool false :: Value.slice none 0 0 :: iV 0 :: [])) m1 _) := hd' (hs1)
  clear hl1 hs1
  go_wp2_with fail
  refine (ukk _ R _ bs m1 Hl1.o.rd).mono ?_
  intro e w2 h2
  cases hn2 : ukw bs m1 with
  | none =>
   rw [hn2] at h2
   obtain ⟨rfl, hq⟩ := h2.fault (J := uob w.heap.size) (res := uld bs n 1) Hl1.o.mod (by have g1 := Hn1.o; simp [uld, g1, hn2])
   exact ⟨rfl, hq⟩
  | some p2 =>
   obtain ⟨x2, m2⟩ := p2
   rw [hn2] at h2
   obtain ⟨hm2, _, rfl, rfl, hr2⟩ := h2
   have Hn2 := hd' hn2
   have hl2 := Hl1.o.step hm2 hr2
   clear hn2 hm2 hr2
   have c5 := hl2.loc.cell 5 rfl
   have fc5 := hl2.loc.frozen 5
   have Hl2 : Hid (Gou.Loc w R _ bs 37 w.heap.size L lz34 (List.toArray (iV 1 :: iV 0 :: iV 0 :: iV x1.1 :: iV x1.2 :: iV x2 :: iV 0 :: iV 0 :: Value.bool false :: iV 0 :: iV 0 :: iV 0 :: iV 0 :: iV 0 :: iV 0 :: iV 0 :: iV 0 :: iV 0 :: iV 0 :: iV 0 :: Value.int .u8 0 :: Value.int .u8 0 :: Value.int .u8 0 :: Value.int .u8 0 :: iV 0 :: iV 0 :: iV 0 :: Value.slice none 0 0 :: Value.bool false :: Value.slice none 0 0 :: iV 0 :: Value.bool false :: Value.slice none 0 0 :: iV 0 :: [])) m2 _) := hd' (hl2.put 5 (iV x2))
   clear hl2
   go_wp2_with fail
   refine (uiz _ R _ bs m2 1 Hl2.o.rd).mono ?_
   intro e w3 h3
   cases hn3 : ukd bs m2 1 with
   | none =>
    rw [hn3] at h3
    obtain ⟨rfl, hq⟩ := h3.fault (J := uob w.heap.size) (res := uld bs n 1) Hl2.o.mod (by have g1 := Hn1.o; have g2 := Hn2.o; simp [uld, g1, g2, hn3])
    exact ⟨rfl, hq⟩
   | some p3 =>
    obtain ⟨x3, m3⟩ := p3
    rw [hn3] at h3
    obtain ⟨hm3, _, rfl, ⟨vp, vf, vb, rfl, hlr, hsoft⟩, hr3⟩ := h3
    have Hn3 := hd' hn3
    obtain ⟨p1, n1, k1, p2, n2, k2, p3, n3, k3, rfl, rfl, rfl⟩ := hlr.forms
    have hLB := Blk.lt Hl2.o.loc
    have hNB := Blk.lt Hl2.o.res
    have hwB := Hl2.o.mod.size
    have HP := hd' hlr
    have HS := hd' hsoft
    have Hlt := hd' (And.intro hLB (And.intro hNB hwB))
    clear hlr hsoft hLB hNB hwB
    have hl3 := Hl2.o.step hm3 hr3
    clear hn3 hm3 hr3
    have Ht3 := hd' (hl3.loc.there 6 28 (by simp))
    have hs3 := hl3.puts 6 (uai x3 (.slice p1 n1 k1) (.slice p2 n2 k2) (.slice p3 n3 k3)).toList
    rw [unm] at hs3
    have Hl3 := hd' hs3
    clear hs3
    clear hl3
    have Hres : Hid (uld bs n 1 = some (⟨1, (0, 0), (x1.1, x1.2), x2, x3⟩, m3)) := hd' (by have g1 := Hn1.o; have g2 := Hn2.o; have g3 := Hn3.o; simp [uld, g1, g2, g3])
    have HB : Hid (Blk _ (L) 37 (oprC ⟨1, (0, 0), (x1.1, x1.2), x2, x3⟩ (.slice p1 n1 k1) (.slice p2 n2 k2) (.slice p3 n3 k3))) := hd' Hl3.o.loc
    have Hth := hd' (Hl3.o.res.there 0 34 (by simp))
    have Hd := hd' (Loc.done (cs := oprC ⟨1, (0, 0), (x1.1, x1.2), x2, x3⟩ (.slice p1 n1 k1) (.slice p2 n2 k2) (.slice p3 n3 k3)) Hl3.o rfl)
    go_wp2_with (first | ((with_reducible refine wpList_store_mid ?g1_2 35 ?x1_2 ?y1_2 ?o1_2 L 6 (uai x3 (.slice p1 n1 k1) (.slice p2 n2 k2) (.slice p3 n3 k3)) ?h1_2 ?j1_2 ?t1_2 ?i1_2 ?s1_2 ?r1_2); (case g1_2 => exact rfl); (case o1_2 => exact rfl); (case h1_2 => exact rfl); (case j1_2 => exact rfl); (case t1_2 => exact Ht3.o); (case i1_2 => exact size_look); (case s1_2 => exact uka _ _ _ _ _ _ _ _ _ _)) | ((with_reducible refine wpList_load_row ?g1_3 37 ?x1_3 ?o1_3 (L) ?h1_3 ?t1_3 ?c1_3 ?f1_3 ?d1_3 ?b1_3 ?u1_3 ?s1_3 ?i1_3 ?r1_3); (case g1_3 => exact rfl); (case o1_3 => exact rfl); (case h1_3 => exact rfl); (case b1_3 => exact HB.o); (case u1_3 => exact Tryz.underlying37); (case s1_3 => exact rfl); (case i1_3 => exact size_op)) | ((with_reducible refine wpList_store_mid ?g2_3 37 ?x2_3 ?y2_3 ?o2_3 w.heap.size 0 (oprC ⟨1, (0, 0), (x1.1, x1.2), x2, x3⟩ (.slice p1 n1 k1) (.slice p2 n2 k2) (.slice p3 n3 k3)) ?h2_3 ?j2_3 ?t2_3 ?i2_3 ?s2_3 ?r2_3); (case g2_3 => exact rfl); (case o2_3 => exact rfl); (case h2_3 => exact rfl); (case j2_3 => exact rfl); (case t2_3 => exact Hth.o); (case i2_3 => exact size_op); (case s2_3 => exact uk4 _ _ _ _ _ _ _ _ _ _)) | fail)
    obtain ⟨d1, d2, d3, d4⟩ := Hd.o
    refine RdP.ends rfl rfl rfl d3 Tryz.underlying37 rfl size_op (res := uld bs n 1) Hres.o d2 ⟨_, _, _, rfl, HP.o.far (Mod.two (L := L) (o := 6) (vs := (uai x3 (.slice p1 n1 k1) (.slice p2 n2 k2) (.slice p3 n3 k3)).toList) d4) Hlt.o.1 Hlt.o.2.1 Hlt.o.2.2, HS.o.far (Mod.two (L := L) (o := 6) (vs := (uai x3 (.slice p1 n1 k1) (.slice p2 n2 k2) (.slice p3 n3 k3)).toList) d4) Hlt.o.1 Hlt.o.2.1 Hlt.o.2.2⟩ d1
set_option maxRecDepth 100000 in
theorem op_3 (w : World) (R : Nat) (vb : Value) (bs : List Nat) (n : Nat) (h : RdAt w R vb bs n) :
  Calls Tryz.prog 60 #[.pointer (some ⟨R, 0, none⟩), iV 3] w (RdP w R vb bs (uob w.heap.size) (uld bs n 3)) := by
 have H := hd' h
 have hR := h.lt
 clear h
 go_enter Tryz.func60, Tryz.ntmps60
 have HZ : Hid (Gou.Loc w R _ bs 37 w.heap.size (w.heap.size + 1) lz34 lz34 n ((w.alloc (.cells lz34 37)).alloc (.cells lz34 37))) := hd' (by
  have := Loc.start H.o (Mod.refl _ (w.alloc (.cells lz34 37))) (H.o.alloc _) lz34
  simpa using this)
 have Ht0 := hd' (HZ.o.loc.there 0 34 (by simp))
 have hp := HZ.o.puts 0 (iV 3 :: iV 0 :: iV 0 :: iV 0 :: iV 0 :: iV 0 :: iV 0 :: iV 0 :: Value.bool false :: iV 0 :: iV 0 :: iV 0 :: iV 0 :: iV 0 :: iV 0 :: iV 0 :: iV 0 :: iV 0 :: iV 0 :: iV 0 :: Value.int .u8 0 :: Value.int .u8 0 :: Value.int .u8 0 :: Value.int .u8 0 :: iV 0 :: iV 0 :: iV 0 :: Value.slice none 0 0 :: Value.bool false :: Value.slice none 0 0 :: iV 0 :: Value.bool false :: Value.slice none 0 0 :: iV 0 :: [])
 rw [uef _ _ (by simp)] at hp
 have Hl0 : Hid (Gou.Loc w R _ bs 37 w.heap.size (w.heap.size + 1) lz34 (List.toArray (iV 3 :: iV 0 :: iV 0 :: iV 0 :: iV 0 :: iV 0 :: iV 0 :: iV 0 :: Value.bool false :: iV 0 :: iV 0 :: iV 0 :: iV 0 :: iV 0 :: iV 0 :: iV 0 :: iV 0 :: iV 0 :: iV 0 :: iV 0 :: Value.int .u8 0 :: Value.int .u8 0 :: Value.int .u8 0 :: Value.int .u8 0 :: iV 0 :: iV 0 :: iV 0 :: Value.slice none 0 0 :: Value.bool false :: Value.slice none 0 0 :: iV 0 :: Value.bool false :: Value.slice none 0 0 :: iV 0 :: [])) n (((w.alloc (.cells lz34 37)).alloc (.cells lz34 37)).setCells (w.heap.size + 1) 0 (iV 3 :: iV 0 :: iV 0 :: iV 0 :: iV 0 :: iV 0 :: iV 0 :: iV 0 :: Value.bool false :: iV 0 :: iV 0 :: iV 0 :: iV 0 :: iV 0 :: iV 0 :: iV 0 :: iV 0 :: iV 0 :: iV 0 :: iV 0 :: Value.int .u8 0 :: Value.int .u8 0 :: Value.int .u8 0 :: Value.int .u8 0 :: iV 0 :: iV 0 :: iV 0 :: Value.slice none 0 0 :: Value.bool false :: Value.slice none 0 0 :: iV 0 :: Value.bool false :: Value.slice none 0 0 :: iV 0 :: []))) := hd' hp
 clear hp HZ
 go_wp2_with (first | ((with_reducible refine wpList_store_mid ?g1_4 37 ?x1_4 ?y1_4 ?o1_4 (w.heap.size + 1) 0 (List.toArray (iV 3 :: iV 0 :: iV 0 :: iV 0 :: iV 0 :: iV 0 :: iV 0 :: iV 0 :: Value.bool false :: iV 0 :: iV 0 :: iV 0 :: iV 0 :: iV 0 :: iV 0 :: iV 0 :: iV 0 :: iV 0 :: iV 0 :: iV 0 :: Value.int .u8 0 :: Value.int .u8 0 :: Value.int .u8 0 :: Value.int .u8 0 :: iV 0 :: iV 0 :: iV 0 :: Value.slice none 0 0 :: Value.bool false :: Value.slice none 0 0 :: iV 0 :: Value.bool false :: Value.slice none 0 0 :: iV 0 :: [])) ?h1_4 ?j1_4 ?t1_4 ?i1_4 ?s1_4 ?r1_4); (case g1_4 => exact rfl); (case o1_4 => exact rfl); (case h1_4 => exact rfl); (case j1_4 => exact rfl); (case t1_4 => exact Ht0.o); (case i1_4 => exact size_op); (case s1_4 => exact uk4 ⟨3, (0, 0), (0, 0), 0, Lk.zero⟩ none 0 0 none 0 0 none 0 0)) | fail)
 generalize hW : ((w.alloc (.cells lz34 37)).alloc (.cells lz34 37)).setCells (w.heap.size + 1) 0 (iV 3 :: iV 0 :: iV 0 :: iV 0 :: iV 0 :: iV 0 :: iV 0 :: iV 0 :: Value.bool false :: iV 0 :: iV 0 :: iV 0 :: iV 0 :: iV 0 :: iV 0 :: iV 0 :: iV 0 :: iV 0 :: iV 0 :: iV 0 :: Value.int .u8 0 :: Value.int .u8 0 :: Value.int .u8 0 :: Value.int .u8 0 :: iV 0 :: iV 0 :: iV 0 :: Value.slice none 0 0 :: Value.bool false :: Value.slice none 0 0 :: iV 0 :: Value.bool false :: Value.slice none 0 0 :: iV 0 :: []) = W0 at *
 generalize hL : w.heap.size + 1 = L at *
 clear hW hL
 refine (us7 _ R _ bs n Hl0.o.rd).mono ?_
 intro e w1 h1
 cases hn1 : idAt bs n with
 | none =>
  rw [hn1] at h1
  obtain ⟨rfl, hq⟩ := h1.fault (J := uob w.heap.size) (res := uld bs n 3) Hl0.o.mod (by simp [uld, hn1])
  exact ⟨rfl, hq⟩
 | some p1 =>
  obtain ⟨x1, m1⟩ := p1
  rw [hn1] at h1
  obtain ⟨hm1, _, rfl, rfl, hr1⟩ := h1
  have Hn1 := hd' hn1
  have hl1 := Hl0.o.step hm1 hr1
  clear hn1 hm1 hr1
  have c1 := hl1.loc.cell 1 rfl
  have fc1 := hl1.loc.frozen 1
  have c2 := hl1.loc.cell 2 rfl
  have fc2 := hl1.loc.frozen 2
  have hs1 := hl1.puts 1 [iV x1.1, iV x1.2]
  simp only [World.setCells, Nat.reduceAdd] at hs1
  have Hl1 : Hid (Gou.Loc w R _ bs 37 w.heap.size L lz34 (List.toArray (iV 3 :: iV x1.1 :: iV x1.2 :: iV 0 :: iV 0 :: iV 0 :: iV 0 :: iV 0 :: Value.bool false :: iV 0 :: iV 0 :: iV 0 :: iV 0 :: iV 0 :: iV 0 :: iV 0 :: iV 0 :: iV 0 :: iV 0 :: iV 0 :: Value.int .u8 0 :: Value.int .u8 0 :: Value.int .u8 0 :: Value.int .u8 0 :: iV 0 :: iV 0 :: iV 0 :: Value.slice none 0 0 :: Value.bool false :: Value.slice none 0 0 :: iV 0 :: Value.bool false :: Value.slice none 0 0 :: iV 0 :: [])) m1 _) := hd' (hs1)
  clear hl1 hs1
  go_wp2_with fail
  refine (us7 _ R _ bs m1 Hl1.o.rd).mono ?_
  intro e w2 h2
  cases hn2 : idAt bs m1 with
  | none =>
   rw [hn2] at h2
   obtain ⟨rfl, hq⟩ := h2.fault (J := uob w.heap.size) (res := uld bs n 3) Hl1.o.mod (by have g1 := Hn1.o; simp [uld, g1, hn2])
   exact ⟨rfl, hq⟩
  | some p2 =>
   obtain ⟨x2, m2⟩ := p2
   rw [hn2] at h2
   obtain ⟨hm2, _, rfl, rfl, hr2⟩ := h2
   have Hn2 := hd' hn2
   have hl2 := Hl1.o.step hm2 hr2
   clear hn2 hm2 hr2
   have c3 := hl2.loc.cell 3 rfl
   have fc3 := hl2.loc.frozen 3
   have c4 := hl2.loc.cell 4 rfl
   have fc4 := hl2.loc.frozen 4
   have hs2 := hl2.puts 3 [iV x2.1, iV x2.2]
   simp only [World.setCells, Nat.reduceAdd] at hs2
   have Hl2 : Hid (Gou.Loc w R _ bs 37 w.heap.size L lz34 (List.toArray (iV 3 :: iV x1.1 :: iV x1.2 :: iV x2.1 :: iV x2.2 :: iV 0 :: iV 0 :: iV 0 :: Value.bool false :: iV 0 :: iV 0 :: iV 0 :: iV 0 :: iV 0 :: iV 0 :: iV 0 :: iV 0 :: iV 0 :: iV 0 :: iV 0 :: Value.int .u8 0 :: Value.int .u8 0 :: Value.int .u8 0 :: Value.int .u8 0 :: iV 0 :: iV 0 :: iV 0 :: Value.slice none 0 0 :: Value.bool false :: Value.slice none 0 0 :: iV 0 :: Value.bool false :: Value.slice none 0 0 :: iV 0 :: [])) m2 _) := hd' (hs2)
   clear hl2 hs2
   go_wp2_with fail
   refine (ukk _ R _ bs m2 Hl2.o.rd).mono ?_
   intro e w3 h3
   cases hn3 : ukw bs m2 with
   | none =>
    rw [hn3] at h3
    obtain ⟨rfl, hq⟩ := h3.fault (J := uob w.heap.size) (res := uld bs n 3) Hl2.o.mod (by have g1 := Hn1.o; have g2 := Hn2.o; simp [uld, g1, g2, hn3])
    exact ⟨rfl, hq⟩
   | some p3 =>
    obtain ⟨x3, m3⟩ := p3
    rw [hn3] at h3
    obtain ⟨hm3, _, rfl, rfl, hr3⟩ := h3
    have Hn3 := hd' hn3
    have hl3 := Hl2.o.step hm3 hr3
    clear hn3 hm3 hr3
    have c5 := hl3.loc.cell 5 rfl
    have fc5 := hl3.loc.frozen 5
    have Hl3 : Hid (Gou.Loc w R _ bs 37 w.heap.size L lz34 (List.toArray (iV 3 :: iV x1.1 :: iV x1.2 :: iV x2.1 :: iV x2.2 :: iV x3 :: iV 0 :: iV 0 :: Value.bool false :: iV 0 :: iV 0 :: iV 0 :: iV 0 :: iV 0 :: iV 0 :: iV 0 :: iV 0 :: iV 0 :: iV 0 :: iV 0 :: Value.int .u8 0 :: Value.int .u8 0 :: Value.int .u8 0 :: Value.int .u8 0 :: iV 0 :: iV 0 :: iV 0 :: Value.slice none 0 0 :: Value.bool false :: Value.slice none 0 0 :: iV 0 :: Value.bool false :: Value.slice none 0 0 :: iV 0 :: [])) m3 _) := hd' (hl3.put 5 (iV x3))
    clear hl3
    go_wp2_with fail
    refine (uiz _ R _ bs m3 3 Hl3.o.rd).mono ?_
    intro e w4 h4
    cases hn4 : ukd bs m3 3 with
    | none =>
     rw [hn4] at h4
     obtain ⟨rfl, hq⟩ := h4.fault (J := uob w.heap.size) (res := uld bs n 3) Hl3.o.mod (by have g1 := Hn1.o; have g2 := Hn2.o; have g3 := Hn3.o; simp [uld, g1, g2, g3, hn4])
     exact ⟨rfl, hq⟩
    | some p4 =>
     obtain ⟨x4, m4⟩ := p4
     rw [hn4] at h4
     obtain ⟨hm4, _, rfl, ⟨vp, vf, vb, rfl, hlr, hsoft⟩, hr4⟩ := h4
     have Hn4 := hd' hn4
     obtain ⟨p1, n1, k1, p2, n2, k2, p3, n3, k3, rfl, rfl, rfl⟩ := hlr.forms
     have hLB := Blk.lt Hl3.o.loc
     have hNB := Blk.lt Hl3.o.res
     have hwB := Hl3.o.mod.size
     have HP := hd' hlr
     have HS := hd' hsoft
     have Hlt := hd' (And.intro hLB (And.intro hNB hwB))
     clear hlr hsoft hLB hNB hwB
     have hl4 := Hl3.o.step hm4 hr4
     clear hn4 hm4 hr4
     have Ht4 := hd' (hl4.loc.there 6 28 (by simp))
     have hs4 := hl4.puts 6 (uai x4 (.slice p1 n1 k1) (.slice p2 n2 k2) (.slice p3 n3 k3)).toList
     rw [unm] at hs4
     have Hl4 := hd' hs4
     clear hs4
     clear hl4
     have Hres : Hid (uld bs n 3 = some (⟨3, (x1.1, x1.2), (x2.1, x2.2), x3, x4⟩, m4)) := hd' (by have g1 := Hn1.o; have g2 := Hn2.o; have g3 := Hn3.o; have g4 := Hn4.o; simp [uld, g1, g2, g3, g4])
     have HB : Hid (Blk _ (L) 37 (oprC ⟨3, (x1.1, x1.2), (x2.1, x2.2), x3, x4⟩ (.slice p1 n1 k1) (.slice p2 n2 k2) (.slice p3 n3 k3))) := hd' Hl4.o.loc
     have Hth := hd' (Hl4.o.res.there 0 34 (by simp))
     have Hd := hd' (Loc.done (cs := oprC ⟨3, (x1.1, x1.2), (x2.1, x2.2), x3, x4⟩ (.slice p1 n1 k1) (.slice p2 n2 k2) (.slice p3 n3 k3)) Hl4.o rfl)
     go_wp2_with (first | ((with_reducible refine wpList_store_mid ?g1_5 35 ?x1_5 ?y1_5 ?o1_5 L 6 (uai x4 (.slice p1 n1 k1) (.slice p2 n2 k2) (.slice p3 n3 k3)) ?h1_5 ?j1_5 ?t1_5 ?i1_5 ?s1_5 ?r1_5); (case g1_5 => exact rfl); (case o1_5 => exact rfl); (case h1_5 => exact rfl); (case j1_5 => exact rfl); (case t1_5 => exact Ht4.o); (case i1_5 => exact size_look); (case s1_5 => exact uka _ _ _ _ _ _ _ _ _ _)) | ((with_reducible refine wpList_load_row ?g1_6 37 ?x1_6 ?o1_6 (L) ?h1_6 ?t1_6 ?c1_6 ?f1_6 ?d1_6 ?b1_6 ?u1_6 ?s1_6 ?i1_6 ?r1_6); (case g1_6 => exact rfl); (case o1_6 => exact rfl); (case h1_6 => exact rfl); (case b1_6 => exact HB.o); (case u1_6 => exact Tryz.underlying37); (case s1_6 => exact rfl); (case i1_6 => exact size_op)) | ((with_reducible refine wpList_store_mid ?g2_6 37 ?x2_6 ?y2_6 ?o2_6 w.heap.size 0 (oprC ⟨3, (x1.1, x1.2), (x2.1, x2.2), x3, x4⟩ (.slice p1 n1 k1) (.slice p2 n2 k2) (.slice p3 n3 k3)) ?h2_6 ?j2_6 ?t2_6 ?i2_6 ?s2_6 ?r2_6); (case g2_6 => exact rfl); (case o2_6 => exact rfl); (case h2_6 => exact rfl); (case j2_6 => exact rfl); (case t2_6 => exact Hth.o); (case i2_6 => exact size_op); (case s2_6 => exact uk4 _ _ _ _ _ _ _ _ _ _)) | fail)
     obtain ⟨d1, d2, d3, d4⟩ := Hd.o
     refine RdP.ends rfl rfl rfl d3 Tryz.underlying37 rfl size_op (res := uld bs n 3) Hres.o d2 ⟨_, _, _, rfl, HP.o.far (Mod.two (L := L) (o := 6) (vs := (uai x4 (.slice p1 n1 k1) (.slice p2 n2 k2) (.slice p3 n3 k3)).toList) d4) Hlt.o.1 Hlt.o.2.1 Hlt.o.2.2, HS.o.far (Mod.two (L := L) (o := 6) (vs := (uai x4 (.slice p1 n1 k1) (.slice p2 n2 k2) (.slice p3 n3 k3)).toList) d4) Hlt.o.1 Hlt.o.2.1 Hlt.o.2.2⟩ d1
set_option maxRecDepth 100000 in
theorem op_4 (w : World) (R : Nat) (vb : Value) (bs : List Nat) (n : Nat) (h : RdAt w R vb bs n) :
  Calls Tryz.prog 60 #[.pointer (some ⟨R, 0, none⟩), iV 4] w (RdP w R vb bs (uob w.heap.size) (uld bs n 4)) := by
 have H := hd' h
 have hR := h.lt
 clear h
 go_enter Tryz.func60, Tryz.ntmps60
 have HZ : Hid (Gou.Loc w R _ bs 37 w.heap.size (w.heap.size + 1) lz34 lz34 n ((w.alloc (.cells lz34 37)).alloc (.cells lz34 37))) := hd' (by
  have := Loc.start H.o (Mod.refl _ (w.alloc (.cells lz34 37))) (H.o.alloc _) lz34
  simpa using this)
 have Ht0 := hd' (HZ.o.loc.there 0 34 (by simp))
 have hp := HZ.o.puts 0 (iV 4 :: iV 0 :: iV 0 :: iV 0 :: iV 0 :: iV 0 :: iV 0 :: iV 0 :: Value.bool false :: iV 0 :: iV 0 :: iV 0 :: iV 0 :: iV 0 :: iV 0 :: iV 0 :: iV 0 :: iV 0 :: iV 0 :: iV 0 :: Value.int .u8 0 :: Value.int .u8 0 :: Value.int .u8 0 :: Value.int .u8 0 :: iV 0 :: iV 0 :: iV 0 :: Value.slice none 0 0 :: Value.bool false :: Value.slice none 0 0 :: iV 0 :: Value.bool false :: Value.slice none 0 0 :: iV 0 :: [])
 rw [uef _ _ (by simp)] at hp
 have Hl0 : Hid (Gou.Loc w R _ bs 37 w.heap.size (w.heap.size + 1) lz34 (List.toArray (iV 4 :: iV 0 :: iV 0 :: iV 0 :: iV 0 :: iV 0 :: iV 0 :: iV 0 :: Value.bool false :: iV 0 :: iV 0 :: iV 0 :: iV 0 :: iV 0 :: iV 0 :: iV 0 :: iV 0 :: iV 0 :: iV 0 :: iV 0 :: Value.int .u8 0 :: Value.int .u8 0 :: Value.int .u8 0 :: Value.int .u8 0 :: iV 0 :: iV 0 :: iV 0 :: Value.slice none 0 0 :: Value.bool false :: Value.slice none 0 0 :: iV 0 :: Value.bool false :: Value.slice none 0 0 :: iV 0 :: [])) n (((w.alloc (.cells lz34 37)).alloc (.cells lz34 37)).setCells (w.heap.size + 1) 0 (iV 4 :: iV 0 :: iV 0 :: iV 0 :: iV 0 :: iV 0 :: iV 0 :: iV 0 :: Value.bool false :: iV 0 :: iV 0 :: iV 0 :: iV 0 :: iV 0 :: iV 0 :: iV 0 :: iV 0 :: iV 0 :: iV 0 :: iV 0 :: Value.int .u8 0 :: Value.int .u8 0 :: Value.int .u8 0 :: Value.int .u8 0 :: iV 0 :: iV 0 :: iV 0 :: Value.slice none 0 0 :: Value.bool false :: Value.slice none 0 0 :: iV 0 :: Value.bool false :: Value.slice none 0 0 :: iV 0 :: []))) := hd' hp
 clear hp HZ
 go_wp2_with (first | ((with_reducible refine wpList_store_mid ?g1_7 37 ?x1_7 ?y1_7 ?o1_7 (w.heap.size + 1) 0 (List.toArray (iV 4 :: iV 0 :: iV 0 :: iV 0 :: iV 0 :: iV 0 :: iV 0 :: iV 0 :: Value.bool false :: iV 0 :: iV 0 :: iV 0 :: iV 0 :: iV 0 :: iV 0 :: iV 0 :: iV 0 :: iV 0 :: iV 0 :: iV 0 :: Value.int .u8 0 :: Value.int .u8 0 :: Value.int .u8 0 :: Value.int .u8 0 :: iV 0 :: iV 0 :: iV 0 :: Value.slice none 0 0 :: Value.bool false :: Value.slice none 0 0 :: iV 0 :: Value.bool false :: Value.slice none 0 0 :: iV 0 :: [])) ?h1_7 ?j1_7 ?t1_7 ?i1_7 ?s1_7 ?r1_7); (case g1_7 => exact rfl); (case o1_7 => exact rfl); (case h1_7 => exact rfl); (case j1_7 => exact rfl); (case t1_7 => exact Ht0.o); (case i1_7 => exact size_op); (case s1_7 => exact uk4 ⟨4, (0, 0), (0, 0), 0, Lk.zero⟩ none 0 0 none 0 0 none 0 0)) | fail)
 generalize hW : ((w.alloc (.cells lz34 37)).alloc (.cells lz34 37)).setCells (w.heap.size + 1) 0 (iV 4 :: iV 0 :: iV 0 :: iV 0 :: iV 0 :: iV 0 :: iV 0 :: iV 0 :: Value.bool false :: iV 0 :: iV 0 :: iV 0 :: iV 0 :: iV 0 :: iV 0 :: iV 0 :: iV 0 :: iV 0 :: iV 0 :: iV 0 :: Value.int .u8 0 :: Value.int .u8 0 :: Value.int .u8 0 :: Value.int .u8 0 :: iV 0 :: iV 0 :: iV 0 :: Value.slice none 0 0 :: Value.bool false :: Value.slice none 0 0 :: iV 0 :: Value.bool false :: Value.slice none 0 0 :: iV 0 :: []) = W0 at *
 generalize hL : w.heap.size + 1 = L at *
 clear hW hL
 refine (us7 _ R _ bs n Hl0.o.rd).mono ?_
 intro e w1 h1
 cases hn1 : idAt bs n with
 | none =>
  rw [hn1] at h1
  obtain ⟨rfl, hq⟩ := h1.fault (J := uob w.heap.size) (res := uld bs n 4) Hl0.o.mod (by simp [uld, hn1])
  exact ⟨rfl, hq⟩
 | some p1 =>
  obtain ⟨x1, m1⟩ := p1
  rw [hn1] at h1
  obtain ⟨hm1, _, rfl, rfl, hr1⟩ := h1
  have Hn1 := hd' hn1
  have hl1 := Hl0.o.step hm1 hr1
  clear hn1 hm1 hr1
  have c1 := hl1.loc.cell 1 rfl
  have fc1 := hl1.loc.frozen 1
  have c2 := hl1.loc.cell 2 rfl
  have fc2 := hl1.loc.frozen 2
  have hs1 := hl1.puts 1 [iV x1.1, iV x1.2]
  simp only [World.setCells, Nat.reduceAdd] at hs1
  have Hl1 : Hid (Gou.Loc w R _ bs 37 w.heap.size L lz34 (List.toArray (iV 4 :: iV x1.1 :: iV x1.2 :: iV 0 :: iV 0 :: iV 0 :: iV 0 :: iV 0 :: Value.bool false :: iV 0 :: iV 0 :: iV 0 :: iV 0 :: iV 0 :: iV 0 :: iV 0 :: iV 0 :: iV 0 :: iV 0 :: iV 0 :: Value.int .u8 0 :: Value.int .u8 0 :: Value.int .u8 0 :: Value.int .u8 0 :: iV 0 :: iV 0 :: iV 0 :: Value.slice none 0 0 :: Value.bool false :: Value.slice none 0 0 :: iV 0 :: Value.bool false :: Value.slice none 0 0 :: iV 0 :: [])) m1 _) := hd' (hs1)
  clear hl1 hs1
  go_wp2_with fail
  refine (ukk _ R _ bs m1 Hl1.o.rd).mono ?_
  intro e w2 h2
  cases hn2 : ukw bs m1 with
  | none =>
   rw [hn2] at h2
   obtain ⟨rfl, hq⟩ := h2.fault (J := uob w.heap.size) (res := uld bs n 4) Hl1.o.mod (by have g1 := Hn1.o; simp [uld, g1, hn2])
   exact ⟨rfl, hq⟩
  | some p2 =>
   obtain ⟨x2, m2⟩ := p2
   rw [hn2] at h2
   obtain ⟨hm2, _, rfl, rfl, hr2⟩ := h2
   have Hn2 := hd' hn2
   have hl2 := Hl1.o.step hm2 hr2
   clear hn2 hm2 hr2
   have c5 := hl2.loc.cell 5 rfl
   have fc5 := hl2.loc.frozen 5
   have Hl2 : Hid (Gou.Loc w R _ bs 37 w.heap.size L lz34 (List.toArray (iV 4 :: iV x1.1 :: iV x1.2 :: iV 0 :: iV 0 :: iV x2 :: iV 0 :: iV 0 :: Value.bool false :: iV 0 :: iV 0 :: iV 0 :: iV 0 :: iV 0 :: iV 0 :: iV 0 :: iV 0 :: iV 0 :: iV 0 :: iV 0 :: Value.int .u8 0 :: Value.int .u8 0 :: Value.int .u8 0 :: Value.int .u8 0 :: iV 0 :: iV 0 :: iV 0 :: Value.slice none 0 0 :: Value.bool false :: Value.slice none 0 0 :: iV 0 :: Value.bool false :: Value.slice none 0 0 :: iV 0 :: [])) m2 _) := hd' (hl2.put 5 (iV x2))
   clear hl2
   go_wp2_with fail
   refine (uiz _ R _ bs m2 4 Hl2.o.rd).mono ?_
   intro e w3 h3
   cases hn3 : ukd bs m2 4 with
   | none =>
    rw [hn3] at h3
    obtain ⟨rfl, hq⟩ := h3.fault (J := uob w.heap.size) (res := uld bs n 4) Hl2.o.mod (by have g1 := Hn1.o; have g2 := Hn2.o; simp [uld, g1, g2, hn3])
    exact ⟨rfl, hq⟩
   | some p3 =>
    obtain ⟨x3, m3⟩ := p3
    rw [hn3] at h3
    obtain ⟨hm3, _, rfl, ⟨vp, vf, vb, rfl, hlr, hsoft⟩, hr3⟩ := h3
    have Hn3 := hd' hn3
    obtain ⟨p1, n1, k1, p2, n2, k2, p3, n3, k3, rfl, rfl, rfl⟩ := hlr.forms
    have hLB := Blk.lt Hl2.o.loc
    have hNB := Blk.lt Hl2.o.res
    have hwB := Hl2.o.mod.size
    have HP := hd' hlr
    have HS := hd' hsoft
    have Hlt := hd' (And.intro hLB (And.intro hNB hwB))
    clear hlr hsoft hLB hNB hwB
    have hl3 := Hl2.o.step hm3 hr3
    clear hn3 hm3 hr3
    have Ht3 := hd' (hl3.loc.there 6 28 (by simp))
    have hs3 := hl3.puts 6 (uai x3 (.slice p1 n1 k1) (.slice p2 n2 k2) (.slice p3 n3 k3)).toList
    rw [unm] at hs3
    have Hl3 := hd' hs3
    clear hs3
    clear hl3
    have Hres : Hid (uld bs n 4 = some (⟨4, (x1.1, x1.2), (0, 0), x2, x3⟩, m3)) := hd' (by have g1 := Hn1.o; have g2 := Hn2.o; have g3 := Hn3.o; simp [uld, g1, g2, g3])
    have HB : Hid (Blk _ (L) 37 (oprC ⟨4, (x1.1, x1.2), (0, 0), x2, x3⟩ (.slice p1 n1 k1) (.slice p2 n2 k2) (.slice p3 n3 k3))) := hd' Hl3.o.loc
    have Hth := hd' (Hl3.o.res.there 0 34 (by simp))
    have Hd := hd' (Loc.done (cs := oprC ⟨4, (x1.1, x1.2), (0, 0), x2, x3⟩ (.slice p1 n1 k1) (.slice p2 n2 k2) (.slice p3 n3 k3)) Hl3.o rfl)
    go_wp2_with (first | ((with_reducible refine wpList_store_mid ?g1_8 35 ?x1_8 ?y1_8 ?o1_8 L 6 (uai x3 (.slice p1 n1 k1) (.slice p2 n2 k2) (.slice p3 n3 k3)) ?h1_8 ?j1_8 ?t1_8 ?i1_8 ?s1_8 ?r1_8); (case g1_8 => exact rfl); (case o1_8 => exact rfl); (case h1_8 => exact rfl); (case j1_8 => exact rfl); (case t1_8 => exact Ht3.o); (case i1_8 => exact size_look); (case s1_8 => exact uka _ _ _ _ _ _ _ _ _ _)) | ((with_reducible refine wpList_load_row ?g1_9 37 ?x1_9 ?o1_9 (L) ?h1_9 ?t1_9 ?c1_9 ?f1_9 ?d1_9 ?b1_9 ?u1_9 ?s1_9 ?i1_9 ?r1_9); (case g1_9 => exact rfl); (case o1_9 => exact rfl); (case h1_9 => exact rfl); (case b1_9 => exact HB.o); (case u1_9 => exact Tryz.underlying37); (case s1_9 => exact rfl); (case i1_9 => exact size_op)) | ((with_reducible refine wpList_store_mid ?g2_9 37 ?x2_9 ?y2_9 ?o2_9 w.heap.size 0 (oprC ⟨4, (x1.1, x1.2), (0, 0), x2, x3⟩ (.slice p1 n1 k1) (.slice p2 n2 k2) (.slice p3 n3 k3)) ?h2_9 ?j2_9 ?t2_9 ?i2_9 ?s2_9 ?r2_9); (case g2_9 => exact rfl); (case o2_9 => exact rfl); (case h2_9 => exact rfl); (case j2_9 => exact rfl); (case t2_9 => exact Hth.o); (case i2_9 => exact size_op); (case s2_9 => exact uk4 _ _ _ _ _ _ _ _ _ _)) | fail)
    obtain ⟨d1, d2, d3, d4⟩ := Hd.o
    refine RdP.ends rfl rfl rfl d3 Tryz.underlying37 rfl size_op (res := uld bs n 4) Hres.o d2 ⟨_, _, _, rfl, HP.o.far (Mod.two (L := L) (o := 6) (vs := (uai x3 (.slice p1 n1 k1) (.slice p2 n2 k2) (.slice p3 n3 k3)).toList) d4) Hlt.o.1 Hlt.o.2.1 Hlt.o.2.2, HS.o.far (Mod.two (L := L) (o := 6) (vs := (uai x3 (.slice p1 n1 k1) (.slice p2 n2 k2) (.slice p3 n3 k3)).toList) d4) Hlt.o.1 Hlt.o.2.1 Hlt.o.2.2⟩ d1
set_option maxRecDepth 100000 in
theorem op_0 (w : World) (R : Nat) (vb : Value) (bs : List Nat) (n : Nat) (k : Int) (h : RdAt w R vb bs n) (hk1 : k ≠ 1) (hk3 : k ≠ 3) (hk4 : k ≠ 4) :
  Calls Tryz.prog 60 #[.pointer (some ⟨R, 0, none⟩), iV k] w (RdP w R vb bs (uob w.heap.size) (uld bs n k)) := by
 have H := hd' h
 have hR := h.lt
 clear h
 go_enter Tryz.func60, Tryz.ntmps60
 have e1 : (k == 1) = false := bqf.2 hk1
 have e3 : (k == 3) = false := bqf.2 hk3
 have e4 : (k == 4) = false := bqf.2 hk4
 have en : (k != 1) = true := by simp [hk1]
 have H1 := hd' hk1
 clear hk1
 have H3 := hd' hk3
 clear hk3
 have H4 := hd' hk4
 clear hk4
 have HZ : Hid (Gou.Loc w R _ bs 37 w.heap.size (w.heap.size + 1) lz34 lz34 n ((w.alloc (.cells lz34 37)).alloc (.cells lz34 37))) := hd' (by
  have := Loc.start H.o (Mod.refl _ (w.alloc (.cells lz34 37))) (H.o.alloc _) lz34
  simpa using this)
 have Ht0 := hd' (HZ.o.loc.there 0 34 (by simp))
 have hp := HZ.o.puts 0 (iV k :: iV 0 :: iV 0 :: iV 0 :: iV 0 :: iV 0 :: iV 0 :: iV 0 :: Value.bool false :: iV 0 :: iV 0 :: iV 0 :: iV 0 :: iV 0 :: iV 0 :: iV 0 :: iV 0 :: iV 0 :: iV 0 :: iV 0 :: Value.int .u8 0 :: Value.int .u8 0 :: Value.int .u8 0 :: Value.int .u8 0 :: iV 0 :: iV 0 :: iV 0 :: Value.slice none 0 0 :: Value.bool false :: Value.slice none 0 0 :: iV 0 :: Value.bool false :: Value.slice none 0 0 :: iV 0 :: [])
 rw [uef _ _ (by simp)] at hp
 have Hl0 : Hid (Gou.Loc w R _ bs 37 w.heap.size (w.heap.size + 1) lz34 (List.toArray (iV k :: iV 0 :: iV 0 :: iV 0 :: iV 0 :: iV 0 :: iV 0 :: iV 0 :: Value.bool false :: iV 0 :: iV 0 :: iV 0 :: iV 0 :: iV 0 :: iV 0 :: iV 0 :: iV 0 :: iV 0 :: iV 0 :: iV 0 :: Value.int .u8 0 :: Value.int .u8 0 :: Value.int .u8 0 :: Value.int .u8 0 :: iV 0 :: iV 0 :: iV 0 :: Value.slice none 0 0 :: Value.bool false :: Value.slice none 0 0 :: iV 0 :: Value.bool false :: Value.slice none 0 0 :: iV 0 :: [])) n (((w.alloc (.cells lz34 37)).alloc (.cells lz34 37)).setCells (w.heap.size + 1) 0 (iV k :: iV 0 :: iV 0 :: iV 0 :: iV 0 :: iV 0 :: iV 0 :: iV 0 :: Value.bool false :: iV 0 :: iV 0 :: iV 0 :: iV 0 :: iV 0 :: iV 0 :: iV 0 :: iV 0 :: iV 0 :: iV 0 :: iV 0 :: Value.int .u8 0 :: Value.int .u8 0 :: Value.int .u8 0 :: Value.int .u8 0 :: iV 0 :: iV 0 :: iV 0 :: Value.slice none 0 0 :: Value.bool false :: Value.slice none 0 0 :: iV 0 :: Value.bool false :: Value.slice none 0 0 :: iV 0 :: []))) := hd' hp
 clear hp HZ
 go_wp2_with (first | ((with_reducible refine wpList_store_mid ?g1_10 37 ?x1_10 ?y1_10 ?o1_10 (w.heap.size + 1) 0 (List.toArray (iV k :: iV 0 :: iV 0 :: iV 0 :: iV 0 :: iV 0 :: iV 0 :: iV 0 :: Value.bool false :: iV 0 :: iV 0 :: iV 0 :: iV 0 :: iV 0 :: iV 0 :: iV 0 :: iV 0 :: iV 0 :: iV 0 :: iV 0 :: Value.int .u8 0 :: Value.int .u8 0 :: Value.int .u8 0 :: Value.int .u8 0 :: iV 0 :: iV 0 :: iV 0 :: Value.slice none 0 0 :: Value.bool false :: Value.slice none 0 0 :: iV 0 :: Value.bool false :: Value.slice none 0 0 :: iV 0 :: [])) ?h1_10 ?j1_10 ?t1_10 ?i1_10 ?s1_10 ?r1_10); (case g1_10 => exact rfl); (case o1_10 => exact rfl); (case h1_10 => exact rfl); (case j1_10 => exact rfl); (case t1_10 => exact Ht0.o); (case i1_10 => exact size_op); (case s1_10 => exact uk4 ⟨k, (0, 0), (0, 0), 0, Lk.zero⟩ none 0 0 none 0 0 none 0 0)) | fail)
 generalize hW : ((w.alloc (.cells lz34 37)).alloc (.cells lz34 37)).setCells (w.heap.size + 1) 0 (iV k :: iV 0 :: iV 0 :: iV 0 :: iV 0 :: iV 0 :: iV 0 :: iV 0 :: Value.bool false :: iV 0 :: iV 0 :: iV 0 :: iV 0 :: iV 0 :: iV 0 :: iV 0 :: iV 0 :: iV 0 :: iV 0 :: iV 0 :: Value.int .u8 0 :: Value.int .u8 0 :: Value.int .u8 0 :: Value.int .u8 0 :: iV 0 :: iV 0 :: iV 0 :: Value.slice none 0 0 :: Value.bool false :: Value.slice none 0 0 :: iV 0 :: Value.bool false :: Value.slice none 0 0 :: iV 0 :: []) = W0 at *
 generalize hL : w.heap.size + 1 = L at *
 clear hW hL
 refine (us7 _ R _ bs n Hl0.o.rd).mono ?_
 intro e w1 h1
 cases hn1 : idAt bs n with
 | none =>
  rw [hn1] at h1
  obtain ⟨rfl, hq⟩ := h1.fault (J := uob w.heap.size) (res := uld bs n k) Hl0.o.mod (by simp [uld, H1.o, H3.o, H4.o, hn1])
  exact ⟨rfl, hq⟩
 | some p1 =>
  obtain ⟨x1, m1⟩ := p1
  rw [hn1] at h1
  obtain ⟨hm1, _, rfl, rfl, hr1⟩ := h1
  have Hn1 := hd' hn1
  have hl1 := Hl0.o.step hm1 hr1
  clear hn1 hm1 hr1
  have c1 := hl1.loc.cell 1 rfl
  have fc1 := hl1.loc.frozen 1
  have c2 := hl1.loc.cell 2 rfl
  have fc2 := hl1.loc.frozen 2
  have hs1 := hl1.puts 1 [iV x1.1, iV x1.2]
  simp only [World.setCells, Nat.reduceAdd] at hs1
  have Hl1 : Hid (Gou.Loc w R _ bs 37 w.heap.size L lz34 (List.toArray (iV k :: iV x1.1 :: iV x1.2 :: iV 0 :: iV 0 :: iV 0 :: iV 0 :: iV 0 :: Value.bool false :: iV 0 :: iV 0 :: iV 0 :: iV 0 :: iV 0 :: iV 0 :: iV 0 :: iV 0 :: iV 0 :: iV 0 :: iV 0 :: Value.int .u8 0 :: Value.int .u8 0 :: Value.int .u8 0 :: Value.int .u8 0 :: iV 0 :: iV 0 :: iV 0 :: Value.slice none 0 0 :: Value.bool false :: Value.slice none 0 0 :: iV 0 :: Value.bool false :: Value.slice none 0 0 :: iV 0 :: [])) m1 _) := hd' (hs1)
  clear hl1 hs1
  go_wp2_with fail
  refine (uiz _ R _ bs m1 k Hl1.o.rd).mono ?_
  intro e w2 h2
  cases hn2 : ukd bs m1 k with
  | none =>
   rw [hn2] at h2
   obtain ⟨rfl, hq⟩ := h2.fault (J := uob w.heap.size) (res := uld bs n k) Hl1.o.mod (by have g1 := Hn1.o; simp [uld, g1, H1.o, H3.o, H4.o, hn2])
   exact ⟨rfl, hq⟩
  | some p2 =>
   obtain ⟨x2, m2⟩ := p2
   rw [hn2] at h2
   obtain ⟨hm2, _, rfl, ⟨vp, vf, vb, rfl, hlr, hsoft⟩, hr2⟩ := h2
   have Hn2 := hd' hn2
   obtain ⟨p1, n1, k1, p2, n2, k2, p3, n3, k3, rfl, rfl, rfl⟩ := hlr.forms
   have hLB := Blk.lt Hl1.o.loc
   have hNB := Blk.lt Hl1.o.res
   have hwB := Hl1.o.mod.size
   have HP := hd' hlr
   have HS := hd' hsoft
   have Hlt := hd' (And.intro hLB (And.intro hNB hwB))
   clear hlr hsoft hLB hNB hwB
   have hl2 := Hl1.o.step hm2 hr2
   clear hn2 hm2 hr2
   have Ht2 := hd' (hl2.loc.there 6 28 (by simp))
   have hs2 := hl2.puts 6 (uai x2 (.slice p1 n1 k1) (.slice p2 n2 k2) (.slice p3 n3 k3)).toList
   rw [unm] at hs2
   have Hl2 := hd' hs2
   clear hs2
   clear hl2
   have Hres : Hid (uld bs n k = some (⟨k, (x1.1, x1.2), (0, 0), 0, x2⟩, m2)) := hd' (by have g1 := Hn1.o; have g2 := Hn2.o; simp [uld, g1, g2, H1.o, H3.o, H4.o])
   have HB : Hid (Blk _ (L) 37 (oprC ⟨k, (x1.1, x1.2), (0, 0), 0, x2⟩ (.slice p1 n1 k1) (.slice p2 n2 k2) (.slice p3 n3 k3))) := hd' Hl2.o.loc
   have Hth := hd' (Hl2.o.res.there 0 34 (by simp))
   have Hd := hd' (Loc.done (cs := oprC ⟨k, (x1.1, x1.2), (0, 0), 0, x2⟩ (.slice p1 n1 k1) (.slice p2 n2 k2) (.slice p3 n3 k3)) Hl2.o rfl)
   go_wp2_with (first | ((with_reducible refine wpList_store_mid ?g1_11 35 ?x1_11 ?y1_11 ?o1_11 L 6 (uai x2 (.slice p1 n1 k1) (.slice p2 n2 k2) (.slice p3 n3 k3)) ?h1_11 ?j1_11 ?t1_11 ?i1_11 ?s1_11 ?r1_11); (case g1_11 => exact rfl); (case o1_11 => exact rfl); (case h1_11 => exact rfl); (case j1_11 => exact rfl); (case t1_11 => exact Ht2.o); (case i1_11 => exact size_look); (case s1_11 => exact uka _ _ _ _ _ _ _ _ _ _)) | ((with_reducible refine wpList_load_row ?g1_12 37 ?x1_12 ?o1_12 (L) ?h1_12 ?t1_12 ?c1_12 ?f1_12 ?d1_12 ?b1_12 ?u1_12 ?s1_12 ?i1_12 ?r1_12); (case g1_12 => exact rfl); (case o1_12 => exact rfl); (case h1_12 => exact rfl); (case b1_12 => exact HB.o); (case u1_12 => exact Tryz.underlying37); (case s1_12 => exact rfl); (case i1_12 => exact size_op)) | ((with_reducible refine wpList_store_mid ?g2_12 37 ?x2_12 ?y2_12 ?o2_12 w.heap.size 0 (oprC ⟨k, (x1.1, x1.2), (0, 0), 0, x2⟩ (.slice p1 n1 k1) (.slice p2 n2 k2) (.slice p3 n3 k3)) ?h2_12 ?j2_12 ?t2_12 ?i2_12 ?s2_12 ?r2_12); (case g2_12 => exact rfl); (case o2_12 => exact rfl); (case h2_12 => exact rfl); (case j2_12 => exact rfl); (case t2_12 => exact Hth.o); (case i2_12 => exact size_op); (case s2_12 => exact uk4 _ _ _ _ _ _ _ _ _ _)) | fail)
   obtain ⟨d1, d2, d3, d4⟩ := Hd.o
   refine RdP.ends rfl rfl rfl d3 Tryz.underlying37 rfl size_op (res := uld bs n k) Hres.o d2 ⟨_, _, _, rfl, HP.o.far (Mod.two (L := L) (o := 6) (vs := (uai x2 (.slice p1 n1 k1) (.slice p2 n2 k2) (.slice p3 n3 k3)).toList) d4) Hlt.o.1 Hlt.o.2.1 Hlt.o.2.2, HS.o.far (Mod.two (L := L) (o := 6) (vs := (uai x2 (.slice p1 n1 k1) (.slice p2 n2 k2) (.slice p3 n3 k3)).toList) d4) Hlt.o.1 Hlt.o.2.1 Hlt.o.2.2⟩ d1
theorem op_any (w : World) (R : Nat) (vb : Value) (bs : List Nat) (n : Nat) (k : Int) (h : RdAt w R vb bs n) :
  Calls Tryz.prog 60 #[.pointer (some ⟨R, 0, none⟩), iV k] w (RdP w R vb bs (uob w.heap.size) (uld bs n k)) := by
 by_cases hk1 : k = 1
 ·subst hk1; exact op_1 w R vb bs n h
 by_cases hk3 : k = 3
 ·subst hk3; exact op_3 w R vb bs n h
 by_cases hk4 : k = 4
 ·subst hk4; exact op_4 w R vb bs n h
 exact op_0 w R vb bs n k h hk1 hk3 hk4
end Go.Proofs.YtgolafbneiffpaaGreatDoor
namespace Go.Gou
open Go.RowKit
def uk9 (bs : List Nat) (n : Nat) : Option (Ac × Nat) := (umr bs n).bind fun b =>
 if 1 ≤ b.1 ∧ b.1 ≤ 14 then
     if b.1 = 12 then (ukw bs b.2).bind fun x => (ukw bs x.2).bind fun y => some (⟨12, Opr.zero, x.1, y.1, Cf.zero⟩, y.2)
     else if b.1 = 13 then (uoa bs b.2).bind fun c => some (⟨13, Opr.zero, 0, 0, c.1⟩, c.2)
     else if b.1 = 14 then some (⟨14, Opr.zero, 0, 0, Cf.zero⟩, b.2)
     else (uld bs b.2 b.1).bind fun o => some (⟨b.1, o.1, 0, 0, Cf.zero⟩, o.2)
 else none
theorem ukj (o : Ac) (p1 : Option Addr) (n1 k1 : Nat) (p2 : Option Addr) (n2 k2 : Nat) (p3 : Option Addr) (n3 k3 : Nat) : (actC o (.slice p1 n1 k1) (.slice p2 n2 k2) (.slice p3 n3 k3)).all (·.oneCell') = true := by simp [actC, Value.oneCell']
theorem ut3 (k : Int) (o : Opr) (vp vf vb : Value) : uao (List.toArray (iV k :: iV 0 :: iV 0 :: iV 0 :: iV 0 :: iV 0 :: iV 0 :: iV 0 :: iV 0 :: Value.bool false :: iV 0 :: iV 0 :: iV 0 :: iV 0 :: iV 0 :: iV 0 :: iV 0 :: iV 0 :: iV 0 :: iV 0 :: iV 0 :: Value.int .u8 0 :: Value.int .u8 0 :: Value.int .u8 0 :: Value.int .u8 0 :: iV 0 :: iV 0 :: iV 0 :: Value.slice none 0 0 :: Value.bool false :: Value.slice none 0 0 :: iV 0 :: Value.bool false :: Value.slice none 0 0 :: iV 0 :: iV 0 :: iV 0 :: Value.bool false :: Value.bool false :: Value.bool false :: Value.bool false :: iV 0 :: [])) 1 (oprC o vp vf vb).toList = actC ⟨k, o, 0, 0, Cf.zero⟩ vp vf vb := by
 simp [oprC, actC, uao, Cf.zero]
theorem rawAt_lt {bs : List Nat} {n x m : Nat} (h : ∀ x ∈ bs, x < 256) (hx : umr bs n = some (x, m)) : x < 256 := by
 unfold umr at hx
 split at hx
 ·simp only [Option.some.injEq, Prod.mk.injEq] at hx
  obtain ⟨rfl, _⟩ := hx
  exact h _ (lgM _)
 ·cases hx
end Go.Gou
namespace Go.Proofs.YtgolafbneiffpaaGreatDoor
open Go.RowKit Go.Gou
def uut (B : Nat) (w : World) (v : Value) (a : Ac) : Prop := ∃ vp vf vb, v = .agg (actC a vp vf vb) ∧ LookR (fun b => B ≤ b) w a.op.look vp vf vb ∧ SoftB B w vp
set_option maxRecDepth 100000 in
theorem uus (w : World) (R : Nat) (vb : Value) (bs : List Nat) (n : Nat) (h : RdAt w R vb bs n) :
  Calls Tryz.prog 33 #[.pointer (some ⟨R, 0, none⟩)] w (RdP w R vb bs (uut w.heap.size) (uk9 bs n)) := by
 have H := hd' h
 have hR := h.lt
 clear h
 go_enter Tryz.func33, Tryz.ntmps33
 go_wp2_with fail
 refine (raw_any _ R vb bs n (H.o.alloc _)).mono ?_
 intro e w1 h1
 cases hn1 : umr bs n with
 | none =>
  rw [hn1] at h1
  obtain ⟨rfl, hq⟩ := h1.fault (J := uut w.heap.size) (res := uk9 bs n) (Mod.alloc _ _ _) (by simp [uk9, hn1])
  exact ⟨rfl, hq⟩
 | some p1 =>
  obtain ⟨x1, m1⟩ := p1
  have hx256 := rawAt_lt H.o.byte hn1
  rw [hn1] at h1
  obtain ⟨hm1, _, rfl, rfl, hr1⟩ := h1
  have Hn1 := hd' hn1
  have hl := Loc.start H.o hm1 hr1 lz42
  have Ht0 := hd' (hl.loc.there 0 42 (by simp))
  have hp := hl.puts 0 (iV (x1 : Nat) :: iV 0 :: iV 0 :: iV 0 :: iV 0 :: iV 0 :: iV 0 :: iV 0 :: iV 0 :: Value.bool false :: iV 0 :: iV 0 :: iV 0 :: iV 0 :: iV 0 :: iV 0 :: iV 0 :: iV 0 :: iV 0 :: iV 0 :: iV 0 :: Value.int .u8 0 :: Value.int .u8 0 :: Value.int .u8 0 :: Value.int .u8 0 :: iV 0 :: iV 0 :: iV 0 :: Value.slice none 0 0 :: Value.bool false :: Value.slice none 0 0 :: iV 0 :: Value.bool false :: Value.slice none 0 0 :: iV 0 :: iV 0 :: iV 0 :: Value.bool false :: Value.bool false :: Value.bool false :: Value.bool false :: iV 0 :: [])
  rw [uef _ _ (by simp)] at hp
  have c0 := hp.loc.cell 0 rfl
  have Hl1 := hd' hp
  clear hp hl
  clear hn1 hm1 hr1
  obtain ⟨K, hK⟩ : ∃ K : Int, K = (x1 : Int) := ⟨_, rfl⟩
  rw [← hK] at Hl1 c0 ⊢
  by_cases hlo : 1 ≤ x1
  ·by_cases hhi : x1 ≤ 14
   ·by_cases h12 : x1 = 12
    ·subst h12
     clear hlo hhi hx256
     obtain rfl : K = 12 := hK
     go_wp2_with (first | ((with_reducible refine wpList_store_mid ?g1_16 41 ?x1_16 ?y1_16 ?o1_16 w1.heap.size 0 (List.toArray (iV 12 :: iV 0 :: iV 0 :: iV 0 :: iV 0 :: iV 0 :: iV 0 :: iV 0 :: iV 0 :: Value.bool false :: iV 0 :: iV 0 :: iV 0 :: iV 0 :: iV 0 :: iV 0 :: iV 0 :: iV 0 :: iV 0 :: iV 0 :: iV 0 :: Value.int .u8 0 :: Value.int .u8 0 :: Value.int .u8 0 :: Value.int .u8 0 :: iV 0 :: iV 0 :: iV 0 :: Value.slice none 0 0 :: Value.bool false :: Value.slice none 0 0 :: iV 0 :: Value.bool false :: Value.slice none 0 0 :: iV 0 :: iV 0 :: iV 0 :: Value.bool false :: Value.bool false :: Value.bool false :: Value.bool false :: iV 0 :: [])) ?h1_16 ?j1_16 ?t1_16 ?i1_16 ?s1_16 ?r1_16); (case g1_16 => exact rfl); (case o1_16 => exact rfl); (case h1_16 => exact rfl); (case j1_16 => exact rfl); (case t1_16 => exact Ht0.o); (case i1_16 => exact size_act); (case s1_16 => exact ukj ⟨12, Opr.zero, 0, 0, Cf.zero⟩ none 0 0 none 0 0 none 0 0)) | fail)
     refine (uku _).mono ?_
     rintro e w' ⟨rfl, rfl⟩
     go_wp2_with fail
     generalize hL : w1.heap.size = L at *
     refine (ukk _ R _ bs m1 Hl1.o.rd).mono ?_
     intro e w2 h2
     cases hn2 : ukw bs m1 with
     | none =>
      rw [hn2] at h2
      obtain ⟨rfl, hq⟩ := h2.fault (J := uut w.heap.size) (res := uk9 bs n) Hl1.o.mod (by have g1 := Hn1.o; simp [uk9, g1, hn2])
      exact ⟨rfl, hq⟩
     | some p2 =>
      obtain ⟨x2, m2⟩ := p2
      rw [hn2] at h2
      obtain ⟨hm2, _, rfl, rfl, hr2⟩ := h2
      have Hn2 := hd' hn2
      have hl2 := Hl1.o.step hm2 hr2
      clear hn2 hm2 hr2
      have c35 := hl2.loc.cell 35 rfl
      have fc35 := hl2.loc.frozen 35
      have Hl2 : Hid (Gou.Loc w R _ bs 41 w.heap.size L lz42 (List.toArray (iV 12 :: iV 0 :: iV 0 :: iV 0 :: iV 0 :: iV 0 :: iV 0 :: iV 0 :: iV 0 :: Value.bool false :: iV 0 :: iV 0 :: iV 0 :: iV 0 :: iV 0 :: iV 0 :: iV 0 :: iV 0 :: iV 0 :: iV 0 :: iV 0 :: Value.int .u8 0 :: Value.int .u8 0 :: Value.int .u8 0 :: Value.int .u8 0 :: iV 0 :: iV 0 :: iV 0 :: Value.slice none 0 0 :: Value.bool false :: Value.slice none 0 0 :: iV 0 :: Value.bool false :: Value.slice none 0 0 :: iV 0 :: iV x2 :: iV 0 :: Value.bool false :: Value.bool false :: Value.bool false :: Value.bool false :: iV 0 :: [])) m2 _) := hd' (hl2.put 35 (iV x2))
      clear hl2
      go_wp2_with fail
      refine (ukk _ R _ bs m2 Hl2.o.rd).mono ?_
      intro e w3 h3
      cases hn3 : ukw bs m2 with
      | none =>
       rw [hn3] at h3
       obtain ⟨rfl, hq⟩ := h3.fault (J := uut w.heap.size) (res := uk9 bs n) Hl2.o.mod (by have g1 := Hn1.o; have g2 := Hn2.o; simp [uk9, g1, g2, hn3])
       exact ⟨rfl, hq⟩
      | some p3 =>
       obtain ⟨x3, m3⟩ := p3
       rw [hn3] at h3
       obtain ⟨hm3, _, rfl, rfl, hr3⟩ := h3
       have Hn3 := hd' hn3
       have hl3 := Hl2.o.step hm3 hr3
       clear hn3 hm3 hr3
       have c36 := hl3.loc.cell 36 rfl
       have fc36 := hl3.loc.frozen 36
       have Hl3 : Hid (Gou.Loc w R _ bs 41 w.heap.size L lz42 (List.toArray (iV 12 :: iV 0 :: iV 0 :: iV 0 :: iV 0 :: iV 0 :: iV 0 :: iV 0 :: iV 0 :: Value.bool false :: iV 0 :: iV 0 :: iV 0 :: iV 0 :: iV 0 :: iV 0 :: iV 0 :: iV 0 :: iV 0 :: iV 0 :: iV 0 :: Value.int .u8 0 :: Value.int .u8 0 :: Value.int .u8 0 :: Value.int .u8 0 :: iV 0 :: iV 0 :: iV 0 :: Value.slice none 0 0 :: Value.bool false :: Value.slice none 0 0 :: iV 0 :: Value.bool false :: Value.slice none 0 0 :: iV 0 :: iV x2 :: iV x3 :: Value.bool false :: Value.bool false :: Value.bool false :: Value.bool false :: iV 0 :: [])) m3 _) := hd' (hl3.put 36 (iV x3))
       clear hl3
       have Hres : Hid (uk9 bs n = some (⟨12, Opr.zero, x2, x3, Cf.zero⟩, m3)) := hd' (by have g1 := Hn1.o; have g2 := Hn2.o; have g3 := Hn3.o; simp [uk9, g1, g2, g3])
       have HB : Hid (Blk _ (L) 41 (actC ⟨12, Opr.zero, x2, x3, Cf.zero⟩ nlS nlS nlS)) := hd' Hl3.o.loc
       have Hth := hd' (Hl3.o.res.there 0 42 (by simp))
       have Hd := hd' (Loc.done (cs := actC ⟨12, Opr.zero, x2, x3, Cf.zero⟩ nlS nlS nlS) Hl3.o rfl)
       go_wp2_with (first | ((with_reducible refine wpList_load_row ?g1_15 41 ?x1_15 ?o1_15 (L) ?h1_15 ?t1_15 ?c1_15 ?f1_15 ?d1_15 ?b1_15 ?u1_15 ?s1_15 ?i1_15 ?r1_15); (case g1_15 => exact rfl); (case o1_15 => exact rfl); (case h1_15 => exact rfl); (case b1_15 => exact HB.o); (case u1_15 => exact Tryz.underlying41); (case s1_15 => exact rfl); (case i1_15 => exact size_act)) | ((with_reducible refine wpList_store_mid ?g2_15 41 ?x2_15 ?y2_15 ?o2_15 w.heap.size 0 (actC ⟨12, Opr.zero, x2, x3, Cf.zero⟩ nlS nlS nlS) ?h2_15 ?j2_15 ?t2_15 ?i2_15 ?s2_15 ?r2_15); (case g2_15 => exact rfl); (case o2_15 => exact rfl); (case h2_15 => exact rfl); (case j2_15 => exact rfl); (case t2_15 => exact Hth.o); (case i2_15 => exact size_act); (case s2_15 => exact ukj _ _ _ _ _ _ _ _ _ _)) | fail)
       obtain ⟨d1, d2, d3, d4⟩ := Hd.o
       refine RdP.ends rfl rfl rfl d3 Tryz.underlying41 rfl size_act (res := uk9 bs n) Hres.o d2 ⟨_, _, _, rfl, LookR.nil _ _ _ rfl rfl rfl, SoftB.nil _ _⟩ d1
    by_cases h13 : x1 = 13
    ·subst h13
     clear hlo hhi hx256
     obtain rfl : K = 13 := hK
     go_wp2_with (first | ((with_reducible refine wpList_store_mid ?g1_18 41 ?x1_18 ?y1_18 ?o1_18 w1.heap.size 0 (List.toArray (iV 13 :: iV 0 :: iV 0 :: iV 0 :: iV 0 :: iV 0 :: iV 0 :: iV 0 :: iV 0 :: Value.bool false :: iV 0 :: iV 0 :: iV 0 :: iV 0 :: iV 0 :: iV 0 :: iV 0 :: iV 0 :: iV 0 :: iV 0 :: iV 0 :: Value.int .u8 0 :: Value.int .u8 0 :: Value.int .u8 0 :: Value.int .u8 0 :: iV 0 :: iV 0 :: iV 0 :: Value.slice none 0 0 :: Value.bool false :: Value.slice none 0 0 :: iV 0 :: Value.bool false :: Value.slice none 0 0 :: iV 0 :: iV 0 :: iV 0 :: Value.bool false :: Value.bool false :: Value.bool false :: Value.bool false :: iV 0 :: [])) ?h1_18 ?j1_18 ?t1_18 ?i1_18 ?s1_18 ?r1_18); (case g1_18 => exact rfl); (case o1_18 => exact rfl); (case h1_18 => exact rfl); (case j1_18 => exact rfl); (case t1_18 => exact Ht0.o); (case i1_18 => exact size_act); (case s1_18 => exact ukj ⟨13, Opr.zero, 0, 0, Cf.zero⟩ none 0 0 none 0 0 none 0 0)) | fail)
     refine (uku _).mono ?_
     rintro e w' ⟨rfl, rfl⟩
     go_wp2_with fail
     generalize hL : w1.heap.size = L at *
     refine (conf_any _ R _ bs m1 Hl1.o.rd).mono ?_
     intro e w2 h2
     cases hn2 : uoa bs m1 with
     | none =>
      rw [hn2] at h2
      obtain ⟨rfl, hq⟩ := h2.fault (J := uut w.heap.size) (res := uk9 bs n) Hl1.o.mod (by have g1 := Hn1.o; simp [uk9, g1, hn2])
      exact ⟨rfl, hq⟩
     | some p2 =>
      obtain ⟨x2, m2⟩ := p2
      rw [hn2] at h2
      obtain ⟨hm2, _, rfl, rfl, hr2⟩ := h2
      have Hn2 := hd' hn2
      simp only [confC]
      have hl2 := Hl1.o.step hm2 hr2
      clear hn2 hm2 hr2
      have c37 := hl2.loc.cell 37 rfl
      have fc37 := hl2.loc.frozen 37
      have c38 := hl2.loc.cell 38 rfl
      have fc38 := hl2.loc.frozen 38
      have c39 := hl2.loc.cell 39 rfl
      have fc39 := hl2.loc.frozen 39
      have c40 := hl2.loc.cell 40 rfl
      have fc40 := hl2.loc.frozen 40
      have c41 := hl2.loc.cell 41 rfl
      have fc41 := hl2.loc.frozen 41
      have hs2 := hl2.puts 37 [.bool x2.fuse, .bool x2.alias, .bool x2.roi, .bool x2.damage, iV x2.room]
      simp only [World.setCells, Nat.reduceAdd] at hs2
      have Hl2 : Hid (Gou.Loc w R _ bs 41 w.heap.size L lz42 (List.toArray (iV 13 :: iV 0 :: iV 0 :: iV 0 :: iV 0 :: iV 0 :: iV 0 :: iV 0 :: iV 0 :: Value.bool false :: iV 0 :: iV 0 :: iV 0 :: iV 0 :: iV 0 :: iV 0 :: iV 0 :: iV 0 :: iV 0 :: iV 0 :: iV 0 :: Value.int .u8 0 :: Value.int .u8 0 :: Value.int .u8 0 :: Value.int .u8 0 :: iV 0 :: iV 0 :: iV 0 :: Value.slice none 0 0 :: Value.bool false :: Value.slice none 0 0 :: iV 0 :: Value.bool false :: Value.slice none 0 0 :: iV 0 :: iV 0 :: iV 0 :: Value.bool x2.fuse :: Value.bool x2.alias :: Value.bool x2.roi :: Value.bool x2.damage :: iV x2.room :: [])) m2 _) := hd' (hs2)
      clear hl2 hs2
      have Hres : Hid (uk9 bs n = some (⟨13, Opr.zero, 0, 0, x2⟩, m2)) := hd' (by have g1 := Hn1.o; have g2 := Hn2.o; simp [uk9, g1, g2])
      have HB : Hid (Blk _ (L) 41 (actC ⟨13, Opr.zero, 0, 0, x2⟩ nlS nlS nlS)) := hd' Hl2.o.loc
      have Hth := hd' (Hl2.o.res.there 0 42 (by simp))
      have Hd := hd' (Loc.done (cs := actC ⟨13, Opr.zero, 0, 0, x2⟩ nlS nlS nlS) Hl2.o rfl)
      go_wp2_with (first | ((with_reducible refine wpList_load_row ?g1_17 41 ?x1_17 ?o1_17 (L) ?h1_17 ?t1_17 ?c1_17 ?f1_17 ?d1_17 ?b1_17 ?u1_17 ?s1_17 ?i1_17 ?r1_17); (case g1_17 => exact rfl); (case o1_17 => exact rfl); (case h1_17 => exact rfl); (case b1_17 => exact HB.o); (case u1_17 => exact Tryz.underlying41); (case s1_17 => exact rfl); (case i1_17 => exact size_act)) | ((with_reducible refine wpList_store_mid ?g2_17 41 ?x2_17 ?y2_17 ?o2_17 w.heap.size 0 (actC ⟨13, Opr.zero, 0, 0, x2⟩ nlS nlS nlS) ?h2_17 ?j2_17 ?t2_17 ?i2_17 ?s2_17 ?r2_17); (case g2_17 => exact rfl); (case o2_17 => exact rfl); (case h2_17 => exact rfl); (case j2_17 => exact rfl); (case t2_17 => exact Hth.o); (case i2_17 => exact size_act); (case s2_17 => exact ukj _ _ _ _ _ _ _ _ _ _)) | fail)
      obtain ⟨d1, d2, d3, d4⟩ := Hd.o
      refine RdP.ends rfl rfl rfl d3 Tryz.underlying41 rfl size_act (res := uk9 bs n) Hres.o d2 ⟨_, _, _, rfl, LookR.nil _ _ _ rfl rfl rfl, SoftB.nil _ _⟩ d1
    by_cases h14 : x1 = 14
    ·subst h14
     clear hlo hhi hx256
     obtain rfl : K = 14 := hK
     go_wp2_with (first | ((with_reducible refine wpList_store_mid ?g1_19 41 ?x1_19 ?y1_19 ?o1_19 w1.heap.size 0 (List.toArray (iV 14 :: iV 0 :: iV 0 :: iV 0 :: iV 0 :: iV 0 :: iV 0 :: iV 0 :: iV 0 :: Value.bool false :: iV 0 :: iV 0 :: iV 0 :: iV 0 :: iV 0 :: iV 0 :: iV 0 :: iV 0 :: iV 0 :: iV 0 :: iV 0 :: Value.int .u8 0 :: Value.int .u8 0 :: Value.int .u8 0 :: Value.int .u8 0 :: iV 0 :: iV 0 :: iV 0 :: Value.slice none 0 0 :: Value.bool false :: Value.slice none 0 0 :: iV 0 :: Value.bool false :: Value.slice none 0 0 :: iV 0 :: iV 0 :: iV 0 :: Value.bool false :: Value.bool false :: Value.bool false :: Value.bool false :: iV 0 :: [])) ?h1_19 ?j1_19 ?t1_19 ?i1_19 ?s1_19 ?r1_19); (case g1_19 => exact rfl); (case o1_19 => exact rfl); (case h1_19 => exact rfl); (case j1_19 => exact rfl); (case t1_19 => exact Ht0.o); (case i1_19 => exact size_act); (case s1_19 => exact ukj ⟨14, Opr.zero, 0, 0, Cf.zero⟩ none 0 0 none 0 0 none 0 0)) | fail)
     refine (uku _).mono ?_
     rintro e w' ⟨rfl, rfl⟩
     have Hres : Hid (uk9 bs n = some (⟨14, Opr.zero, 0, 0, Cf.zero⟩, m1)) := hd' (by have g1 := Hn1.o; simp [uk9, g1])
     have HB : Hid (Blk _ (w1.heap.size) 41 (actC ⟨14, Opr.zero, 0, 0, Cf.zero⟩ nlS nlS nlS)) := hd' Hl1.o.loc
     have Hth := hd' (Hl1.o.res.there 0 42 (by simp))
     have Hd := hd' (Loc.done (cs := actC ⟨14, Opr.zero, 0, 0, Cf.zero⟩ nlS nlS nlS) Hl1.o rfl)
     go_wp2_with (first | ((with_reducible refine wpList_load_row ?g1_20 41 ?x1_20 ?o1_20 (w1.heap.size) ?h1_20 ?t1_20 ?c1_20 ?f1_20 ?d1_20 ?b1_20 ?u1_20 ?s1_20 ?i1_20 ?r1_20); (case g1_20 => exact rfl); (case o1_20 => exact rfl); (case h1_20 => exact rfl); (case b1_20 => exact HB.o); (case u1_20 => exact Tryz.underlying41); (case s1_20 => exact rfl); (case i1_20 => exact size_act)) | ((with_reducible refine wpList_store_mid ?g2_20 41 ?x2_20 ?y2_20 ?o2_20 w.heap.size 0 (actC ⟨14, Opr.zero, 0, 0, Cf.zero⟩ nlS nlS nlS) ?h2_20 ?j2_20 ?t2_20 ?i2_20 ?s2_20 ?r2_20); (case g2_20 => exact rfl); (case o2_20 => exact rfl); (case h2_20 => exact rfl); (case j2_20 => exact rfl); (case t2_20 => exact Hth.o); (case i2_20 => exact size_act); (case s2_20 => exact ukj _ _ _ _ _ _ _ _ _ _)) | fail)
     obtain ⟨d1, d2, d3, d4⟩ := Hd.o
     refine RdP.ends rfl rfl rfl d3 Tryz.underlying41 rfl size_act (res := uk9 bs n) Hres.o d2 ⟨_, _, _, rfl, LookR.nil _ _ _ rfl rfl rfl, SoftB.nil _ _⟩ d1
    have Hr : Hid (1 ≤ x1 ∧ x1 ≤ 14) := hd' ⟨hlo, hhi⟩
    have H12 := hd' h12
    have H13 := hd' h13
    have H14 := hd' h14
    have e1 : decide (1 ≤ K) = true := by rw [hK]; simp; omega
    have e2 : decide (K ≤ 14) = true := by rw [hK]; simp; omega
    have e12 : (K == 12) = false := bqf.2 (by omega)
    have e13 : (K == 13) = false := bqf.2 (by omega)
    have e14 : (K == 14) = false := bqf.2 (by omega)
    have ew : wrap64 K = K := IntWalk.wrap64_in _ (by omega)
    have HK := hd' hK
    clear hlo hhi h12 h13 h14 hK hx256
    go_wp2_with (first | ((with_reducible refine wpList_store_mid ?g1_23 41 ?x1_23 ?y1_23 ?o1_23 w1.heap.size 0 (List.toArray (iV K :: iV 0 :: iV 0 :: iV 0 :: iV 0 :: iV 0 :: iV 0 :: iV 0 :: iV 0 :: Value.bool false :: iV 0 :: iV 0 :: iV 0 :: iV 0 :: iV 0 :: iV 0 :: iV 0 :: iV 0 :: iV 0 :: iV 0 :: iV 0 :: Value.int .u8 0 :: Value.int .u8 0 :: Value.int .u8 0 :: Value.int .u8 0 :: iV 0 :: iV 0 :: iV 0 :: Value.slice none 0 0 :: Value.bool false :: Value.slice none 0 0 :: iV 0 :: Value.bool false :: Value.slice none 0 0 :: iV 0 :: iV 0 :: iV 0 :: Value.bool false :: Value.bool false :: Value.bool false :: Value.bool false :: iV 0 :: [])) ?h1_23 ?j1_23 ?t1_23 ?i1_23 ?s1_23 ?r1_23); (case g1_23 => exact rfl); (case o1_23 => exact rfl); (case h1_23 => exact rfl); (case j1_23 => exact rfl); (case t1_23 => exact Ht0.o); (case i1_23 => exact size_act); (case s1_23 => exact ukj ⟨K, Opr.zero, 0, 0, Cf.zero⟩ none 0 0 none 0 0 none 0 0)) | fail)
    refine (uku _).mono ?_
    rintro e w' ⟨rfl, rfl⟩
    go_wp2_with fail
    generalize hL : w1.heap.size = L at *
    refine (op_any _ R _ bs m1 K Hl1.o.rd).mono ?_
    intro e w2 h2
    cases hn2 : uld bs m1 K with
    | none =>
     rw [hn2] at h2
     obtain ⟨rfl, hq⟩ := h2.fault (J := uut w.heap.size) (res := uk9 bs n) Hl1.o.mod (by have g1 := Hn1.o; have gr := Hr.o; have gk := HK.o; subst gk; simp [uk9, g1, hn2, gr, H12.o, H13.o, H14.o])
     exact ⟨rfl, hq⟩
    | some p2 =>
     obtain ⟨x2, m2⟩ := p2
     rw [hn2] at h2
     obtain ⟨hm2, _, rfl, ⟨vp, vf, vb, rfl, hlr, hsoft⟩, hr2⟩ := h2
     have Hn2 := hd' hn2
     obtain ⟨p1, n1, k1, p2, n2, k2, p3, n3, k3, rfl, rfl, rfl⟩ := hlr.forms
     have hLB := Blk.lt Hl1.o.loc
     have hNB := Blk.lt Hl1.o.res
     have hwB := Hl1.o.mod.size
     have HP := hd' hlr
     have HS := hd' hsoft
     have Hlt := hd' (And.intro hLB (And.intro hNB hwB))
     clear hlr hsoft hLB hNB hwB
     have hl2 := Hl1.o.step hm2 hr2
     clear hn2 hm2 hr2
     have Ht2 := hd' (hl2.loc.there 1 34 (by simp))
     have hs2 := hl2.puts 1 (oprC x2 (.slice p1 n1 k1) (.slice p2 n2 k2) (.slice p3 n3 k3)).toList
     rw [ut3] at hs2
     have Hl2 := hd' hs2
     clear hs2
     clear hl2
     have Hres : Hid (uk9 bs n = some (⟨K, x2, 0, 0, Cf.zero⟩, m2)) := hd' (by have g1 := Hn1.o; have g2 := Hn2.o; have gr := Hr.o; have gk := HK.o; subst gk; simp [uk9, g1, g2, gr, H12.o, H13.o, H14.o])
     have HB : Hid (Blk _ (L) 41 (actC ⟨K, x2, 0, 0, Cf.zero⟩ (.slice p1 n1 k1) (.slice p2 n2 k2) (.slice p3 n3 k3))) := hd' Hl2.o.loc
     have Hth := hd' (Hl2.o.res.there 0 42 (by simp))
     have Hd := hd' (Loc.done (cs := actC ⟨K, x2, 0, 0, Cf.zero⟩ (.slice p1 n1 k1) (.slice p2 n2 k2) (.slice p3 n3 k3)) Hl2.o rfl)
     go_wp2_with (first | ((with_reducible refine wpList_store_mid ?g1_21 37 ?x1_21 ?y1_21 ?o1_21 L 1 (oprC x2 (.slice p1 n1 k1) (.slice p2 n2 k2) (.slice p3 n3 k3)) ?h1_21 ?j1_21 ?t1_21 ?i1_21 ?s1_21 ?r1_21); (case g1_21 => exact rfl); (case o1_21 => exact rfl); (case h1_21 => exact rfl); (case j1_21 => exact rfl); (case t1_21 => exact Ht2.o); (case i1_21 => exact size_op); (case s1_21 => exact uk4 _ _ _ _ _ _ _ _ _ _)) | ((with_reducible refine wpList_load_row ?g1_22 41 ?x1_22 ?o1_22 (L) ?h1_22 ?t1_22 ?c1_22 ?f1_22 ?d1_22 ?b1_22 ?u1_22 ?s1_22 ?i1_22 ?r1_22); (case g1_22 => exact rfl); (case o1_22 => exact rfl); (case h1_22 => exact rfl); (case b1_22 => exact HB.o); (case u1_22 => exact Tryz.underlying41); (case s1_22 => exact rfl); (case i1_22 => exact size_act)) | ((with_reducible refine wpList_store_mid ?g2_22 41 ?x2_22 ?y2_22 ?o2_22 w.heap.size 0 (actC ⟨K, x2, 0, 0, Cf.zero⟩ (.slice p1 n1 k1) (.slice p2 n2 k2) (.slice p3 n3 k3)) ?h2_22 ?j2_22 ?t2_22 ?i2_22 ?s2_22 ?r2_22); (case g2_22 => exact rfl); (case o2_22 => exact rfl); (case h2_22 => exact rfl); (case j2_22 => exact rfl); (case t2_22 => exact Hth.o); (case i2_22 => exact size_act); (case s2_22 => exact ukj _ _ _ _ _ _ _ _ _ _)) | fail)
     obtain ⟨d1, d2, d3, d4⟩ := Hd.o
     refine RdP.ends rfl rfl rfl d3 Tryz.underlying41 rfl size_act (res := uk9 bs n) Hres.o d2 ⟨_, _, _, rfl, HP.o.far (Mod.two (L := L) (o := 1) (vs := (oprC x2 (.slice p1 n1 k1) (.slice p2 n2 k2) (.slice p3 n3 k3)).toList) d4) Hlt.o.1 Hlt.o.2.1 Hlt.o.2.2, HS.o.far (Mod.two (L := L) (o := 1) (vs := (oprC x2 (.slice p1 n1 k1) (.slice p2 n2 k2) (.slice p3 n3 k3)).toList) d4) Hlt.o.1 Hlt.o.2.1 Hlt.o.2.2⟩ d1
   ·have e1 : decide (1 ≤ K) = true := by rw [hK]; simp; omega
    have e2 : decide (K ≤ 14) = false := by rw [hK]; simp; omega
    have ew : wrap64 K = K := IntWalk.wrap64_in _ (by omega)
    have Hno : Hid (uk9 bs n = none) := hd' (by have g1 := Hn1.o; simp [uk9, g1]; omega)
    clear hlo hhi hx256 hK
    go_wp2_with (first | ((with_reducible refine wpList_store_mid ?g1_13 41 ?x1_13 ?y1_13 ?o1_13 w1.heap.size 0 (List.toArray (iV K :: iV 0 :: iV 0 :: iV 0 :: iV 0 :: iV 0 :: iV 0 :: iV 0 :: iV 0 :: Value.bool false :: iV 0 :: iV 0 :: iV 0 :: iV 0 :: iV 0 :: iV 0 :: iV 0 :: iV 0 :: iV 0 :: iV 0 :: iV 0 :: Value.int .u8 0 :: Value.int .u8 0 :: Value.int .u8 0 :: Value.int .u8 0 :: iV 0 :: iV 0 :: iV 0 :: Value.slice none 0 0 :: Value.bool false :: Value.slice none 0 0 :: iV 0 :: Value.bool false :: Value.slice none 0 0 :: iV 0 :: iV 0 :: iV 0 :: Value.bool false :: Value.bool false :: Value.bool false :: Value.bool false :: iV 0 :: [])) ?h1_13 ?j1_13 ?t1_13 ?i1_13 ?s1_13 ?r1_13); (case g1_13 => exact rfl); (case o1_13 => exact rfl); (case h1_13 => exact rfl); (case j1_13 => exact rfl); (case t1_13 => exact Ht0.o); (case i1_13 => exact size_act); (case s1_13 => exact ukj ⟨K, Opr.zero, 0, 0, Cf.zero⟩ none 0 0 none 0 0 none 0 0)) | fail)
    refine (ukq _).mono ?_
    rintro e w' ⟨rfl, rfl⟩
    exact ⟨rfl, Hl1.o.mod, by rw [Hno.o]; exact ⟨rfl, _, Hl1.o.rd⟩⟩
  ·have e1 : decide (1 ≤ K) = false := by rw [hK]; simp; omega
   have ew : wrap64 K = K := IntWalk.wrap64_in _ (by omega)
   have Hno : Hid (uk9 bs n = none) := hd' (by have g1 := Hn1.o; simp [uk9, g1]; omega)
   clear hlo hx256 hK
   go_wp2_with (first | ((with_reducible refine wpList_store_mid ?g1_14 41 ?x1_14 ?y1_14 ?o1_14 w1.heap.size 0 (List.toArray (iV K :: iV 0 :: iV 0 :: iV 0 :: iV 0 :: iV 0 :: iV 0 :: iV 0 :: iV 0 :: Value.bool false :: iV 0 :: iV 0 :: iV 0 :: iV 0 :: iV 0 :: iV 0 :: iV 0 :: iV 0 :: iV 0 :: iV 0 :: iV 0 :: Value.int .u8 0 :: Value.int .u8 0 :: Value.int .u8 0 :: Value.int .u8 0 :: iV 0 :: iV 0 :: iV 0 :: Value.slice none 0 0 :: Value.bool false :: Value.slice none 0 0 :: iV 0 :: Value.bool false :: Value.slice none 0 0 :: iV 0 :: iV 0 :: iV 0 :: Value.bool false :: Value.bool false :: Value.bool false :: Value.bool false :: iV 0 :: [])) ?h1_14 ?j1_14 ?t1_14 ?i1_14 ?s1_14 ?r1_14); (case g1_14 => exact rfl); (case o1_14 => exact rfl); (case h1_14 => exact rfl); (case j1_14 => exact rfl); (case t1_14 => exact Ht0.o); (case i1_14 => exact size_act); (case s1_14 => exact ukj ⟨K, Opr.zero, 0, 0, Cf.zero⟩ none 0 0 none 0 0 none 0 0)) | fail)
   refine (ukq _).mono ?_
   rintro e w' ⟨rfl, rfl⟩
   exact ⟨rfl, Hl1.o.mod, by rw [Hno.o]; exact ⟨rfl, _, Hl1.o.rd⟩⟩
theorem uwg (w : World) : Calls Tryz.prog 29 #[.nilIface] w fun e w' => e = .returned (.bool false) ∧ w' = w := by
 go_enter Tryz.func29, Tryz.ntmps29
 go_wp2
 go_ret
 exact ⟨rfl, rfl⟩
set_option maxRecDepth 100000 in
theorem utn (w : World) : Calls Tryz.prog 29 #[.iface 124 (.agg #[])] w fun e w' => e = .returned (.bool true) ∧ Gou.Mod (fun _ => False) w w' := by
 go_enter Tryz.func29, Tryz.ntmps29
 have ha : (Instr.typeAssert (.iface 124 (.agg #[])) 20 124 true).run Tryz.prog w = .ok (.tuple #[.agg #[], .bool true]) w := by
  simp [Instr.typeAssert, go_sem, Tryz.underlying124]
 go_wp2
 go_ret
 exact ⟨rfl, Mod.alloc _ _ _⟩
end Go.Proofs.YtgolafbneiffpaaGreatDoor
