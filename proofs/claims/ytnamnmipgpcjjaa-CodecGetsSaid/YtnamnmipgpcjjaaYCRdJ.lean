/- Texts of the codec's proofs, laid together: CRdJ. -/
import Derived.Test.YtnamnmipgpcjjaaYCRdI
set_option linter.unusedSimpArgs false
set_option linter.unusedVariables false
set_option linter.unusedSectionVars false
set_option linter.constructorNameAsVariable false

/- Acts as bytes: an operation. -/
namespace Go.Gou
open Go.RowKit

def oprAt (bs : List Nat) (n : Nat) (k : Int) : Option (Opr × Nat) :=
  (if k = 1 then some ((0, 0), n) else idAt bs n).bind fun i => (if k = 1 ∨ k = 3 then idAt bs i.2 else some ((0, 0), i.2)).bind fun t =>
    (if k = 1 ∨ k = 3 ∨ k = 4 then numAt bs t.2 else some (0, t.2)).bind fun a => (lookAt bs a.2 k).bind fun l => some (⟨k, i.1, t.1, a.1, l.1⟩, l.2)

theorem oprC_one (o : Opr) (p1 : Option Addr) (n1 k1 : Nat) (p2 : Option Addr) (n2 k2 : Nat) (p3 : Option Addr) (n3 k3 : Nat) : (oprC o (.slice p1 n1 k1) (.slice p2 n2 k2) (.slice p3 n3 k3)).all (·.oneCell') = true := by simp [oprC, Value.oneCell']

theorem setMany_opr (k i1 i2 t1 t2 a : Int) (l : Lk) (vp vf vb : Value) : setMany (List.toArray (Value.int .i64 k :: Value.int .i64 i1 :: Value.int .i64 i2 :: Value.int .i64 t1 :: Value.int .i64 t2 :: Value.int .i64 a :: Value.int .i64 0 :: Value.int .i64 0 :: Value.bool false :: Value.int .i64 0 :: Value.int .i64 0 :: Value.int .i64 0 :: Value.int .i64 0 :: Value.int .i64 0 :: Value.int .i64 0 :: Value.int .i64 0 :: Value.int .i64 0 :: Value.int .i64 0 :: Value.int .i64 0 :: Value.int .i64 0 :: Value.int .u8 0 :: Value.int .u8 0 :: Value.int .u8 0 :: Value.int .u8 0 :: Value.int .i64 0 :: Value.int .i64 0 :: Value.int .i64 0 :: Value.slice none 0 0 :: Value.bool false :: Value.slice none 0 0 :: Value.int .i64 0 :: Value.bool false :: Value.slice none 0 0 :: Value.int .i64 0 :: [])) 6 (lookC l vp vf vb).toList = oprC ⟨k, (i1, i2), (t1, t2), a, l⟩ vp vf vb := by
  simp [lookC, oprC, setMany]

theorem NodesR.form {G : Nat → Prop} {w : World} {v : Value} {ns : List GNode} (h : NodesR G w v ns) : ∃ p c, v = .slice p ns.length c := by
  obtain ⟨_, h, _⟩ := h
  obtain ⟨p, c, e, _⟩ := h.form
  exact ⟨p, c, e⟩

theorem LookR.forms {G : Nat → Prop} {w : World} {l : Lk} {vp vf vb : Value} (h : LookR G w l vp vf vb) : ∃ p1 n1 k1 p2 n2 k2 p3 n3 k3, vp = .slice p1 n1 k1 ∧ vf = .slice p2 n2 k2 ∧ vb = .slice p3 n3 k3 := by
  obtain ⟨p1, k1, e1, _⟩ := RowG.form h.pix
  obtain ⟨p2, k2, e2⟩ := h.filt.form
  obtain ⟨p3, k3, e3⟩ := h.back.form
  exact ⟨_, _, _, _, _, _, _, _, _, e1, e2, e3⟩

end Go.Gou
namespace Go.Proofs.Ytnamnmipgpcjjaa
open Go.RowKit Go.Gou

def IsOpr (B : Nat) (w : World) (v : Value) (o : Opr) : Prop := ∃ vp vf vb, v = .agg (oprC o vp vf vb) ∧ LookR (fun b => B ≤ b) w o.look vp vf vb ∧ SoftB B w vp

set_option maxRecDepth 100000 in
set_option maxHeartbeats 4000000 in
theorem op_1 (w : World) (R : Nat) (vb : Value) (bs : List Nat) (n : Nat) (h : RdAt w R vb bs n) :
    Calls Try.prog 37 #[.pointer (some ⟨R, 0, none⟩), .int .i64 1] w (RdP w R vb bs (IsOpr w.heap.size) (oprAt bs n 1)) := by
  have H := Lib.hid h
  have hR := h.lt
  clear h
  go_enter Try.func37, Try.ntmps37
  have HZ : Hid (Gou.Loc w R _ bs 37 w.heap.size (w.heap.size + 1) OpZ OpZ n ((w.alloc (.cells OpZ 37)).alloc (.cells OpZ 37))) := Lib.hid (by
    have := Loc.start H.out (Mod.refl _ (w.alloc (.cells OpZ 37))) (H.out.alloc _) OpZ
    simpa using this)
  have Ht0 := Lib.hid (HZ.out.loc.there 0 34 (by simp))
  have hp := HZ.out.puts 0 (Value.int .i64 1 :: Value.int .i64 0 :: Value.int .i64 0 :: Value.int .i64 0 :: Value.int .i64 0 :: Value.int .i64 0 :: Value.int .i64 0 :: Value.int .i64 0 :: Value.bool false :: Value.int .i64 0 :: Value.int .i64 0 :: Value.int .i64 0 :: Value.int .i64 0 :: Value.int .i64 0 :: Value.int .i64 0 :: Value.int .i64 0 :: Value.int .i64 0 :: Value.int .i64 0 :: Value.int .i64 0 :: Value.int .i64 0 :: Value.int .u8 0 :: Value.int .u8 0 :: Value.int .u8 0 :: Value.int .u8 0 :: Value.int .i64 0 :: Value.int .i64 0 :: Value.int .i64 0 :: Value.slice none 0 0 :: Value.bool false :: Value.slice none 0 0 :: Value.int .i64 0 :: Value.bool false :: Value.slice none 0 0 :: Value.int .i64 0 :: [])
  rw [setMany_all _ _ (by simp)] at hp
  have Hl0 : Hid (Gou.Loc w R _ bs 37 w.heap.size (w.heap.size + 1) OpZ (List.toArray (Value.int .i64 1 :: Value.int .i64 0 :: Value.int .i64 0 :: Value.int .i64 0 :: Value.int .i64 0 :: Value.int .i64 0 :: Value.int .i64 0 :: Value.int .i64 0 :: Value.bool false :: Value.int .i64 0 :: Value.int .i64 0 :: Value.int .i64 0 :: Value.int .i64 0 :: Value.int .i64 0 :: Value.int .i64 0 :: Value.int .i64 0 :: Value.int .i64 0 :: Value.int .i64 0 :: Value.int .i64 0 :: Value.int .i64 0 :: Value.int .u8 0 :: Value.int .u8 0 :: Value.int .u8 0 :: Value.int .u8 0 :: Value.int .i64 0 :: Value.int .i64 0 :: Value.int .i64 0 :: Value.slice none 0 0 :: Value.bool false :: Value.slice none 0 0 :: Value.int .i64 0 :: Value.bool false :: Value.slice none 0 0 :: Value.int .i64 0 :: [])) n (((w.alloc (.cells OpZ 37)).alloc (.cells OpZ 37)).setCells (w.heap.size + 1) 0 (Value.int .i64 1 :: Value.int .i64 0 :: Value.int .i64 0 :: Value.int .i64 0 :: Value.int .i64 0 :: Value.int .i64 0 :: Value.int .i64 0 :: Value.int .i64 0 :: Value.bool false :: Value.int .i64 0 :: Value.int .i64 0 :: Value.int .i64 0 :: Value.int .i64 0 :: Value.int .i64 0 :: Value.int .i64 0 :: Value.int .i64 0 :: Value.int .i64 0 :: Value.int .i64 0 :: Value.int .i64 0 :: Value.int .i64 0 :: Value.int .u8 0 :: Value.int .u8 0 :: Value.int .u8 0 :: Value.int .u8 0 :: Value.int .i64 0 :: Value.int .i64 0 :: Value.int .i64 0 :: Value.slice none 0 0 :: Value.bool false :: Value.slice none 0 0 :: Value.int .i64 0 :: Value.bool false :: Value.slice none 0 0 :: Value.int .i64 0 :: []))) := Lib.hid hp
  clear hp HZ
  go_wp2_with (first | ((with_reducible refine wpList_store_mid ?g1_1 37 ?x1_1 ?y1_1 ?o1_1 (w.heap.size + 1) 0 (List.toArray (Value.int .i64 1 :: Value.int .i64 0 :: Value.int .i64 0 :: Value.int .i64 0 :: Value.int .i64 0 :: Value.int .i64 0 :: Value.int .i64 0 :: Value.int .i64 0 :: Value.bool false :: Value.int .i64 0 :: Value.int .i64 0 :: Value.int .i64 0 :: Value.int .i64 0 :: Value.int .i64 0 :: Value.int .i64 0 :: Value.int .i64 0 :: Value.int .i64 0 :: Value.int .i64 0 :: Value.int .i64 0 :: Value.int .i64 0 :: Value.int .u8 0 :: Value.int .u8 0 :: Value.int .u8 0 :: Value.int .u8 0 :: Value.int .i64 0 :: Value.int .i64 0 :: Value.int .i64 0 :: Value.slice none 0 0 :: Value.bool false :: Value.slice none 0 0 :: Value.int .i64 0 :: Value.bool false :: Value.slice none 0 0 :: Value.int .i64 0 :: [])) ?h1_1 ?j1_1 ?t1_1 ?i1_1 ?s1_1 ?r1_1); (case g1_1 => exact rfl); (case o1_1 => exact rfl); (case h1_1 => exact rfl); (case j1_1 => exact rfl); (case t1_1 => exact Ht0.out); (case i1_1 => exact size_op); (case s1_1 => exact oprC_one ⟨1, (0, 0), (0, 0), 0, Lk.zero⟩ none 0 0 none 0 0 none 0 0)) | fail)
  generalize hW : ((w.alloc (.cells OpZ 37)).alloc (.cells OpZ 37)).setCells (w.heap.size + 1) 0 (Value.int .i64 1 :: Value.int .i64 0 :: Value.int .i64 0 :: Value.int .i64 0 :: Value.int .i64 0 :: Value.int .i64 0 :: Value.int .i64 0 :: Value.int .i64 0 :: Value.bool false :: Value.int .i64 0 :: Value.int .i64 0 :: Value.int .i64 0 :: Value.int .i64 0 :: Value.int .i64 0 :: Value.int .i64 0 :: Value.int .i64 0 :: Value.int .i64 0 :: Value.int .i64 0 :: Value.int .i64 0 :: Value.int .i64 0 :: Value.int .u8 0 :: Value.int .u8 0 :: Value.int .u8 0 :: Value.int .u8 0 :: Value.int .i64 0 :: Value.int .i64 0 :: Value.int .i64 0 :: Value.slice none 0 0 :: Value.bool false :: Value.slice none 0 0 :: Value.int .i64 0 :: Value.bool false :: Value.slice none 0 0 :: Value.int .i64 0 :: []) = W0 at *
  generalize hL : w.heap.size + 1 = L at *
  clear hW hL
  refine (id_any _ R _ bs n Hl0.out.rd).mono ?_
  intro e w1 h1
  cases hn1 : idAt bs n with
  | none =>
    rw [hn1] at h1
    obtain ⟨rfl, hq⟩ := h1.fault (J := IsOpr w.heap.size) (res := oprAt bs n 1) Hl0.out.mod (by simp [oprAt, hn1])
    exact ⟨rfl, hq⟩
  | some p1 =>
    obtain ⟨x1, m1⟩ := p1
    rw [hn1] at h1
    obtain ⟨hm1, _, rfl, rfl, hr1⟩ := h1
    have Hn1 := Lib.hid hn1
    have hl1 := Hl0.out.step hm1 hr1
    clear hn1 hm1 hr1
    have c3 := hl1.loc.cell 3 rfl
    have fc3 := hl1.loc.frozen 3
    have c4 := hl1.loc.cell 4 rfl
    have fc4 := hl1.loc.frozen 4
    have hs1 := hl1.puts 3 [.int .i64 x1.1, .int .i64 x1.2]
    simp only [World.setCells, Nat.reduceAdd] at hs1
    have Hl1 : Hid (Gou.Loc w R _ bs 37 w.heap.size L OpZ (List.toArray (Value.int .i64 1 :: Value.int .i64 0 :: Value.int .i64 0 :: Value.int .i64 x1.1 :: Value.int .i64 x1.2 :: Value.int .i64 0 :: Value.int .i64 0 :: Value.int .i64 0 :: Value.bool false :: Value.int .i64 0 :: Value.int .i64 0 :: Value.int .i64 0 :: Value.int .i64 0 :: Value.int .i64 0 :: Value.int .i64 0 :: Value.int .i64 0 :: Value.int .i64 0 :: Value.int .i64 0 :: Value.int .i64 0 :: Value.int .i64 0 :: Value.int .u8 0 :: Value.int .u8 0 :: Value.int .u8 0 :: Value.int .u8 0 :: Value.int .i64 0 :: Value.int .i64 0 :: Value.int .i64 0 :: Value.slice none 0 0 :: Value.bool false :: Value.slice none 0 0 :: Value.int .i64 0 :: Value.bool false :: Value.slice none 0 0 :: Value.int .i64 0 :: [])) m1 _) := Lib.hid (hs1)
    clear hl1 hs1
    go_wp2_with fail
    refine (number_any _ R _ bs m1 Hl1.out.rd).mono ?_
    intro e w2 h2
    cases hn2 : numAt bs m1 with
    | none =>
      rw [hn2] at h2
      obtain ⟨rfl, hq⟩ := h2.fault (J := IsOpr w.heap.size) (res := oprAt bs n 1) Hl1.out.mod (by have g1 := Hn1.out; simp [oprAt, g1, hn2])
      exact ⟨rfl, hq⟩
    | some p2 =>
      obtain ⟨x2, m2⟩ := p2
      rw [hn2] at h2
      obtain ⟨hm2, _, rfl, rfl, hr2⟩ := h2
      have Hn2 := Lib.hid hn2
      have hl2 := Hl1.out.step hm2 hr2
      clear hn2 hm2 hr2
      have c5 := hl2.loc.cell 5 rfl
      have fc5 := hl2.loc.frozen 5
      have Hl2 : Hid (Gou.Loc w R _ bs 37 w.heap.size L OpZ (List.toArray (Value.int .i64 1 :: Value.int .i64 0 :: Value.int .i64 0 :: Value.int .i64 x1.1 :: Value.int .i64 x1.2 :: Value.int .i64 x2 :: Value.int .i64 0 :: Value.int .i64 0 :: Value.bool false :: Value.int .i64 0 :: Value.int .i64 0 :: Value.int .i64 0 :: Value.int .i64 0 :: Value.int .i64 0 :: Value.int .i64 0 :: Value.int .i64 0 :: Value.int .i64 0 :: Value.int .i64 0 :: Value.int .i64 0 :: Value.int .i64 0 :: Value.int .u8 0 :: Value.int .u8 0 :: Value.int .u8 0 :: Value.int .u8 0 :: Value.int .i64 0 :: Value.int .i64 0 :: Value.int .i64 0 :: Value.slice none 0 0 :: Value.bool false :: Value.slice none 0 0 :: Value.int .i64 0 :: Value.bool false :: Value.slice none 0 0 :: Value.int .i64 0 :: [])) m2 _) := Lib.hid (hl2.put 5 (.int .i64 x2))
      clear hl2
      go_wp2_with fail
      refine (look_any _ R _ bs m2 1 Hl2.out.rd).mono ?_
      intro e w3 h3
      cases hn3 : lookAt bs m2 1 with
      | none =>
        rw [hn3] at h3
        obtain ⟨rfl, hq⟩ := h3.fault (J := IsOpr w.heap.size) (res := oprAt bs n 1) Hl2.out.mod (by have g1 := Hn1.out; have g2 := Hn2.out; simp [oprAt, g1, g2, hn3])
        exact ⟨rfl, hq⟩
      | some p3 =>
        obtain ⟨x3, m3⟩ := p3
        rw [hn3] at h3
        obtain ⟨hm3, _, rfl, ⟨vp, vf, vb, rfl, hlr, hsoft⟩, hr3⟩ := h3
        have Hn3 := Lib.hid hn3
        obtain ⟨p1, n1, k1, p2, n2, k2, p3, n3, k3, rfl, rfl, rfl⟩ := hlr.forms
        have hLB := Blk.lt Hl2.out.loc
        have hNB := Blk.lt Hl2.out.res
        have hwB := Hl2.out.mod.size
        have HP := Lib.hid hlr
        have HS := Lib.hid hsoft
        have Hlt := Lib.hid (And.intro hLB (And.intro hNB hwB))
        clear hlr hsoft hLB hNB hwB
        have hl3 := Hl2.out.step hm3 hr3
        clear hn3 hm3 hr3
        have Ht3 := Lib.hid (hl3.loc.there 6 28 (by simp))
        have hs3 := hl3.puts 6 (lookC x3 (.slice p1 n1 k1) (.slice p2 n2 k2) (.slice p3 n3 k3)).toList
        rw [setMany_opr] at hs3
        have Hl3 := Lib.hid hs3
        clear hs3
        clear hl3
        have Hres : Hid (oprAt bs n 1 = some (⟨1, (0, 0), (x1.1, x1.2), x2, x3⟩, m3)) := Lib.hid (by have g1 := Hn1.out; have g2 := Hn2.out; have g3 := Hn3.out; simp [oprAt, g1, g2, g3])
        have HB : Hid (Blk _ (L) 37 (oprC ⟨1, (0, 0), (x1.1, x1.2), x2, x3⟩ (.slice p1 n1 k1) (.slice p2 n2 k2) (.slice p3 n3 k3))) := Lib.hid Hl3.out.loc
        have Hth := Lib.hid (Hl3.out.res.there 0 34 (by simp))
        have Hd := Lib.hid (Loc.done (cs := oprC ⟨1, (0, 0), (x1.1, x1.2), x2, x3⟩ (.slice p1 n1 k1) (.slice p2 n2 k2) (.slice p3 n3 k3)) Hl3.out rfl)
        go_wp2_with (first | ((with_reducible refine wpList_store_mid ?g1_2 35 ?x1_2 ?y1_2 ?o1_2 L 6 (lookC x3 (.slice p1 n1 k1) (.slice p2 n2 k2) (.slice p3 n3 k3)) ?h1_2 ?j1_2 ?t1_2 ?i1_2 ?s1_2 ?r1_2); (case g1_2 => exact rfl); (case o1_2 => exact rfl); (case h1_2 => exact rfl); (case j1_2 => exact rfl); (case t1_2 => exact Ht3.out); (case i1_2 => exact size_look); (case s1_2 => exact lookC_one _ _ _ _ _ _ _ _ _ _)) | ((with_reducible refine wpList_load_row ?g1_3 37 ?x1_3 ?o1_3 (L) ?h1_3 ?t1_3 ?c1_3 ?f1_3 ?d1_3 ?b1_3 ?u1_3 ?s1_3 ?i1_3 ?r1_3); (case g1_3 => exact rfl); (case o1_3 => exact rfl); (case h1_3 => exact rfl); (case b1_3 => exact HB.out); (case u1_3 => exact Try.underlying37); (case s1_3 => exact rfl); (case i1_3 => exact size_op)) | ((with_reducible refine wpList_store_mid ?g2_3 37 ?x2_3 ?y2_3 ?o2_3 w.heap.size 0 (oprC ⟨1, (0, 0), (x1.1, x1.2), x2, x3⟩ (.slice p1 n1 k1) (.slice p2 n2 k2) (.slice p3 n3 k3)) ?h2_3 ?j2_3 ?t2_3 ?i2_3 ?s2_3 ?r2_3); (case g2_3 => exact rfl); (case o2_3 => exact rfl); (case h2_3 => exact rfl); (case j2_3 => exact rfl); (case t2_3 => exact Hth.out); (case i2_3 => exact size_op); (case s2_3 => exact oprC_one _ _ _ _ _ _ _ _ _ _)) | fail)
        obtain ⟨d1, d2, d3, d4⟩ := Hd.out
        refine RdP.ends rfl rfl rfl d3 Try.underlying37 rfl size_op (res := oprAt bs n 1) Hres.out d2 ⟨_, _, _, rfl, HP.out.far (Mod.two (L := L) (o := 6) (vs := (lookC x3 (.slice p1 n1 k1) (.slice p2 n2 k2) (.slice p3 n3 k3)).toList) d4) Hlt.out.1 Hlt.out.2.1 Hlt.out.2.2, HS.out.far (Mod.two (L := L) (o := 6) (vs := (lookC x3 (.slice p1 n1 k1) (.slice p2 n2 k2) (.slice p3 n3 k3)).toList) d4) Hlt.out.1 Hlt.out.2.1 Hlt.out.2.2⟩ d1

set_option maxRecDepth 100000 in
set_option maxHeartbeats 4000000 in
theorem op_3 (w : World) (R : Nat) (vb : Value) (bs : List Nat) (n : Nat) (h : RdAt w R vb bs n) :
    Calls Try.prog 37 #[.pointer (some ⟨R, 0, none⟩), .int .i64 3] w (RdP w R vb bs (IsOpr w.heap.size) (oprAt bs n 3)) := by
  have H := Lib.hid h
  have hR := h.lt
  clear h
  go_enter Try.func37, Try.ntmps37
  have HZ : Hid (Gou.Loc w R _ bs 37 w.heap.size (w.heap.size + 1) OpZ OpZ n ((w.alloc (.cells OpZ 37)).alloc (.cells OpZ 37))) := Lib.hid (by
    have := Loc.start H.out (Mod.refl _ (w.alloc (.cells OpZ 37))) (H.out.alloc _) OpZ
    simpa using this)
  have Ht0 := Lib.hid (HZ.out.loc.there 0 34 (by simp))
  have hp := HZ.out.puts 0 (Value.int .i64 3 :: Value.int .i64 0 :: Value.int .i64 0 :: Value.int .i64 0 :: Value.int .i64 0 :: Value.int .i64 0 :: Value.int .i64 0 :: Value.int .i64 0 :: Value.bool false :: Value.int .i64 0 :: Value.int .i64 0 :: Value.int .i64 0 :: Value.int .i64 0 :: Value.int .i64 0 :: Value.int .i64 0 :: Value.int .i64 0 :: Value.int .i64 0 :: Value.int .i64 0 :: Value.int .i64 0 :: Value.int .i64 0 :: Value.int .u8 0 :: Value.int .u8 0 :: Value.int .u8 0 :: Value.int .u8 0 :: Value.int .i64 0 :: Value.int .i64 0 :: Value.int .i64 0 :: Value.slice none 0 0 :: Value.bool false :: Value.slice none 0 0 :: Value.int .i64 0 :: Value.bool false :: Value.slice none 0 0 :: Value.int .i64 0 :: [])
  rw [setMany_all _ _ (by simp)] at hp
  have Hl0 : Hid (Gou.Loc w R _ bs 37 w.heap.size (w.heap.size + 1) OpZ (List.toArray (Value.int .i64 3 :: Value.int .i64 0 :: Value.int .i64 0 :: Value.int .i64 0 :: Value.int .i64 0 :: Value.int .i64 0 :: Value.int .i64 0 :: Value.int .i64 0 :: Value.bool false :: Value.int .i64 0 :: Value.int .i64 0 :: Value.int .i64 0 :: Value.int .i64 0 :: Value.int .i64 0 :: Value.int .i64 0 :: Value.int .i64 0 :: Value.int .i64 0 :: Value.int .i64 0 :: Value.int .i64 0 :: Value.int .i64 0 :: Value.int .u8 0 :: Value.int .u8 0 :: Value.int .u8 0 :: Value.int .u8 0 :: Value.int .i64 0 :: Value.int .i64 0 :: Value.int .i64 0 :: Value.slice none 0 0 :: Value.bool false :: Value.slice none 0 0 :: Value.int .i64 0 :: Value.bool false :: Value.slice none 0 0 :: Value.int .i64 0 :: [])) n (((w.alloc (.cells OpZ 37)).alloc (.cells OpZ 37)).setCells (w.heap.size + 1) 0 (Value.int .i64 3 :: Value.int .i64 0 :: Value.int .i64 0 :: Value.int .i64 0 :: Value.int .i64 0 :: Value.int .i64 0 :: Value.int .i64 0 :: Value.int .i64 0 :: Value.bool false :: Value.int .i64 0 :: Value.int .i64 0 :: Value.int .i64 0 :: Value.int .i64 0 :: Value.int .i64 0 :: Value.int .i64 0 :: Value.int .i64 0 :: Value.int .i64 0 :: Value.int .i64 0 :: Value.int .i64 0 :: Value.int .i64 0 :: Value.int .u8 0 :: Value.int .u8 0 :: Value.int .u8 0 :: Value.int .u8 0 :: Value.int .i64 0 :: Value.int .i64 0 :: Value.int .i64 0 :: Value.slice none 0 0 :: Value.bool false :: Value.slice none 0 0 :: Value.int .i64 0 :: Value.bool false :: Value.slice none 0 0 :: Value.int .i64 0 :: []))) := Lib.hid hp
  clear hp HZ
  go_wp2_with (first | ((with_reducible refine wpList_store_mid ?g1_4 37 ?x1_4 ?y1_4 ?o1_4 (w.heap.size + 1) 0 (List.toArray (Value.int .i64 3 :: Value.int .i64 0 :: Value.int .i64 0 :: Value.int .i64 0 :: Value.int .i64 0 :: Value.int .i64 0 :: Value.int .i64 0 :: Value.int .i64 0 :: Value.bool false :: Value.int .i64 0 :: Value.int .i64 0 :: Value.int .i64 0 :: Value.int .i64 0 :: Value.int .i64 0 :: Value.int .i64 0 :: Value.int .i64 0 :: Value.int .i64 0 :: Value.int .i64 0 :: Value.int .i64 0 :: Value.int .i64 0 :: Value.int .u8 0 :: Value.int .u8 0 :: Value.int .u8 0 :: Value.int .u8 0 :: Value.int .i64 0 :: Value.int .i64 0 :: Value.int .i64 0 :: Value.slice none 0 0 :: Value.bool false :: Value.slice none 0 0 :: Value.int .i64 0 :: Value.bool false :: Value.slice none 0 0 :: Value.int .i64 0 :: [])) ?h1_4 ?j1_4 ?t1_4 ?i1_4 ?s1_4 ?r1_4); (case g1_4 => exact rfl); (case o1_4 => exact rfl); (case h1_4 => exact rfl); (case j1_4 => exact rfl); (case t1_4 => exact Ht0.out); (case i1_4 => exact size_op); (case s1_4 => exact oprC_one ⟨3, (0, 0), (0, 0), 0, Lk.zero⟩ none 0 0 none 0 0 none 0 0)) | fail)
  generalize hW : ((w.alloc (.cells OpZ 37)).alloc (.cells OpZ 37)).setCells (w.heap.size + 1) 0 (Value.int .i64 3 :: Value.int .i64 0 :: Value.int .i64 0 :: Value.int .i64 0 :: Value.int .i64 0 :: Value.int .i64 0 :: Value.int .i64 0 :: Value.int .i64 0 :: Value.bool false :: Value.int .i64 0 :: Value.int .i64 0 :: Value.int .i64 0 :: Value.int .i64 0 :: Value.int .i64 0 :: Value.int .i64 0 :: Value.int .i64 0 :: Value.int .i64 0 :: Value.int .i64 0 :: Value.int .i64 0 :: Value.int .i64 0 :: Value.int .u8 0 :: Value.int .u8 0 :: Value.int .u8 0 :: Value.int .u8 0 :: Value.int .i64 0 :: Value.int .i64 0 :: Value.int .i64 0 :: Value.slice none 0 0 :: Value.bool false :: Value.slice none 0 0 :: Value.int .i64 0 :: Value.bool false :: Value.slice none 0 0 :: Value.int .i64 0 :: []) = W0 at *
  generalize hL : w.heap.size + 1 = L at *
  clear hW hL
  refine (id_any _ R _ bs n Hl0.out.rd).mono ?_
  intro e w1 h1
  cases hn1 : idAt bs n with
  | none =>
    rw [hn1] at h1
    obtain ⟨rfl, hq⟩ := h1.fault (J := IsOpr w.heap.size) (res := oprAt bs n 3) Hl0.out.mod (by simp [oprAt, hn1])
    exact ⟨rfl, hq⟩
  | some p1 =>
    obtain ⟨x1, m1⟩ := p1
    rw [hn1] at h1
    obtain ⟨hm1, _, rfl, rfl, hr1⟩ := h1
    have Hn1 := Lib.hid hn1
    have hl1 := Hl0.out.step hm1 hr1
    clear hn1 hm1 hr1
    have c1 := hl1.loc.cell 1 rfl
    have fc1 := hl1.loc.frozen 1
    have c2 := hl1.loc.cell 2 rfl
    have fc2 := hl1.loc.frozen 2
    have hs1 := hl1.puts 1 [.int .i64 x1.1, .int .i64 x1.2]
    simp only [World.setCells, Nat.reduceAdd] at hs1
    have Hl1 : Hid (Gou.Loc w R _ bs 37 w.heap.size L OpZ (List.toArray (Value.int .i64 3 :: Value.int .i64 x1.1 :: Value.int .i64 x1.2 :: Value.int .i64 0 :: Value.int .i64 0 :: Value.int .i64 0 :: Value.int .i64 0 :: Value.int .i64 0 :: Value.bool false :: Value.int .i64 0 :: Value.int .i64 0 :: Value.int .i64 0 :: Value.int .i64 0 :: Value.int .i64 0 :: Value.int .i64 0 :: Value.int .i64 0 :: Value.int .i64 0 :: Value.int .i64 0 :: Value.int .i64 0 :: Value.int .i64 0 :: Value.int .u8 0 :: Value.int .u8 0 :: Value.int .u8 0 :: Value.int .u8 0 :: Value.int .i64 0 :: Value.int .i64 0 :: Value.int .i64 0 :: Value.slice none 0 0 :: Value.bool false :: Value.slice none 0 0 :: Value.int .i64 0 :: Value.bool false :: Value.slice none 0 0 :: Value.int .i64 0 :: [])) m1 _) := Lib.hid (hs1)
    clear hl1 hs1
    go_wp2_with fail
    refine (id_any _ R _ bs m1 Hl1.out.rd).mono ?_
    intro e w2 h2
    cases hn2 : idAt bs m1 with
    | none =>
      rw [hn2] at h2
      obtain ⟨rfl, hq⟩ := h2.fault (J := IsOpr w.heap.size) (res := oprAt bs n 3) Hl1.out.mod (by have g1 := Hn1.out; simp [oprAt, g1, hn2])
      exact ⟨rfl, hq⟩
    | some p2 =>
      obtain ⟨x2, m2⟩ := p2
      rw [hn2] at h2
      obtain ⟨hm2, _, rfl, rfl, hr2⟩ := h2
      have Hn2 := Lib.hid hn2
      have hl2 := Hl1.out.step hm2 hr2
      clear hn2 hm2 hr2
      have c3 := hl2.loc.cell 3 rfl
      have fc3 := hl2.loc.frozen 3
      have c4 := hl2.loc.cell 4 rfl
      have fc4 := hl2.loc.frozen 4
      have hs2 := hl2.puts 3 [.int .i64 x2.1, .int .i64 x2.2]
      simp only [World.setCells, Nat.reduceAdd] at hs2
      have Hl2 : Hid (Gou.Loc w R _ bs 37 w.heap.size L OpZ (List.toArray (Value.int .i64 3 :: Value.int .i64 x1.1 :: Value.int .i64 x1.2 :: Value.int .i64 x2.1 :: Value.int .i64 x2.2 :: Value.int .i64 0 :: Value.int .i64 0 :: Value.int .i64 0 :: Value.bool false :: Value.int .i64 0 :: Value.int .i64 0 :: Value.int .i64 0 :: Value.int .i64 0 :: Value.int .i64 0 :: Value.int .i64 0 :: Value.int .i64 0 :: Value.int .i64 0 :: Value.int .i64 0 :: Value.int .i64 0 :: Value.int .i64 0 :: Value.int .u8 0 :: Value.int .u8 0 :: Value.int .u8 0 :: Value.int .u8 0 :: Value.int .i64 0 :: Value.int .i64 0 :: Value.int .i64 0 :: Value.slice none 0 0 :: Value.bool false :: Value.slice none 0 0 :: Value.int .i64 0 :: Value.bool false :: Value.slice none 0 0 :: Value.int .i64 0 :: [])) m2 _) := Lib.hid (hs2)
      clear hl2 hs2
      go_wp2_with fail
      refine (number_any _ R _ bs m2 Hl2.out.rd).mono ?_
      intro e w3 h3
      cases hn3 : numAt bs m2 with
      | none =>
        rw [hn3] at h3
        obtain ⟨rfl, hq⟩ := h3.fault (J := IsOpr w.heap.size) (res := oprAt bs n 3) Hl2.out.mod (by have g1 := Hn1.out; have g2 := Hn2.out; simp [oprAt, g1, g2, hn3])
        exact ⟨rfl, hq⟩
      | some p3 =>
        obtain ⟨x3, m3⟩ := p3
        rw [hn3] at h3
        obtain ⟨hm3, _, rfl, rfl, hr3⟩ := h3
        have Hn3 := Lib.hid hn3
        have hl3 := Hl2.out.step hm3 hr3
        clear hn3 hm3 hr3
        have c5 := hl3.loc.cell 5 rfl
        have fc5 := hl3.loc.frozen 5
        have Hl3 : Hid (Gou.Loc w R _ bs 37 w.heap.size L OpZ (List.toArray (Value.int .i64 3 :: Value.int .i64 x1.1 :: Value.int .i64 x1.2 :: Value.int .i64 x2.1 :: Value.int .i64 x2.2 :: Value.int .i64 x3 :: Value.int .i64 0 :: Value.int .i64 0 :: Value.bool false :: Value.int .i64 0 :: Value.int .i64 0 :: Value.int .i64 0 :: Value.int .i64 0 :: Value.int .i64 0 :: Value.int .i64 0 :: Value.int .i64 0 :: Value.int .i64 0 :: Value.int .i64 0 :: Value.int .i64 0 :: Value.int .i64 0 :: Value.int .u8 0 :: Value.int .u8 0 :: Value.int .u8 0 :: Value.int .u8 0 :: Value.int .i64 0 :: Value.int .i64 0 :: Value.int .i64 0 :: Value.slice none 0 0 :: Value.bool false :: Value.slice none 0 0 :: Value.int .i64 0 :: Value.bool false :: Value.slice none 0 0 :: Value.int .i64 0 :: [])) m3 _) := Lib.hid (hl3.put 5 (.int .i64 x3))
        clear hl3
        go_wp2_with fail
        refine (look_any _ R _ bs m3 3 Hl3.out.rd).mono ?_
        intro e w4 h4
        cases hn4 : lookAt bs m3 3 with
        | none =>
          rw [hn4] at h4
          obtain ⟨rfl, hq⟩ := h4.fault (J := IsOpr w.heap.size) (res := oprAt bs n 3) Hl3.out.mod (by have g1 := Hn1.out; have g2 := Hn2.out; have g3 := Hn3.out; simp [oprAt, g1, g2, g3, hn4])
          exact ⟨rfl, hq⟩
        | some p4 =>
          obtain ⟨x4, m4⟩ := p4
          rw [hn4] at h4
          obtain ⟨hm4, _, rfl, ⟨vp, vf, vb, rfl, hlr, hsoft⟩, hr4⟩ := h4
          have Hn4 := Lib.hid hn4
          obtain ⟨p1, n1, k1, p2, n2, k2, p3, n3, k3, rfl, rfl, rfl⟩ := hlr.forms
          have hLB := Blk.lt Hl3.out.loc
          have hNB := Blk.lt Hl3.out.res
          have hwB := Hl3.out.mod.size
          have HP := Lib.hid hlr
          have HS := Lib.hid hsoft
          have Hlt := Lib.hid (And.intro hLB (And.intro hNB hwB))
          clear hlr hsoft hLB hNB hwB
          have hl4 := Hl3.out.step hm4 hr4
          clear hn4 hm4 hr4
          have Ht4 := Lib.hid (hl4.loc.there 6 28 (by simp))
          have hs4 := hl4.puts 6 (lookC x4 (.slice p1 n1 k1) (.slice p2 n2 k2) (.slice p3 n3 k3)).toList
          rw [setMany_opr] at hs4
          have Hl4 := Lib.hid hs4
          clear hs4
          clear hl4
          have Hres : Hid (oprAt bs n 3 = some (⟨3, (x1.1, x1.2), (x2.1, x2.2), x3, x4⟩, m4)) := Lib.hid (by have g1 := Hn1.out; have g2 := Hn2.out; have g3 := Hn3.out; have g4 := Hn4.out; simp [oprAt, g1, g2, g3, g4])
          have HB : Hid (Blk _ (L) 37 (oprC ⟨3, (x1.1, x1.2), (x2.1, x2.2), x3, x4⟩ (.slice p1 n1 k1) (.slice p2 n2 k2) (.slice p3 n3 k3))) := Lib.hid Hl4.out.loc
          have Hth := Lib.hid (Hl4.out.res.there 0 34 (by simp))
          have Hd := Lib.hid (Loc.done (cs := oprC ⟨3, (x1.1, x1.2), (x2.1, x2.2), x3, x4⟩ (.slice p1 n1 k1) (.slice p2 n2 k2) (.slice p3 n3 k3)) Hl4.out rfl)
          go_wp2_with (first | ((with_reducible refine wpList_store_mid ?g1_5 35 ?x1_5 ?y1_5 ?o1_5 L 6 (lookC x4 (.slice p1 n1 k1) (.slice p2 n2 k2) (.slice p3 n3 k3)) ?h1_5 ?j1_5 ?t1_5 ?i1_5 ?s1_5 ?r1_5); (case g1_5 => exact rfl); (case o1_5 => exact rfl); (case h1_5 => exact rfl); (case j1_5 => exact rfl); (case t1_5 => exact Ht4.out); (case i1_5 => exact size_look); (case s1_5 => exact lookC_one _ _ _ _ _ _ _ _ _ _)) | ((with_reducible refine wpList_load_row ?g1_6 37 ?x1_6 ?o1_6 (L) ?h1_6 ?t1_6 ?c1_6 ?f1_6 ?d1_6 ?b1_6 ?u1_6 ?s1_6 ?i1_6 ?r1_6); (case g1_6 => exact rfl); (case o1_6 => exact rfl); (case h1_6 => exact rfl); (case b1_6 => exact HB.out); (case u1_6 => exact Try.underlying37); (case s1_6 => exact rfl); (case i1_6 => exact size_op)) | ((with_reducible refine wpList_store_mid ?g2_6 37 ?x2_6 ?y2_6 ?o2_6 w.heap.size 0 (oprC ⟨3, (x1.1, x1.2), (x2.1, x2.2), x3, x4⟩ (.slice p1 n1 k1) (.slice p2 n2 k2) (.slice p3 n3 k3)) ?h2_6 ?j2_6 ?t2_6 ?i2_6 ?s2_6 ?r2_6); (case g2_6 => exact rfl); (case o2_6 => exact rfl); (case h2_6 => exact rfl); (case j2_6 => exact rfl); (case t2_6 => exact Hth.out); (case i2_6 => exact size_op); (case s2_6 => exact oprC_one _ _ _ _ _ _ _ _ _ _)) | fail)
          obtain ⟨d1, d2, d3, d4⟩ := Hd.out
          refine RdP.ends rfl rfl rfl d3 Try.underlying37 rfl size_op (res := oprAt bs n 3) Hres.out d2 ⟨_, _, _, rfl, HP.out.far (Mod.two (L := L) (o := 6) (vs := (lookC x4 (.slice p1 n1 k1) (.slice p2 n2 k2) (.slice p3 n3 k3)).toList) d4) Hlt.out.1 Hlt.out.2.1 Hlt.out.2.2, HS.out.far (Mod.two (L := L) (o := 6) (vs := (lookC x4 (.slice p1 n1 k1) (.slice p2 n2 k2) (.slice p3 n3 k3)).toList) d4) Hlt.out.1 Hlt.out.2.1 Hlt.out.2.2⟩ d1

set_option maxRecDepth 100000 in
set_option maxHeartbeats 4000000 in
theorem op_4 (w : World) (R : Nat) (vb : Value) (bs : List Nat) (n : Nat) (h : RdAt w R vb bs n) :
    Calls Try.prog 37 #[.pointer (some ⟨R, 0, none⟩), .int .i64 4] w (RdP w R vb bs (IsOpr w.heap.size) (oprAt bs n 4)) := by
  have H := Lib.hid h
  have hR := h.lt
  clear h
  go_enter Try.func37, Try.ntmps37
  have HZ : Hid (Gou.Loc w R _ bs 37 w.heap.size (w.heap.size + 1) OpZ OpZ n ((w.alloc (.cells OpZ 37)).alloc (.cells OpZ 37))) := Lib.hid (by
    have := Loc.start H.out (Mod.refl _ (w.alloc (.cells OpZ 37))) (H.out.alloc _) OpZ
    simpa using this)
  have Ht0 := Lib.hid (HZ.out.loc.there 0 34 (by simp))
  have hp := HZ.out.puts 0 (Value.int .i64 4 :: Value.int .i64 0 :: Value.int .i64 0 :: Value.int .i64 0 :: Value.int .i64 0 :: Value.int .i64 0 :: Value.int .i64 0 :: Value.int .i64 0 :: Value.bool false :: Value.int .i64 0 :: Value.int .i64 0 :: Value.int .i64 0 :: Value.int .i64 0 :: Value.int .i64 0 :: Value.int .i64 0 :: Value.int .i64 0 :: Value.int .i64 0 :: Value.int .i64 0 :: Value.int .i64 0 :: Value.int .i64 0 :: Value.int .u8 0 :: Value.int .u8 0 :: Value.int .u8 0 :: Value.int .u8 0 :: Value.int .i64 0 :: Value.int .i64 0 :: Value.int .i64 0 :: Value.slice none 0 0 :: Value.bool false :: Value.slice none 0 0 :: Value.int .i64 0 :: Value.bool false :: Value.slice none 0 0 :: Value.int .i64 0 :: [])
  rw [setMany_all _ _ (by simp)] at hp
  have Hl0 : Hid (Gou.Loc w R _ bs 37 w.heap.size (w.heap.size + 1) OpZ (List.toArray (Value.int .i64 4 :: Value.int .i64 0 :: Value.int .i64 0 :: Value.int .i64 0 :: Value.int .i64 0 :: Value.int .i64 0 :: Value.int .i64 0 :: Value.int .i64 0 :: Value.bool false :: Value.int .i64 0 :: Value.int .i64 0 :: Value.int .i64 0 :: Value.int .i64 0 :: Value.int .i64 0 :: Value.int .i64 0 :: Value.int .i64 0 :: Value.int .i64 0 :: Value.int .i64 0 :: Value.int .i64 0 :: Value.int .i64 0 :: Value.int .u8 0 :: Value.int .u8 0 :: Value.int .u8 0 :: Value.int .u8 0 :: Value.int .i64 0 :: Value.int .i64 0 :: Value.int .i64 0 :: Value.slice none 0 0 :: Value.bool false :: Value.slice none 0 0 :: Value.int .i64 0 :: Value.bool false :: Value.slice none 0 0 :: Value.int .i64 0 :: [])) n (((w.alloc (.cells OpZ 37)).alloc (.cells OpZ 37)).setCells (w.heap.size + 1) 0 (Value.int .i64 4 :: Value.int .i64 0 :: Value.int .i64 0 :: Value.int .i64 0 :: Value.int .i64 0 :: Value.int .i64 0 :: Value.int .i64 0 :: Value.int .i64 0 :: Value.bool false :: Value.int .i64 0 :: Value.int .i64 0 :: Value.int .i64 0 :: Value.int .i64 0 :: Value.int .i64 0 :: Value.int .i64 0 :: Value.int .i64 0 :: Value.int .i64 0 :: Value.int .i64 0 :: Value.int .i64 0 :: Value.int .i64 0 :: Value.int .u8 0 :: Value.int .u8 0 :: Value.int .u8 0 :: Value.int .u8 0 :: Value.int .i64 0 :: Value.int .i64 0 :: Value.int .i64 0 :: Value.slice none 0 0 :: Value.bool false :: Value.slice none 0 0 :: Value.int .i64 0 :: Value.bool false :: Value.slice none 0 0 :: Value.int .i64 0 :: []))) := Lib.hid hp
  clear hp HZ
  go_wp2_with (first | ((with_reducible refine wpList_store_mid ?g1_7 37 ?x1_7 ?y1_7 ?o1_7 (w.heap.size + 1) 0 (List.toArray (Value.int .i64 4 :: Value.int .i64 0 :: Value.int .i64 0 :: Value.int .i64 0 :: Value.int .i64 0 :: Value.int .i64 0 :: Value.int .i64 0 :: Value.int .i64 0 :: Value.bool false :: Value.int .i64 0 :: Value.int .i64 0 :: Value.int .i64 0 :: Value.int .i64 0 :: Value.int .i64 0 :: Value.int .i64 0 :: Value.int .i64 0 :: Value.int .i64 0 :: Value.int .i64 0 :: Value.int .i64 0 :: Value.int .i64 0 :: Value.int .u8 0 :: Value.int .u8 0 :: Value.int .u8 0 :: Value.int .u8 0 :: Value.int .i64 0 :: Value.int .i64 0 :: Value.int .i64 0 :: Value.slice none 0 0 :: Value.bool false :: Value.slice none 0 0 :: Value.int .i64 0 :: Value.bool false :: Value.slice none 0 0 :: Value.int .i64 0 :: [])) ?h1_7 ?j1_7 ?t1_7 ?i1_7 ?s1_7 ?r1_7); (case g1_7 => exact rfl); (case o1_7 => exact rfl); (case h1_7 => exact rfl); (case j1_7 => exact rfl); (case t1_7 => exact Ht0.out); (case i1_7 => exact size_op); (case s1_7 => exact oprC_one ⟨4, (0, 0), (0, 0), 0, Lk.zero⟩ none 0 0 none 0 0 none 0 0)) | fail)
  generalize hW : ((w.alloc (.cells OpZ 37)).alloc (.cells OpZ 37)).setCells (w.heap.size + 1) 0 (Value.int .i64 4 :: Value.int .i64 0 :: Value.int .i64 0 :: Value.int .i64 0 :: Value.int .i64 0 :: Value.int .i64 0 :: Value.int .i64 0 :: Value.int .i64 0 :: Value.bool false :: Value.int .i64 0 :: Value.int .i64 0 :: Value.int .i64 0 :: Value.int .i64 0 :: Value.int .i64 0 :: Value.int .i64 0 :: Value.int .i64 0 :: Value.int .i64 0 :: Value.int .i64 0 :: Value.int .i64 0 :: Value.int .i64 0 :: Value.int .u8 0 :: Value.int .u8 0 :: Value.int .u8 0 :: Value.int .u8 0 :: Value.int .i64 0 :: Value.int .i64 0 :: Value.int .i64 0 :: Value.slice none 0 0 :: Value.bool false :: Value.slice none 0 0 :: Value.int .i64 0 :: Value.bool false :: Value.slice none 0 0 :: Value.int .i64 0 :: []) = W0 at *
  generalize hL : w.heap.size + 1 = L at *
  clear hW hL
  refine (id_any _ R _ bs n Hl0.out.rd).mono ?_
  intro e w1 h1
  cases hn1 : idAt bs n with
  | none =>
    rw [hn1] at h1
    obtain ⟨rfl, hq⟩ := h1.fault (J := IsOpr w.heap.size) (res := oprAt bs n 4) Hl0.out.mod (by simp [oprAt, hn1])
    exact ⟨rfl, hq⟩
  | some p1 =>
    obtain ⟨x1, m1⟩ := p1
    rw [hn1] at h1
    obtain ⟨hm1, _, rfl, rfl, hr1⟩ := h1
    have Hn1 := Lib.hid hn1
    have hl1 := Hl0.out.step hm1 hr1
    clear hn1 hm1 hr1
    have c1 := hl1.loc.cell 1 rfl
    have fc1 := hl1.loc.frozen 1
    have c2 := hl1.loc.cell 2 rfl
    have fc2 := hl1.loc.frozen 2
    have hs1 := hl1.puts 1 [.int .i64 x1.1, .int .i64 x1.2]
    simp only [World.setCells, Nat.reduceAdd] at hs1
    have Hl1 : Hid (Gou.Loc w R _ bs 37 w.heap.size L OpZ (List.toArray (Value.int .i64 4 :: Value.int .i64 x1.1 :: Value.int .i64 x1.2 :: Value.int .i64 0 :: Value.int .i64 0 :: Value.int .i64 0 :: Value.int .i64 0 :: Value.int .i64 0 :: Value.bool false :: Value.int .i64 0 :: Value.int .i64 0 :: Value.int .i64 0 :: Value.int .i64 0 :: Value.int .i64 0 :: Value.int .i64 0 :: Value.int .i64 0 :: Value.int .i64 0 :: Value.int .i64 0 :: Value.int .i64 0 :: Value.int .i64 0 :: Value.int .u8 0 :: Value.int .u8 0 :: Value.int .u8 0 :: Value.int .u8 0 :: Value.int .i64 0 :: Value.int .i64 0 :: Value.int .i64 0 :: Value.slice none 0 0 :: Value.bool false :: Value.slice none 0 0 :: Value.int .i64 0 :: Value.bool false :: Value.slice none 0 0 :: Value.int .i64 0 :: [])) m1 _) := Lib.hid (hs1)
    clear hl1 hs1
    go_wp2_with fail
    refine (number_any _ R _ bs m1 Hl1.out.rd).mono ?_
    intro e w2 h2
    cases hn2 : numAt bs m1 with
    | none =>
      rw [hn2] at h2
      obtain ⟨rfl, hq⟩ := h2.fault (J := IsOpr w.heap.size) (res := oprAt bs n 4) Hl1.out.mod (by have g1 := Hn1.out; simp [oprAt, g1, hn2])
      exact ⟨rfl, hq⟩
    | some p2 =>
      obtain ⟨x2, m2⟩ := p2
      rw [hn2] at h2
      obtain ⟨hm2, _, rfl, rfl, hr2⟩ := h2
      have Hn2 := Lib.hid hn2
      have hl2 := Hl1.out.step hm2 hr2
      clear hn2 hm2 hr2
      have c5 := hl2.loc.cell 5 rfl
      have fc5 := hl2.loc.frozen 5
      have Hl2 : Hid (Gou.Loc w R _ bs 37 w.heap.size L OpZ (List.toArray (Value.int .i64 4 :: Value.int .i64 x1.1 :: Value.int .i64 x1.2 :: Value.int .i64 0 :: Value.int .i64 0 :: Value.int .i64 x2 :: Value.int .i64 0 :: Value.int .i64 0 :: Value.bool false :: Value.int .i64 0 :: Value.int .i64 0 :: Value.int .i64 0 :: Value.int .i64 0 :: Value.int .i64 0 :: Value.int .i64 0 :: Value.int .i64 0 :: Value.int .i64 0 :: Value.int .i64 0 :: Value.int .i64 0 :: Value.int .i64 0 :: Value.int .u8 0 :: Value.int .u8 0 :: Value.int .u8 0 :: Value.int .u8 0 :: Value.int .i64 0 :: Value.int .i64 0 :: Value.int .i64 0 :: Value.slice none 0 0 :: Value.bool false :: Value.slice none 0 0 :: Value.int .i64 0 :: Value.bool false :: Value.slice none 0 0 :: Value.int .i64 0 :: [])) m2 _) := Lib.hid (hl2.put 5 (.int .i64 x2))
      clear hl2
      go_wp2_with fail
      refine (look_any _ R _ bs m2 4 Hl2.out.rd).mono ?_
      intro e w3 h3
      cases hn3 : lookAt bs m2 4 with
      | none =>
        rw [hn3] at h3
        obtain ⟨rfl, hq⟩ := h3.fault (J := IsOpr w.heap.size) (res := oprAt bs n 4) Hl2.out.mod (by have g1 := Hn1.out; have g2 := Hn2.out; simp [oprAt, g1, g2, hn3])
        exact ⟨rfl, hq⟩
      | some p3 =>
        obtain ⟨x3, m3⟩ := p3
        rw [hn3] at h3
        obtain ⟨hm3, _, rfl, ⟨vp, vf, vb, rfl, hlr, hsoft⟩, hr3⟩ := h3
        have Hn3 := Lib.hid hn3
        obtain ⟨p1, n1, k1, p2, n2, k2, p3, n3, k3, rfl, rfl, rfl⟩ := hlr.forms
        have hLB := Blk.lt Hl2.out.loc
        have hNB := Blk.lt Hl2.out.res
        have hwB := Hl2.out.mod.size
        have HP := Lib.hid hlr
        have HS := Lib.hid hsoft
        have Hlt := Lib.hid (And.intro hLB (And.intro hNB hwB))
        clear hlr hsoft hLB hNB hwB
        have hl3 := Hl2.out.step hm3 hr3
        clear hn3 hm3 hr3
        have Ht3 := Lib.hid (hl3.loc.there 6 28 (by simp))
        have hs3 := hl3.puts 6 (lookC x3 (.slice p1 n1 k1) (.slice p2 n2 k2) (.slice p3 n3 k3)).toList
        rw [setMany_opr] at hs3
        have Hl3 := Lib.hid hs3
        clear hs3
        clear hl3
        have Hres : Hid (oprAt bs n 4 = some (⟨4, (x1.1, x1.2), (0, 0), x2, x3⟩, m3)) := Lib.hid (by have g1 := Hn1.out; have g2 := Hn2.out; have g3 := Hn3.out; simp [oprAt, g1, g2, g3])
        have HB : Hid (Blk _ (L) 37 (oprC ⟨4, (x1.1, x1.2), (0, 0), x2, x3⟩ (.slice p1 n1 k1) (.slice p2 n2 k2) (.slice p3 n3 k3))) := Lib.hid Hl3.out.loc
        have Hth := Lib.hid (Hl3.out.res.there 0 34 (by simp))
        have Hd := Lib.hid (Loc.done (cs := oprC ⟨4, (x1.1, x1.2), (0, 0), x2, x3⟩ (.slice p1 n1 k1) (.slice p2 n2 k2) (.slice p3 n3 k3)) Hl3.out rfl)
        go_wp2_with (first | ((with_reducible refine wpList_store_mid ?g1_8 35 ?x1_8 ?y1_8 ?o1_8 L 6 (lookC x3 (.slice p1 n1 k1) (.slice p2 n2 k2) (.slice p3 n3 k3)) ?h1_8 ?j1_8 ?t1_8 ?i1_8 ?s1_8 ?r1_8); (case g1_8 => exact rfl); (case o1_8 => exact rfl); (case h1_8 => exact rfl); (case j1_8 => exact rfl); (case t1_8 => exact Ht3.out); (case i1_8 => exact size_look); (case s1_8 => exact lookC_one _ _ _ _ _ _ _ _ _ _)) | ((with_reducible refine wpList_load_row ?g1_9 37 ?x1_9 ?o1_9 (L) ?h1_9 ?t1_9 ?c1_9 ?f1_9 ?d1_9 ?b1_9 ?u1_9 ?s1_9 ?i1_9 ?r1_9); (case g1_9 => exact rfl); (case o1_9 => exact rfl); (case h1_9 => exact rfl); (case b1_9 => exact HB.out); (case u1_9 => exact Try.underlying37); (case s1_9 => exact rfl); (case i1_9 => exact size_op)) | ((with_reducible refine wpList_store_mid ?g2_9 37 ?x2_9 ?y2_9 ?o2_9 w.heap.size 0 (oprC ⟨4, (x1.1, x1.2), (0, 0), x2, x3⟩ (.slice p1 n1 k1) (.slice p2 n2 k2) (.slice p3 n3 k3)) ?h2_9 ?j2_9 ?t2_9 ?i2_9 ?s2_9 ?r2_9); (case g2_9 => exact rfl); (case o2_9 => exact rfl); (case h2_9 => exact rfl); (case j2_9 => exact rfl); (case t2_9 => exact Hth.out); (case i2_9 => exact size_op); (case s2_9 => exact oprC_one _ _ _ _ _ _ _ _ _ _)) | fail)
        obtain ⟨d1, d2, d3, d4⟩ := Hd.out
        refine RdP.ends rfl rfl rfl d3 Try.underlying37 rfl size_op (res := oprAt bs n 4) Hres.out d2 ⟨_, _, _, rfl, HP.out.far (Mod.two (L := L) (o := 6) (vs := (lookC x3 (.slice p1 n1 k1) (.slice p2 n2 k2) (.slice p3 n3 k3)).toList) d4) Hlt.out.1 Hlt.out.2.1 Hlt.out.2.2, HS.out.far (Mod.two (L := L) (o := 6) (vs := (lookC x3 (.slice p1 n1 k1) (.slice p2 n2 k2) (.slice p3 n3 k3)).toList) d4) Hlt.out.1 Hlt.out.2.1 Hlt.out.2.2⟩ d1

set_option maxRecDepth 100000 in
set_option maxHeartbeats 4000000 in
theorem op_0 (w : World) (R : Nat) (vb : Value) (bs : List Nat) (n : Nat) (k : Int) (h : RdAt w R vb bs n) (hk1 : k ≠ 1) (hk3 : k ≠ 3) (hk4 : k ≠ 4) :
    Calls Try.prog 37 #[.pointer (some ⟨R, 0, none⟩), .int .i64 k] w (RdP w R vb bs (IsOpr w.heap.size) (oprAt bs n k)) := by
  have H := Lib.hid h
  have hR := h.lt
  clear h
  go_enter Try.func37, Try.ntmps37
  have e1 : (k == 1) = false := beq_eq_false_iff_ne.2 hk1
  have e3 : (k == 3) = false := beq_eq_false_iff_ne.2 hk3
  have e4 : (k == 4) = false := beq_eq_false_iff_ne.2 hk4
  have en : (k != 1) = true := by simp [hk1]
  have H1 := Lib.hid hk1
  clear hk1
  have H3 := Lib.hid hk3
  clear hk3
  have H4 := Lib.hid hk4
  clear hk4
  have HZ : Hid (Gou.Loc w R _ bs 37 w.heap.size (w.heap.size + 1) OpZ OpZ n ((w.alloc (.cells OpZ 37)).alloc (.cells OpZ 37))) := Lib.hid (by
    have := Loc.start H.out (Mod.refl _ (w.alloc (.cells OpZ 37))) (H.out.alloc _) OpZ
    simpa using this)
  have Ht0 := Lib.hid (HZ.out.loc.there 0 34 (by simp))
  have hp := HZ.out.puts 0 (Value.int .i64 k :: Value.int .i64 0 :: Value.int .i64 0 :: Value.int .i64 0 :: Value.int .i64 0 :: Value.int .i64 0 :: Value.int .i64 0 :: Value.int .i64 0 :: Value.bool false :: Value.int .i64 0 :: Value.int .i64 0 :: Value.int .i64 0 :: Value.int .i64 0 :: Value.int .i64 0 :: Value.int .i64 0 :: Value.int .i64 0 :: Value.int .i64 0 :: Value.int .i64 0 :: Value.int .i64 0 :: Value.int .i64 0 :: Value.int .u8 0 :: Value.int .u8 0 :: Value.int .u8 0 :: Value.int .u8 0 :: Value.int .i64 0 :: Value.int .i64 0 :: Value.int .i64 0 :: Value.slice none 0 0 :: Value.bool false :: Value.slice none 0 0 :: Value.int .i64 0 :: Value.bool false :: Value.slice none 0 0 :: Value.int .i64 0 :: [])
  rw [setMany_all _ _ (by simp)] at hp
  have Hl0 : Hid (Gou.Loc w R _ bs 37 w.heap.size (w.heap.size + 1) OpZ (List.toArray (Value.int .i64 k :: Value.int .i64 0 :: Value.int .i64 0 :: Value.int .i64 0 :: Value.int .i64 0 :: Value.int .i64 0 :: Value.int .i64 0 :: Value.int .i64 0 :: Value.bool false :: Value.int .i64 0 :: Value.int .i64 0 :: Value.int .i64 0 :: Value.int .i64 0 :: Value.int .i64 0 :: Value.int .i64 0 :: Value.int .i64 0 :: Value.int .i64 0 :: Value.int .i64 0 :: Value.int .i64 0 :: Value.int .i64 0 :: Value.int .u8 0 :: Value.int .u8 0 :: Value.int .u8 0 :: Value.int .u8 0 :: Value.int .i64 0 :: Value.int .i64 0 :: Value.int .i64 0 :: Value.slice none 0 0 :: Value.bool false :: Value.slice none 0 0 :: Value.int .i64 0 :: Value.bool false :: Value.slice none 0 0 :: Value.int .i64 0 :: [])) n (((w.alloc (.cells OpZ 37)).alloc (.cells OpZ 37)).setCells (w.heap.size + 1) 0 (Value.int .i64 k :: Value.int .i64 0 :: Value.int .i64 0 :: Value.int .i64 0 :: Value.int .i64 0 :: Value.int .i64 0 :: Value.int .i64 0 :: Value.int .i64 0 :: Value.bool false :: Value.int .i64 0 :: Value.int .i64 0 :: Value.int .i64 0 :: Value.int .i64 0 :: Value.int .i64 0 :: Value.int .i64 0 :: Value.int .i64 0 :: Value.int .i64 0 :: Value.int .i64 0 :: Value.int .i64 0 :: Value.int .i64 0 :: Value.int .u8 0 :: Value.int .u8 0 :: Value.int .u8 0 :: Value.int .u8 0 :: Value.int .i64 0 :: Value.int .i64 0 :: Value.int .i64 0 :: Value.slice none 0 0 :: Value.bool false :: Value.slice none 0 0 :: Value.int .i64 0 :: Value.bool false :: Value.slice none 0 0 :: Value.int .i64 0 :: []))) := Lib.hid hp
  clear hp HZ
  go_wp2_with (first | ((with_reducible refine wpList_store_mid ?g1_10 37 ?x1_10 ?y1_10 ?o1_10 (w.heap.size + 1) 0 (List.toArray (Value.int .i64 k :: Value.int .i64 0 :: Value.int .i64 0 :: Value.int .i64 0 :: Value.int .i64 0 :: Value.int .i64 0 :: Value.int .i64 0 :: Value.int .i64 0 :: Value.bool false :: Value.int .i64 0 :: Value.int .i64 0 :: Value.int .i64 0 :: Value.int .i64 0 :: Value.int .i64 0 :: Value.int .i64 0 :: Value.int .i64 0 :: Value.int .i64 0 :: Value.int .i64 0 :: Value.int .i64 0 :: Value.int .i64 0 :: Value.int .u8 0 :: Value.int .u8 0 :: Value.int .u8 0 :: Value.int .u8 0 :: Value.int .i64 0 :: Value.int .i64 0 :: Value.int .i64 0 :: Value.slice none 0 0 :: Value.bool false :: Value.slice none 0 0 :: Value.int .i64 0 :: Value.bool false :: Value.slice none 0 0 :: Value.int .i64 0 :: [])) ?h1_10 ?j1_10 ?t1_10 ?i1_10 ?s1_10 ?r1_10); (case g1_10 => exact rfl); (case o1_10 => exact rfl); (case h1_10 => exact rfl); (case j1_10 => exact rfl); (case t1_10 => exact Ht0.out); (case i1_10 => exact size_op); (case s1_10 => exact oprC_one ⟨k, (0, 0), (0, 0), 0, Lk.zero⟩ none 0 0 none 0 0 none 0 0)) | fail)
  generalize hW : ((w.alloc (.cells OpZ 37)).alloc (.cells OpZ 37)).setCells (w.heap.size + 1) 0 (Value.int .i64 k :: Value.int .i64 0 :: Value.int .i64 0 :: Value.int .i64 0 :: Value.int .i64 0 :: Value.int .i64 0 :: Value.int .i64 0 :: Value.int .i64 0 :: Value.bool false :: Value.int .i64 0 :: Value.int .i64 0 :: Value.int .i64 0 :: Value.int .i64 0 :: Value.int .i64 0 :: Value.int .i64 0 :: Value.int .i64 0 :: Value.int .i64 0 :: Value.int .i64 0 :: Value.int .i64 0 :: Value.int .i64 0 :: Value.int .u8 0 :: Value.int .u8 0 :: Value.int .u8 0 :: Value.int .u8 0 :: Value.int .i64 0 :: Value.int .i64 0 :: Value.int .i64 0 :: Value.slice none 0 0 :: Value.bool false :: Value.slice none 0 0 :: Value.int .i64 0 :: Value.bool false :: Value.slice none 0 0 :: Value.int .i64 0 :: []) = W0 at *
  generalize hL : w.heap.size + 1 = L at *
  clear hW hL
  refine (id_any _ R _ bs n Hl0.out.rd).mono ?_
  intro e w1 h1
  cases hn1 : idAt bs n with
  | none =>
    rw [hn1] at h1
    obtain ⟨rfl, hq⟩ := h1.fault (J := IsOpr w.heap.size) (res := oprAt bs n k) Hl0.out.mod (by simp [oprAt, H1.out, H3.out, H4.out, hn1])
    exact ⟨rfl, hq⟩
  | some p1 =>
    obtain ⟨x1, m1⟩ := p1
    rw [hn1] at h1
    obtain ⟨hm1, _, rfl, rfl, hr1⟩ := h1
    have Hn1 := Lib.hid hn1
    have hl1 := Hl0.out.step hm1 hr1
    clear hn1 hm1 hr1
    have c1 := hl1.loc.cell 1 rfl
    have fc1 := hl1.loc.frozen 1
    have c2 := hl1.loc.cell 2 rfl
    have fc2 := hl1.loc.frozen 2
    have hs1 := hl1.puts 1 [.int .i64 x1.1, .int .i64 x1.2]
    simp only [World.setCells, Nat.reduceAdd] at hs1
    have Hl1 : Hid (Gou.Loc w R _ bs 37 w.heap.size L OpZ (List.toArray (Value.int .i64 k :: Value.int .i64 x1.1 :: Value.int .i64 x1.2 :: Value.int .i64 0 :: Value.int .i64 0 :: Value.int .i64 0 :: Value.int .i64 0 :: Value.int .i64 0 :: Value.bool false :: Value.int .i64 0 :: Value.int .i64 0 :: Value.int .i64 0 :: Value.int .i64 0 :: Value.int .i64 0 :: Value.int .i64 0 :: Value.int .i64 0 :: Value.int .i64 0 :: Value.int .i64 0 :: Value.int .i64 0 :: Value.int .i64 0 :: Value.int .u8 0 :: Value.int .u8 0 :: Value.int .u8 0 :: Value.int .u8 0 :: Value.int .i64 0 :: Value.int .i64 0 :: Value.int .i64 0 :: Value.slice none 0 0 :: Value.bool false :: Value.slice none 0 0 :: Value.int .i64 0 :: Value.bool false :: Value.slice none 0 0 :: Value.int .i64 0 :: [])) m1 _) := Lib.hid (hs1)
    clear hl1 hs1
    go_wp2_with fail
    refine (look_any _ R _ bs m1 k Hl1.out.rd).mono ?_
    intro e w2 h2
    cases hn2 : lookAt bs m1 k with
    | none =>
      rw [hn2] at h2
      obtain ⟨rfl, hq⟩ := h2.fault (J := IsOpr w.heap.size) (res := oprAt bs n k) Hl1.out.mod (by have g1 := Hn1.out; simp [oprAt, g1, H1.out, H3.out, H4.out, hn2])
      exact ⟨rfl, hq⟩
    | some p2 =>
      obtain ⟨x2, m2⟩ := p2
      rw [hn2] at h2
      obtain ⟨hm2, _, rfl, ⟨vp, vf, vb, rfl, hlr, hsoft⟩, hr2⟩ := h2
      have Hn2 := Lib.hid hn2
      obtain ⟨p1, n1, k1, p2, n2, k2, p3, n3, k3, rfl, rfl, rfl⟩ := hlr.forms
      have hLB := Blk.lt Hl1.out.loc
      have hNB := Blk.lt Hl1.out.res
      have hwB := Hl1.out.mod.size
      have HP := Lib.hid hlr
      have HS := Lib.hid hsoft
      have Hlt := Lib.hid (And.intro hLB (And.intro hNB hwB))
      clear hlr hsoft hLB hNB hwB
      have hl2 := Hl1.out.step hm2 hr2
      clear hn2 hm2 hr2
      have Ht2 := Lib.hid (hl2.loc.there 6 28 (by simp))
      have hs2 := hl2.puts 6 (lookC x2 (.slice p1 n1 k1) (.slice p2 n2 k2) (.slice p3 n3 k3)).toList
      rw [setMany_opr] at hs2
      have Hl2 := Lib.hid hs2
      clear hs2
      clear hl2
      have Hres : Hid (oprAt bs n k = some (⟨k, (x1.1, x1.2), (0, 0), 0, x2⟩, m2)) := Lib.hid (by have g1 := Hn1.out; have g2 := Hn2.out; simp [oprAt, g1, g2, H1.out, H3.out, H4.out])
      have HB : Hid (Blk _ (L) 37 (oprC ⟨k, (x1.1, x1.2), (0, 0), 0, x2⟩ (.slice p1 n1 k1) (.slice p2 n2 k2) (.slice p3 n3 k3))) := Lib.hid Hl2.out.loc
      have Hth := Lib.hid (Hl2.out.res.there 0 34 (by simp))
      have Hd := Lib.hid (Loc.done (cs := oprC ⟨k, (x1.1, x1.2), (0, 0), 0, x2⟩ (.slice p1 n1 k1) (.slice p2 n2 k2) (.slice p3 n3 k3)) Hl2.out rfl)
      go_wp2_with (first | ((with_reducible refine wpList_store_mid ?g1_11 35 ?x1_11 ?y1_11 ?o1_11 L 6 (lookC x2 (.slice p1 n1 k1) (.slice p2 n2 k2) (.slice p3 n3 k3)) ?h1_11 ?j1_11 ?t1_11 ?i1_11 ?s1_11 ?r1_11); (case g1_11 => exact rfl); (case o1_11 => exact rfl); (case h1_11 => exact rfl); (case j1_11 => exact rfl); (case t1_11 => exact Ht2.out); (case i1_11 => exact size_look); (case s1_11 => exact lookC_one _ _ _ _ _ _ _ _ _ _)) | ((with_reducible refine wpList_load_row ?g1_12 37 ?x1_12 ?o1_12 (L) ?h1_12 ?t1_12 ?c1_12 ?f1_12 ?d1_12 ?b1_12 ?u1_12 ?s1_12 ?i1_12 ?r1_12); (case g1_12 => exact rfl); (case o1_12 => exact rfl); (case h1_12 => exact rfl); (case b1_12 => exact HB.out); (case u1_12 => exact Try.underlying37); (case s1_12 => exact rfl); (case i1_12 => exact size_op)) | ((with_reducible refine wpList_store_mid ?g2_12 37 ?x2_12 ?y2_12 ?o2_12 w.heap.size 0 (oprC ⟨k, (x1.1, x1.2), (0, 0), 0, x2⟩ (.slice p1 n1 k1) (.slice p2 n2 k2) (.slice p3 n3 k3)) ?h2_12 ?j2_12 ?t2_12 ?i2_12 ?s2_12 ?r2_12); (case g2_12 => exact rfl); (case o2_12 => exact rfl); (case h2_12 => exact rfl); (case j2_12 => exact rfl); (case t2_12 => exact Hth.out); (case i2_12 => exact size_op); (case s2_12 => exact oprC_one _ _ _ _ _ _ _ _ _ _)) | fail)
      obtain ⟨d1, d2, d3, d4⟩ := Hd.out
      refine RdP.ends rfl rfl rfl d3 Try.underlying37 rfl size_op (res := oprAt bs n k) Hres.out d2 ⟨_, _, _, rfl, HP.out.far (Mod.two (L := L) (o := 6) (vs := (lookC x2 (.slice p1 n1 k1) (.slice p2 n2 k2) (.slice p3 n3 k3)).toList) d4) Hlt.out.1 Hlt.out.2.1 Hlt.out.2.2, HS.out.far (Mod.two (L := L) (o := 6) (vs := (lookC x2 (.slice p1 n1 k1) (.slice p2 n2 k2) (.slice p3 n3 k3)).toList) d4) Hlt.out.1 Hlt.out.2.1 Hlt.out.2.2⟩ d1

theorem op_any (w : World) (R : Nat) (vb : Value) (bs : List Nat) (n : Nat) (k : Int) (h : RdAt w R vb bs n) :
    Calls Try.prog 37 #[.pointer (some ⟨R, 0, none⟩), .int .i64 k] w (RdP w R vb bs (IsOpr w.heap.size) (oprAt bs n k)) := by
  by_cases hk1 : k = 1
  · subst hk1; exact op_1 w R vb bs n h
  by_cases hk3 : k = 3
  · subst hk3; exact op_3 w R vb bs n h
  by_cases hk4 : k = 4
  · subst hk4; exact op_4 w R vb bs n h
  exact op_0 w R vb bs n k h hk1 hk3 hk4

end Go.Proofs.Ytnamnmipgpcjjaa

