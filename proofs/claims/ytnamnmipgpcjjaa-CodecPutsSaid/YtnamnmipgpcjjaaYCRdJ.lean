/- Texts of the codec's proofs, laid together: CRdJ. -/
import Derived.Test.YtnamnmipgpcjjaaYCRdI
set_option linter.unusedSimpArgs false
set_option linter.unusedVariables false
set_option linter.unusedSectionVars false
set_option linter.constructorNameAsVariable false

/- Acts as bytes: an operation. -/
namespace Go.Gou
open Go.RowKit

def oprAt (bs : List Nat) (n : Nat) (k : Int) : Option (Opr × Nat) :=
  (if k = 1 then some ((0, 0), n) else idAt bs n).bind fun i => (if k = 1 ∨ k = 3 then idAt bs i.2 else some ((0, 0), i.2)).bind fun t =>
    (if k = 1 ∨ k = 3 ∨ k = 4 then numAt bs t.2 else some (0, t.2)).bind fun a => (lookAt bs a.2 k).bind fun l => some (⟨k, i.1, t.1, a.1, l.1⟩, l.2)

theorem oprC_one (o : Opr) (p1 : Option Addr) (n1 k1 : Nat) (p2 : Option Addr) (n2 k2 : Nat) (p3 : Option Addr) (n3 k3 : Nat) : (oprC o (.slice p1 n1 k1) (.slice p2 n2 k2) (.slice p3 n3 k3)).all (·.oneCell') = true := by simp [oprC, Value.oneCell']

theorem setMany_opr (k i1 i2 t1 t2 a : Int) (l : Lk) (vp vf vb : Value) : setMany (List.toArray (Value.int .i64 k :: Value.int .i64 i1 :: Value.int .i64 i2 :: Value.int .i64 t1 :: Value.int .i64 t2 :: Value.int .i64 a :: zL28)) 6 (lookC l vp vf vb).toList = oprC ⟨k, (i1, i2), (t1, t2), a, l⟩ vp vf vb := by
  simp [lookC, oprC, setMany]

theorem NodesR.form {G : Nat → Prop} {w : World} {v : Value} {ns : List GNode} (h : NodesR G w v ns) : ∃ p c, v = .slice p ns.length c := by
  obtain ⟨_, h, _⟩ := h
  obtain ⟨p, c, e, _⟩ := h.form
  exact ⟨p, c, e⟩

theorem LookR.forms {G : Nat → Prop} {w : World} {l : Lk} {vp vf vb : Value} (h : LookR G w l vp vf vb) : ∃ p1 n1 k1 p2 n2 k2 p3 n3 k3, vp = .slice p1 n1 k1 ∧ vf = .slice p2 n2 k2 ∧ vb = .slice p3 n3 k3 := by
  obtain ⟨p1, k1, e1, _⟩ := RowG.form h.pix
  obtain ⟨p2, k2, e2⟩ := h.filt.form
  obtain ⟨p3, k3, e3⟩ := h.back.form
  exact ⟨_, _, _, _, _, _, _, _, _, e1, e2, e3⟩

end Go.Gou
namespace Go.Proofs.Ytnamnmipgpcjjaa
open Go.RowKit Go.Gou

def IsOpr (B : Nat) (w : World) (v : Value) (o : Opr) : Prop := ∃ vp vf vb, v = .agg (oprC o vp vf vb) ∧ LookR (fun b => B ≤ b) w o.look vp vf vb ∧ SoftB B w vp

set_option maxRecDepth 100000 in
set_option maxHeartbeats 4000000 in
theorem op_1 (w : World) (R : Nat) (vb : Value) (bs : List Nat) (n : Nat) (h : RdAt w R vb bs n) :
    Calls Try.prog 37 #[.pointer (some ⟨R, 0, none⟩), .int .i64 1] w (RdP w R vb bs (IsOpr w.heap.size) (oprAt bs n 1)) := by
  have H := Lib.hid h
  have hR := h.lt
  clear h
  go_enter Try.func37, Try.ntmps37
  have HZ : Hid (Gou.Loc w R _ bs 37 w.heap.size (w.heap.size + 1) OpZ OpZ n ((w.alloc (.cells OpZ 37)).alloc (.cells OpZ 37))) := Lib.hid (by
    have := Loc.start H.out (Mod.refl _ (w.alloc (.cells OpZ 37))) (H.out.alloc _) OpZ
    simpa using this)
  have Ht0 := Lib.hid (HZ.out.loc.there 0 34 (by simp))
  have hp := HZ.out.puts 0 (Value.int .i64 1 :: Value.int .i64 0 :: Value.int .i64 0 :: Value.int .i64 0 :: Value.int .i64 0 :: Value.int .i64 0 :: Value.int .i64 0 :: Value.int .i64 0 :: Value.bool false :: Value.int .i64 0 :: Value.int .i64 0 :: Value.int .i64 0 :: Value.int .i64 0 :: Value.int .i64 0 :: Value.int .i64 0 :: Value.int .i64 0 :: Value.int .i64 0 :: Value.int .i64 0 :: Value.int .i64 0 :: Value.int .i64 0 :: Value.int .u8 0 :: Value.int .u8 0 :: Value.int .u8 0 :: Value.int .u8 0 :: Value.int .i64 0 :: Value.int .i64 0 :: Value.int .i64 0 :: Value.slice none 0 0 :: Value.bool false :: Value.slice none 0 0 :: Value.int .i64 0 :: Value.bool false :: Value.slice none 0 0 :: Value.int .i64 0 :: [])
  rw [setMany_all _ _ (by simp)] at hp
  have Hl0 : Hid (Gou.Loc w R _ bs 37 w.heap.size (w.heap.size + 1) OpZ (List.toArray (Value.int .i64 1 :: Value.int .i64 0 :: Value.int .i64 0 :: Value.int .i64 0 :: Value.int .i64 0 :: Value.int .i64 0 :: zL28)) n (((w.alloc (.cells OpZ 37)).alloc (.cells OpZ 37)).setCells (w.heap.size + 1) 0 (Value.int .i64 1 :: Value.int .i64 0 :: Value.int .i64 0 :: Value.int .i64 0 :: Value.int .i64 0 :: Value.int .i64 0 :: Value.int .i64 0 :: Value.int .i64 0 :: Value.bool false :: Value.int .i64 0 :: Value.int .i64 0 :: Value.int .i64 0 :: Value.int .i64 0 :: Value.int .i64 0 :: Value.int .i64 0 :: Value.int .i64 0 :: Value.int .i64 0 :: Value.int .i64 0 :: Value.int .i64 0 :: Value.int .i64 0 :: Value.int .u8 0 :: Value.int .u8 0 :: Value.int .u8 0 :: Value.int .u8 0 :: Value.int .i64 0 :: Value.int .i64 0 :: Value.int .i64 0 :: Value.slice none 0 0 :: Value.bool false :: Value.slice none 0 0 :: Value.int .i64 0 :: Value.bool false :: Value.slice none 0 0 :: Value.int .i64 0 :: []))) := Lib.hid hp
  clear hp HZ
  go_wp2_with (first | ((with_reducible refine wpList_store_mid ?g_1 37 ?x_1 ?y_1 ?o_1 (w.heap.size + 1) 0 (List.toArray (Value.int .i64 1 :: Value.int .i64 0 :: Value.int .i64 0 :: Value.int .i64 0 :: Value.int .i64 0 :: Value.int .i64 0 :: zL28)) ?h_1 ?j_1 ?t_1 ?i_1 ?s_1 ?r_1); (case g_1 | o_1 | h_1 | j_1 => exact rfl); (case t_1 => exact Ht0.out); (case i_1 => exact size_op); (case s_1 => exact oprC_one ⟨1, (0, 0), (0, 0), 0, Lk.zero⟩ none 0 0 none 0 0 none 0 0)) | fail)
  generalize hW : ((w.alloc (.cells OpZ 37)).alloc (.cells OpZ 37)).setCells (w.heap.size + 1) 0 (Value.int .i64 1 :: Value.int .i64 0 :: Value.int .i64 0 :: Value.int .i64 0 :: Value.int .i64 0 :: Value.int .i64 0 :: Value.int .i64 0 :: Value.int .i64 0 :: Value.bool false :: Value.int .i64 0 :: Value.int .i64 0 :: Value.int .i64 0 :: Value.int .i64 0 :: Value.int .i64 0 :: Value.int .i64 0 :: Value.int .i64 0 :: Value.int .i64 0 :: Value.int .i64 0 :: Value.int .i64 0 :: Value.int .i64 0 :: Value.int .u8 0 :: Value.int .u8 0 :: Value.int .u8 0 :: Value.int .u8 0 :: Value.int .i64 0 :: Value.int .i64 0 :: Value.int .i64 0 :: Value.slice none 0 0 :: Value.bool false :: Value.slice none 0 0 :: Value.int .i64 0 :: Value.bool false :: Value.slice none 0 0 :: Value.int .i64 0 :: []) = W0 at *
  generalize hL : w.heap.size + 1 = L at *
  clear hW hL
  refine (id_any _ R _ bs n Hl0.out.rd).mono ?_
  intro e w1 h1
  cases hn1 : idAt bs n with
  | none =>
    rw [hn1] at h1
    obtain ⟨rfl, hq⟩ := h1.fault (J := IsOpr w.heap.size) (res := oprAt bs n 1) Hl0.out.mod (by simp [oprAt, hn1])
    exact ⟨rfl, hq⟩
  | some p1 =>
    obtain ⟨x1, m1⟩ := p1
    rw [hn1] at h1
    obtain ⟨hm1, _, rfl, rfl, hr1⟩ := h1
    have Hn1 := Lib.hid hn1
    have hl1 := Hl0.out.step hm1 hr1
    clear hn1 hm1 hr1
    have c3 := hl1.loc.cell 3 rfl
    have fc3 := hl1.loc.frozen 3
    have c4 := hl1.loc.cell 4 rfl
    have fc4 := hl1.loc.frozen 4
    have hs1 := hl1.puts 3 [.int .i64 x1.1, .int .i64 x1.2]
    simp only [World.setCells, Nat.reduceAdd] at hs1
    have Hl1 : Hid (Gou.Loc w R _ bs 37 w.heap.size L OpZ (List.toArray (Value.int .i64 1 :: Value.int .i64 0 :: Value.int .i64 0 :: Value.int .i64 x1.1 :: Value.int .i64 x1.2 :: Value.int .i64 0 :: zL28)) m1 _) := Lib.hid (hs1)
    clear hl1 hs1
    go_wp2_with fail
    refine (number_any _ R _ bs m1 Hl1.out.rd).mono ?_
    intro e w2 h2
    cases hn2 : numAt bs m1 with
    | none =>
      rw [hn2] at h2
      obtain ⟨rfl, hq⟩ := h2.fault (J := IsOpr w.heap.size) (res := oprAt bs n 1) Hl1.out.mod (by have g1 := Hn1.out; simp [oprAt, g1, hn2])
      exact ⟨rfl, hq⟩
    | some p2 =>
      obtain ⟨x2, m2⟩ := p2
      rw [hn2] at h2
      obtain ⟨hm2, _, rfl, rfl, hr2⟩ := h2
      have Hn2 := Lib.hid hn2
      have hl2 := Hl1.out.step hm2 hr2
      clear hn2 hm2 hr2
      have c5 := hl2.loc.cell 5 rfl
      have fc5 := hl2.loc.frozen 5
      have Hl2 : Hid (Gou.Loc w R _ bs 37 w.heap.size L OpZ (List.toArray (Value.int .i64 1 :: Value.int .i64 0 :: Value.int .i64 0 :: Value.int .i64 x1.1 :: Value.int .i64 x1.2 :: Value.int .i64 x2 :: zL28)) m2 _) := Lib.hid (hl2.put 5 (.int .i64 x2))
      clear hl2
      go_wp2_with fail
      refine (look_any _ R _ bs m2 1 Hl2.out.rd).mono ?_
      intro e w3 h3
      cases hn3 : lookAt bs m2 1 with
      | none =>
        rw [hn3] at h3
        obtain ⟨rfl, hq⟩ := h3.fault (J := IsOpr w.heap.size) (res := oprAt bs n 1) Hl2.out.mod (by have g1 := Hn1.out; have g2 := Hn2.out; simp [oprAt, g1, g2, hn3])
        exact ⟨rfl, hq⟩
      | some p3 =>
        obtain ⟨x3, m3⟩ := p3
        rw [hn3] at h3
        obtain ⟨hm3, _, rfl, ⟨vp, vf, vb, rfl, hlr, hsoft⟩, hr3⟩ := h3
        have Hn3 := Lib.hid hn3
        obtain ⟨p1, n1, k1, p2, n2, k2, p3, n3, k3, rfl, rfl, rfl⟩ := hlr.forms
        have hLB := Blk.lt Hl2.out.loc
        have hNB := Blk.lt Hl2.out.res
        have hwB := Hl2.out.mod.size
        have HP := Lib.hid hlr
        have HS := Lib.hid hsoft
        have Hlt := Lib.hid (And.intro hLB (And.intro hNB hwB))
        clear hlr hsoft hLB hNB hwB
        have hl3 := Hl2.out.step hm3 hr3
        clear hn3 hm3 hr3
        have Ht3 := Lib.hid (hl3.loc.there 6 28 (by simp))
        have hs3 := hl3.puts 6 (lookC x3 (.slice p1 n1 k1) (.slice p2 n2 k2) (.slice p3 n3 k3)).toList
        rw [setMany_opr] at hs3
        have Hl3 := Lib.hid hs3
        clear hs3
        clear hl3
        have Hres : Hid (oprAt bs n 1 = some (⟨1, (0, 0), (x1.1, x1.2), x2, x3⟩, m3)) := Lib.hid (by have g1 := Hn1.out; have g2 := Hn2.out; have g3 := Hn3.out; simp [oprAt, g1, g2, g3])
        have HB : Hid (Blk _ (L) 37 (oprC ⟨1, (0, 0), (x1.1, x1.2), x2, x3⟩ (.slice p1 n1 k1) (.slice p2 n2 k2) (.slice p3 n3 k3))) := Lib.hid Hl3.out.loc
        have Hth := Lib.hid (Hl3.out.res.there 0 34 (by simp))
        have Hd := Lib.hid (Loc.done (cs := oprC ⟨1, (0, 0), (x1.1, x1.2), x2, x3⟩ (.slice p1 n1 k1) (.slice p2 n2 k2) (.slice p3 n3 k3)) Hl3.out rfl)
        go_wp2_with (first | ((with_reducible refine wpList_store_mid ?g_2 35 ?x_2 ?y_2 ?o_2 L 6 (lookC x3 (.slice p1 n1 k1) (.slice p2 n2 k2) (.slice p3 n3 k3)) ?h_2 ?j_2 ?t_2 ?i_2 ?s_2 ?r_2); (case g_2 | o_2 | h_2 | j_2 => exact rfl); (case t_2 => exact Ht3.out); (case i_2 => exact size_look); (case s_2 => exact lookC_one _ _ _ _ _ _ _ _ _ _)) | ((with_reducible refine wpList_load_row ?g_3 37 ?x_3 ?o_3 (L) ?h_3 ?t_3 ?c_3 ?f_3 ?d_3 ?b_3 ?u_3 ?s_3 ?i_3 ?r_3); (case g_3 | o_3 | h_3 => exact rfl); (case b_3 => exact HB.out); (case u_3 => exact Try.underlying37); (case s_3 => exact rfl); (case i_3 => exact size_op)) | ((with_reducible refine wpList_store_mid ?g2_3 37 ?x2_3 ?y_3 ?o2_3 w.heap.size 0 (oprC ⟨1, (0, 0), (x1.1, x1.2), x2, x3⟩ (.slice p1 n1 k1) (.slice p2 n2 k2) (.slice p3 n3 k3)) ?h2_3 ?j_3 ?t2_3 ?i2_3 ?s2_3 ?r2_3); (case g2_3 | o2_3 | h2_3 | j_3 => exact rfl); (case t2_3 => exact Hth.out); (case i2_3 => exact size_op); (case s2_3 => exact oprC_one _ _ _ _ _ _ _ _ _ _)) | fail)
        obtain ⟨d1, d2, d3, d4⟩ := Hd.out
        refine RdP.ends rfl rfl rfl d3 Try.underlying37 rfl size_op (res := oprAt bs n 1) Hres.out d2 ⟨_, _, _, rfl, HP.out.far (Mod.two (L := L) (o := 6) (vs := (lookC x3 (.slice p1 n1 k1) (.slice p2 n2 k2) (.slice p3 n3 k3)).toList) d4) Hlt.out.1 Hlt.out.2.1 Hlt.out.2.2, HS.out.far (Mod.two (L := L) (o := 6) (vs := (lookC x3 (.slice p1 n1 k1) (.slice p2 n2 k2) (.slice p3 n3 k3)).toList) d4) Hlt.out.1 Hlt.out.2.1 Hlt.out.2.2⟩ d1

set_option maxRecDepth 100000 in
set_option maxHeartbeats 4000000 in
theorem op_3 (w : World) (R : Nat) (vb : Value) (bs : List Nat) (n : Nat) (h : RdAt w R vb bs n) :
    Calls Try.prog 37 #[.pointer (some ⟨R, 0, none⟩), .int .i64 3] w (RdP w R vb bs (IsOpr w.heap.size) (oprAt bs n 3)) := by
  have H := Lib.hid h
  have hR := h.lt
  clear h
  go_enter Try.func37, Try.ntmps37
  have HZ : Hid (Gou.Loc w R _ bs 37 w.heap.size (w.heap.size + 1) OpZ OpZ n ((w.alloc (.cells OpZ 37)).alloc (.cells OpZ 37))) := Lib.hid (by
    have := Loc.start H.out (Mod.refl _ (w.alloc (.cells OpZ 37))) (H.out.alloc _) OpZ
    simpa using this)
  have Ht0 := Lib.hid (HZ.out.loc.there 0 34 (by simp))
  have hp := HZ.out.puts 0 (Value.int .i64 3 :: Value.int .i64 0 :: Value.int .i64 0 :: Value.int .i64 0 :: Value.int .i64 0 :: Value.int .i64 0 :: Value.int .i64 0 :: Value.int .i64 0 :: Value.bool false :: Value.int .i64 0 :: Value.int .i64 0 :: Value.int .i64 0 :: Value.int .i64 0 :: Value.int .i64 0 :: Value.int .i64 0 :: Value.int .i64 0 :: Value.int .i64 0 :: Value.int .i64 0 :: Value.int .i64 0 :: Value.int .i64 0 :: Value.int .u8 0 :: Value.int .u8 0 :: Value.int .u8 0 :: Value.int .u8 0 :: Value.int .i64 0 :: Value.int .i64 0 :: Value.int .i64 0 :: Value.slice none 0 0 :: Value.bool false :: Value.slice none 0 0 :: Value.int .i64 0 :: Value.bool false :: Value.slice none 0 0 :: Value.int .i64 0 :: [])
  rw [setMany_all _ _ (by simp)] at hp
  have Hl0 : Hid (Gou.Loc w R _ bs 37 w.heap.size (w.heap.size + 1) OpZ (List.toArray (Value.int .i64 3 :: Value.int .i64 0 :: Value.int .i64 0 :: Value.int .i64 0 :: Value.int .i64 0 :: Value.int .i64 0 :: zL28)) n (((w.alloc (.cells OpZ 37)).alloc (.cells OpZ 37)).setCells (w.heap.size + 1) 0 (Value.int .i64 3 :: Value.int .i64 0 :: Value.int .i64 0 :: Value.int .i64 0 :: Value.int .i64 0 :: Value.int .i64 0 :: Value.int .i64 0 :: Value.int .i64 0 :: Value.bool false :: Value.int .i64 0 :: Value.int .i64 0 :: Value.int .i64 0 :: Value.int .i64 0 :: Value.int .i64 0 :: Value.int .i64 0 :: Value.int .i64 0 :: Value.int .i64 0 :: Value.int .i64 0 :: Value.int .i64 0 :: Value.int .i64 0 :: Value.int .u8 0 :: Value.int .u8 0 :: Value.int .u8 0 :: Value.int .u8 0 :: Value.int .i64 0 :: Value.int .i64 0 :: Value.int .i64 0 :: Value.slice none 0 0 :: Value.bool false :: Value.slice none 0 0 :: Value.int .i64 0 :: Value.bool false :: Value.slice none 0 0 :: Value.int .i64 0 :: []))) := Lib.hid hp
  clear hp HZ
  go_wp2_with (first | ((with_reducible refine wpList_store_mid ?g_4 37 ?x_4 ?y_4 ?o_4 (w.heap.size + 1) 0 (List.toArray (Value.int .i64 3 :: Value.int .i64 0 :: Value.int .i64 0 :: Value.int .i64 0 :: Value.int .i64 0 :: Value.int .i64 0 :: zL28)) ?h_4 ?j_4 ?t_4 ?i_4 ?s_4 ?r_4); (case g_4 | o_4 | h_4 | j_4 => exact rfl); (case t_4 => exact Ht0.out); (case i_4 => exact size_op); (case s_4 => exact oprC_one ⟨3, (0, 0), (0, 0), 0, Lk.zero⟩ none 0 0 none 0 0 none 0 0)) | fail)
  generalize hW : ((w.alloc (.cells OpZ 37)).alloc (.cells OpZ 37)).setCells (w.heap.size + 1) 0 (Value.int .i64 3 :: Value.int .i64 0 :: Value.int .i64 0 :: Value.int .i64 0 :: Value.int .i64 0 :: Value.int .i64 0 :: Value.int .i64 0 :: Value.int .i64 0 :: Value.bool false :: Value.int .i64 0 :: Value.int .i64 0 :: Value.int .i64 0 :: Value.int .i64 0 :: Value.int .i64 0 :: Value.int .i64 0 :: Value.int .i64 0 :: Value.int .i64 0 :: Value.int .i64 0 :: Value.int .i64 0 :: Value.int .i64 0 :: Value.int .u8 0 :: Value.int .u8 0 :: Value.int .u8 0 :: Value.int .u8 0 :: Value.int .i64 0 :: Value.int .i64 0 :: Value.int .i64 0 :: Value.slice none 0 0 :: Value.bool false :: Value.slice none 0 0 :: Value.int .i64 0 :: Value.bool false :: Value.slice none 0 0 :: Value.int .i64 0 :: []) = W0 at *
  generalize hL : w.heap.size + 1 = L at *
  clear hW hL
  refine (id_any _ R _ bs n Hl0.out.rd).mono ?_
  intro e w1 h1
  cases hn1 : idAt bs n with
  | none =>
    rw [hn1] at h1
    obtain ⟨rfl, hq⟩ := h1.fault (J := IsOpr w.heap.size) (res := oprAt bs n 3) Hl0.out.mod (by simp [oprAt, hn1])
    exact ⟨rfl, hq⟩
  | some p1 =>
    obtain ⟨x1, m1⟩ := p1
    rw [hn1] at h1
    obtain ⟨hm1, _, rfl, rfl, hr1⟩ := h1
    have Hn1 := Lib.hid hn1
    have hl1 := Hl0.out.step hm1 hr1
    clear hn1 hm1 hr1
    have c1 := hl1.loc.cell 1 rfl
    have fc1 := hl1.loc.frozen 1
    have c2 := hl1.loc.cell 2 rfl
    have fc2 := hl1.loc.frozen 2
    have hs1 := hl1.puts 1 [.int .i64 x1.1, .int .i64 x1.2]
    simp only [World.setCells, Nat.reduceAdd] at hs1
    have Hl1 : Hid (Gou.Loc w R _ bs 37 w.heap.size L OpZ (List.toArray (Value.int .i64 3 :: Value.int .i64 x1.1 :: Value.int .i64 x1.2 :: Value.int .i64 0 :: Value.int .i64 0 :: Value.int .i64 0 :: zL28)) m1 _) := Lib.hid (hs1)
    clear hl1 hs1
    go_wp2_with fail
    refine (id_any _ R _ bs m1 Hl1.out.rd).mono ?_
    intro e w2 h2
    cases hn2 : idAt bs m1 with
    | none =>
      rw [hn2] at h2
      obtain ⟨rfl, hq⟩ := h2.fault (J := IsOpr w.heap.size) (res := oprAt bs n 3) Hl1.out.mod (by have g1 := Hn1.out; simp [oprAt, g1, hn2])
      exact ⟨rfl, hq⟩
    | some p2 =>
      obtain ⟨x2, m2⟩ := p2
      rw [hn2] at h2
      obtain ⟨hm2, _, rfl, rfl, hr2⟩ := h2
      have Hn2 := Lib.hid hn2
      have hl2 := Hl1.out.step hm2 hr2
      clear hn2 hm2 hr2
      have c3 := hl2.loc.cell 3 rfl
      have fc3 := hl2.loc.frozen 3
      have c4 := hl2.loc.cell 4 rfl
      have fc4 := hl2.loc.frozen 4
      have hs2 := hl2.puts 3 [.int .i64 x2.1, .int .i64 x2.2]
      simp only [World.setCells, Nat.reduceAdd] at hs2
      have Hl2 : Hid (Gou.Loc w R _ bs 37 w.heap.size L OpZ (List.toArray (Value.int .i64 3 :: Value.int .i64 x1.1 :: Value.int .i64 x1.2 :: Value.int .i64 x2.1 :: Value.int .i64 x2.2 :: Value.int .i64 0 :: zL28)) m2 _) := Lib.hid (hs2)
      clear hl2 hs2
      go_wp2_with fail
      refine (number_any _ R _ bs m2 Hl2.out.rd).mono ?_
      intro e w3 h3
      cases hn3 : numAt bs m2 with
      | none =>
        rw [hn3] at h3
        obtain ⟨rfl, hq⟩ := h3.fault (J := IsOpr w.heap.size) (res := oprAt bs n 3) Hl2.out.mod (by have g1 := Hn1.out; have g2 := Hn2.out; simp [oprAt, g1, g2, hn3])
        exact ⟨rfl, hq⟩
      | some p3 =>
        obtain ⟨x3, m3⟩ := p3
        rw [hn3] at h3
        obtain ⟨hm3, _, rfl, rfl, hr3⟩ := h3
        have Hn3 := Lib.hid hn3
        have hl3 := Hl2.out.step hm3 hr3
        clear hn3 hm3 hr3
        have c5 := hl3.loc.cell 5 rfl
        have fc5 := hl3.loc.frozen 5
        have Hl3 : Hid (Gou.Loc w R _ bs 37 w.heap.size L OpZ (List.toArray (Value.int .i64 3 :: Value.int .i64 x1.1 :: Value.int .i64 x1.2 :: Value.int .i64 x2.1 :: Value.int .i64 x2.2 :: Value.int .i64 x3 :: zL28)) m3 _) := Lib.hid (hl3.put 5 (.int .i64 x3))
        clear hl3
        go_wp2_with fail
        refine (look_any _ R _ bs m3 3 Hl3.out.rd).mono ?_
        intro e w4 h4
        cases hn4 : lookAt bs m3 3 with
        | none =>
          rw [hn4] at h4
          obtain ⟨rfl, hq⟩ := h4.fault (J := IsOpr w.heap.size) (res := oprAt bs n 3) Hl3.out.mod (by have g1 := Hn1.out; have g2 := Hn2.out; have g3 := Hn3.out; simp [oprAt, g1, g2, g3, hn4])
          exact ⟨rfl, hq⟩
        | some p4 =>
          obtain ⟨x4, m4⟩ := p4
          rw [hn4] at h4
          obtain ⟨hm4, _, rfl, ⟨vp, vf, vb, rfl, hlr, hsoft⟩, hr4⟩ := h4
          have Hn4 := Lib.hid hn4
          obtain ⟨p1, n1, k1, p2, n2, k2, p3, n3, k3, rfl, rfl, rfl⟩ := hlr.forms
          have hLB := Blk.lt Hl3.out.loc
          have hNB := Blk.lt Hl3.out.res
          have hwB := Hl3.out.mod.size
          have HP := Lib.hid hlr
          have HS := Lib.hid hsoft
          have Hlt := Lib.hid (And.intro hLB (And.intro hNB hwB))
          clear hlr hsoft hLB hNB hwB
          have hl4 := Hl3.out.step hm4 hr4
          clear hn4 hm4 hr4
          have Ht4 := Lib.hid (hl4.loc.there 6 28 (by simp))
          have hs4 := hl4.puts 6 (lookC x4 (.slice p1 n1 k1) (.slice p2 n2 k2) (.slice p3 n3 k3)).toList
          rw [setMany_opr] at hs4
          have Hl4 := Lib.hid hs4
          clear hs4
          clear hl4
          have Hres : Hid (oprAt bs n 3 = some (⟨3, (x1.1, x1.2), (x2.1, x2.2), x3, x4⟩, m4)) := Lib.hid (by have g1 := Hn1.out; have g2 := Hn2.out; have g3 := Hn3.out; have g4 := Hn4.out; simp [oprAt, g1, g2, g3, g4])
          have HB : Hid (Blk _ (L) 37 (oprC ⟨3, (x1.1, x1.2), (x2.1, x2.2), x3, x4⟩ (.slice p1 n1 k1) (.slice p2 n2 k2) (.slice p3 n3 k3))) := Lib.hid Hl4.out.loc
          have Hth := Lib.hid (Hl4.out.res.there 0 34 (by simp))
          have Hd := Lib.hid (Loc.done (cs := oprC ⟨3, (x1.1, x1.2), (x2.1, x2.2), x3, x4⟩ (.slice p1 n1 k1) (.slice p2 n2 k2) (.slice p3 n3 k3)) Hl4.out rfl)
          go_wp2_with (first | ((with_reducible refine wpList_store_mid ?g_5 35 ?x_5 ?y_5 ?o_5 L 6 (lookC x4 (.slice p1 n1 k1) (.slice p2 n2 k2) (.slice p3 n3 k3)) ?h_5 ?j_5 ?t_5 ?i_5 ?s_5 ?r_5); (case g_5 | o_5 | h_5 | j_5 => exact rfl); (case t_5 => exact Ht4.out); (case i_5 => exact size_look); (case s_5 => exact lookC_one _ _ _ _ _ _ _ _ _ _)) | ((with_reducible refine wpList_load_row ?g_6 37 ?x_6 ?o_6 (L) ?h_6 ?t_6 ?c_6 ?f_6 ?d_6 ?b_6 ?u_6 ?s_6 ?i_6 ?r_6); (case g_6 | o_6 | h_6 => exact rfl); (case b_6 => exact HB.out); (case u_6 => exact Try.underlying37); (case s_6 => exact rfl); (case i_6 => exact size_op)) | ((with_reducible refine wpList_store_mid ?g2_6 37 ?x2_6 ?y_6 ?o2_6 w.heap.size 0 (oprC ⟨3, (x1.1, x1.2), (x2.1, x2.2), x3, x4⟩ (.slice p1 n1 k1) (.slice p2 n2 k2) (.slice p3 n3 k3)) ?h2_6 ?j_6 ?t2_6 ?i2_6 ?s2_6 ?r2_6); (case g2_6 | o2_6 | h2_6 | j_6 => exact rfl); (case t2_6 => exact Hth.out); (case i2_6 => exact size_op); (case s2_6 => exact oprC_one _ _ _ _ _ _ _ _ _ _)) | fail)
          obtain ⟨d1, d2, d3, d4⟩ := Hd.out
          refine RdP.ends rfl rfl rfl d3 Try.underlying37 rfl size_op (res := oprAt bs n 3) Hres.out d2 ⟨_, _, _, rfl, HP.out.far (Mod.two (L := L) (o := 6) (vs := (lookC x4 (.slice p1 n1 k1) (.slice p2 n2 k2) (.slice p3 n3 k3)).toList) d4) Hlt.out.1 Hlt.out.2.1 Hlt.out.2.2, HS.out.far (Mod.two (L := L) (o := 6) (vs := (lookC x4 (.slice p1 n1 k1) (.slice p2 n2 k2) (.slice p3 n3 k3)).toList) d4) Hlt.out.1 Hlt.out.2.1 Hlt.out.2.2⟩ d1

set_option maxRecDepth 100000 in
set_option maxHeartbeats 4000000 in
theorem op_4 (w : World) (R : Nat) (vb : Value) (bs : List Nat) (n : Nat) (h : RdAt w R vb bs n) :
    Calls Try.prog 37 #[.pointer (some ⟨R, 0, none⟩), .int .i64 4] w (RdP w R vb bs (IsOpr w.heap.size) (oprAt bs n 4)) := by
  have H := Lib.hid h
  have hR := h.lt
  clear h
  go_enter Try.func37, Try.ntmps37
  have HZ : Hid (Gou.Loc w R _ bs 37 w.heap.size (w.heap.size + 1) OpZ OpZ n ((w.alloc (.cells OpZ 37)).alloc (.cells OpZ 37))) := Lib.hid (by
    have := Loc.start H.out (Mod.refl _ (w.alloc (.cells OpZ 37))) (H.out.alloc _) OpZ
    simpa using this)
  have Ht0 := Lib.hid (HZ.out.loc.there 0 34 (by simp))
  have hp := HZ.out.puts 0 (Value.int .i64 4 :: Value.int .i64 0 :: Value.int .i64 0 :: Value.int .i64 0 :: Value.int .i64 0 :: Value.int .i64 0 :: Value.int .i64 0 :: Value.int .i64 0 :: Value.bool false :: Value.int .i64 0 :: Value.int .i64 0 :: Value.int .i64 0 :: Value.int .i64 0 :: Value.int .i64 0 :: Value.int .i64 0 :: Value.int .i64 0 :: Value.int .i64 0 :: Value.int .i64 0 :: Value.int .i64 0 :: Value.int .i64 0 :: Value.int .u8 0 :: Value.int .u8 0 :: Value.int .u8 0 :: Value.int .u8 0 :: Value.int .i64 0 :: Value.int .i64 0 :: Value.int .i64 0 :: Value.slice none 0 0 :: Value.bool false :: Value.slice none 0 0 :: Value.int .i64 0 :: Value.bool false :: Value.slice none 0 0 :: Value.int .i64 0 :: [])
  rw [setMany_all _ _ (by simp)] at hp
  have Hl0 : Hid (Gou.Loc w R _ bs 37 w.heap.size (w.heap.size + 1) OpZ (List.toArray (Value.int .i64 4 :: Value.int .i64 0 :: Value.int .i64 0 :: Value.int .i64 0 :: Value.int .i64 0 :: Value.int .i64 0 :: zL28)) n (((w.alloc (.cells OpZ 37)).alloc (.cells OpZ 37)).setCells (w.heap.size + 1) 0 (Value.int .i64 4 :: Value.int .i64 0 :: Value.int .i64 0 :: Value.int .i64 0 :: Value.int .i64 0 :: Value.int .i64 0 :: Value.int .i64 0 :: Value.int .i64 0 :: Value.bool false :: Value.int .i64 0 :: Value.int .i64 0 :: Value.int .i64 0 :: Value.int .i64 0 :: Value.int .i64 0 :: Value.int .i64 0 :: Value.int .i64 0 :: Value.int .i64 0 :: Value.int .i64 0 :: Value.int .i64 0 :: Value.int .i64 0 :: Value.int .u8 0 :: Value.int .u8 0 :: Value.int .u8 0 :: Value.int .u8 0 :: Value.int .i64 0 :: Value.int .i64 0 :: Value.int .i64 0 :: Value.slice none 0 0 :: Value.bool false :: Value.slice none 0 0 :: Value.int .i64 0 :: Value.bool false :: Value.slice none 0 0 :: Value.int .i64 0 :: []))) := Lib.hid hp
  clear hp HZ
  go_wp2_with (first | ((with_reducible refine wpList_store_mid ?g_7 37 ?x_7 ?y_7 ?o_7 (w.heap.size + 1) 0 (List.toArray (Value.int .i64 4 :: Value.int .i64 0 :: Value.int .i64 0 :: Value.int .i64 0 :: Value.int .i64 0 :: Value.int .i64 0 :: zL28)) ?h_7 ?j_7 ?t_7 ?i_7 ?s_7 ?r_7); (case g_7 | o_7 | h_7 | j_7 => exact rfl); (case t_7 => exact Ht0.out); (case i_7 => exact size_op); (case s_7 => exact oprC_one ⟨4, (0, 0), (0, 0), 0, Lk.zero⟩ none 0 0 none 0 0 none 0 0)) | fail)
  generalize hW : ((w.alloc (.cells OpZ 37)).alloc (.cells OpZ 37)).setCells (w.heap.size + 1) 0 (Value.int .i64 4 :: Value.int .i64 0 :: Value.int .i64 0 :: Value.int .i64 0 :: Value.int .i64 0 :: Value.int .i64 0 :: Value.int .i64 0 :: Value.int .i64 0 :: Value.bool false :: Value.int .i64 0 :: Value.int .i64 0 :: Value.int .i64 0 :: Value.int .i64 0 :: Value.int .i64 0 :: Value.int .i64 0 :: Value.int .i64 0 :: Value.int .i64 0 :: Value.int .i64 0 :: Value.int .i64 0 :: Value.int .i64 0 :: Value.int .u8 0 :: Value.int .u8 0 :: Value.int .u8 0 :: Value.int .u8 0 :: Value.int .i64 0 :: Value.int .i64 0 :: Value.int .i64 0 :: Value.slice none 0 0 :: Value.bool false :: Value.slice none 0 0 :: Value.int .i64 0 :: Value.bool false :: Value.slice none 0 0 :: Value.int .i64 0 :: []) = W0 at *
  generalize hL : w.heap.size + 1 = L at *
  clear hW hL
  refine (id_any _ R _ bs n Hl0.out.rd).mono ?_
  intro e w1 h1
  cases hn1 : idAt bs n with
  | none =>
    rw [hn1] at h1
    obtain ⟨rfl, hq⟩ := h1.fault (J := IsOpr w.heap.size) (res := oprAt bs n 4) Hl0.out.mod (by simp [oprAt, hn1])
    exact ⟨rfl, hq⟩
  | some p1 =>
    obtain ⟨x1, m1⟩ := p1
    rw [hn1] at h1
    obtain ⟨hm1, _, rfl, rfl, hr1⟩ := h1
    have Hn1 := Lib.hid hn1
    have hl1 := Hl0.out.step hm1 hr1
    clear hn1 hm1 hr1
    have c1 := hl1.loc.cell 1 rfl
    have fc1 := hl1.loc.frozen 1
    have c2 := hl1.loc.cell 2 rfl
    have fc2 := hl1.loc.frozen 2
    have hs1 := hl1.puts 1 [.int .i64 x1.1, .int .i64 x1.2]
    simp only [World.setCells, Nat.reduceAdd] at hs1
    have Hl1 : Hid (Gou.Loc w R _ bs 37 w.heap.size L OpZ (List.toArray (Value.int .i64 4 :: Value.int .i64 x1.1 :: Value.int .i64 x1.2 :: Value.int .i64 0 :: Value.int .i64 0 :: Value.int .i64 0 :: zL28)) m1 _) := Lib.hid (hs1)
    clear hl1 hs1
    go_wp2_with fail
    refine (number_any _ R _ bs m1 Hl1.out.rd).mono ?_
    intro e w2 h2
    cases hn2 : numAt bs m1 with
    | none =>
      rw [hn2] at h2
      obtain ⟨rfl, hq⟩ := h2.fault (J := IsOpr w.heap.size) (res := oprAt bs n 4) Hl1.out.mod (by have g1 := Hn1.out; simp [oprAt, g1, hn2])
      exact ⟨rfl, hq⟩
    | some p2 =>
      obtain ⟨x2, m2⟩ := p2
      rw [hn2] at h2
      obtain ⟨hm2, _, rfl, rfl, hr2⟩ := h2
      have Hn2 := Lib.hid hn2
      have hl2 := Hl1.out.step hm2 hr2
      clear hn2 hm2 hr2
      have c5 := hl2.loc.cell 5 rfl
      have fc5 := hl2.loc.frozen 5
      have Hl2 : Hid (Gou.Loc w R _ bs 37 w.heap.size L OpZ (List.toArray (Value.int .i64 4 :: Value.int .i64 x1.1 :: Value.int .i64 x1.2 :: Value.int .i64 0 :: Value.int .i64 0 :: Value.int .i64 x2 :: zL28)) m2 _) := Lib.hid (hl2.put 5 (.int .i64 x2))
      clear hl2
      go_wp2_with fail
      refine (look_any _ R _ bs m2 4 Hl2.out.rd).mono ?_
      intro e w3 h3
      cases hn3 : lookAt bs m2 4 with
      | none =>
        rw [hn3] at h3
        obtain ⟨rfl, hq⟩ := h3.fault (J := IsOpr w.heap.size) (res := oprAt bs n 4) Hl2.out.mod (by have g1 := Hn1.out; have g2 := Hn2.out; simp [oprAt, g1, g2, hn3])
        exact ⟨rfl, hq⟩
      | some p3 =>
        obtain ⟨x3, m3⟩ := p3
        rw [hn3] at h3
        obtain ⟨hm3, _, rfl, ⟨vp, vf, vb, rfl, hlr, hsoft⟩, hr3⟩ := h3
        have Hn3 := Lib.hid hn3
        obtain ⟨p1, n1, k1, p2, n2, k2, p3, n3, k3, rfl, rfl, rfl⟩ := hlr.forms
        have hLB := Blk.lt Hl2.out.loc
        have hNB := Blk.lt Hl2.out.res
        have hwB := Hl2.out.mod.size
        have HP := Lib.hid hlr
        have HS := Lib.hid hsoft
        have Hlt := Lib.hid (And.intro hLB (And.intro hNB hwB))
        clear hlr hsoft hLB hNB hwB
        have hl3 := Hl2.out.step hm3 hr3
        clear hn3 hm3 hr3
        have Ht3 := Lib.hid (hl3.loc.there 6 28 (by simp))
        have hs3 := hl3.puts 6 (lookC x3 (.slice p1 n1 k1) (.slice p2 n2 k2) (.slice p3 n3 k3)).toList
        rw [setMany_opr] at hs3
        have Hl3 := Lib.hid hs3
        clear hs3
        clear hl3
        have Hres : Hid (oprAt bs n 4 = some (⟨4, (x1.1, x1.2), (0, 0), x2, x3⟩, m3)) := Lib.hid (by have g1 := Hn1.out; have g2 := Hn2.out; have g3 := Hn3.out; simp [oprAt, g1, g2, g3])
        have HB : Hid (Blk _ (L) 37 (oprC ⟨4, (x1.1, x1.2), (0, 0), x2, x3⟩ (.slice p1 n1 k1) (.slice p2 n2 k2) (.slice p3 n3 k3))) := Lib.hid Hl3.out.loc
        have Hth := Lib.hid (Hl3.out.res.there 0 34 (by simp))
        have Hd := Lib.hid (Loc.done (cs := oprC ⟨4, (x1.1, x1.2), (0, 0), x2, x3⟩ (.slice p1 n1 k1) (.slice p2 n2 k2) (.slice p3 n3 k3)) Hl3.out rfl)
        go_wp2_with (first | ((with_reducible refine wpList_store_mid ?g_8 35 ?x_8 ?y_8 ?o_8 L 6 (lookC x3 (.slice p1 n1 k1) (.slice p2 n2 k2) (.slice p3 n3 k3)) ?h_8 ?j_8 ?t_8 ?i_8 ?s_8 ?r_8); (case g_8 | o_8 | h_8 | j_8 => exact rfl); (case t_8 => exact Ht3.out); (case i_8 => exact size_look); (case s_8 => exact lookC_one _ _ _ _ _ _ _ _ _ _)) | ((with_reducible refine wpList_load_row ?g_9 37 ?x_9 ?o_9 (L) ?h_9 ?t_9 ?c_9 ?f_9 ?d_9 ?b_9 ?u_9 ?s_9 ?i_9 ?r_9); (case g_9 | o_9 | h_9 => exact rfl); (case b_9 => exact HB.out); (case u_9 => exact Try.underlying37); (case s_9 => exact rfl); (case i_9 => exact size_op)) | ((with_reducible refine wpList_store_mid ?g2_9 37 ?x2_9 ?y_9 ?o2_9 w.heap.size 0 (oprC ⟨4, (x1.1, x1.2), (0, 0), x2, x3⟩ (.slice p1 n1 k1) (.slice p2 n2 k2) (.slice p3 n3 k3)) ?h2_9 ?j_9 ?t2_9 ?i2_9 ?s2_9 ?r2_9); (case g2_9 | o2_9 | h2_9 | j_9 => exact rfl); (case t2_9 => exact Hth.out); (case i2_9 => exact size_op); (case s2_9 => exact oprC_one _ _ _ _ _ _ _ _ _ _)) | fail)
        obtain ⟨d1, d2, d3, d4⟩ := Hd.out
        refine RdP.ends rfl rfl rfl d3 Try.underlying37 rfl size_op (res := oprAt bs n 4) Hres.out d2 ⟨_, _, _, rfl, HP.out.far (Mod.two (L := L) (o := 6) (vs := (lookC x3 (.slice p1 n1 k1) (.slice p2 n2 k2) (.slice p3 n3 k3)).toList) d4) Hlt.out.1 Hlt.out.2.1 Hlt.out.2.2, HS.out.far (Mod.two (L := L) (o := 6) (vs := (lookC x3 (.slice p1 n1 k1) (.slice p2 n2 k2) (.slice p3 n3 k3)).toList) d4) Hlt.out.1 Hlt.out.2.1 Hlt.out.2.2⟩ d1

set_option maxRecDepth 100000 in
set_option maxHeartbeats 4000000 in
theorem op_0 (w : World) (R : Nat) (vb : Value) (bs : List Nat) (n : Nat) (k : Int) (h : RdAt w R vb bs n) (hk1 : k ≠ 1) (hk3 : k ≠ 3) (hk4 : k ≠ 4) :
    Calls Try.prog 37 #[.pointer (some ⟨R, 0, none⟩), .int .i64 k] w (RdP w R vb bs (IsOpr w.heap.size) (oprAt bs n k)) := by
  have H := Lib.hid h
  have hR := h.lt
  clear h
  go_enter Try.func37, Try.ntmps37
  have e1 : (k == 1) = false := beq_eq_false_iff_ne.2 hk1
  have e3 : (k == 3) = false := beq_eq_false_iff_ne.2 hk3
  have e4 : (k == 4) = false := beq_eq_false_iff_ne.2 hk4
  have en : (k != 1) = true := by simp [hk1]
  have H1 := Lib.hid hk1
  clear hk1
  have H3 := Lib.hid hk3
  clear hk3
  have H4 := Lib.hid hk4
  clear hk4
  have HZ : Hid (Gou.Loc w R _ bs 37 w.heap.size (w.heap.size + 1) OpZ OpZ n ((w.alloc (.cells OpZ 37)).alloc (.cells OpZ 37))) := Lib.hid (by
    have := Loc.start H.out (Mod.refl _ (w.alloc (.cells OpZ 37))) (H.out.alloc _) OpZ
    simpa using this)
  have Ht0 := Lib.hid (HZ.out.loc.there 0 34 (by simp))
  have hp := HZ.out.puts 0 (Value.int .i64 k :: Value.int .i64 0 :: Value.int .i64 0 :: Value.int .i64 0 :: Value.int .i64 0 :: Value.int .i64 0 :: Value.int .i64 0 :: Value.int .i64 0 :: Value.bool false :: Value.int .i64 0 :: Value.int .i64 0 :: Value.int .i64 0 :: Value.int .i64 0 :: Value.int .i64 0 :: Value.int .i64 0 :: Value.int .i64 0 :: Value.int .i64 0 :: Value.int .i64 0 :: Value.int .i64 0 :: Value.int .i64 0 :: Value.int .u8 0 :: Value.int .u8 0 :: Value.int .u8 0 :: Value.int .u8 0 :: Value.int .i64 0 :: Value.int .i64 0 :: Value.int .i64 0 :: Value.slice none 0 0 :: Value.bool false :: Value.slice none 0 0 :: Value.int .i64 0 :: Value.bool false :: Value.slice none 0 0 :: Value.int .i64 0 :: [])
  rw [setMany_all _ _ (by simp)] at hp
  have Hl0 : Hid (Gou.Loc w R _ bs 37 w.heap.size (w.heap.size + 1) OpZ (List.toArray (Value.int .i64 k :: Value.int .i64 0 :: Value.int .i64 0 :: Value.int .i64 0 :: Value.int .i64 0 :: Value.int .i64 0 :: zL28)) n (((w.alloc (.cells OpZ 37)).alloc (.cells OpZ 37)).setCells (w.heap.size + 1) 0 (Value.int .i64 k :: Value.int .i64 0 :: Value.int .i64 0 :: Value.int .i64 0 :: Value.int .i64 0 :: Value.int .i64 0 :: Value.int .i64 0 :: Value.int .i64 0 :: Value.bool false :: Value.int .i64 0 :: Value.int .i64 0 :: Value.int .i64 0 :: Value.int .i64 0 :: Value.int .i64 0 :: Value.int .i64 0 :: Value.int .i64 0 :: Value.int .i64 0 :: Value.int .i64 0 :: Value.int .i64 0 :: Value.int .i64 0 :: Value.int .u8 0 :: Value.int .u8 0 :: Value.int .u8 0 :: Value.int .u8 0 :: Value.int .i64 0 :: Value.int .i64 0 :: Value.int .i64 0 :: Value.slice none 0 0 :: Value.bool false :: Value.slice none 0 0 :: Value.int .i64 0 :: Value.bool false :: Value.slice none 0 0 :: Value.int .i64 0 :: []))) := Lib.hid hp
  clear hp HZ
  go_wp2_with (first | ((with_reducible refine wpList_store_mid ?g_a 37 ?x_a ?y_a ?o_a (w.heap.size + 1) 0 (List.toArray (Value.int .i64 k :: Value.int .i64 0 :: Value.int .i64 0 :: Value.int .i64 0 :: Value.int .i64 0 :: Value.int .i64 0 :: zL28)) ?h_a ?j_a ?t_a ?i_a ?s_a ?r_a); (case g_a | o_a | h_a | j_a => exact rfl); (case t_a => exact Ht0.out); (case i_a => exact size_op); (case s_a => exact oprC_one ⟨k, (0, 0), (0, 0), 0, Lk.zero⟩ none 0 0 none 0 0 none 0 0)) | fail)
  generalize hW : ((w.alloc (.cells OpZ 37)).alloc (.cells OpZ 37)).setCells (w.heap.size + 1) 0 (Value.int .i64 k :: Value.int .i64 0 :: Value.int .i64 0 :: Value.int .i64 0 :: Value.int .i64 0 :: Value.int .i64 0 :: Value.int .i64 0 :: Value.int .i64 0 :: Value.bool false :: Value.int .i64 0 :: Value.int .i64 0 :: Value.int .i64 0 :: Value.int .i64 0 :: Value.int .i64 0 :: Value.int .i64 0 :: Value.int .i64 0 :: Value.int .i64 0 :: Value.int .i64 0 :: Value.int .i64 0 :: Value.int .i64 0 :: Value.int .u8 0 :: Value.int .u8 0 :: Value.int .u8 0 :: Value.int .u8 0 :: Value.int .i64 0 :: Value.int .i64 0 :: Value.int .i64 0 :: Value.slice none 0 0 :: Value.bool false :: Value.slice none 0 0 :: Value.int .i64 0 :: Value.bool false :: Value.slice none 0 0 :: Value.int .i64 0 :: []) = W0 at *
  generalize hL : w.heap.size + 1 = L at *
  clear hW hL
  refine (id_any _ R _ bs n Hl0.out.rd).mono ?_
  intro e w1 h1
  cases hn1 : idAt bs n with
  | none =>
    rw [hn1] at h1
    obtain ⟨rfl, hq⟩ := h1.fault (J := IsOpr w.heap.size) (res := oprAt bs n k) Hl0.out.mod (by simp [oprAt, H1.out, H3.out, H4.out, hn1])
    exact ⟨rfl, hq⟩
  | some p1 =>
    obtain ⟨x1, m1⟩ := p1
    rw [hn1] at h1
    obtain ⟨hm1, _, rfl, rfl, hr1⟩ := h1
    have Hn1 := Lib.hid hn1
    have hl1 := Hl0.out.step hm1 hr1
    clear hn1 hm1 hr1
    have c1 := hl1.loc.cell 1 rfl
    have fc1 := hl1.loc.frozen 1
    have c2 := hl1.loc.cell 2 rfl
    have fc2 := hl1.loc.frozen 2
    have hs1 := hl1.puts 1 [.int .i64 x1.1, .int .i64 x1.2]
    simp only [World.setCells, Nat.reduceAdd] at hs1
    have Hl1 : Hid (Gou.Loc w R _ bs 37 w.heap.size L OpZ (List.toArray (Value.int .i64 k :: Value.int .i64 x1.1 :: Value.int .i64 x1.2 :: Value.int .i64 0 :: Value.int .i64 0 :: Value.int .i64 0 :: zL28)) m1 _) := Lib.hid (hs1)
    clear hl1 hs1
    go_wp2_with fail
    refine (look_any _ R _ bs m1 k Hl1.out.rd).mono ?_
    intro e w2 h2
    cases hn2 : lookAt bs m1 k with
    | none =>
      rw [hn2] at h2
      obtain ⟨rfl, hq⟩ := h2.fault (J := IsOpr w.heap.size) (res := oprAt bs n k) Hl1.out.mod (by have g1 := Hn1.out; simp [oprAt, g1, H1.out, H3.out, H4.out, hn2])
      exact ⟨rfl, hq⟩
    | some p2 =>
      obtain ⟨x2, m2⟩ := p2
      rw [hn2] at h2
      obtain ⟨hm2, _, rfl, ⟨vp, vf, vb, rfl, hlr, hsoft⟩, hr2⟩ := h2
      have Hn2 := Lib.hid hn2
      obtain ⟨p1, n1, k1, p2, n2, k2, p3, n3, k3, rfl, rfl, rfl⟩ := hlr.forms
      have hLB := Blk.lt Hl1.out.loc
      have hNB := Blk.lt Hl1.out.res
      have hwB := Hl1.out.mod.size
      have HP := Lib.hid hlr
      have HS := Lib.hid hsoft
      have Hlt := Lib.hid (And.intro hLB (And.intro hNB hwB))
      clear hlr hsoft hLB hNB hwB
      have hl2 := Hl1.out.step hm2 hr2
      clear hn2 hm2 hr2
      have Ht2 := Lib.hid (hl2.loc.there 6 28 (by simp))
      have hs2 := hl2.puts 6 (lookC x2 (.slice p1 n1 k1) (.slice p2 n2 k2) (.slice p3 n3 k3)).toList
      rw [setMany_opr] at hs2
      have Hl2 := Lib.hid hs2
      clear hs2
      clear hl2
      have Hres : Hid (oprAt bs n k = some (⟨k, (x1.1, x1.2), (0, 0), 0, x2⟩, m2)) := Lib.hid (by have g1 := Hn1.out; have g2 := Hn2.out; simp [oprAt, g1, g2, H1.out, H3.out, H4.out])
      have HB : Hid (Blk _ (L) 37 (oprC ⟨k, (x1.1, x1.2), (0, 0), 0, x2⟩ (.slice p1 n1 k1) (.slice p2 n2 k2) (.slice p3 n3 k3))) := Lib.hid Hl2.out.loc
      have Hth := Lib.hid (Hl2.out.res.there 0 34 (by simp))
      have Hd := Lib.hid (Loc.done (cs := oprC ⟨k, (x1.1, x1.2), (0, 0), 0, x2⟩ (.slice p1 n1 k1) (.slice p2 n2 k2) (.slice p3 n3 k3)) Hl2.out rfl)
      go_wp2_with (first | ((with_reducible refine wpList_store_mid ?g_b 35 ?x_b ?y_b ?o_b L 6 (lookC x2 (.slice p1 n1 k1) (.slice p2 n2 k2) (.slice p3 n3 k3)) ?h_b ?j_b ?t_b ?i_b ?s_b ?r_b); (case g_b | o_b | h_b | j_b => exact rfl); (case t_b => exact Ht2.out); (case i_b => exact size_look); (case s_b => exact lookC_one _ _ _ _ _ _ _ _ _ _)) | ((with_reducible refine wpList_load_row ?g_c 37 ?x_c ?o_c (L) ?h_c ?t_c ?c_c ?f_c ?d_c ?b_c ?u_c ?s_c ?i_c ?r_c); (case g_c | o_c | h_c => exact rfl); (case b_c => exact HB.out); (case u_c => exact Try.underlying37); (case s_c => exact rfl); (case i_c => exact size_op)) | ((with_reducible refine wpList_store_mid ?g2_c 37 ?x2_c ?y_c ?o2_c w.heap.size 0 (oprC ⟨k, (x1.1, x1.2), (0, 0), 0, x2⟩ (.slice p1 n1 k1) (.slice p2 n2 k2) (.slice p3 n3 k3)) ?h2_c ?j_c ?t2_c ?i2_c ?s2_c ?r2_c); (case g2_c | o2_c | h2_c | j_c => exact rfl); (case t2_c => exact Hth.out); (case i2_c => exact size_op); (case s2_c => exact oprC_one _ _ _ _ _ _ _ _ _ _)) | fail)
      obtain ⟨d1, d2, d3, d4⟩ := Hd.out
      refine RdP.ends rfl rfl rfl d3 Try.underlying37 rfl size_op (res := oprAt bs n k) Hres.out d2 ⟨_, _, _, rfl, HP.out.far (Mod.two (L := L) (o := 6) (vs := (lookC x2 (.slice p1 n1 k1) (.slice p2 n2 k2) (.slice p3 n3 k3)).toList) d4) Hlt.out.1 Hlt.out.2.1 Hlt.out.2.2, HS.out.far (Mod.two (L := L) (o := 6) (vs := (lookC x2 (.slice p1 n1 k1) (.slice p2 n2 k2) (.slice p3 n3 k3)).toList) d4) Hlt.out.1 Hlt.out.2.1 Hlt.out.2.2⟩ d1

theorem op_any (w : World) (R : Nat) (vb : Value) (bs : List Nat) (n : Nat) (k : Int) (h : RdAt w R vb bs n) :
    Calls Try.prog 37 #[.pointer (some ⟨R, 0, none⟩), .int .i64 k] w (RdP w R vb bs (IsOpr w.heap.size) (oprAt bs n k)) := by
  by_cases hk1 : k = 1
  · subst hk1; exact op_1 w R vb bs n h
  by_cases hk3 : k = 3
  · subst hk3; exact op_3 w R vb bs n h
  by_cases hk4 : k = 4
  · subst hk4; exact op_4 w R vb bs n h
  exact op_0 w R vb bs n k h hk1 hk3 hk4

end Go.Proofs.Ytnamnmipgpcjjaa

