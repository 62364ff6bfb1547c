/- Texts of the codec's proofs, laid together: CRdI. -/
import Derived.Test.YtnamnmipgpcjjaaZb
set_option linter.unusedSimpArgs false
set_option linter.unusedVariables false
set_option linter.unusedSectionVars false
set_option linter.constructorNameAsVariable false

/- Acts as bytes: what an operation sets. -/
namespace Go.Gou
open Go.RowKit

def lookAt (bs : List Nat) (n : Nat) (k : Int) : Option (Lk × Nat) :=
  if k = 5 then (numAt bs n).bind fun x => (numAt bs x.2).bind fun y => some ({ Lk.zero with dx := x.1, dy := y.1 }, y.2)
  else if k = 6 then (flagAt bs n).bind fun f => if f.1 then (boxAt bs f.2).bind fun b => some ({ Lk.zero with hasClip := true, clip := Rc.of b.1 }, b.2) else some (Lk.zero, f.2)
  else if k = 7 then (numAt bs n).bind fun x => some ({ Lk.zero with opacity := x.1 }, x.2)
  else if k = 8 then (numAt bs n).bind fun x => some ({ Lk.zero with mode := x.1 }, x.2)
  else if k = 9 then (contentAt bs n).bind fun c => some ({ Lk.zero with content := c.1 }, c.2)
  else if k = 10 then (flagAt bs n).bind fun f => if f.1 then (graphAt bs f.2).bind fun b => some ({ Lk.zero with hasFilt := true, filt := b.1 }, b.2) else some (Lk.zero, f.2)
  else if k = 11 then (flagAt bs n).bind fun f => if f.1 then (graphAt bs f.2).bind fun b => some ({ Lk.zero with hasBack := true, back := b.1 }, b.2) else some (Lk.zero, f.2)
  else some (Lk.zero, n)

theorem lookC_one (l : Lk) (p1 : Option Addr) (n1 k1 : Nat) (p2 : Option Addr) (n2 k2 : Nat) (p3 : Option Addr) (n3 k3 : Nat) : (lookC l (.slice p1 n1 k1) (.slice p2 n2 k2) (.slice p3 n3 k3)).all (·.oneCell') = true := by simp [lookC, Value.oneCell']

theorem PixR.far {w1 W : World} {B base L N : Nat} {v : Value} {ps : List Pxl} (h : PixR (fun b => B ≤ b) w1 v ps) (hm : Mod (fun k => k = L ∨ k = N) w1 W) (hL : L < B) (hN : N < B) (hb : base ≤ B) : PixR (fun b => base ≤ b) W v ps :=
  (RowG.mod h hm (fun k _ hG hS => by omega)).imp fun k _ hG => by omega

theorem NodesR.far {w1 W : World} {B base L N : Nat} {v : Value} {ns : List GNode} (h : NodesR (fun b => B ≤ b) w1 v ns) (hm : Mod (fun k => k = L ∨ k = N) w1 W) (hL : L < B) (hN : N < B) (hb : base ≤ B) : NodesR (fun b => base ≤ b) W v ns :=
  (NodesR.mod h hm (fun k _ hG hS => by omega)).imp fun k _ hG => by omega

theorem SoftB.far {w1 W : World} {B base L N : Nat} {v : Value} (h : SoftB B w1 v) (hm : Mod (fun k => k = L ∨ k = N) w1 W) (hL : L < B) (hN : N < B) (hb : base ≤ B) : SoftB base W v :=
  (SoftB.mod h hm (fun b hb _ hS => by omega)).low hb

theorem LookR.nil (G : Nat → Prop) (w : World) (l : Lk) (h1 : l.content.pix = []) (h2 : l.filt.nodes = []) (h3 : l.back.nodes = []) : LookR G w l (.slice none 0 0) (.slice none 0 0) (.slice none 0 0) :=
  ⟨by rw [h1]; exact PixR.nil _ _, by rw [h2]; exact NodesR.nil _ _, by rw [h3]; exact NodesR.nil _ _⟩

theorem LookR.far {w1 W : World} {B base L N : Nat} {l : Lk} {vp vf vb : Value} (h : LookR (fun b => B ≤ b) w1 l vp vf vb) (hm : Mod (fun k => k = L ∨ k = N) w1 W) (hL : L < B) (hN : N < B) (hb : base ≤ B) : LookR (fun b => base ≤ b) W l vp vf vb :=
  ⟨h.pix.far hm hL hN hb, h.filt.far hm hL hN hb, h.back.far hm hL hN hb⟩

theorem setMany_look (c : Ct) (vp : Value) : setMany LkZ 9 (contC c vp).toList = lookC { Lk.zero with content := c } vp (.slice none 0 0) (.slice none 0 0) := by
  simp [contC, lookC, setMany, Lk.zero, Rc.zero, Gr.zero]

theorem Mod.two {L N o : Nat} {vs : List Value} {w1 W : World} (h : Mod (fun k => k = N) (w1.setCells L o vs) W) : Mod (fun k => k = L ∨ k = N) w1 W :=
  ((Blk.setMod w1 L o vs).imp fun _ _ h => .inl h).trans' (h.imp fun _ _ h => .inr h)

end Go.Gou
namespace Go.Proofs.Ytnamnmipgpcjjaa
open Go.RowKit Go.Gou

def IsLook (B : Nat) (w : World) (v : Value) (l : Lk) : Prop := ∃ vp vf vb, v = .agg (lookC l vp vf vb) ∧ LookR (fun b => B ≤ b) w l vp vf vb ∧ SoftB B w vp

set_option maxRecDepth 100000 in
set_option maxHeartbeats 4000000 in
theorem look_5 (w : World) (R : Nat) (vb : Value) (bs : List Nat) (n : Nat) (h : RdAt w R vb bs n) :
    Calls Try.prog 54 #[.pointer (some ⟨R, 0, none⟩), .int .i64 5] w (RdP w R vb bs (IsLook w.heap.size) (lookAt bs n 5)) := by
  have H := Lib.hid h
  have hR := h.lt
  clear h
  go_enter Try.func54, Try.ntmps54
  go_wp2_with fail
  have Hl0 : Hid (Gou.Loc w R _ bs 35 w.heap.size (w.heap.size + 1) LkZ LkZ n ((w.alloc (.cells LkZ 35)).alloc (.cells LkZ 35))) := Lib.hid (by
    have := Loc.start H.out (Mod.refl _ (w.alloc (.cells LkZ 35))) (H.out.alloc _) LkZ
    simpa using this)
  generalize hW : (w.alloc (.cells LkZ 35)).alloc (.cells LkZ 35) = W0 at *
  generalize hL : w.heap.size + 1 = L at *
  clear hW hL
  refine (number_any _ R _ bs n Hl0.out.rd).mono ?_
  intro e w1 h1
  cases hn1 : numAt bs n with
  | none =>
    rw [hn1] at h1
    obtain ⟨rfl, hq⟩ := h1.fault (J := IsLook w.heap.size) (res := lookAt bs n 5) Hl0.out.mod (by simp [lookAt, hn1])
    exact ⟨rfl, hq⟩
  | some p1 =>
    obtain ⟨x1, m1⟩ := p1
    rw [hn1] at h1
    obtain ⟨hm1, _, rfl, rfl, hr1⟩ := h1
    have Hn1 := Lib.hid hn1
    have hl1 := Hl0.out.step hm1 hr1
    clear hn1 hm1 hr1
    have c0 := hl1.loc.cell 0 rfl
    have fc0 := hl1.loc.frozen 0
    have Hl1 : Hid (Gou.Loc w R _ bs 35 w.heap.size L LkZ (List.toArray (Value.int .i64 x1 :: zL27)) m1 _) := Lib.hid (hl1.put 0 (.int .i64 x1))
    clear hl1
    go_wp2_with fail
    refine (number_any _ R _ bs m1 Hl1.out.rd).mono ?_
    intro e w2 h2
    cases hn2 : numAt bs m1 with
    | none =>
      rw [hn2] at h2
      obtain ⟨rfl, hq⟩ := h2.fault (J := IsLook w.heap.size) (res := lookAt bs n 5) Hl1.out.mod (by have g1 := Hn1.out; simp [lookAt, g1, hn2])
      exact ⟨rfl, hq⟩
    | some p2 =>
      obtain ⟨x2, m2⟩ := p2
      rw [hn2] at h2
      obtain ⟨hm2, _, rfl, rfl, hr2⟩ := h2
      have Hn2 := Lib.hid hn2
      have hl2 := Hl1.out.step hm2 hr2
      clear hn2 hm2 hr2
      have c1 := hl2.loc.cell 1 rfl
      have fc1 := hl2.loc.frozen 1
      have Hl2 : Hid (Gou.Loc w R _ bs 35 w.heap.size L LkZ (List.toArray (Value.int .i64 x1 :: Value.int .i64 x2 :: zL26)) m2 _) := Lib.hid (hl2.put 1 (.int .i64 x2))
      clear hl2
      have Hres : Hid (lookAt bs n 5 = some ({ Lk.zero with dx := x1, dy := x2 }, m2)) := Lib.hid (by have g1 := Hn1.out; have g2 := Hn2.out; simp [lookAt, g1, g2])
      have HB : Hid (Blk _ (L) 35 (lookC { Lk.zero with dx := x1, dy := x2 } (.slice none 0 0) (.slice none 0 0) (.slice none 0 0))) := Lib.hid Hl2.out.loc
      have Hth := Lib.hid (Hl2.out.res.there 0 28 (by simp))
      have Hd := Lib.hid (Loc.done (cs := lookC { Lk.zero with dx := x1, dy := x2 } (.slice none 0 0) (.slice none 0 0) (.slice none 0 0)) Hl2.out rfl)
      go_wp2_with (first | ((with_reducible refine wpList_load_row ?g_1 35 ?x_1 ?o_1 (L) ?h_1 ?t_1 ?c_1 ?f_1 ?d_1 ?b_1 ?u_1 ?s_1 ?i_1 ?r_1); (case g_1 | o_1 | h_1 => exact rfl); (case b_1 => exact HB.out); (case u_1 => exact Try.underlying35); (case s_1 => exact rfl); (case i_1 => exact size_look)) | ((with_reducible refine wpList_store_mid ?g2_1 35 ?x2_1 ?y_1 ?o2_1 w.heap.size 0 (lookC { Lk.zero with dx := x1, dy := x2 } (.slice none 0 0) (.slice none 0 0) (.slice none 0 0)) ?h2_1 ?j_1 ?t2_1 ?i2_1 ?s2_1 ?r2_1); (case g2_1 | o2_1 | h2_1 | j_1 => exact rfl); (case t2_1 => exact Hth.out); (case i2_1 => exact size_look); (case s2_1 => exact lookC_one _ _ _ _ _ _ _ _ _ _)) | fail)
      obtain ⟨d1, d2, d3, d4⟩ := Hd.out
      refine RdP.ends rfl rfl rfl d3 Try.underlying35 rfl size_look (res := lookAt bs n 5) Hres.out d2 ⟨_, _, _, rfl, LookR.nil _ _ _ rfl rfl rfl, SoftB.nil _ _⟩ d1

set_option maxRecDepth 100000 in
set_option maxHeartbeats 4000000 in
theorem look_6 (w : World) (R : Nat) (vb : Value) (bs : List Nat) (n : Nat) (h : RdAt w R vb bs n) :
    Calls Try.prog 54 #[.pointer (some ⟨R, 0, none⟩), .int .i64 6] w (RdP w R vb bs (IsLook w.heap.size) (lookAt bs n 6)) := by
  have H := Lib.hid h
  have hR := h.lt
  clear h
  go_enter Try.func54, Try.ntmps54
  go_wp2_with fail
  have Hl0 : Hid (Gou.Loc w R _ bs 35 w.heap.size (w.heap.size + 1) LkZ LkZ n ((w.alloc (.cells LkZ 35)).alloc (.cells LkZ 35))) := Lib.hid (by
    have := Loc.start H.out (Mod.refl _ (w.alloc (.cells LkZ 35))) (H.out.alloc _) LkZ
    simpa using this)
  generalize hW : (w.alloc (.cells LkZ 35)).alloc (.cells LkZ 35) = W0 at *
  generalize hL : w.heap.size + 1 = L at *
  clear hW hL
  refine (flag_any _ R _ bs n Hl0.out.rd).mono ?_
  intro e w1 h1
  cases hn1 : flagAt bs n with
  | none =>
    rw [hn1] at h1
    obtain ⟨rfl, hq⟩ := h1.fault (J := IsLook w.heap.size) (res := lookAt bs n 6) Hl0.out.mod (by simp [lookAt, hn1])
    exact ⟨rfl, hq⟩
  | some p1 =>
    obtain ⟨x1, m1⟩ := p1
    rw [hn1] at h1
    obtain ⟨hm1, _, rfl, rfl, hr1⟩ := h1
    have Hn1 := Lib.hid hn1
    cases x1 with
    | false =>
      have hl1 := Hl0.out.step hm1 hr1
      clear hn1 hm1 hr1
      have c2 := hl1.loc.cell 2 rfl
      have fc2 := hl1.loc.frozen 2
      have Hl1 : Hid (Gou.Loc w R _ bs 35 w.heap.size L LkZ LkZ m1 _) := Lib.hid (hl1.put 2 (.bool false))
      clear hl1
      have Hres : Hid (lookAt bs n 6 = some (Lk.zero, m1)) := Lib.hid (by have g1 := Hn1.out; simp [lookAt, g1])
      have HB : Hid (Blk _ (L) 35 LkN) := Lib.hid Hl1.out.loc
      have Hth := Lib.hid (Hl1.out.res.there 0 28 (by simp))
      have Hd := Lib.hid (Loc.done (cs := LkN) Hl1.out rfl)
      go_wp2_with (first | ((with_reducible refine wpList_load_row ?g_2 35 ?x_2 ?o_2 (L) ?h_2 ?t_2 ?c_2 ?f_2 ?d_2 ?b_2 ?u_2 ?s_2 ?i_2 ?r_2); (case g_2 | o_2 | h_2 => exact rfl); (case b_2 => exact HB.out); (case u_2 => exact Try.underlying35); (case s_2 => exact rfl); (case i_2 => exact size_look)) | ((with_reducible refine wpList_store_mid ?g2_2 35 ?x2_2 ?y_2 ?o2_2 w.heap.size 0 LkN ?h2_2 ?j_2 ?t2_2 ?i2_2 ?s2_2 ?r2_2); (case g2_2 | o2_2 | h2_2 | j_2 => exact rfl); (case t2_2 => exact Hth.out); (case i2_2 => exact size_look); (case s2_2 => exact lookC_one _ _ _ _ _ _ _ _ _ _)) | fail)
      obtain ⟨d1, d2, d3, d4⟩ := Hd.out
      refine RdP.ends rfl rfl rfl d3 Try.underlying35 rfl size_look (res := lookAt bs n 6) Hres.out d2 ⟨_, _, _, rfl, LookR.nil _ _ _ rfl rfl rfl, SoftB.nil _ _⟩ d1
    | true =>
      have hl1 := Hl0.out.step hm1 hr1
      clear hn1 hm1 hr1
      have c2 := hl1.loc.cell 2 rfl
      have fc2 := hl1.loc.frozen 2
      have Hl1 : Hid (Gou.Loc w R _ bs 35 w.heap.size L LkZ (List.toArray (Value.int .i64 0 :: Value.int .i64 0 :: Value.bool true :: zL25)) m1 _) := Lib.hid (hl1.put 2 (.bool true))
      clear hl1
      go_wp2_with fail
      refine (box_any _ R _ bs m1 Hl1.out.rd).mono ?_
      intro e w2 h2
      cases hn2 : boxAt bs m1 with
      | none =>
        rw [hn2] at h2
        obtain ⟨rfl, hq⟩ := h2.fault (J := IsLook w.heap.size) (res := lookAt bs n 6) Hl1.out.mod (by have g1 := Hn1.out; simp [lookAt, g1, hn2])
        exact ⟨rfl, hq⟩
      | some p2 =>
        obtain ⟨x2, m2⟩ := p2
        rw [hn2] at h2
        obtain ⟨hm2, _, rfl, ⟨hlen2, rfl⟩, hr2⟩ := h2
        have Hn2 := Lib.hid hn2
        obtain ⟨a, b, c, d, rfl⟩ := list4 hlen2
        simp only [List.getD_cons_zero, List.getD_cons_succ]
        have hl2 := Hl1.out.step hm2 hr2
        clear hn2 hm2 hr2
        have c3 := hl2.loc.cell 3 rfl
        have fc3 := hl2.loc.frozen 3
        have c4 := hl2.loc.cell 4 rfl
        have fc4 := hl2.loc.frozen 4
        have c5 := hl2.loc.cell 5 rfl
        have fc5 := hl2.loc.frozen 5
        have c6 := hl2.loc.cell 6 rfl
        have fc6 := hl2.loc.frozen 6
        have hs2 := hl2.puts 3 [.int .i64 a, .int .i64 b, .int .i64 c, .int .i64 d]
        simp only [World.setCells, Nat.reduceAdd] at hs2
        have Hl2 : Hid (Gou.Loc w R _ bs 35 w.heap.size L LkZ (List.toArray (Value.int .i64 0 :: Value.int .i64 0 :: Value.bool true :: Value.int .i64 a :: Value.int .i64 b :: Value.int .i64 c :: Value.int .i64 d :: zL21)) m2 _) := Lib.hid (hs2)
        clear hl2 hs2
        have Hres : Hid (lookAt bs n 6 = some ({ Lk.zero with hasClip := true, clip := ⟨a, b, c, d⟩ }, m2)) := Lib.hid (by have g1 := Hn1.out; have g2 := Hn2.out; simp [lookAt, g1, g2]; rfl)
        have HB : Hid (Blk _ (L) 35 (lookC { Lk.zero with hasClip := true, clip := ⟨a, b, c, d⟩ } (.slice none 0 0) (.slice none 0 0) (.slice none 0 0))) := Lib.hid Hl2.out.loc
        have Hth := Lib.hid (Hl2.out.res.there 0 28 (by simp))
        have Hd := Lib.hid (Loc.done (cs := lookC { Lk.zero with hasClip := true, clip := ⟨a, b, c, d⟩ } (.slice none 0 0) (.slice none 0 0) (.slice none 0 0)) Hl2.out rfl)
        go_wp2_with (first | ((with_reducible refine wpList_load_row ?g_3 35 ?x_3 ?o_3 (L) ?h_3 ?t_3 ?c_3 ?f_3 ?d_3 ?b_3 ?u_3 ?s_3 ?i_3 ?r_3); (case g_3 | o_3 | h_3 => exact rfl); (case b_3 => exact HB.out); (case u_3 => exact Try.underlying35); (case s_3 => exact rfl); (case i_3 => exact size_look)) | ((with_reducible refine wpList_store_mid ?g2_3 35 ?x2_3 ?y_3 ?o2_3 w.heap.size 0 (lookC { Lk.zero with hasClip := true, clip := ⟨a, b, c, d⟩ } (.slice none 0 0) (.slice none 0 0) (.slice none 0 0)) ?h2_3 ?j_3 ?t2_3 ?i2_3 ?s2_3 ?r2_3); (case g2_3 | o2_3 | h2_3 | j_3 => exact rfl); (case t2_3 => exact Hth.out); (case i2_3 => exact size_look); (case s2_3 => exact lookC_one _ _ _ _ _ _ _ _ _ _)) | fail)
        obtain ⟨d1, d2, d3, d4⟩ := Hd.out
        refine RdP.ends rfl rfl rfl d3 Try.underlying35 rfl size_look (res := lookAt bs n 6) Hres.out d2 ⟨_, _, _, rfl, LookR.nil _ _ _ rfl rfl rfl, SoftB.nil _ _⟩ d1

set_option maxRecDepth 100000 in
set_option maxHeartbeats 4000000 in
theorem look_7 (w : World) (R : Nat) (vb : Value) (bs : List Nat) (n : Nat) (h : RdAt w R vb bs n) :
    Calls Try.prog 54 #[.pointer (some ⟨R, 0, none⟩), .int .i64 7] w (RdP w R vb bs (IsLook w.heap.size) (lookAt bs n 7)) := by
  have H := Lib.hid h
  have hR := h.lt
  clear h
  go_enter Try.func54, Try.ntmps54
  go_wp2_with fail
  have Hl0 : Hid (Gou.Loc w R _ bs 35 w.heap.size (w.heap.size + 1) LkZ LkZ n ((w.alloc (.cells LkZ 35)).alloc (.cells LkZ 35))) := Lib.hid (by
    have := Loc.start H.out (Mod.refl _ (w.alloc (.cells LkZ 35))) (H.out.alloc _) LkZ
    simpa using this)
  generalize hW : (w.alloc (.cells LkZ 35)).alloc (.cells LkZ 35) = W0 at *
  generalize hL : w.heap.size + 1 = L at *
  clear hW hL
  refine (number_any _ R _ bs n Hl0.out.rd).mono ?_
  intro e w1 h1
  cases hn1 : numAt bs n with
  | none =>
    rw [hn1] at h1
    obtain ⟨rfl, hq⟩ := h1.fault (J := IsLook w.heap.size) (res := lookAt bs n 7) Hl0.out.mod (by simp [lookAt, hn1])
    exact ⟨rfl, hq⟩
  | some p1 =>
    obtain ⟨x1, m1⟩ := p1
    rw [hn1] at h1
    obtain ⟨hm1, _, rfl, rfl, hr1⟩ := h1
    have Hn1 := Lib.hid hn1
    have hl1 := Hl0.out.step hm1 hr1
    clear hn1 hm1 hr1
    have c7 := hl1.loc.cell 7 rfl
    have fc7 := hl1.loc.frozen 7
    have Hl1 : Hid (Gou.Loc w R _ bs 35 w.heap.size L LkZ (List.toArray (Value.int .i64 0 :: Value.int .i64 0 :: Value.bool false :: Value.int .i64 0 :: Value.int .i64 0 :: Value.int .i64 0 :: Value.int .i64 0 :: Value.int .i64 x1 :: zL20)) m1 _) := Lib.hid (hl1.put 7 (.int .i64 x1))
    clear hl1
    have Hres : Hid (lookAt bs n 7 = some ({ Lk.zero with opacity := x1 }, m1)) := Lib.hid (by have g1 := Hn1.out; simp [lookAt, g1])
    have HB : Hid (Blk _ (L) 35 (lookC { Lk.zero with opacity := x1 } (.slice none 0 0) (.slice none 0 0) (.slice none 0 0))) := Lib.hid Hl1.out.loc
    have Hth := Lib.hid (Hl1.out.res.there 0 28 (by simp))
    have Hd := Lib.hid (Loc.done (cs := lookC { Lk.zero with opacity := x1 } (.slice none 0 0) (.slice none 0 0) (.slice none 0 0)) Hl1.out rfl)
    go_wp2_with (first | ((with_reducible refine wpList_load_row ?g_4 35 ?x_4 ?o_4 (L) ?h_4 ?t_4 ?c_4 ?f_4 ?d_4 ?b_4 ?u_4 ?s_4 ?i_4 ?r_4); (case g_4 | o_4 | h_4 => exact rfl); (case b_4 => exact HB.out); (case u_4 => exact Try.underlying35); (case s_4 => exact rfl); (case i_4 => exact size_look)) | ((with_reducible refine wpList_store_mid ?g2_4 35 ?x2_4 ?y_4 ?o2_4 w.heap.size 0 (lookC { Lk.zero with opacity := x1 } (.slice none 0 0) (.slice none 0 0) (.slice none 0 0)) ?h2_4 ?j_4 ?t2_4 ?i2_4 ?s2_4 ?r2_4); (case g2_4 | o2_4 | h2_4 | j_4 => exact rfl); (case t2_4 => exact Hth.out); (case i2_4 => exact size_look); (case s2_4 => exact lookC_one _ _ _ _ _ _ _ _ _ _)) | fail)
    obtain ⟨d1, d2, d3, d4⟩ := Hd.out
    refine RdP.ends rfl rfl rfl d3 Try.underlying35 rfl size_look (res := lookAt bs n 7) Hres.out d2 ⟨_, _, _, rfl, LookR.nil _ _ _ rfl rfl rfl, SoftB.nil _ _⟩ d1

set_option maxRecDepth 100000 in
set_option maxHeartbeats 4000000 in
theorem look_8 (w : World) (R : Nat) (vb : Value) (bs : List Nat) (n : Nat) (h : RdAt w R vb bs n) :
    Calls Try.prog 54 #[.pointer (some ⟨R, 0, none⟩), .int .i64 8] w (RdP w R vb bs (IsLook w.heap.size) (lookAt bs n 8)) := by
  have H := Lib.hid h
  have hR := h.lt
  clear h
  go_enter Try.func54, Try.ntmps54
  go_wp2_with fail
  have Hl0 : Hid (Gou.Loc w R _ bs 35 w.heap.size (w.heap.size + 1) LkZ LkZ n ((w.alloc (.cells LkZ 35)).alloc (.cells LkZ 35))) := Lib.hid (by
    have := Loc.start H.out (Mod.refl _ (w.alloc (.cells LkZ 35))) (H.out.alloc _) LkZ
    simpa using this)
  generalize hW : (w.alloc (.cells LkZ 35)).alloc (.cells LkZ 35) = W0 at *
  generalize hL : w.heap.size + 1 = L at *
  clear hW hL
  refine (number_any _ R _ bs n Hl0.out.rd).mono ?_
  intro e w1 h1
  cases hn1 : numAt bs n with
  | none =>
    rw [hn1] at h1
    obtain ⟨rfl, hq⟩ := h1.fault (J := IsLook w.heap.size) (res := lookAt bs n 8) Hl0.out.mod (by simp [lookAt, hn1])
    exact ⟨rfl, hq⟩
  | some p1 =>
    obtain ⟨x1, m1⟩ := p1
    rw [hn1] at h1
    obtain ⟨hm1, _, rfl, rfl, hr1⟩ := h1
    have Hn1 := Lib.hid hn1
    have hl1 := Hl0.out.step hm1 hr1
    clear hn1 hm1 hr1
    have c8 := hl1.loc.cell 8 rfl
    have fc8 := hl1.loc.frozen 8
    have Hl1 : Hid (Gou.Loc w R _ bs 35 w.heap.size L LkZ (List.toArray (Value.int .i64 0 :: Value.int .i64 0 :: Value.bool false :: Value.int .i64 0 :: Value.int .i64 0 :: Value.int .i64 0 :: Value.int .i64 0 :: Value.int .i64 0 :: Value.int .i64 x1 :: zL19)) m1 _) := Lib.hid (hl1.put 8 (.int .i64 x1))
    clear hl1
    have Hres : Hid (lookAt bs n 8 = some ({ Lk.zero with mode := x1 }, m1)) := Lib.hid (by have g1 := Hn1.out; simp [lookAt, g1])
    have HB : Hid (Blk _ (L) 35 (lookC { Lk.zero with mode := x1 } (.slice none 0 0) (.slice none 0 0) (.slice none 0 0))) := Lib.hid Hl1.out.loc
    have Hth := Lib.hid (Hl1.out.res.there 0 28 (by simp))
    have Hd := Lib.hid (Loc.done (cs := lookC { Lk.zero with mode := x1 } (.slice none 0 0) (.slice none 0 0) (.slice none 0 0)) Hl1.out rfl)
    go_wp2_with (first | ((with_reducible refine wpList_load_row ?g_5 35 ?x_5 ?o_5 (L) ?h_5 ?t_5 ?c_5 ?f_5 ?d_5 ?b_5 ?u_5 ?s_5 ?i_5 ?r_5); (case g_5 | o_5 | h_5 => exact rfl); (case b_5 => exact HB.out); (case u_5 => exact Try.underlying35); (case s_5 => exact rfl); (case i_5 => exact size_look)) | ((with_reducible refine wpList_store_mid ?g2_5 35 ?x2_5 ?y_5 ?o2_5 w.heap.size 0 (lookC { Lk.zero with mode := x1 } (.slice none 0 0) (.slice none 0 0) (.slice none 0 0)) ?h2_5 ?j_5 ?t2_5 ?i2_5 ?s2_5 ?r2_5); (case g2_5 | o2_5 | h2_5 | j_5 => exact rfl); (case t2_5 => exact Hth.out); (case i2_5 => exact size_look); (case s2_5 => exact lookC_one _ _ _ _ _ _ _ _ _ _)) | fail)
    obtain ⟨d1, d2, d3, d4⟩ := Hd.out
    refine RdP.ends rfl rfl rfl d3 Try.underlying35 rfl size_look (res := lookAt bs n 8) Hres.out d2 ⟨_, _, _, rfl, LookR.nil _ _ _ rfl rfl rfl, SoftB.nil _ _⟩ d1

set_option maxRecDepth 100000 in
set_option maxHeartbeats 4000000 in
theorem look_9 (w : World) (R : Nat) (vb : Value) (bs : List Nat) (n : Nat) (h : RdAt w R vb bs n) :
    Calls Try.prog 54 #[.pointer (some ⟨R, 0, none⟩), .int .i64 9] w (RdP w R vb bs (IsLook w.heap.size) (lookAt bs n 9)) := by
  have H := Lib.hid h
  have hR := h.lt
  clear h
  go_enter Try.func54, Try.ntmps54
  go_wp2_with fail
  have Hl0 : Hid (Gou.Loc w R _ bs 35 w.heap.size (w.heap.size + 1) LkZ LkZ n ((w.alloc (.cells LkZ 35)).alloc (.cells LkZ 35))) := Lib.hid (by
    have := Loc.start H.out (Mod.refl _ (w.alloc (.cells LkZ 35))) (H.out.alloc _) LkZ
    simpa using this)
  generalize hW : (w.alloc (.cells LkZ 35)).alloc (.cells LkZ 35) = W0 at *
  generalize hL : w.heap.size + 1 = L at *
  clear hW hL
  refine (content_any _ R _ bs n Hl0.out.rd).mono ?_
  intro e w1 h1
  cases hn1 : contentAt bs n with
  | none =>
    rw [hn1] at h1
    obtain ⟨rfl, hq⟩ := h1.fault (J := IsLook w.heap.size) (res := lookAt bs n 9) Hl0.out.mod (by simp [lookAt, hn1])
    exact ⟨rfl, hq⟩
  | some p1 =>
    obtain ⟨x1, m1⟩ := p1
    rw [hn1] at h1
    obtain ⟨hm1, _, rfl, ⟨cp, cc, rfl, hpx, hsoft⟩, hr1⟩ := h1
    have Hn1 := Lib.hid hn1
    have hLB := Blk.lt Hl0.out.loc
    have hNB := Blk.lt Hl0.out.res
    have hwB := Hl0.out.mod.size
    have HP := Lib.hid hpx
    have HS := Lib.hid hsoft
    have Hlt := Lib.hid (And.intro hLB (And.intro hNB hwB))
    clear hpx hsoft hLB hNB hwB
    have hl1 := Hl0.out.step hm1 hr1
    clear hn1 hm1 hr1
    have Ht1 := Lib.hid (hl1.loc.there 9 13 (by simp))
    have hs1 := hl1.puts 9 (contC x1 (.slice cp x1.pix.length cc)).toList
    rw [setMany_look] at hs1
    have Hl1 := Lib.hid hs1
    clear hs1
    clear hl1
    have Hres : Hid (lookAt bs n 9 = some ({ Lk.zero with content := x1 }, m1)) := Lib.hid (by have g1 := Hn1.out; simp [lookAt, g1])
    have HB : Hid (Blk _ (L) 35 (lookC { Lk.zero with content := x1 } (.slice cp x1.pix.length cc) (.slice none 0 0) (.slice none 0 0))) := Lib.hid Hl1.out.loc
    have Hth := Lib.hid (Hl1.out.res.there 0 28 (by simp))
    have Hd := Lib.hid (Loc.done (cs := lookC { Lk.zero with content := x1 } (.slice cp x1.pix.length cc) (.slice none 0 0) (.slice none 0 0)) Hl1.out rfl)
    go_wp2_with (first | ((with_reducible refine wpList_store_mid ?g_6 30 ?x_6 ?y_6 ?o_6 L 9 (contC x1 (.slice cp x1.pix.length cc)) ?h_6 ?j_6 ?t_6 ?i_6 ?s_6 ?r_6); (case g_6 | o_6 | h_6 | j_6 => exact rfl); (case t_6 => exact Ht1.out); (case i_6 => exact size_content); (case s_6 => exact contC_one _ _ _ _)) | ((with_reducible refine wpList_load_row ?g_7 35 ?x_7 ?o_7 (L) ?h_7 ?t_7 ?c_7 ?f_7 ?d_7 ?b_7 ?u_7 ?s_7 ?i_7 ?r_7); (case g_7 | o_7 | h_7 => exact rfl); (case b_7 => exact HB.out); (case u_7 => exact Try.underlying35); (case s_7 => exact rfl); (case i_7 => exact size_look)) | ((with_reducible refine wpList_store_mid ?g2_7 35 ?x2_7 ?y_7 ?o2_7 w.heap.size 0 (lookC { Lk.zero with content := x1 } (.slice cp x1.pix.length cc) (.slice none 0 0) (.slice none 0 0)) ?h2_7 ?j_7 ?t2_7 ?i2_7 ?s2_7 ?r2_7); (case g2_7 | o2_7 | h2_7 | j_7 => exact rfl); (case t2_7 => exact Hth.out); (case i2_7 => exact size_look); (case s2_7 => exact lookC_one _ _ _ _ _ _ _ _ _ _)) | fail)
    obtain ⟨d1, d2, d3, d4⟩ := Hd.out
    refine RdP.ends rfl rfl rfl d3 Try.underlying35 rfl size_look (res := lookAt bs n 9) Hres.out d2 ⟨_, _, _, rfl, ⟨HP.out.far (Mod.two (L := L) (o := 9) (vs := (contC x1 (.slice cp x1.pix.length cc)).toList) d4) Hlt.out.1 Hlt.out.2.1 Hlt.out.2.2, NodesR.nil _ _, NodesR.nil _ _⟩, HS.out.far (Mod.two (L := L) (o := 9) (vs := (contC x1 (.slice cp x1.pix.length cc)).toList) d4) Hlt.out.1 Hlt.out.2.1 Hlt.out.2.2⟩ d1

set_option maxRecDepth 100000 in
set_option maxHeartbeats 4000000 in
theorem look_10 (w : World) (R : Nat) (vb : Value) (bs : List Nat) (n : Nat) (h : RdAt w R vb bs n) :
    Calls Try.prog 54 #[.pointer (some ⟨R, 0, none⟩), .int .i64 10] w (RdP w R vb bs (IsLook w.heap.size) (lookAt bs n 10)) := by
  have H := Lib.hid h
  have hR := h.lt
  clear h
  go_enter Try.func54, Try.ntmps54
  go_wp2_with fail
  have Hl0 : Hid (Gou.Loc w R _ bs 35 w.heap.size (w.heap.size + 1) LkZ LkZ n ((w.alloc (.cells LkZ 35)).alloc (.cells LkZ 35))) := Lib.hid (by
    have := Loc.start H.out (Mod.refl _ (w.alloc (.cells LkZ 35))) (H.out.alloc _) LkZ
    simpa using this)
  generalize hW : (w.alloc (.cells LkZ 35)).alloc (.cells LkZ 35) = W0 at *
  generalize hL : w.heap.size + 1 = L at *
  clear hW hL
  refine (flag_any _ R _ bs n Hl0.out.rd).mono ?_
  intro e w1 h1
  cases hn1 : flagAt bs n with
  | none =>
    rw [hn1] at h1
    obtain ⟨rfl, hq⟩ := h1.fault (J := IsLook w.heap.size) (res := lookAt bs n 10) Hl0.out.mod (by simp [lookAt, hn1])
    exact ⟨rfl, hq⟩
  | some p1 =>
    obtain ⟨x1, m1⟩ := p1
    rw [hn1] at h1
    obtain ⟨hm1, _, rfl, rfl, hr1⟩ := h1
    have Hn1 := Lib.hid hn1
    cases x1 with
    | false =>
      have hl1 := Hl0.out.step hm1 hr1
      clear hn1 hm1 hr1
      have c22 := hl1.loc.cell 22 rfl
      have fc22 := hl1.loc.frozen 22
      have Hl1 : Hid (Gou.Loc w R _ bs 35 w.heap.size L LkZ LkZ m1 _) := Lib.hid (hl1.put 22 (.bool false))
      clear hl1
      have Hres : Hid (lookAt bs n 10 = some (Lk.zero, m1)) := Lib.hid (by have g1 := Hn1.out; simp [lookAt, g1])
      have HB : Hid (Blk _ (L) 35 LkN) := Lib.hid Hl1.out.loc
      have Hth := Lib.hid (Hl1.out.res.there 0 28 (by simp))
      have Hd := Lib.hid (Loc.done (cs := LkN) Hl1.out rfl)
      go_wp2_with (first | ((with_reducible refine wpList_load_row ?g_8 35 ?x_8 ?o_8 (L) ?h_8 ?t_8 ?c_8 ?f_8 ?d_8 ?b_8 ?u_8 ?s_8 ?i_8 ?r_8); (case g_8 | o_8 | h_8 => exact rfl); (case b_8 => exact HB.out); (case u_8 => exact Try.underlying35); (case s_8 => exact rfl); (case i_8 => exact size_look)) | ((with_reducible refine wpList_store_mid ?g2_8 35 ?x2_8 ?y_8 ?o2_8 w.heap.size 0 LkN ?h2_8 ?j_8 ?t2_8 ?i2_8 ?s2_8 ?r2_8); (case g2_8 | o2_8 | h2_8 | j_8 => exact rfl); (case t2_8 => exact Hth.out); (case i2_8 => exact size_look); (case s2_8 => exact lookC_one _ _ _ _ _ _ _ _ _ _)) | fail)
      obtain ⟨d1, d2, d3, d4⟩ := Hd.out
      refine RdP.ends rfl rfl rfl d3 Try.underlying35 rfl size_look (res := lookAt bs n 10) Hres.out d2 ⟨_, _, _, rfl, LookR.nil _ _ _ rfl rfl rfl, SoftB.nil _ _⟩ d1
    | true =>
      have hl1 := Hl0.out.step hm1 hr1
      clear hn1 hm1 hr1
      have c22 := hl1.loc.cell 22 rfl
      have fc22 := hl1.loc.frozen 22
      have Hl1 : Hid (Gou.Loc w R _ bs 35 w.heap.size L LkZ (List.toArray (Value.int .i64 0 :: Value.int .i64 0 :: Value.bool false :: Value.int .i64 0 :: Value.int .i64 0 :: Value.int .i64 0 :: Value.int .i64 0 :: Value.int .i64 0 :: Value.int .i64 0 :: Value.int .i64 0 :: Value.int .i64 0 :: Value.int .i64 0 :: Value.int .i64 0 :: Value.int .i64 0 :: Value.int .u8 0 :: Value.int .u8 0 :: Value.int .u8 0 :: Value.int .u8 0 :: Value.int .i64 0 :: Value.int .i64 0 :: Value.int .i64 0 :: Value.slice none 0 0 :: Value.bool true :: zL5)) m1 _) := Lib.hid (hl1.put 22 (.bool true))
      clear hl1
      go_wp2_with fail
      refine (graph_any _ R _ bs m1 Hl1.out.rd).mono ?_
      intro e w2 h2
      cases hn2 : graphAt bs m1 with
      | none =>
        rw [hn2] at h2
        obtain ⟨rfl, hq⟩ := h2.fault (J := IsLook w.heap.size) (res := lookAt bs n 10) Hl1.out.mod (by have g1 := Hn1.out; simp [lookAt, g1, hn2])
        exact ⟨rfl, hq⟩
      | some p2 =>
        obtain ⟨x2, m2⟩ := p2
        rw [hn2] at h2
        obtain ⟨hm2, _, rfl, ⟨gp, gc, rfl, hnd⟩, hr2⟩ := h2
        have Hn2 := Lib.hid hn2
        have hLB := Blk.lt Hl1.out.loc
        have hNB := Blk.lt Hl1.out.res
        have hwB := Hl1.out.mod.size
        have HP := Lib.hid hnd
        have Hlt := Lib.hid (And.intro hLB (And.intro hNB hwB))
        clear hnd hLB hNB hwB
        have hl2 := Hl1.out.step hm2 hr2
        clear hn2 hm2 hr2
        have c23 := hl2.loc.cell 23 rfl
        have fc23 := hl2.loc.frozen 23
        have c24 := hl2.loc.cell 24 rfl
        have fc24 := hl2.loc.frozen 24
        have hs2 := hl2.puts 23 [.slice gp x2.nodes.length gc, .int .i64 x2.out]
        simp only [World.setCells, Nat.reduceAdd] at hs2
        have Hl2 : Hid (Gou.Loc w R _ bs 35 w.heap.size L LkZ (List.toArray (Value.int .i64 0 :: Value.int .i64 0 :: Value.bool false :: Value.int .i64 0 :: Value.int .i64 0 :: Value.int .i64 0 :: Value.int .i64 0 :: Value.int .i64 0 :: Value.int .i64 0 :: Value.int .i64 0 :: Value.int .i64 0 :: Value.int .i64 0 :: Value.int .i64 0 :: Value.int .i64 0 :: Value.int .u8 0 :: Value.int .u8 0 :: Value.int .u8 0 :: Value.int .u8 0 :: Value.int .i64 0 :: Value.int .i64 0 :: Value.int .i64 0 :: Value.slice none 0 0 :: Value.bool true :: Value.slice gp x2.nodes.length gc :: Value.int .i64 x2.out :: zL3)) m2 _) := Lib.hid (hs2)
        clear hl2 hs2
        have Hres : Hid (lookAt bs n 10 = some ({ Lk.zero with hasFilt := true, filt := x2 }, m2)) := Lib.hid (by have g1 := Hn1.out; have g2 := Hn2.out; simp [lookAt, g1, g2])
        have HB : Hid (Blk _ (L) 35 (lookC { Lk.zero with hasFilt := true, filt := x2 } (.slice none 0 0) (.slice gp x2.nodes.length gc) (.slice none 0 0))) := Lib.hid Hl2.out.loc
        have Hth := Lib.hid (Hl2.out.res.there 0 28 (by simp))
        have Hd := Lib.hid (Loc.done (cs := lookC { Lk.zero with hasFilt := true, filt := x2 } (.slice none 0 0) (.slice gp x2.nodes.length gc) (.slice none 0 0)) Hl2.out rfl)
        go_wp2_with (first | ((with_reducible refine wpList_load_row ?g_9 35 ?x_9 ?o_9 (L) ?h_9 ?t_9 ?c_9 ?f_9 ?d_9 ?b_9 ?u_9 ?s_9 ?i_9 ?r_9); (case g_9 | o_9 | h_9 => exact rfl); (case b_9 => exact HB.out); (case u_9 => exact Try.underlying35); (case s_9 => exact rfl); (case i_9 => exact size_look)) | ((with_reducible refine wpList_store_mid ?g2_9 35 ?x2_9 ?y_9 ?o2_9 w.heap.size 0 (lookC { Lk.zero with hasFilt := true, filt := x2 } (.slice none 0 0) (.slice gp x2.nodes.length gc) (.slice none 0 0)) ?h2_9 ?j_9 ?t2_9 ?i2_9 ?s2_9 ?r2_9); (case g2_9 | o2_9 | h2_9 | j_9 => exact rfl); (case t2_9 => exact Hth.out); (case i2_9 => exact size_look); (case s2_9 => exact lookC_one _ _ _ _ _ _ _ _ _ _)) | fail)
        obtain ⟨d1, d2, d3, d4⟩ := Hd.out
        refine RdP.ends rfl rfl rfl d3 Try.underlying35 rfl size_look (res := lookAt bs n 10) Hres.out d2 ⟨_, _, _, rfl, ⟨PixR.nil _ _, HP.out.far (Mod.two (L := L) (o := 23) (vs := [.slice gp x2.nodes.length gc, .int .i64 x2.out]) d4) Hlt.out.1 Hlt.out.2.1 Hlt.out.2.2, NodesR.nil _ _⟩, SoftB.nil _ _⟩ d1

set_option maxRecDepth 100000 in
set_option maxHeartbeats 4000000 in
theorem look_11 (w : World) (R : Nat) (vb : Value) (bs : List Nat) (n : Nat) (h : RdAt w R vb bs n) :
    Calls Try.prog 54 #[.pointer (some ⟨R, 0, none⟩), .int .i64 11] w (RdP w R vb bs (IsLook w.heap.size) (lookAt bs n 11)) := by
  have H := Lib.hid h
  have hR := h.lt
  clear h
  go_enter Try.func54, Try.ntmps54
  go_wp2_with fail
  have Hl0 : Hid (Gou.Loc w R _ bs 35 w.heap.size (w.heap.size + 1) LkZ LkZ n ((w.alloc (.cells LkZ 35)).alloc (.cells LkZ 35))) := Lib.hid (by
    have := Loc.start H.out (Mod.refl _ (w.alloc (.cells LkZ 35))) (H.out.alloc _) LkZ
    simpa using this)
  generalize hW : (w.alloc (.cells LkZ 35)).alloc (.cells LkZ 35) = W0 at *
  generalize hL : w.heap.size + 1 = L at *
  clear hW hL
  refine (flag_any _ R _ bs n Hl0.out.rd).mono ?_
  intro e w1 h1
  cases hn1 : flagAt bs n with
  | none =>
    rw [hn1] at h1
    obtain ⟨rfl, hq⟩ := h1.fault (J := IsLook w.heap.size) (res := lookAt bs n 11) Hl0.out.mod (by simp [lookAt, hn1])
    exact ⟨rfl, hq⟩
  | some p1 =>
    obtain ⟨x1, m1⟩ := p1
    rw [hn1] at h1
    obtain ⟨hm1, _, rfl, rfl, hr1⟩ := h1
    have Hn1 := Lib.hid hn1
    cases x1 with
    | false =>
      have hl1 := Hl0.out.step hm1 hr1
      clear hn1 hm1 hr1
      have c25 := hl1.loc.cell 25 rfl
      have fc25 := hl1.loc.frozen 25
      have Hl1 : Hid (Gou.Loc w R _ bs 35 w.heap.size L LkZ LkZ m1 _) := Lib.hid (hl1.put 25 (.bool false))
      clear hl1
      have Hres : Hid (lookAt bs n 11 = some (Lk.zero, m1)) := Lib.hid (by have g1 := Hn1.out; simp [lookAt, g1])
      have HB : Hid (Blk _ (L) 35 LkN) := Lib.hid Hl1.out.loc
      have Hth := Lib.hid (Hl1.out.res.there 0 28 (by simp))
      have Hd := Lib.hid (Loc.done (cs := LkN) Hl1.out rfl)
      go_wp2_with (first | ((with_reducible refine wpList_load_row ?g_a 35 ?x_a ?o_a (L) ?h_a ?t_a ?c_a ?f_a ?d_a ?b_a ?u_a ?s_a ?i_a ?r_a); (case g_a | o_a | h_a => exact rfl); (case b_a => exact HB.out); (case u_a => exact Try.underlying35); (case s_a => exact rfl); (case i_a => exact size_look)) | ((with_reducible refine wpList_store_mid ?g2_a 35 ?x2_a ?y_a ?o2_a w.heap.size 0 LkN ?h2_a ?j_a ?t2_a ?i2_a ?s2_a ?r2_a); (case g2_a | o2_a | h2_a | j_a => exact rfl); (case t2_a => exact Hth.out); (case i2_a => exact size_look); (case s2_a => exact lookC_one _ _ _ _ _ _ _ _ _ _)) | fail)
      obtain ⟨d1, d2, d3, d4⟩ := Hd.out
      refine RdP.ends rfl rfl rfl d3 Try.underlying35 rfl size_look (res := lookAt bs n 11) Hres.out d2 ⟨_, _, _, rfl, LookR.nil _ _ _ rfl rfl rfl, SoftB.nil _ _⟩ d1
    | true =>
      have hl1 := Hl0.out.step hm1 hr1
      clear hn1 hm1 hr1
      have c25 := hl1.loc.cell 25 rfl
      have fc25 := hl1.loc.frozen 25
      have Hl1 : Hid (Gou.Loc w R _ bs 35 w.heap.size L LkZ (List.toArray (Value.int .i64 0 :: Value.int .i64 0 :: Value.bool false :: Value.int .i64 0 :: Value.int .i64 0 :: Value.int .i64 0 :: Value.int .i64 0 :: Value.int .i64 0 :: Value.int .i64 0 :: Value.int .i64 0 :: Value.int .i64 0 :: Value.int .i64 0 :: Value.int .i64 0 :: Value.int .i64 0 :: Value.int .u8 0 :: Value.int .u8 0 :: Value.int .u8 0 :: Value.int .u8 0 :: Value.int .i64 0 :: Value.int .i64 0 :: Value.int .i64 0 :: Value.slice none 0 0 :: Value.bool false :: Value.slice none 0 0 :: Value.int .i64 0 :: Value.bool true :: zL2)) m1 _) := Lib.hid (hl1.put 25 (.bool true))
      clear hl1
      go_wp2_with fail
      refine (graph_any _ R _ bs m1 Hl1.out.rd).mono ?_
      intro e w2 h2
      cases hn2 : graphAt bs m1 with
      | none =>
        rw [hn2] at h2
        obtain ⟨rfl, hq⟩ := h2.fault (J := IsLook w.heap.size) (res := lookAt bs n 11) Hl1.out.mod (by have g1 := Hn1.out; simp [lookAt, g1, hn2])
        exact ⟨rfl, hq⟩
      | some p2 =>
        obtain ⟨x2, m2⟩ := p2
        rw [hn2] at h2
        obtain ⟨hm2, _, rfl, ⟨gp, gc, rfl, hnd⟩, hr2⟩ := h2
        have Hn2 := Lib.hid hn2
        have hLB := Blk.lt Hl1.out.loc
        have hNB := Blk.lt Hl1.out.res
        have hwB := Hl1.out.mod.size
        have HP := Lib.hid hnd
        have Hlt := Lib.hid (And.intro hLB (And.intro hNB hwB))
        clear hnd hLB hNB hwB
        have hl2 := Hl1.out.step hm2 hr2
        clear hn2 hm2 hr2
        have c26 := hl2.loc.cell 26 rfl
        have fc26 := hl2.loc.frozen 26
        have c27 := hl2.loc.cell 27 rfl
        have fc27 := hl2.loc.frozen 27
        have hs2 := hl2.puts 26 [.slice gp x2.nodes.length gc, .int .i64 x2.out]
        simp only [World.setCells, Nat.reduceAdd] at hs2
        have Hl2 : Hid (Gou.Loc w R _ bs 35 w.heap.size L LkZ (List.toArray (Value.int .i64 0 :: Value.int .i64 0 :: Value.bool false :: Value.int .i64 0 :: Value.int .i64 0 :: Value.int .i64 0 :: Value.int .i64 0 :: Value.int .i64 0 :: Value.int .i64 0 :: Value.int .i64 0 :: Value.int .i64 0 :: Value.int .i64 0 :: Value.int .i64 0 :: Value.int .i64 0 :: Value.int .u8 0 :: Value.int .u8 0 :: Value.int .u8 0 :: Value.int .u8 0 :: Value.int .i64 0 :: Value.int .i64 0 :: Value.int .i64 0 :: Value.slice none 0 0 :: Value.bool false :: Value.slice none 0 0 :: Value.int .i64 0 :: Value.bool true :: Value.slice gp x2.nodes.length gc :: Value.int .i64 x2.out :: [])) m2 _) := Lib.hid (hs2)
        clear hl2 hs2
        have Hres : Hid (lookAt bs n 11 = some ({ Lk.zero with hasBack := true, back := x2 }, m2)) := Lib.hid (by have g1 := Hn1.out; have g2 := Hn2.out; simp [lookAt, g1, g2])
        have HB : Hid (Blk _ (L) 35 (lookC { Lk.zero with hasBack := true, back := x2 } (.slice none 0 0) (.slice none 0 0) (.slice gp x2.nodes.length gc))) := Lib.hid Hl2.out.loc
        have Hth := Lib.hid (Hl2.out.res.there 0 28 (by simp))
        have Hd := Lib.hid (Loc.done (cs := lookC { Lk.zero with hasBack := true, back := x2 } (.slice none 0 0) (.slice none 0 0) (.slice gp x2.nodes.length gc)) Hl2.out rfl)
        go_wp2_with (first | ((with_reducible refine wpList_load_row ?g_b 35 ?x_b ?o_b (L) ?h_b ?t_b ?c_b ?f_b ?d_b ?b_b ?u_b ?s_b ?i_b ?r_b); (case g_b | o_b | h_b => exact rfl); (case b_b => exact HB.out); (case u_b => exact Try.underlying35); (case s_b => exact rfl); (case i_b => exact size_look)) | ((with_reducible refine wpList_store_mid ?g2_b 35 ?x2_b ?y_b ?o2_b w.heap.size 0 (lookC { Lk.zero with hasBack := true, back := x2 } (.slice none 0 0) (.slice none 0 0) (.slice gp x2.nodes.length gc)) ?h2_b ?j_b ?t2_b ?i2_b ?s2_b ?r2_b); (case g2_b | o2_b | h2_b | j_b => exact rfl); (case t2_b => exact Hth.out); (case i2_b => exact size_look); (case s2_b => exact lookC_one _ _ _ _ _ _ _ _ _ _)) | fail)
        obtain ⟨d1, d2, d3, d4⟩ := Hd.out
        refine RdP.ends rfl rfl rfl d3 Try.underlying35 rfl size_look (res := lookAt bs n 11) Hres.out d2 ⟨_, _, _, rfl, ⟨PixR.nil _ _, NodesR.nil _ _, HP.out.far (Mod.two (L := L) (o := 26) (vs := [.slice gp x2.nodes.length gc, .int .i64 x2.out]) d4) Hlt.out.1 Hlt.out.2.1 Hlt.out.2.2⟩, SoftB.nil _ _⟩ d1

set_option maxRecDepth 100000 in
set_option maxHeartbeats 4000000 in
theorem look_0 (w : World) (R : Nat) (vb : Value) (bs : List Nat) (n : Nat) (k : Int) (h : RdAt w R vb bs n) (hk5 : k ≠ 5) (hk6 : k ≠ 6) (hk7 : k ≠ 7) (hk8 : k ≠ 8) (hk9 : k ≠ 9) (hk10 : k ≠ 10) (hk11 : k ≠ 11) :
    Calls Try.prog 54 #[.pointer (some ⟨R, 0, none⟩), .int .i64 k] w (RdP w R vb bs (IsLook w.heap.size) (lookAt bs n k)) := by
  have H := Lib.hid h
  have hR := h.lt
  clear h
  go_enter Try.func54, Try.ntmps54
  have e5 : (k == 5) = false := beq_eq_false_iff_ne.2 hk5
  have H5 := Lib.hid hk5
  clear hk5
  have e6 : (k == 6) = false := beq_eq_false_iff_ne.2 hk6
  have H6 := Lib.hid hk6
  clear hk6
  have e7 : (k == 7) = false := beq_eq_false_iff_ne.2 hk7
  have H7 := Lib.hid hk7
  clear hk7
  have e8 : (k == 8) = false := beq_eq_false_iff_ne.2 hk8
  have H8 := Lib.hid hk8
  clear hk8
  have e9 : (k == 9) = false := beq_eq_false_iff_ne.2 hk9
  have H9 := Lib.hid hk9
  clear hk9
  have e10 : (k == 10) = false := beq_eq_false_iff_ne.2 hk10
  have H10 := Lib.hid hk10
  clear hk10
  have e11 : (k == 11) = false := beq_eq_false_iff_ne.2 hk11
  have H11 := Lib.hid hk11
  clear hk11
  have Hl0 : Hid (Gou.Loc w R _ bs 35 w.heap.size (w.heap.size + 1) LkZ LkZ n ((w.alloc (.cells LkZ 35)).alloc (.cells LkZ 35))) := Lib.hid (by
    have := Loc.start H.out (Mod.refl _ (w.alloc (.cells LkZ 35))) (H.out.alloc _) LkZ
    simpa using this)
  have Hres : Hid (lookAt bs n k = some (Lk.zero, n)) := Lib.hid (by simp [lookAt, H5.out, H6.out, H7.out, H8.out, H9.out, H10.out, H11.out])
  have HB : Hid (Blk _ (w.heap.size + 1) 35 LkN) := Lib.hid Hl0.out.loc
  have Hth := Lib.hid (Hl0.out.res.there 0 28 (by simp))
  have Hd := Lib.hid (Loc.done (cs := LkN) Hl0.out rfl)
  go_wp2_with (first | ((with_reducible refine wpList_load_row ?g_c 35 ?x_c ?o_c (w.heap.size + 1) ?h_c ?t_c ?c_c ?f_c ?d_c ?b_c ?u_c ?s_c ?i_c ?r_c); (case g_c | o_c | h_c => exact rfl); (case b_c => exact HB.out); (case u_c => exact Try.underlying35); (case s_c => exact rfl); (case i_c => exact size_look)) | ((with_reducible refine wpList_store_mid ?g2_c 35 ?x2_c ?y_c ?o2_c w.heap.size 0 LkN ?h2_c ?j_c ?t2_c ?i2_c ?s2_c ?r2_c); (case g2_c | o2_c | h2_c | j_c => exact rfl); (case t2_c => exact Hth.out); (case i2_c => exact size_look); (case s2_c => exact lookC_one _ _ _ _ _ _ _ _ _ _)) | fail)
  obtain ⟨d1, d2, d3, d4⟩ := Hd.out
  refine RdP.ends rfl rfl rfl d3 Try.underlying35 rfl size_look (res := lookAt bs n k) Hres.out d2 ⟨_, _, _, rfl, LookR.nil _ _ _ rfl rfl rfl, SoftB.nil _ _⟩ d1

theorem look_any (w : World) (R : Nat) (vb : Value) (bs : List Nat) (n : Nat) (k : Int) (h : RdAt w R vb bs n) :
    Calls Try.prog 54 #[.pointer (some ⟨R, 0, none⟩), .int .i64 k] w (RdP w R vb bs (IsLook w.heap.size) (lookAt bs n k)) := by
  by_cases hk5 : k = 5
  · subst hk5; exact look_5 w R vb bs n h
  by_cases hk6 : k = 6
  · subst hk6; exact look_6 w R vb bs n h
  by_cases hk7 : k = 7
  · subst hk7; exact look_7 w R vb bs n h
  by_cases hk8 : k = 8
  · subst hk8; exact look_8 w R vb bs n h
  by_cases hk9 : k = 9
  · subst hk9; exact look_9 w R vb bs n h
  by_cases hk10 : k = 10
  · subst hk10; exact look_10 w R vb bs n h
  by_cases hk11 : k = 11
  · subst hk11; exact look_11 w R vb bs n h
  exact look_0 w R vb bs n k h hk5 hk6 hk7 hk8 hk9 hk10 hk11

end Go.Proofs.Ytnamnmipgpcjjaa

