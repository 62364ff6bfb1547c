/- Texts of the codec's proofs, laid together: CRdK. -/
import Derived.Test.YtnamnmipgpcjjaaYCRdJ
set_option linter.unusedSimpArgs false
set_option linter.unusedVariables false
set_option linter.unusedSectionVars false
set_option linter.constructorNameAsVariable false

/- Acts as bytes: an act. -/
namespace Go.Gou
open Go.RowKit

def actAt (bs : List Nat) (n : Nat) : Option (Ac × Nat) := (rawAt bs n).bind fun b =>
  if 1 ≤ b.1 ∧ b.1 ≤ 14 then
    if b.1 = 12 then (numAt bs b.2).bind fun x => (numAt bs x.2).bind fun y => some (⟨12, Opr.zero, x.1, y.1, Cf.zero⟩, y.2)
    else if b.1 = 13 then (confAt bs b.2).bind fun c => some (⟨13, Opr.zero, 0, 0, c.1⟩, c.2)
    else if b.1 = 14 then some (⟨14, Opr.zero, 0, 0, Cf.zero⟩, b.2)
    else (oprAt bs b.2 b.1).bind fun o => some (⟨b.1, o.1, 0, 0, Cf.zero⟩, o.2)
  else none

theorem actC_one (o : Ac) (p1 : Option Addr) (n1 k1 : Nat) (p2 : Option Addr) (n2 k2 : Nat) (p3 : Option Addr) (n3 k3 : Nat) : (actC o (.slice p1 n1 k1) (.slice p2 n2 k2) (.slice p3 n3 k3)).all (·.oneCell') = true := by simp [actC, Value.oneCell']

theorem setMany_act (k : Int) (o : Opr) (vp vf vb : Value) : setMany (List.toArray (Value.int .i64 k :: zA41)) 1 (oprC o vp vf vb).toList = actC ⟨k, o, 0, 0, Cf.zero⟩ vp vf vb := by
  simp [oprC, actC, setMany, Cf.zero]

theorem rawAt_lt {bs : List Nat} {n x m : Nat} (h : ∀ x ∈ bs, x < 256) (hx : rawAt bs n = some (x, m)) : x < 256 := by
  unfold rawAt at hx
  split at hx
  · simp only [Option.some.injEq, Prod.mk.injEq] at hx
    obtain ⟨rfl, _⟩ := hx
    exact h _ (List.getElem_mem _)
  · cases hx

end Go.Gou
namespace Go.Proofs.Ytnamnmipgpcjjaa
open Go.RowKit Go.Gou

def IsAct (B : Nat) (w : World) (v : Value) (a : Ac) : Prop := ∃ vp vf vb, v = .agg (actC a vp vf vb) ∧ LookR (fun b => B ≤ b) w a.op.look vp vf vb ∧ SoftB B w vp

set_option maxRecDepth 100000 in
set_option maxHeartbeats 4000000 in
theorem act_any (w : World) (R : Nat) (vb : Value) (bs : List Nat) (n : Nat) (h : RdAt w R vb bs n) :
    Calls Try.prog 24 #[.pointer (some ⟨R, 0, none⟩)] w (RdP w R vb bs (IsAct w.heap.size) (actAt bs n)) := by
  have H := Lib.hid h
  have hR := h.lt
  clear h
  go_enter Try.func24, Try.ntmps24
  go_wp2_with fail
  refine (raw_any _ R vb bs n (H.out.alloc _)).mono ?_
  intro e w1 h1
  cases hn1 : rawAt bs n with
  | none =>
    rw [hn1] at h1
    obtain ⟨rfl, hq⟩ := h1.fault (J := IsAct w.heap.size) (res := actAt bs n) (Mod.alloc _ _ _) (by simp [actAt, hn1])
    exact ⟨rfl, hq⟩
  | some p1 =>
    obtain ⟨x1, m1⟩ := p1
    have hx256 := rawAt_lt H.out.byte hn1
    rw [hn1] at h1
    obtain ⟨hm1, _, rfl, rfl, hr1⟩ := h1
    have Hn1 := Lib.hid hn1
    have hl := Loc.start H.out hm1 hr1 AcZ
    have Ht0 := Lib.hid (hl.loc.there 0 42 (by simp))
    have hp := hl.puts 0 (Value.int .i64 (x1 : Nat) :: Value.int .i64 0 :: Value.int .i64 0 :: Value.int .i64 0 :: Value.int .i64 0 :: Value.int .i64 0 :: Value.int .i64 0 :: Value.int .i64 0 :: Value.int .i64 0 :: Value.bool false :: Value.int .i64 0 :: Value.int .i64 0 :: Value.int .i64 0 :: Value.int .i64 0 :: Value.int .i64 0 :: Value.int .i64 0 :: Value.int .i64 0 :: Value.int .i64 0 :: Value.int .i64 0 :: Value.int .i64 0 :: Value.int .i64 0 :: Value.int .u8 0 :: Value.int .u8 0 :: Value.int .u8 0 :: Value.int .u8 0 :: Value.int .i64 0 :: Value.int .i64 0 :: Value.int .i64 0 :: Value.slice none 0 0 :: Value.bool false :: Value.slice none 0 0 :: Value.int .i64 0 :: Value.bool false :: Value.slice none 0 0 :: Value.int .i64 0 :: Value.int .i64 0 :: Value.int .i64 0 :: Value.bool false :: Value.bool false :: Value.bool false :: Value.bool false :: Value.int .i64 0 :: [])
    rw [setMany_all _ _ (by simp)] at hp
    have c0 := hp.loc.cell 0 rfl
    have Hl1 := Lib.hid hp
    clear hp hl
    clear hn1 hm1 hr1
    obtain ⟨K, hK⟩ : ∃ K : Int, K = (x1 : Int) := ⟨_, rfl⟩
    rw [← hK] at Hl1 c0 ⊢
    by_cases hlo : 1 ≤ x1
    · by_cases hhi : x1 ≤ 14
      · by_cases h12 : x1 = 12
        · subst h12
          clear hlo hhi hx256
          obtain rfl : K = 12 := hK
          go_wp2_with (first | ((with_reducible refine wpList_store_mid ?g_g 41 ?x_g ?y_g ?o_g w1.heap.size 0 (List.toArray (Value.int .i64 12 :: zA41)) ?h_g ?j_g ?t_g ?i_g ?s_g ?r_g); (case g_g | o_g | h_g | j_g => exact rfl); (case t_g => exact Ht0.out); (case i_g => exact size_act); (case s_g => exact actC_one ⟨12, Opr.zero, 0, 0, Cf.zero⟩ none 0 0 none 0 0 none 0 0)) | fail)
          refine (must_true _).mono ?_
          rintro e w' ⟨rfl, rfl⟩
          go_wp2_with fail
          generalize hL : w1.heap.size = L at *
          refine (number_any _ R _ bs m1 Hl1.out.rd).mono ?_
          intro e w2 h2
          cases hn2 : numAt bs m1 with
          | none =>
            rw [hn2] at h2
            obtain ⟨rfl, hq⟩ := h2.fault (J := IsAct w.heap.size) (res := actAt bs n) Hl1.out.mod (by have g1 := Hn1.out; simp [actAt, g1, hn2])
            exact ⟨rfl, hq⟩
          | some p2 =>
            obtain ⟨x2, m2⟩ := p2
            rw [hn2] at h2
            obtain ⟨hm2, _, rfl, rfl, hr2⟩ := h2
            have Hn2 := Lib.hid hn2
            have hl2 := Hl1.out.step hm2 hr2
            clear hn2 hm2 hr2
            have c35 := hl2.loc.cell 35 rfl
            have fc35 := hl2.loc.frozen 35
            have Hl2 : Hid (Gou.Loc w R _ bs 41 w.heap.size L AcZ (List.toArray (Value.int .i64 12 :: Value.int .i64 0 :: Value.int .i64 0 :: Value.int .i64 0 :: Value.int .i64 0 :: Value.int .i64 0 :: Value.int .i64 0 :: Value.int .i64 0 :: Value.int .i64 0 :: Value.bool false :: Value.int .i64 0 :: Value.int .i64 0 :: Value.int .i64 0 :: Value.int .i64 0 :: Value.int .i64 0 :: Value.int .i64 0 :: Value.int .i64 0 :: Value.int .i64 0 :: Value.int .i64 0 :: Value.int .i64 0 :: Value.int .i64 0 :: Value.int .u8 0 :: Value.int .u8 0 :: Value.int .u8 0 :: Value.int .u8 0 :: Value.int .i64 0 :: Value.int .i64 0 :: Value.int .i64 0 :: Value.slice none 0 0 :: Value.bool false :: Value.slice none 0 0 :: Value.int .i64 0 :: Value.bool false :: Value.slice none 0 0 :: Value.int .i64 0 :: Value.int .i64 x2 :: zA6)) m2 _) := Lib.hid (hl2.put 35 (.int .i64 x2))
            clear hl2
            go_wp2_with fail
            refine (number_any _ R _ bs m2 Hl2.out.rd).mono ?_
            intro e w3 h3
            cases hn3 : numAt bs m2 with
            | none =>
              rw [hn3] at h3
              obtain ⟨rfl, hq⟩ := h3.fault (J := IsAct w.heap.size) (res := actAt bs n) Hl2.out.mod (by have g1 := Hn1.out; have g2 := Hn2.out; simp [actAt, g1, g2, hn3])
              exact ⟨rfl, hq⟩
            | some p3 =>
              obtain ⟨x3, m3⟩ := p3
              rw [hn3] at h3
              obtain ⟨hm3, _, rfl, rfl, hr3⟩ := h3
              have Hn3 := Lib.hid hn3
              have hl3 := Hl2.out.step hm3 hr3
              clear hn3 hm3 hr3
              have c36 := hl3.loc.cell 36 rfl
              have fc36 := hl3.loc.frozen 36
              have Hl3 : Hid (Gou.Loc w R _ bs 41 w.heap.size L AcZ (List.toArray (Value.int .i64 12 :: Value.int .i64 0 :: Value.int .i64 0 :: Value.int .i64 0 :: Value.int .i64 0 :: Value.int .i64 0 :: Value.int .i64 0 :: Value.int .i64 0 :: Value.int .i64 0 :: Value.bool false :: Value.int .i64 0 :: Value.int .i64 0 :: Value.int .i64 0 :: Value.int .i64 0 :: Value.int .i64 0 :: Value.int .i64 0 :: Value.int .i64 0 :: Value.int .i64 0 :: Value.int .i64 0 :: Value.int .i64 0 :: Value.int .i64 0 :: Value.int .u8 0 :: Value.int .u8 0 :: Value.int .u8 0 :: Value.int .u8 0 :: Value.int .i64 0 :: Value.int .i64 0 :: Value.int .i64 0 :: Value.slice none 0 0 :: Value.bool false :: Value.slice none 0 0 :: Value.int .i64 0 :: Value.bool false :: Value.slice none 0 0 :: Value.int .i64 0 :: Value.int .i64 x2 :: Value.int .i64 x3 :: zA5)) m3 _) := Lib.hid (hl3.put 36 (.int .i64 x3))
              clear hl3
              have Hres : Hid (actAt bs n = some (⟨12, Opr.zero, x2, x3, Cf.zero⟩, m3)) := Lib.hid (by have g1 := Hn1.out; have g2 := Hn2.out; have g3 := Hn3.out; simp [actAt, g1, g2, g3])
              have HB : Hid (Blk _ (L) 41 (actC ⟨12, Opr.zero, x2, x3, Cf.zero⟩ (.slice none 0 0) (.slice none 0 0) (.slice none 0 0))) := Lib.hid Hl3.out.loc
              have Hth := Lib.hid (Hl3.out.res.there 0 42 (by simp))
              have Hd := Lib.hid (Loc.done (cs := actC ⟨12, Opr.zero, x2, x3, Cf.zero⟩ (.slice none 0 0) (.slice none 0 0) (.slice none 0 0)) Hl3.out rfl)
              go_wp2_with (first | ((with_reducible refine wpList_load_row ?g_f 41 ?x_f ?o_f (L) ?h_f ?t_f ?c_f ?f_f ?d_f ?b_f ?u_f ?s_f ?i_f ?r_f); (case g_f | o_f | h_f => exact rfl); (case b_f => exact HB.out); (case u_f => exact Try.underlying41); (case s_f => exact rfl); (case i_f => exact size_act)) | ((with_reducible refine wpList_store_mid ?g2_f 41 ?x2_f ?y_f ?o2_f w.heap.size 0 (actC ⟨12, Opr.zero, x2, x3, Cf.zero⟩ (.slice none 0 0) (.slice none 0 0) (.slice none 0 0)) ?h2_f ?j_f ?t2_f ?i2_f ?s2_f ?r2_f); (case g2_f | o2_f | h2_f | j_f => exact rfl); (case t2_f => exact Hth.out); (case i2_f => exact size_act); (case s2_f => exact actC_one _ _ _ _ _ _ _ _ _ _)) | fail)
              obtain ⟨d1, d2, d3, d4⟩ := Hd.out
              refine RdP.ends rfl rfl rfl d3 Try.underlying41 rfl size_act (res := actAt bs n) Hres.out d2 ⟨_, _, _, rfl, LookR.nil _ _ _ rfl rfl rfl, SoftB.nil _ _⟩ d1
        by_cases h13 : x1 = 13
        · subst h13
          clear hlo hhi hx256
          obtain rfl : K = 13 := hK
          go_wp2_with (first | ((with_reducible refine wpList_store_mid ?g_i 41 ?x_i ?y_i ?o_i w1.heap.size 0 (List.toArray (Value.int .i64 13 :: zA41)) ?h_i ?j_i ?t_i ?i_i ?s_i ?r_i); (case g_i | o_i | h_i | j_i => exact rfl); (case t_i => exact Ht0.out); (case i_i => exact size_act); (case s_i => exact actC_one ⟨13, Opr.zero, 0, 0, Cf.zero⟩ none 0 0 none 0 0 none 0 0)) | fail)
          refine (must_true _).mono ?_
          rintro e w' ⟨rfl, rfl⟩
          go_wp2_with fail
          generalize hL : w1.heap.size = L at *
          refine (conf_any _ R _ bs m1 Hl1.out.rd).mono ?_
          intro e w2 h2
          cases hn2 : confAt bs m1 with
          | none =>
            rw [hn2] at h2
            obtain ⟨rfl, hq⟩ := h2.fault (J := IsAct w.heap.size) (res := actAt bs n) Hl1.out.mod (by have g1 := Hn1.out; simp [actAt, g1, hn2])
            exact ⟨rfl, hq⟩
          | some p2 =>
            obtain ⟨x2, m2⟩ := p2
            rw [hn2] at h2
            obtain ⟨hm2, _, rfl, rfl, hr2⟩ := h2
            have Hn2 := Lib.hid hn2
            simp only [confC]
            have hl2 := Hl1.out.step hm2 hr2
            clear hn2 hm2 hr2
            have c37 := hl2.loc.cell 37 rfl
            have fc37 := hl2.loc.frozen 37
            have c38 := hl2.loc.cell 38 rfl
            have fc38 := hl2.loc.frozen 38
            have c39 := hl2.loc.cell 39 rfl
            have fc39 := hl2.loc.frozen 39
            have c40 := hl2.loc.cell 40 rfl
            have fc40 := hl2.loc.frozen 40
            have c41 := hl2.loc.cell 41 rfl
            have fc41 := hl2.loc.frozen 41
            have hs2 := hl2.puts 37 [.bool x2.fuse, .bool x2.alias, .bool x2.roi, .bool x2.damage, .int .i64 x2.room]
            simp only [World.setCells, Nat.reduceAdd] at hs2
            have Hl2 : Hid (Gou.Loc w R _ bs 41 w.heap.size L AcZ (List.toArray (Value.int .i64 13 :: Value.int .i64 0 :: Value.int .i64 0 :: Value.int .i64 0 :: Value.int .i64 0 :: Value.int .i64 0 :: Value.int .i64 0 :: Value.int .i64 0 :: Value.int .i64 0 :: Value.bool false :: Value.int .i64 0 :: Value.int .i64 0 :: Value.int .i64 0 :: Value.int .i64 0 :: Value.int .i64 0 :: Value.int .i64 0 :: Value.int .i64 0 :: Value.int .i64 0 :: Value.int .i64 0 :: Value.int .i64 0 :: Value.int .i64 0 :: Value.int .u8 0 :: Value.int .u8 0 :: Value.int .u8 0 :: Value.int .u8 0 :: Value.int .i64 0 :: Value.int .i64 0 :: Value.int .i64 0 :: Value.slice none 0 0 :: Value.bool false :: Value.slice none 0 0 :: Value.int .i64 0 :: Value.bool false :: Value.slice none 0 0 :: Value.int .i64 0 :: Value.int .i64 0 :: Value.int .i64 0 :: Value.bool x2.fuse :: Value.bool x2.alias :: Value.bool x2.roi :: Value.bool x2.damage :: Value.int .i64 x2.room :: [])) m2 _) := Lib.hid (hs2)
            clear hl2 hs2
            have Hres : Hid (actAt bs n = some (⟨13, Opr.zero, 0, 0, x2⟩, m2)) := Lib.hid (by have g1 := Hn1.out; have g2 := Hn2.out; simp [actAt, g1, g2])
            have HB : Hid (Blk _ (L) 41 (actC ⟨13, Opr.zero, 0, 0, x2⟩ (.slice none 0 0) (.slice none 0 0) (.slice none 0 0))) := Lib.hid Hl2.out.loc
            have Hth := Lib.hid (Hl2.out.res.there 0 42 (by simp))
            have Hd := Lib.hid (Loc.done (cs := actC ⟨13, Opr.zero, 0, 0, x2⟩ (.slice none 0 0) (.slice none 0 0) (.slice none 0 0)) Hl2.out rfl)
            go_wp2_with (first | ((with_reducible refine wpList_load_row ?g_h 41 ?x_h ?o_h (L) ?h_h ?t_h ?c_h ?f_h ?d_h ?b_h ?u_h ?s_h ?i_h ?r_h); (case g_h | o_h | h_h => exact rfl); (case b_h => exact HB.out); (case u_h => exact Try.underlying41); (case s_h => exact rfl); (case i_h => exact size_act)) | ((with_reducible refine wpList_store_mid ?g2_h 41 ?x2_h ?y_h ?o2_h w.heap.size 0 (actC ⟨13, Opr.zero, 0, 0, x2⟩ (.slice none 0 0) (.slice none 0 0) (.slice none 0 0)) ?h2_h ?j_h ?t2_h ?i2_h ?s2_h ?r2_h); (case g2_h | o2_h | h2_h | j_h => exact rfl); (case t2_h => exact Hth.out); (case i2_h => exact size_act); (case s2_h => exact actC_one _ _ _ _ _ _ _ _ _ _)) | fail)
            obtain ⟨d1, d2, d3, d4⟩ := Hd.out
            refine RdP.ends rfl rfl rfl d3 Try.underlying41 rfl size_act (res := actAt bs n) Hres.out d2 ⟨_, _, _, rfl, LookR.nil _ _ _ rfl rfl rfl, SoftB.nil _ _⟩ d1
        by_cases h14 : x1 = 14
        · subst h14
          clear hlo hhi hx256
          obtain rfl : K = 14 := hK
          go_wp2_with (first | ((with_reducible refine wpList_store_mid ?g_j 41 ?x_j ?y_j ?o_j w1.heap.size 0 (List.toArray (Value.int .i64 14 :: zA41)) ?h_j ?j_j ?t_j ?i_j ?s_j ?r_j); (case g_j | o_j | h_j | j_j => exact rfl); (case t_j => exact Ht0.out); (case i_j => exact size_act); (case s_j => exact actC_one ⟨14, Opr.zero, 0, 0, Cf.zero⟩ none 0 0 none 0 0 none 0 0)) | fail)
          refine (must_true _).mono ?_
          rintro e w' ⟨rfl, rfl⟩
          have Hres : Hid (actAt bs n = some (⟨14, Opr.zero, 0, 0, Cf.zero⟩, m1)) := Lib.hid (by have g1 := Hn1.out; simp [actAt, g1])
          have HB : Hid (Blk _ (w1.heap.size) 41 (actC ⟨14, Opr.zero, 0, 0, Cf.zero⟩ (.slice none 0 0) (.slice none 0 0) (.slice none 0 0))) := Lib.hid Hl1.out.loc
          have Hth := Lib.hid (Hl1.out.res.there 0 42 (by simp))
          have Hd := Lib.hid (Loc.done (cs := actC ⟨14, Opr.zero, 0, 0, Cf.zero⟩ (.slice none 0 0) (.slice none 0 0) (.slice none 0 0)) Hl1.out rfl)
          go_wp2_with (first | ((with_reducible refine wpList_load_row ?g_k 41 ?x_k ?o_k (w1.heap.size) ?h_k ?t_k ?c_k ?f_k ?d_k ?b_k ?u_k ?s_k ?i_k ?r_k); (case g_k | o_k | h_k => exact rfl); (case b_k => exact HB.out); (case u_k => exact Try.underlying41); (case s_k => exact rfl); (case i_k => exact size_act)) | ((with_reducible refine wpList_store_mid ?g2_k 41 ?x2_k ?y_k ?o2_k w.heap.size 0 (actC ⟨14, Opr.zero, 0, 0, Cf.zero⟩ (.slice none 0 0) (.slice none 0 0) (.slice none 0 0)) ?h2_k ?j_k ?t2_k ?i2_k ?s2_k ?r2_k); (case g2_k | o2_k | h2_k | j_k => exact rfl); (case t2_k => exact Hth.out); (case i2_k => exact size_act); (case s2_k => exact actC_one _ _ _ _ _ _ _ _ _ _)) | fail)
          obtain ⟨d1, d2, d3, d4⟩ := Hd.out
          refine RdP.ends rfl rfl rfl d3 Try.underlying41 rfl size_act (res := actAt bs n) Hres.out d2 ⟨_, _, _, rfl, LookR.nil _ _ _ rfl rfl rfl, SoftB.nil _ _⟩ d1
        have Hr : Hid (1 ≤ x1 ∧ x1 ≤ 14) := Lib.hid ⟨hlo, hhi⟩
        have H12 := Lib.hid h12
        have H13 := Lib.hid h13
        have H14 := Lib.hid h14
        have e1 : decide (1 ≤ K) = true := by rw [hK]; simp; omega
        have e2 : decide (K ≤ 14) = true := by rw [hK]; simp; omega
        have e12 : (K == 12) = false := beq_eq_false_iff_ne.2 (by omega)
        have e13 : (K == 13) = false := beq_eq_false_iff_ne.2 (by omega)
        have e14 : (K == 14) = false := beq_eq_false_iff_ne.2 (by omega)
        have ew : wrap64 K = K := IntWalk.wrap64_in _ (by omega)
        have HK := Lib.hid hK
        clear hlo hhi h12 h13 h14 hK hx256
        go_wp2_with (first | ((with_reducible refine wpList_store_mid ?g_n 41 ?x_n ?y_n ?o_n w1.heap.size 0 (List.toArray (Value.int .i64 K :: zA41)) ?h_n ?j_n ?t_n ?i_n ?s_n ?r_n); (case g_n | o_n | h_n | j_n => exact rfl); (case t_n => exact Ht0.out); (case i_n => exact size_act); (case s_n => exact actC_one ⟨K, Opr.zero, 0, 0, Cf.zero⟩ none 0 0 none 0 0 none 0 0)) | fail)
        refine (must_true _).mono ?_
        rintro e w' ⟨rfl, rfl⟩
        go_wp2_with fail
        generalize hL : w1.heap.size = L at *
        refine (op_any _ R _ bs m1 K Hl1.out.rd).mono ?_
        intro e w2 h2
        cases hn2 : oprAt bs m1 K with
        | none =>
          rw [hn2] at h2
          obtain ⟨rfl, hq⟩ := h2.fault (J := IsAct w.heap.size) (res := actAt bs n) Hl1.out.mod (by have g1 := Hn1.out; have gr := Hr.out; have gk := HK.out; subst gk; simp [actAt, g1, hn2, gr, H12.out, H13.out, H14.out])
          exact ⟨rfl, hq⟩
        | some p2 =>
          obtain ⟨x2, m2⟩ := p2
          rw [hn2] at h2
          obtain ⟨hm2, _, rfl, ⟨vp, vf, vb, rfl, hlr, hsoft⟩, hr2⟩ := h2
          have Hn2 := Lib.hid hn2
          obtain ⟨p1, n1, k1, p2, n2, k2, p3, n3, k3, rfl, rfl, rfl⟩ := hlr.forms
          have hLB := Blk.lt Hl1.out.loc
          have hNB := Blk.lt Hl1.out.res
          have hwB := Hl1.out.mod.size
          have HP := Lib.hid hlr
          have HS := Lib.hid hsoft
          have Hlt := Lib.hid (And.intro hLB (And.intro hNB hwB))
          clear hlr hsoft hLB hNB hwB
          have hl2 := Hl1.out.step hm2 hr2
          clear hn2 hm2 hr2
          have Ht2 := Lib.hid (hl2.loc.there 1 34 (by simp))
          have hs2 := hl2.puts 1 (oprC x2 (.slice p1 n1 k1) (.slice p2 n2 k2) (.slice p3 n3 k3)).toList
          rw [setMany_act] at hs2
          have Hl2 := Lib.hid hs2
          clear hs2
          clear hl2
          have Hres : Hid (actAt bs n = some (⟨K, x2, 0, 0, Cf.zero⟩, m2)) := Lib.hid (by have g1 := Hn1.out; have g2 := Hn2.out; have gr := Hr.out; have gk := HK.out; subst gk; simp [actAt, g1, g2, gr, H12.out, H13.out, H14.out])
          have HB : Hid (Blk _ (L) 41 (actC ⟨K, x2, 0, 0, Cf.zero⟩ (.slice p1 n1 k1) (.slice p2 n2 k2) (.slice p3 n3 k3))) := Lib.hid Hl2.out.loc
          have Hth := Lib.hid (Hl2.out.res.there 0 42 (by simp))
          have Hd := Lib.hid (Loc.done (cs := actC ⟨K, x2, 0, 0, Cf.zero⟩ (.slice p1 n1 k1) (.slice p2 n2 k2) (.slice p3 n3 k3)) Hl2.out rfl)
          go_wp2_with (first | ((with_reducible refine wpList_store_mid ?g_l 37 ?x_l ?y_l ?o_l L 1 (oprC x2 (.slice p1 n1 k1) (.slice p2 n2 k2) (.slice p3 n3 k3)) ?h_l ?j_l ?t_l ?i_l ?s_l ?r_l); (case g_l | o_l | h_l | j_l => exact rfl); (case t_l => exact Ht2.out); (case i_l => exact size_op); (case s_l => exact oprC_one _ _ _ _ _ _ _ _ _ _)) | ((with_reducible refine wpList_load_row ?g_m 41 ?x_m ?o_m (L) ?h_m ?t_m ?c_m ?f_m ?d_m ?b_m ?u_m ?s_m ?i_m ?r_m); (case g_m | o_m | h_m => exact rfl); (case b_m => exact HB.out); (case u_m => exact Try.underlying41); (case s_m => exact rfl); (case i_m => exact size_act)) | ((with_reducible refine wpList_store_mid ?g2_m 41 ?x2_m ?y_m ?o2_m w.heap.size 0 (actC ⟨K, x2, 0, 0, Cf.zero⟩ (.slice p1 n1 k1) (.slice p2 n2 k2) (.slice p3 n3 k3)) ?h2_m ?j_m ?t2_m ?i2_m ?s2_m ?r2_m); (case g2_m | o2_m | h2_m | j_m => exact rfl); (case t2_m => exact Hth.out); (case i2_m => exact size_act); (case s2_m => exact actC_one _ _ _ _ _ _ _ _ _ _)) | fail)
          obtain ⟨d1, d2, d3, d4⟩ := Hd.out
          refine RdP.ends rfl rfl rfl d3 Try.underlying41 rfl size_act (res := actAt bs n) Hres.out d2 ⟨_, _, _, rfl, HP.out.far (Mod.two (L := L) (o := 1) (vs := (oprC x2 (.slice p1 n1 k1) (.slice p2 n2 k2) (.slice p3 n3 k3)).toList) d4) Hlt.out.1 Hlt.out.2.1 Hlt.out.2.2, HS.out.far (Mod.two (L := L) (o := 1) (vs := (oprC x2 (.slice p1 n1 k1) (.slice p2 n2 k2) (.slice p3 n3 k3)).toList) d4) Hlt.out.1 Hlt.out.2.1 Hlt.out.2.2⟩ d1
      · have e1 : decide (1 ≤ K) = true := by rw [hK]; simp; omega
        have e2 : decide (K ≤ 14) = false := by rw [hK]; simp; omega
        have ew : wrap64 K = K := IntWalk.wrap64_in _ (by omega)
        have Hno : Hid (actAt bs n = none) := Lib.hid (by have g1 := Hn1.out; simp [actAt, g1]; omega)
        clear hlo hhi hx256 hK
        go_wp2_with (first | ((with_reducible refine wpList_store_mid ?g_d 41 ?x_d ?y_d ?o_d w1.heap.size 0 (List.toArray (Value.int .i64 K :: zA41)) ?h_d ?j_d ?t_d ?i_d ?s_d ?r_d); (case g_d | o_d | h_d | j_d => exact rfl); (case t_d => exact Ht0.out); (case i_d => exact size_act); (case s_d => exact actC_one ⟨K, Opr.zero, 0, 0, Cf.zero⟩ none 0 0 none 0 0 none 0 0)) | fail)
        refine (must_false _).mono ?_
        rintro e w' ⟨rfl, rfl⟩
        exact ⟨rfl, Hl1.out.mod, by rw [Hno.out]; exact ⟨rfl, _, Hl1.out.rd⟩⟩
    · have e1 : decide (1 ≤ K) = false := by rw [hK]; simp; omega
      have ew : wrap64 K = K := IntWalk.wrap64_in _ (by omega)
      have Hno : Hid (actAt bs n = none) := Lib.hid (by have g1 := Hn1.out; simp [actAt, g1]; omega)
      clear hlo hx256 hK
      go_wp2_with (first | ((with_reducible refine wpList_store_mid ?g_e 41 ?x_e ?y_e ?o_e w1.heap.size 0 (List.toArray (Value.int .i64 K :: zA41)) ?h_e ?j_e ?t_e ?i_e ?s_e ?r_e); (case g_e | o_e | h_e | j_e => exact rfl); (case t_e => exact Ht0.out); (case i_e => exact size_act); (case s_e => exact actC_one ⟨K, Opr.zero, 0, 0, Cf.zero⟩ none 0 0 none 0 0 none 0 0)) | fail)
      refine (must_false _).mono ?_
      rintro e w' ⟨rfl, rfl⟩
      exact ⟨rfl, Hl1.out.mod, by rw [Hno.out]; exact ⟨rfl, _, Hl1.out.rd⟩⟩

end Go.Proofs.Ytnamnmipgpcjjaa

