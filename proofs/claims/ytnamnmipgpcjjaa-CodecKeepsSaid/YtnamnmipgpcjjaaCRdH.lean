/- Acts as bytes: a content. -/
import Derived.Test.YtnamnmipgpcjjaaCRdG
namespace Go.Proofs.Ytnamnmipgpcjjaa
open Go.RowKit Go.Gou

set_option maxRecDepth 100000 in
set_option maxHeartbeats 1000000 in
theorem content_any (w : World) (R : Nat) (vb : Value) (bs : List Nat) (n : Nat) (h : RdAt w R vb bs n) :
    Calls Try.prog 65 #[.pointer (some ⟨R, 0, none⟩)] w (RdP w R vb bs (IsContent w.heap.size) (contentAt bs n)) := by
  have H := Lib.hid h
  have hR := h.lt
  obtain ⟨pb, cb, rfl⟩ := h.bytes.len
  clear h
  obtain ⟨iP, hiP, hz0, hz1, hz2⟩ := info_parts info_px
  have hz3 : (Value.agg #[.int .u8 0, .int .u8 0, .int .u8 0, .int .u8 0]).cells.size = 4 := rfl
  go_enter Try.func65, Try.ntmps65
  go_wp2_with fail
  refine (number_any _ R _ bs n (H.out.alloc _)).mono ?_
  intro e w1 h1
  cases hn1 : numAt bs n with
  | none =>
    rw [hn1] at h1
    obtain ⟨rfl, hq⟩ := h1.fault (J := IsContent w.heap.size) (res := contentAt bs n) (Mod.alloc _ _ _) (by simp [contentAt, hn1])
    exact ⟨rfl, hq⟩
  | some p1 =>
    obtain ⟨x1, m1⟩ := p1
    rw [hn1] at h1
    obtain ⟨hm1, _, rfl, rfl, hr1⟩ := h1
    have Hl1 := Lib.hid (Loc.start H.out hm1 hr1 #[.int .i64 x1, .int .i64 0, .int .i64 0, .int .i64 0, .int .i64 0, .int .u8 0, .int .u8 0, .int .u8 0, .int .u8 0, .int .i64 0, .int .i64 0, .int .i64 0, .slice none 0 0])
    have Hn1 := Lib.hid hn1
    clear hm1 hr1 hn1
    by_cases hx1 : x1 = 1
    · have Hx1 := Lib.hid hx1
      clear hx1
      have h1 := Hx1.out
      subst h1
      go_wp2_with fail
      generalize hL : w1.heap.size = L at *
      refine (box_any _ R _ bs m1 Hl1.out.rd).mono ?_
      intro e w2 h2
      cases hn2 : boxAt bs m1 with
      | none =>
        rw [hn2] at h2
        obtain ⟨rfl, hq⟩ := h2.fault (J := IsContent w.heap.size) (res := contentAt bs n) Hl1.out.mod (by have g1 := Hn1.out; simp [contentAt, g1, hn2])
        exact ⟨rfl, hq⟩
      | some p2 =>
        obtain ⟨x2, m2⟩ := p2
        rw [hn2] at h2
        obtain ⟨hm2, _, rfl, ⟨hlen2, rfl⟩, hr2⟩ := h2
        have Hn2 := Lib.hid hn2
        have hl2 := Hl1.out.step hm2 hr2
        clear hn2 hm2 hr2
        obtain ⟨a, b, c, d, rfl⟩ := list4 hlen2
        simp only [List.getD_cons_zero, List.getD_cons_succ]
        have c1 := hl2.loc.cell 1 rfl
        have fc1 := hl2.loc.frozen 1
        have c2 := hl2.loc.cell 2 rfl
        have fc2 := hl2.loc.frozen 2
        have c3 := hl2.loc.cell 3 rfl
        have fc3 := hl2.loc.frozen 3
        have c4 := hl2.loc.cell 4 rfl
        have fc4 := hl2.loc.frozen 4
        have hs2 := hl2.puts 1 [.int .i64 a, .int .i64 b, .int .i64 c, .int .i64 d]
        simp only [World.setCells, Nat.reduceAdd] at hs2
        have Hl2 : Hid (Gou.Loc w R _ bs 30 w.heap.size L #[.int .i64 0, .int .i64 0, .int .i64 0, .int .i64 0, .int .i64 0, .int .u8 0, .int .u8 0, .int .u8 0, .int .u8 0, .int .i64 0, .int .i64 0, .int .i64 0, .slice none 0 0] #[.int .i64 1, .int .i64 a, .int .i64 b, .int .i64 c, .int .i64 d, .int .u8 0, .int .u8 0, .int .u8 0, .int .u8 0, .int .i64 0, .int .i64 0, .int .i64 0, .slice none 0 0] m2 _) := Lib.hid (hs2)
        clear hl2 hs2
        go_wp2_with fail
        refine (pixel_any _ R _ bs m2 Hl2.out.rd).mono ?_
        intro e w3 h3
        cases hn3 : pixelAt bs m2 with
        | none =>
          rw [hn3] at h3
          obtain ⟨rfl, hq⟩ := h3.fault (J := IsContent w.heap.size) (res := contentAt bs n) Hl2.out.mod (by have g1 := Hn1.out; have g2 := Hn2.out; simp [contentAt, g1, g2, hn3])
          exact ⟨rfl, hq⟩
        | some p3 =>
          obtain ⟨x3, m3⟩ := p3
          rw [hn3] at h3
          obtain ⟨hm3, _, rfl, ⟨hlen3, rfl⟩, hr3⟩ := h3
          have Hn3 := Lib.hid hn3
          have hl3 := Hl2.out.step hm3 hr3
          clear hn3 hm3 hr3
          obtain ⟨p0, p1, p2, p3, rfl⟩ := list4 hlen3
          simp only [List.getD_cons_zero, List.getD_cons_succ]
          have c5 := hl3.loc.cell 5 rfl
          have fc5 := hl3.loc.frozen 5
          have c6 := hl3.loc.cell 6 rfl
          have fc6 := hl3.loc.frozen 6
          have c7 := hl3.loc.cell 7 rfl
          have fc7 := hl3.loc.frozen 7
          have c8 := hl3.loc.cell 8 rfl
          have fc8 := hl3.loc.frozen 8
          have hs3 := hl3.puts 5 [.int .u8 p0, .int .u8 p1, .int .u8 p2, .int .u8 p3]
          simp only [World.setCells, Nat.reduceAdd] at hs3
          have Hl3 := Lib.hid hs3
          clear hl3 hs3
          have Hres : Hid (contentAt bs n = some (⟨1, ⟨a, b, c, d⟩, ⟨p0, p1, p2, p3⟩, 0, 0, 0, []⟩, m3)) := Lib.hid (by have g1 := Hn1.out; have g2 := Hn2.out; have g3 := Hn3.out; simp [contentAt, g1, g2, g3]; exact ⟨rfl, rfl⟩)
          have HB : Hid (Blk _ (L) 30 (contC ⟨1, ⟨a, b, c, d⟩, ⟨p0, p1, p2, p3⟩, 0, 0, 0, []⟩ (.slice none 0 0))) := Lib.hid Hl3.out.loc
          have Hth := Lib.hid (Hl3.out.res.there 0 13 (by decide))
          have Hd := Lib.hid (Loc.done (cs := contC ⟨1, ⟨a, b, c, d⟩, ⟨p0, p1, p2, p3⟩, 0, 0, 0, []⟩ (.slice none 0 0)) Hl3.out rfl)
          go_wp2_with (first | ((with_reducible refine wpList_load_row ?g1_1 30 ?x1_1 ?o1_1 (L) ?h1_1 ?t1_1 ?c1_1 ?f1_1 ?d1_1 ?b1_1 ?u1_1 ?s1_1 ?i1_1 ?r1_1); (case g1_1 => exact rfl); (case o1_1 => exact rfl); (case h1_1 => exact rfl); (case b1_1 => exact HB.out); (case u1_1 => exact Try.underlying30); (case s1_1 => exact rfl); (case i1_1 => exact size_content)) | ((with_reducible refine wpList_store_mid ?g2_1 30 ?x2_1 ?y2_1 ?o2_1 w.heap.size 0 (contC ⟨1, ⟨a, b, c, d⟩, ⟨p0, p1, p2, p3⟩, 0, 0, 0, []⟩ (.slice none 0 0)) ?h2_1 ?j2_1 ?t2_1 ?i2_1 ?s2_1 ?r2_1); (case g2_1 => exact rfl); (case o2_1 => exact rfl); (case h2_1 => exact rfl); (case j2_1 => exact rfl); (case t2_1 => exact Hth.out); (case i2_1 => exact size_content); (case s2_1 => exact contC_one _ _ _ _)) | fail)
          obtain ⟨d1, d2, d3, d4⟩ := Hd.out
          refine RdP.ends rfl rfl rfl d3 Try.underlying30 rfl size_content (res := contentAt bs n) Hres.out d2 ⟨none, 0, rfl, PixR.nil _ _, SoftB.nil _ _⟩ d1
    by_cases hx2 : x1 = 2
    · have Hx1 := Lib.hid hx2
      clear hx1 hx2
      have h1 := Hx1.out
      subst h1
      go_wp2_with fail
      generalize hL : w1.heap.size = L at *
      refine (number_any _ R _ bs m1 Hl1.out.rd).mono ?_
      intro e w2 h2
      cases hn2 : numAt bs m1 with
      | none =>
        rw [hn2] at h2
        obtain ⟨rfl, hq⟩ := h2.fault (J := IsContent w.heap.size) (res := contentAt bs n) Hl1.out.mod (by have g1 := Hn1.out; simp [contentAt, g1, hn2])
        exact ⟨rfl, hq⟩
      | some p2 =>
        obtain ⟨x2, m2⟩ := p2
        rw [hn2] at h2
        obtain ⟨hm2, _, rfl, rfl, hr2⟩ := h2
        have Hn2 := Lib.hid hn2
        have hl2 := Hl1.out.step hm2 hr2
        clear hn2 hm2 hr2
        have c1 := hl2.loc.cell 1 rfl
        have fc1 := hl2.loc.frozen 1
        have Hl2 : Hid (Gou.Loc w R _ bs 30 w.heap.size L #[.int .i64 0, .int .i64 0, .int .i64 0, .int .i64 0, .int .i64 0, .int .u8 0, .int .u8 0, .int .u8 0, .int .u8 0, .int .i64 0, .int .i64 0, .int .i64 0, .slice none 0 0] #[.int .i64 2, .int .i64 x2, .int .i64 0, .int .i64 0, .int .i64 0, .int .u8 0, .int .u8 0, .int .u8 0, .int .u8 0, .int .i64 0, .int .i64 0, .int .i64 0, .slice none 0 0] m2 _) := Lib.hid (hl2.put 1 (.int .i64 x2))
        clear hl2
        go_wp2_with fail
        refine (number_any _ R _ bs m2 Hl2.out.rd).mono ?_
        intro e w3 h3
        cases hn3 : numAt bs m2 with
        | none =>
          rw [hn3] at h3
          obtain ⟨rfl, hq⟩ := h3.fault (J := IsContent w.heap.size) (res := contentAt bs n) Hl2.out.mod (by have g1 := Hn1.out; have g2 := Hn2.out; simp [contentAt, g1, g2, hn3])
          exact ⟨rfl, hq⟩
        | some p3 =>
          obtain ⟨x3, m3⟩ := p3
          rw [hn3] at h3
          obtain ⟨hm3, _, rfl, rfl, hr3⟩ := h3
          have Hn3 := Lib.hid hn3
          have hl3 := Hl2.out.step hm3 hr3
          clear hn3 hm3 hr3
          have c2 := hl3.loc.cell 2 rfl
          have fc2 := hl3.loc.frozen 2
          have Hl3 : Hid (Gou.Loc w R _ bs 30 w.heap.size L #[.int .i64 0, .int .i64 0, .int .i64 0, .int .i64 0, .int .i64 0, .int .u8 0, .int .u8 0, .int .u8 0, .int .u8 0, .int .i64 0, .int .i64 0, .int .i64 0, .slice none 0 0] #[.int .i64 2, .int .i64 x2, .int .i64 x3, .int .i64 0, .int .i64 0, .int .u8 0, .int .u8 0, .int .u8 0, .int .u8 0, .int .i64 0, .int .i64 0, .int .i64 0, .slice none 0 0] m3 _) := Lib.hid (hl3.put 2 (.int .i64 x3))
          clear hl3
          go_wp2_with fail
          refine (number_any _ R _ bs m3 Hl3.out.rd).mono ?_
          intro e w4 h4
          cases hn4 : numAt bs m3 with
          | none =>
            rw [hn4] at h4
            obtain ⟨rfl, hq⟩ := h4.fault (J := IsContent w.heap.size) (res := contentAt bs n) Hl3.out.mod (by have g1 := Hn1.out; have g2 := Hn2.out; have g3 := Hn3.out; simp [contentAt, g1, g2, g3, hn4])
            exact ⟨rfl, hq⟩
          | some p4 =>
            obtain ⟨x4, m4⟩ := p4
            rw [hn4] at h4
            obtain ⟨hm4, _, rfl, rfl, hr4⟩ := h4
            have Hn4 := Lib.hid hn4
            have hl4 := Hl3.out.step hm4 hr4
            clear hn4 hm4 hr4
            have c9 := hl4.loc.cell 9 rfl
            have fc9 := hl4.loc.frozen 9
            have Hl4 : Hid (Gou.Loc w R _ bs 30 w.heap.size L #[.int .i64 0, .int .i64 0, .int .i64 0, .int .i64 0, .int .i64 0, .int .u8 0, .int .u8 0, .int .u8 0, .int .u8 0, .int .i64 0, .int .i64 0, .int .i64 0, .slice none 0 0] #[.int .i64 2, .int .i64 x2, .int .i64 x3, .int .i64 0, .int .i64 0, .int .u8 0, .int .u8 0, .int .u8 0, .int .u8 0, .int .i64 x4, .int .i64 0, .int .i64 0, .slice none 0 0] m4 _) := Lib.hid (hl4.put 9 (.int .i64 x4))
            clear hl4
            go_wp2_with fail
            refine (number_any _ R _ bs m4 Hl4.out.rd).mono ?_
            intro e w5 h5
            cases hn5 : numAt bs m4 with
            | none =>
              rw [hn5] at h5
              obtain ⟨rfl, hq⟩ := h5.fault (J := IsContent w.heap.size) (res := contentAt bs n) Hl4.out.mod (by have g1 := Hn1.out; have g2 := Hn2.out; have g3 := Hn3.out; have g4 := Hn4.out; simp [contentAt, g1, g2, g3, g4, hn5])
              exact ⟨rfl, hq⟩
            | some p5 =>
              obtain ⟨x5, m5⟩ := p5
              rw [hn5] at h5
              obtain ⟨hm5, _, rfl, rfl, hr5⟩ := h5
              have Hn5 := Lib.hid hn5
              have hl5 := Hl4.out.step hm5 hr5
              clear hn5 hm5 hr5
              have c10 := hl5.loc.cell 10 rfl
              have fc10 := hl5.loc.frozen 10
              have Hl5 : Hid (Gou.Loc w R _ bs 30 w.heap.size L #[.int .i64 0, .int .i64 0, .int .i64 0, .int .i64 0, .int .i64 0, .int .u8 0, .int .u8 0, .int .u8 0, .int .u8 0, .int .i64 0, .int .i64 0, .int .i64 0, .slice none 0 0] #[.int .i64 2, .int .i64 x2, .int .i64 x3, .int .i64 0, .int .i64 0, .int .u8 0, .int .u8 0, .int .u8 0, .int .u8 0, .int .i64 x4, .int .i64 x5, .int .i64 0, .slice none 0 0] m5 _) := Lib.hid (hl5.put 10 (.int .i64 x5))
              clear hl5
              go_wp2_with fail
              refine (number_any _ R _ bs m5 Hl5.out.rd).mono ?_
              intro e w6 h6
              cases hn6 : numAt bs m5 with
              | none =>
                rw [hn6] at h6
                obtain ⟨rfl, hq⟩ := h6.fault (J := IsContent w.heap.size) (res := contentAt bs n) Hl5.out.mod (by have g1 := Hn1.out; have g2 := Hn2.out; have g3 := Hn3.out; have g4 := Hn4.out; have g5 := Hn5.out; simp [contentAt, g1, g2, g3, g4, g5, hn6])
                exact ⟨rfl, hq⟩
              | some p6 =>
                obtain ⟨x6, m6⟩ := p6
                rw [hn6] at h6
                obtain ⟨hm6, _, rfl, rfl, hr6⟩ := h6
                have Hn6 := Lib.hid hn6
                have hl6 := Hl5.out.step hm6 hr6
                clear hn6 hm6 hr6
                have c11 := hl6.loc.cell 11 rfl
                have fc11 := hl6.loc.frozen 11
                have Hl6 : Hid (Gou.Loc w R _ bs 30 w.heap.size L #[.int .i64 0, .int .i64 0, .int .i64 0, .int .i64 0, .int .i64 0, .int .u8 0, .int .u8 0, .int .u8 0, .int .u8 0, .int .i64 0, .int .i64 0, .int .i64 0, .slice none 0 0] #[.int .i64 2, .int .i64 x2, .int .i64 x3, .int .i64 0, .int .i64 0, .int .u8 0, .int .u8 0, .int .u8 0, .int .u8 0, .int .i64 x4, .int .i64 x5, .int .i64 x6, .slice none 0 0] m6 _) := Lib.hid (hl6.put 11 (.int .i64 x6))
                have hv9 := hl6.loc.cell 9 rfl
                have hv10 := hl6.loc.cell 10 rfl
                clear hl6
                go_wp2_with fail
                refine (count_any _ x4 x5).mono ?_
                rintro e w7 ⟨rfl, rfl⟩
                have hk := countOf_le x4 x5
                obtain ⟨k, hkj⟩ : ∃ k, k = countOf x4 x5 := ⟨_, rfl⟩
                rw [← hkj] at hk ⊢
                have Hj : Hid (countOf x4 x5 = k) := Lib.hid hkj.symm
                clear hkj hv9 hv10
                have r0 := Hl6.out.rd.c0
                have r1 := Hl6.out.rd.c1
                have hle := Hl6.out.rd.le
                have hml := Hl6.out.rd.len
                unfold maxLen at hml
                have s1 : IntKind.i64.wrap (4 * (k : Int)) = 4 * k := IntWalk.i64_in _ (by omega)
                have s2 : IntKind.i64.wrap ((bs.length : Int) - (m6 : Int)) = bs.length - m6 := IntWalk.i64_in _ (by omega)
                by_cases hroom : 4 * k ≤ bs.length - m6
                · have e8 : decide (4 * (k : Int) ≤ (bs.length : Int) - (m6 : Int)) = true := by simp; omega
                  have Hroom := Lib.hid hroom
                  clear hroom hle hml
                  generalize hW : (w6.setCell ⟨L, 11, none⟩ (.int .i64 x6)) = W at *
                  go_wp2_with fail
                  go_quiet (first | (go_at_call 22; exact Calls.quiet_of_same (must_true _)))
                  obtain ⟨nq1, rfl⟩ : ∃ q : Nat, q = nq := ⟨_, rfl⟩
                  have Hl7 := Lib.hid (Hl6.out.drewN nq1)
                  clear r0 r1 s1 s2 e8
                  go_wp2_with fail
                  go_loopw [4] (fun c wr => ∃ (j : Nat) (ps : List (List Nat)) (q : Nat) (vs : Value), c = .int .i64 ((k : Int) - (j : Int)) ∧ j ≤ k ∧ CtIn w R (.slice pb bs.length cb) bs 30 27 w.heap.size L #[.int .i64 0, .int .i64 0, .int .i64 0, .int .i64 0, .int .i64 0, .int .u8 0, .int .u8 0, .int .u8 0, .int .u8 0, .int .i64 0, .int .i64 0, .int .i64 0, .slice none 0 0] ⟨2, ⟨x2, x3, 0, 0⟩, Pxl.zero, x4, x5, x6, []⟩ m6 j ps q vs wr) (fun c _ => (intOf c).toNat)
                  case atStart => exact ⟨0, [], m6, _, by simp, by omega, Hl7.out, World.ownsRow_nil _ _ _ _, rfl, rfl, by omega, by simp [Value.ownBlock], by simp [Value.ownBlock]⟩
                  case round =>
                    obtain ⟨j, ps, q, vs, rfl, hj, hc⟩ := hrel
                    obtain ⟨v0, c0, rfl⟩ := ownsRow_form hc.own
                    have Hc := Lib.hid hc
                    have hlc := hc.loc.loc
                    clear hc
                    by_cases hjk : j < k
                    · have e1 : decide ((0 : Int) < (k : Int) - (j : Int)) = true := by simp; omega
                      have hz12 : wr.cell? ⟨L, 12, none⟩ = some (.slice v0 j c0) := hlc.cell 12 rfl
                      have hf12 := hlc.frozen 12
                      have hpl := Hc.out.place
                      have hLw := Hc.out.loc.hL
                      have hr4 := Hroom.out
                      obtain ⟨p0, p1, p2, p3, hx⟩ := pixelAt_some (bs := bs) (n := q) (by omega)
                      have Hx := Lib.hid hx
                      have hpx := pixel_any wr.drew R _ bs q Hc.out.loc.rd.drew
                      rw [hx] at hpx
                      have Hpx : Hid (Calls Try.prog 71 #[.pointer (some ⟨R, 0, none⟩)] wr.drew fun e w2 => e = .returned (.agg #[.int .u8 p0, .int .u8 p1, .int .u8 p2, .int .u8 p3]) ∧ Mod (fun k => k = R) wr.drew w2 ∧ RdAt w2 R (.slice pb bs.length cb) bs (q + 4) ∧ w2.cell? ⟨L, 12, none⟩ = some (.slice v0 j c0) ∧ w2.frozen? ⟨L, 12, none⟩ = false ∧ L < w2.heap.size) := by
                        refine hpx.mono ?_
                        rintro e w2 ⟨hm, _, rfl, ⟨_, rfl⟩, hr⟩
                        obtain ⟨q1, q2⟩ := Hc.out.cell2 hm
                        exact ⟨rfl, hm, hr, q1, q2, Nat.lt_of_lt_of_le (Blk.lt Hc.out.loc.loc) hm.size⟩
                      clear hpx hx hlc hpl hr4
                      have Hk := Lib.hid hk
                      go_wp2_with fail
                      go_region_law (first | (refine step_append_lies _ (by rfl) _ _ _ (by rfl) w.heap.size 27 iP _ 4 4 Try.underlying28 hiP hz0 hz1 hz2 hz3 (by omega) (.slice v0 j c0) j (pxs (ps.map Pxl.of)) (by rfl) (Hc.out.own2 hm2 _) ⟨_, 0, none⟩ 1 1 [.int .u8 p0, .int .u8 p1, .int .u8 p2, .int .u8 p3] (by rfl) (by rfl) (news_at (heap_at (by simp)) rfl) (by simp [Value.oneCell']) (by omega) (by unfold maxLen; omega) (by omega) (by simp; omega) _ rfl ?_; intro gg cp w4 hown4 hgrow4 hat4 hlt4; have hcf4 := Hc.out.cell4 hm2 hgrow4; obtain ⟨hc4, hf4⟩ := hcf4) | (go_simp; go_at_call 71; refine Hpx.out.mono ?_; rintro e w2 ⟨rfl, hm2, hr2, hc2, hf2, hs2⟩; dsimp only) | fail)
                      all_goals
                        have HC := Lib.hid (Hc.out.step hm2 Hx.out hr2 rfl hown4 hgrow4 (by simpa using hat4))
                        clear hc2 hf2 hown4 hgrow4 hat4 hlt4 hc4 hf4 hm2 hr2
                        go_wp2_with fail
                        go_roundw
                        case rel => exact ⟨j + 1, _, _, _, by go_num, by omega, HC.out⟩
                        case measure => simp [intOf]; omega
                    · obtain rfl : j = k := by omega
                      have e1 : decide ((0 : Int) < (j : Int) - (j : Int)) = false := by simp
                      clear hlc
                      have hlen := Hc.out.len
                      have Hres : Hid (contentAt bs n = some (⟨2, ⟨x2, x3, 0, 0⟩, Pxl.zero, x4, x5, x6, ps.map Pxl.of⟩, q)) := Lib.hid (by
                        have g8 := Hc.out.at_
                        have g9 := Hj.out
                        have ga := Hroom.out
                        have g1 := Hn1.out
                        have g2 := Hn2.out
                        have g3 := Hn3.out
                        have g4 := Hn4.out
                        have g5 := Hn5.out
                        have g6 := Hn6.out
                        simp [contentAt, g1, g2, g3, g4, g5, g6, g9, g8, ga])
                      have HB : Hid (Blk _ (L) 30 (contC ⟨2, ⟨x2, x3, 0, 0⟩, Pxl.zero, x4, x5, x6, []⟩ (.slice v0 j c0))) := Lib.hid Hc.out.loc.loc
                      have Hth := Lib.hid (Hc.out.loc.res.there 0 13 (by decide))
                      have Hd := Lib.hid (Loc.done (cs := contC ⟨2, ⟨x2, x3, 0, 0⟩, Pxl.zero, x4, x5, x6, []⟩ (.slice v0 j c0)) Hc.out.loc rfl)
                      go_wp2_with (first | ((with_reducible refine wpList_load_row ?g1_2 30 ?x1_2 ?o1_2 (L) ?h1_2 ?t1_2 ?c1_2 ?f1_2 ?d1_2 ?b1_2 ?u1_2 ?s1_2 ?i1_2 ?r1_2); (case g1_2 => exact rfl); (case o1_2 => exact rfl); (case h1_2 => exact rfl); (case b1_2 => exact HB.out); (case u1_2 => exact Try.underlying30); (case s1_2 => exact rfl); (case i1_2 => exact size_content)) | ((with_reducible refine wpList_store_mid ?g2_2 30 ?x2_2 ?y2_2 ?o2_2 w.heap.size 0 (contC ⟨2, ⟨x2, x3, 0, 0⟩, Pxl.zero, x4, x5, x6, []⟩ (.slice v0 j c0)) ?h2_2 ?j2_2 ?t2_2 ?i2_2 ?s2_2 ?r2_2); (case g2_2 => exact rfl); (case o2_2 => exact rfl); (case h2_2 => exact rfl); (case j2_2 => exact rfl); (case t2_2 => exact Hth.out); (case i2_2 => exact size_content); (case s2_2 => exact contC_one _ _ _ _)) | fail)
                      obtain ⟨d1, d2, d3, d4⟩ := Hd.out
                      refine RdP.ends rfl rfl rfl d3 Try.underlying30 rfl size_content (res := contentAt bs n) Hres.out d2 ?_ d1
                      have hl2 : (ps.map Pxl.of).length = j := by simp [hlen]
                      refine ⟨v0, c0, by rw [hl2]; rfl, ?_, ?_⟩
                      · rw [hl2]
                        show RowG _ _ 4 _ _ _
                        have r1 : RowG (fun b => w.heap.size ≤ b ∧ b ≠ w.heap.size) wr 4 (.slice v0 j c0) j (pxs (ps.map Pxl.of)) := RowG.own_of Hc.out.own (fun b hb hB => ⟨hB, fun e => Hc.out.neN (e ▸ hb)⟩)
                        rw [hl2]
                        exact (RowG.mod r1 d4 (fun k _ hG => hG.2)).imp fun k _ hG => hG.1
                      · rw [hl2]
                        exact SoftB.of_own (ownsRow_mod Hc.out.own d4 (fun b hb e => Hc.out.neN (e ▸ hb)))
                · have e8 : decide (4 * (k : Int) ≤ (bs.length : Int) - (m6 : Int)) = false := by simp; omega
                  have hno : ¬ 4 * k ≤ bs.length - m6 := hroom
                  have Hno : Hid (contentAt bs n = none) := Lib.hid (by have g1 := Hn1.out; have g2 := Hn2.out; have g3 := Hn3.out; have g4 := Hn4.out; have g5 := Hn5.out; have g6 := Hn6.out; have g9 := Hj.out; simp [contentAt, g1, g2, g3, g4, g5, g6, g9, hno])
                  clear hroom hle hml hno
                  generalize hW : (w6.setCell ⟨L, 11, none⟩ (.int .i64 x6)) = W at *
                  go_wp2_with fail
                  go_still_tail 13, (by kernel_rfl)
                  change wpList _ _ _ _ _ W.drew
                  have Hd := Lib.hid Hl6.out.rd.drew
                  have Hm := Lib.hid (Hl6.out.mod.trans' (Mod.drew (fun k => k = R) W))
                  generalize W.drew = w2 at *
                  clear r0 r1 s1 s2
                  go_wp2_with (first | (go_at_call 22; refine (must_false _).mono ?_; rintro e w' ⟨rfl, rfl⟩))
                  exact ⟨rfl, Hm.out, by rw [Hno.out]; exact ⟨rfl, _, Hd.out⟩⟩
    have e1 : (x1 == 1) = false := beq_eq_false_iff_ne.2 hx1
    have e2 : (x1 == 2) = false := beq_eq_false_iff_ne.2 hx2
    have H1 := Lib.hid hx1
    have H2 := Lib.hid hx2
    clear hx1 hx2
    have Hres : Hid (contentAt bs n = some (⟨x1, Rc.zero, Pxl.zero, 0, 0, 0, []⟩, m1)) := Lib.hid (by have g1 := Hn1.out; simp [contentAt, g1, H1.out, H2.out])
    have HB : Hid (Blk _ (w1.heap.size) 30 (contC ⟨x1, Rc.zero, Pxl.zero, 0, 0, 0, []⟩ (.slice none 0 0))) := Lib.hid Hl1.out.loc
    have Hth := Lib.hid (Hl1.out.res.there 0 13 (by decide))
    have Hd := Lib.hid (Loc.done (cs := contC ⟨x1, Rc.zero, Pxl.zero, 0, 0, 0, []⟩ (.slice none 0 0)) Hl1.out rfl)
    go_wp2_with (first | ((with_reducible refine wpList_load_row ?g1_3 30 ?x1_3 ?o1_3 (w1.heap.size) ?h1_3 ?t1_3 ?c1_3 ?f1_3 ?d1_3 ?b1_3 ?u1_3 ?s1_3 ?i1_3 ?r1_3); (case g1_3 => exact rfl); (case o1_3 => exact rfl); (case h1_3 => exact rfl); (case b1_3 => exact HB.out); (case u1_3 => exact Try.underlying30); (case s1_3 => exact rfl); (case i1_3 => exact size_content)) | ((with_reducible refine wpList_store_mid ?g2_3 30 ?x2_3 ?y2_3 ?o2_3 w.heap.size 0 (contC ⟨x1, Rc.zero, Pxl.zero, 0, 0, 0, []⟩ (.slice none 0 0)) ?h2_3 ?j2_3 ?t2_3 ?i2_3 ?s2_3 ?r2_3); (case g2_3 => exact rfl); (case o2_3 => exact rfl); (case h2_3 => exact rfl); (case j2_3 => exact rfl); (case t2_3 => exact Hth.out); (case i2_3 => exact size_content); (case s2_3 => exact contC_one _ _ _ _)) | fail)
    obtain ⟨d1, d2, d3, d4⟩ := Hd.out
    refine RdP.ends rfl rfl rfl d3 Try.underlying30 rfl size_content (res := contentAt bs n) Hres.out d2 ⟨none, 0, rfl, PixR.nil _ _, SoftB.nil _ _⟩ d1

end Go.Proofs.Ytnamnmipgpcjjaa
