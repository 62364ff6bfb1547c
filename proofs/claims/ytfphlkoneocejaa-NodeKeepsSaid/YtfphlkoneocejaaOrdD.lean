/- order.All: the walk. -/
import Derived.Test.YtfphlkoneocejaaOrdC
namespace Go.Proofs.Ytfphlkoneocejaa
open Go.RowKit Go.Gou

set_option maxHeartbeats 4000000 in
theorem all_ord (w : World) (v : Value) (g : Gr) (hg : GrV w v g) (hok : GrOk g) :
    Calls Try.prog 19 #[v] w (AllPost w g) := by
  obtain ⟨i0, hi0, hz0, hz1, hz2⟩ := info_parts info_int
  have Hg := Lib.hid hg
  have Hok := Lib.hid hok
  have hfew := hok.few
  obtain ⟨p, cap, rfl⟩ := hg.form
  clear hg hok
  go_enter Try.func19, Try.ntmps19
  go_wp2_with (first
    | (at_make; refine wpList_make_full _ rfl _ _ 25 rfl w.heap.size 3 i0 (.int .i64 0) 1 Try.underlying25 hi0 hz0 hz1 _ _ _ _ g.nodes.length rfl rfl rfl rfl ?b1 ?b2 ?b3 ?_))
  case b1 => rw [hz2]; omega
  case b2 => unfold maxLen; omega
  case b3 => simp
  intro w1 hown hgrow
  have hzb1 : w.heap.size + 1 < w1.heap.size := (hown.lt _ rfl).2
  have hb1 : Below (w.heap.size + 1) (w.alloc (.cells #[.slice p g.nodes.length cap, .int .i64 g.out] 24)) w1 := (Below.refl _ _).grown hgrow (by simp) (fun k e => by cases e)
  have hc0 : w1.cell? ⟨w.heap.size, 0, none⟩ = some (.slice p g.nodes.length cap) := by rw [hb1.cell (p := ⟨w.heap.size, 0, none⟩) (by simp)]; simp [go_sem]
  have hc1 : w1.cell? ⟨w.heap.size, 1, none⟩ = some (.int .i64 g.out) := by rw [hb1.cell (p := ⟨w.heap.size, 1, none⟩) (by simp)]; simp [go_sem]
  have hbel : Below w.heap.size w w1 := ((Below.refl _ _).alloc (Nat.le_refl _) _).trans (hb1.mono (by omega))
  have hzb0 : w.heap.size < w1.heap.size := by omega
  have hst : L1 (w.heap.size + 1) (w.heap.size + 1) (w1.heap.size + 1) g.nodes.length (insG g) 0
      ((w1.alloc (.cells #[] 3)).alloc (.cells #[.slice (some ⟨w1.heap.size, 0, none⟩) 0 0] 51)) := by
    rw [toList_madeCells_one] at hown
    have hl1 : w1.ownsRow (w.heap.size + 1) 3 1 (.slice (some ⟨w.heap.size + 1, 0, none⟩) g.nodes.length g.nodes.length) g.nodes.length (List.replicate g.nodes.length (.int .i64 0)) := by
      refine ⟨hown.1, ?_⟩
      rcases hown.2 with ⟨h, _⟩ | ⟨g', cap', cur, hv, hg', r⟩
      · cases h
      · simp only [Value.slice.injEq, Option.some.injEq, Addr.mk.injEq, and_true] at hv
        obtain ⟨rfl, _, rfl⟩ := hv
        exact .inr ⟨_, _, cur, rfl, by omega, r⟩
    have hl2 := (hl1.alloc (.cells #[] 3)).alloc (.cells #[.slice (some ⟨w1.heap.size, 0, none⟩) 0 0] 51)
    refine ⟨.slice (some ⟨w1.heap.size, 0, none⟩) 0 0, [], List.replicate g.nodes.length 0, [], ⟨⟨?_, ?_, ?_⟩, List.Perm.refl _, by simpa [iv, List.map_replicate] using hl2, by omega, ?_, by omega⟩, by simp, fun j hj => by omega, by simp, fun j => by simp⟩
    · have := Cell1.new (w1.alloc (.cells #[] 3)) 51 (.slice (some ⟨w1.heap.size, 0, none⟩) 0 0)
      simpa using this
    · have := (World.ownsRow_lit (base := w.heap.size + 1) (e := 3) (size := 1) w1 #[] 0 (by omega) (by unfold maxLen; omega) (by simp)).alloc (.cells #[.slice (some ⟨w1.heap.size, 0, none⟩) 0 0] 51)
      simpa [iv] using this
    · simp [Value.ownBlock]
    · simp [Value.ownBlock]; omega
  have hbw : Below (w.heap.size + 1) w1 ((w1.alloc (.cells #[] 3)).alloc (.cells #[.slice (some ⟨w1.heap.size, 0, none⟩) 0 0] 51)) :=
    ((Below.refl _ _).alloc (by omega) _).alloc (by simp; omega) _
  have Hbel := Lib.hid hbel
  have Hst := Lib.hid hst
  have Hbw := Lib.hid hbw
  clear hbel hown hgrow hb1 hst hbw
  go_wp2_with fail
  go_loopw [20] (fun c wr => ∃ i : Nat, c = .int .i64 i ∧ i ≤ g.nodes.length ∧ L1 (w.heap.size + 1) (w.heap.size + 1) (w1.heap.size + 1) g.nodes.length (insG g) i wr ∧ Below (w.heap.size + 1) w1 wr) (fun c _ => g.nodes.length - (intOf c).toNat)
  case atStart => exact ⟨0, rfl, Nat.zero_le _, Hst.out, Hbw.out⟩
  case round =>
    obtain ⟨i, rfl, hi, hl1, hb⟩ := hrel
    clear Hst Hbw
    have hc0' : wr.cell? ⟨w.heap.size, 0, none⟩ = some (.slice p g.nodes.length cap) := by rw [hb.cell (p := ⟨w.heap.size, 0, none⟩) (by simp)]; exact hc0
    have hc1' : wr.cell? ⟨w.heap.size, 1, none⟩ = some (.int .i64 g.out) := by rw [hb.cell (p := ⟨w.heap.size, 1, none⟩) (by simp)]; exact hc1
    have hbw : Below w.heap.size w wr := Hbel.out.trans (hb.mono (by omega))
    have hzr : w1.heap.size ≤ wr.heap.size := hb.size
    have Hl1 := Lib.hid hl1
    have Hb := Lib.hid hb
    have Hbw := Lib.hid hbw
    clear hl1 hb hbw
    by_cases hlt : i < g.nodes.length
    · have hin := inputs_any wr _ g i (Hg.out.up Hbw.out) hlt (by omega) (Hok.out.ins _ (List.getElem_mem hlt)) (Hok.out.wf _ (List.getElem_mem hlt))
      have Hin := Lib.hid hin
      clear hin
      have hGi := insG_get g i hlt
      have HGi := Lib.hid hGi
      have hml : (insL g.nodes.length g.nodes[i].ins).length ≤ 1000 := by
        have h1 := insL_len g.nodes.length g.nodes[i].ins g.nodes[i].ins.length
        rw [List.take_length] at h1
        have := Hok.out.ins _ (List.getElem_mem hlt)
        omega
      clear hGi
      generalize insL g.nodes.length g.nodes[i].ins = L at *
      go_wp2_with fail
      refine (Hin.out).mono ?_
      rintro e w2 ⟨v2, rfl, hown2, hb2⟩
      obtain ⟨p2, c2, rfl⟩ := ownsRow_form hown2
      obtain ⟨vh, xs, lf, nx, hHL, hll, hcnt, hnd, hmem⟩ := Hl1.out
      have hHL2 := hHL.mod (Mod.of_below hb2 (fun _ => False)) (fun _ _ _ h => h)
      have hfl := hHL2.left.frozenAt i
      have hcl := hHL2.left.cellAt i (by omega)
      have hel : (iv lf)[i]? = some (.int .i64 (lf.getD i 0)) := by simp [iv, List.getD, show i < lf.length by omega]
      rw [hel] at hcl
      have hLw : w.heap.size + 1 < w2.heap.size := by have := hb2.size; omega
      have hHL3 := hHL2.store i (L.length : Int)
      have hbel3 : Below (w.heap.size + 1) w1 (w2.setCell ⟨w.heap.size + 1, i, none⟩ (.int .i64 (L.length : Int))) := (Hb.out.trans (hb2.mono (by omega))).setCell (by simp) _
      have hll3 : (lf.set i (L.length : Int)).length = g.nodes.length := by simpa using hll
      have hcnt3 : ∀ j, j < i + 1 → (lf.set i (L.length : Int)).getD j 0 = (((insG g).getD j []).length : Int) := by
        intro j hj
        rw [getD_set _ _ _ (by omega)]
        by_cases e : j = i
        · subst e
          rw [if_pos rfl, HGi.out]
        · rw [if_neg e]
          exact hcnt j (by omega)
      have HHL3 := Lib.hid hHL3
      have Hbel3 := Lib.hid hbel3
      have Hll3 := Lib.hid hll3
      have Hcnt3 := Lib.hid hcnt3
      have Hnd := Lib.hid hnd
      have Hmem := Lib.hid hmem
      clear hHL3 hbel3 hll3 hcnt3 hnd hmem hHL hHL2 hll hcnt hown2 hb2 hel
      have hnxlen : nx.length ≤ 1000 := by
        have := nodup_length_le (m := List.range g.nodes.length) Hnd.out fun j hj => List.mem_range.2 (by have := ((Hmem.out j).1 hj).1; omega)
        rw [List.length_range] at this
        omega
      have hxlen : xs.length ≤ 1000 := by have := HHL3.out.perm.length_eq; simp [ci] at this; omega
      by_cases hL : L.length = 0
      · have hz : ((L.length : Nat) : Int) = 0 := by omega
        have h3 := HHL3.out
        have hb3 := Hbel3.out
        have hc3 := Hcnt3.out
        have hl3 := Hll3.out
        rw [hz] at h3 hb3 hc3 hl3
        have H3 := Lib.hid h3
        have HB3 := Lib.hid hb3
        have HC3 := Lib.hid hc3
        have HL3 := Lib.hid hl3
        have HLe := Lib.hid (List.eq_nil_of_length_eq_zero hL)
        clear h3 hb3 hc3 hl3 HHL3 Hbel3 Hcnt3 Hll3 hz
        go_wp2_with fail
        refine (heap_push _ _ (w.heap.size + 1) vh xs i H3.out.pl (by omega) (by simp; omega)).mono ?_
        rintro e w4 hpost
        obtain ⟨rfl, vh', xs', hHL4, hmod4, hlies4⟩ := H3.out.push hpost
        have hown2w : ∀ b, Own2 (w1.heap.size + 1) vh b → w.heap.size + 1 ≤ b := by
          intro b hb
          rcases hb with rfl | hb
          · omega
          · exact (H3.out.pl.own.lt b hb).1
        have hb4 : Below (w.heap.size + 1) w1 w4 := HB3.out.trans (hmod4.below (by simp; omega) (fun b hb hs => by have := hown2w b hs; omega))
        have hl4 : L1 (w.heap.size + 1) (w.heap.size + 1) (w1.heap.size + 1) g.nodes.length (insG g) (i + 1) w4 := by
          refine ⟨vh', xs', _, i :: nx, hHL4, HL3.out, HC3.out, List.nodup_cons.2 ⟨fun hm => by have := ((Hmem.out i).1 hm).1; omega, Hnd.out⟩, fun j => ?_⟩
          rw [List.mem_cons, Hmem.out]
          constructor
          · rintro (rfl | ⟨h1, h2⟩)
            · exact ⟨by omega, by rw [HGi.out, HLe.out]⟩
            · exact ⟨by omega, h2⟩
          · rintro ⟨h1, h2⟩
            by_cases e : j = i
            · exact .inl e
            · exact .inr ⟨by omega, h2⟩
        have Hb4 := Lib.hid hb4
        have Hl4 := Lib.hid hl4
        clear hb4 hl4 hown2w hHL4 hmod4 hlies4 hpost
        go_wp2_with fail
        go_roundw
        case rel => exact ⟨i + 1, by go_num, by omega, Hl4.out, Hb4.out⟩
        case measure => simp [intOf]; omega
      · have hne : ((L.length : Int) == 0) = false := beq_eq_false_iff_ne.2 (by omega)
        have hl4 : L1 (w.heap.size + 1) (w.heap.size + 1) (w1.heap.size + 1) g.nodes.length (insG g) (i + 1) (w2.setCell ⟨w.heap.size + 1, i, none⟩ (.int .i64 (L.length : Int))) := by
          refine ⟨vh, xs, _, nx, HHL3.out, Hll3.out, Hcnt3.out, Hnd.out, fun j => ?_⟩
          rw [Hmem.out]
          constructor
          · rintro ⟨h1, h2⟩
            exact ⟨by omega, h2⟩
          · rintro ⟨h1, h2⟩
            refine ⟨?_, h2⟩
            by_cases e : j = i
            · subst e
              rw [HGi.out] at h2
              rw [h2] at hL
              simp at hL
            · omega
        have Hl4 := Lib.hid hl4
        clear hl4
        go_wp2_with fail
        go_roundw
        case rel => exact ⟨i + 1, by go_num, by omega, Hl4.out, Hbel3.out⟩
        case measure => simp [intOf]; omega
    · obtain rfl : i = g.nodes.length := by omega
      obtain ⟨vh0, xs, lf, nx, hHL, hll, hcnt, hnd, hmem⟩ := Hl1.out
      have hlf : lf = (insN g).map fun l => (l.length : Int) := by
        apply List.ext_getElem
        · rw [hll, List.length_map, insN_len]
        · intro j h1 h2
          have := hcnt j (by omega)
          have hjl : j < (insG g).length := by rw [insG_len]; omega
          simp only [List.getD, List.getElem?_eq_getElem h1, List.getElem?_eq_getElem hjl, Option.getD_some] at this
          rw [this]
          simp [insN]
      have hst : KInv (insN g) [] nx lf := by
        rw [hlf]
        refine KInv.start hnd fun j => ?_
        rw [hmem, insN_len]
        constructor
        · rintro ⟨h1, h2⟩
          exact ⟨h1, by rw [insN_get, h2]; rfl⟩
        · rintro ⟨h1, h2⟩
          rw [insN_get] at h2
          exact ⟨h1, List.map_eq_nil_iff.1 h2⟩
      have Hst := Lib.hid hst
      have HHL := Lib.hid hHL
      clear hst hHL hll hcnt hnd hmem hlf
      go_wp2_with fail
      refine (uses_any wr _ g (Hg.out.up Hbw.out) Hok.out).mono ?_
      rintro e ws ⟨U, vs, rfl, hrows, hbs⟩
      rw [insG_len] at hrows ⊢
      have hzs : wr.heap.size ≤ ws.heap.size := hbs.size
      have hHLs := HHL.out.mod (Mod.of_below hbs (fun _ => False)) (fun _ _ _ h => h)
      have hNr : w1.heap.size + 1 < wr.heap.size := HHL.out.pl.cell.lt
      have hst2 : L2 (w.heap.size + 1) (w.heap.size + 1) (w1.heap.size + 1) g.nodes.length (insN g) ws vh0 (.slice none 0 0) ws :=
        ⟨[], vh0, xs, lf, nx, hHLs, Hst.out, World.ownsRow_nil _ _ _ _, Mod.refl _ _, ⟨.inl rfl, fun b hb => by simp [Value.ownBlock] at hb⟩⟩
      have hS0 : ∀ b, wr.heap.size ≤ b → ¬ S0 (w.heap.size + 1) (w1.heap.size + 1) vh0 b := by
        rintro b hb (rfl | rfl | h)
        · omega
        · omega
        · have := (HHL.out.pl.own.lt b h).2
          omega
      have hS1 : ∀ b, b < w.heap.size + 1 → ¬ S0 (w.heap.size + 1) (w1.heap.size + 1) vh0 b := by
        rintro b hb (rfl | rfl | h)
        · omega
        · omega
        · have := (HHL.out.pl.own.lt b h).1
          omega
      have hbws : Below w.heap.size w ws := Hbw.out.trans (hbs.mono (by have := Hbw.out.size; omega))
      obtain ⟨wu, hwu⟩ : ∃ wu : World, wu = wr := ⟨_, rfl⟩
      subst hwu
      have Hst2 := Lib.hid hst2
      have HS0 := Lib.hid hS0
      have HS1 := Lib.hid hS1
      have Hrows := Lib.hid hrows
      have Hbws := Lib.hid hbws
      clear hst2 hS0 hS1 hrows hbws hHLs hbs HHL Hst Hl1 Hb Hbw hc0' hc1' hc0 hc1
      have has := assert_int
      go_wp2_with fail
      go_loopw [7] (fun vo wr => L2 (w.heap.size + 1) (w.heap.size + 1) (w1.heap.size + 1) g.nodes.length (insN g) ws vh0 vo wr) (fun vo _ => g.nodes.length - lenV vo)
      case atStart => exact Hst2.out
      case round =>
        obtain ⟨out, vh, xs', lf', nx', hHL, hK, hown, hmod, haway⟩ := hrel
        clear Hst2
        obtain ⟨pvo, cvo, rfl⟩ := ownsRow_form hown
        obtain ⟨pvh, cvh, rfl⟩ := ownsRow_form hHL.pl.own
        have hcN := hHL.pl.cell.cell
        have hxl : xs'.length = nx'.length := by have := hHL.perm.length_eq; simpa [ci] using this
        have hnl : out.length + nx'.length ≤ g.nodes.length := by
          have := nodup_length_le (m := List.range (insN g).length) hK.nodup fun j hj => List.mem_range.2 (hK.lt j hj)
          rw [List.length_range, insN_len, List.length_append] at this
          exact this
        have HHL := Lib.hid hHL
        have HK := Lib.hid hK
        have Hown := Lib.hid hown
        have Hmod := Lib.hid hmod
        have Haway := Lib.hid haway
        have Hxl := Lib.hid hxl
        have hxle : xs'.length ≤ 1000 := by omega
        clear hHL hK hown hmod haway
        by_cases hn0 : nx'.length = 0
        · have hxz : ¬ (0 < (xs'.length : Int)) := by omega
          have hmaxx : xs'.length ≤ maxLen := by unfold maxLen; omega
          have Hn0 := Lib.hid hn0
          clear hn0 hxl
          go_wp2_with fail
          refine (len_any _ _ _ _ hmaxx).mono ?_
          rintro e w9 ⟨rfl, rfl⟩
          go_wp2_with fail
          go_ret
          obtain rfl := List.eq_nil_of_length_eq_zero Hn0.out
          exact ⟨_, out, rfl, ownsRow_base Hown.out (by have := Hbws.out.size; omega), HK.out.order, Hbws.out.trans ((Hmod.out.below (B := w.heap.size) (by have := Hbws.out.size; omega) (fun b hb => HS1.out b (by omega))))⟩
        · have hxp : (0 < (xs'.length : Int)) := by omega
          have hmaxx : xs'.length ≤ maxLen := by unfold maxLen; omega
          have hxp' : 0 < xs'.length := by omega
          have hout : out.length < g.nodes.length := by omega
          have Hn0 := Lib.hid hn0
          clear hn0 hxl
          go_wp2_with fail
          refine (len_any _ _ _ _ hmaxx).mono ?_
          rintro e w9 ⟨rfl, rfl⟩
          go_wp2_with fail
          refine (heap_pop _ _ (w.heap.size + 1) _ xs' HHL.out.pl (by omega) hxp').mono ?_
          rintro e w3 hpost
          obtain ⟨k, nx3, vh3, xs3, rfl, hp3, hHL3, hmod3, hob3⟩ := HHL.out.pop hpost
          have hKin := HK.out.pop hp3
          have hNs : w1.heap.size + 1 < ws.heap.size := by omega
          have hzw3 : ws.heap.size ≤ w3.heap.size := by have := Hmod.out.size; have := hmod3.size; omega
          have hvo3 := ownsRow_mod Hown.out hmod3 (fun b hb hs => by
            rcases hs with rfl | hs
            · have := (Hown.out.lt _ hb).1; omega
            · exact (Haway.out.out b hb).2 hs)
          have hm3 : Mod (S0 (w.heap.size + 1) (w1.heap.size + 1) vh0) ws w3 := Hmod.out.trans hmod3 (fun b hb hs => by
            rcases hs with rfl | hs
            · exact .inr (.inl rfl)
            · rcases Haway.out.heap with h | ⟨gg, h, hge⟩
              · exact .inr (.inr (h ▸ hs))
              · rw [h] at hs
                have := Option.some.inj hs
                omega)
          have haw3 : Away ws (w.heap.size + 1) vh0 vh3 (.slice pvo out.length cvo) := ⟨by rw [hob3]; exact Haway.out.heap, fun b hb => ⟨(Haway.out.out b hb).1, by rw [hob3]; exact (Haway.out.out b hb).2⟩⟩
          have hkn : k < g.nodes.length := by
            have := HK.out.lt k (by rw [List.mem_append]; exact .inr (hp3.mem_iff.2 (by simp)))
            rwa [insN_len] at this
          have HKin := Lib.hid hKin
          have HHL3 := Lib.hid hHL3
          have Hm3 := Lib.hid hm3
          have Haw3 := Lib.hid haw3
          clear hKin hHL3 hm3 haw3 hmod3 hob3 hp3 hpost
          go_wp2_with (at_builtin; refine wpList_append_lies _ rfl _ _ 25 rfl ws.heap.size 3 i0 (.int .i64 0) 1 8 Try.underlying25 hi0 hz0 hz1 hz2 rfl (by omega) _ out.length (iv (ci out)) rfl (hvo3.alloc _) ⟨w3.heap.size, 0, none⟩ 1 1 [.int .i64 ((k : Nat) : Int)] rfl rfl (cell_one_new _ _ _) (by simp [Value.oneCell']) (by omega) (by unfold maxLen; omega) (by omega) (by simp; omega) (w3.heap.size + 1) (by simp) ?_)
          intro go co w4 hown4 hgrow4 hat4 hlt4
          have hm34 : Mod (fun b => (Value.slice pvo out.length cvo).ownBlock = some b) w3 w4 := (Mod.alloc _ w3 _).trans (Mod.of_grown hgrow4) (fun _ _ h => h)
          have hHL4 : HL w4 (w.heap.size + 1) (w.heap.size + 1) (w1.heap.size + 1) g.nodes.length vh3 xs3 lf' nx3 := by
            have h := HHL3.out
            have hvob : ∀ b, (Value.slice pvo out.length cvo).ownBlock = some b → ws.heap.size ≤ b ∧ vh3.ownBlock ≠ some b := Haw3.out.out
            exact ⟨⟨h.pl.cell.mod hm34 (fun e => by have := (hvob _ e).1; omega), ownsRow_mod h.pl.own hm34 (fun b hb e => (hvob b e).2 hb), h.pl.apart⟩, h.perm,
              ownsRow_mod h.left hm34 (fun b hb e => by
                have h1 := (hvob b e).1
                simp [Value.ownBlock] at hb
                omega), h.LN, h.LH, h.baseN⟩
          have hm4 : Mod (S0 (w.heap.size + 1) (w1.heap.size + 1) vh0) ws w4 := Hm3.out.trans hm34 (fun b hb e => by have := (Haw3.out.out b e).1; omega)
          have hgo : ws.heap.size ≤ go := by
            rcases hat4 with h | rfl
            · exact (Haw3.out.out go h).1
            · omega
          have haw4 : Away ws (w.heap.size + 1) vh0 vh3 (.slice (some ⟨go, 0, none⟩) (out.length + 1) co) := by
            refine ⟨Haw3.out.heap, fun b hb => ?_⟩
            obtain rfl : go = b := by simpa [Value.ownBlock] using hb
            refine ⟨hgo, fun e => ?_⟩
            rcases hat4 with h | rfl
            · exact (Haw3.out.out go h).2 e
            · have := (HHL3.out.pl.own.lt _ e).2
              omega
          have hown4' : w4.ownsRow ws.heap.size 3 1 (.slice (some ⟨go, 0, none⟩) (out.length + 1) co) (out ++ [k]).length (iv (ci (out ++ [k]))) := by simpa [iv, ci] using hown4
          have hst3 : L3 (w.heap.size + 1) (w.heap.size + 1) (w1.heap.size + 1) g.nodes.length (insN g) ws vh0 (.slice (some ⟨go, 0, none⟩) (out.length + 1) co) out k [] w4 :=
            ⟨vh3, xs3, lf', nx3, hHL4, HKin.out, hown4', hm4, haw4⟩
          have hr4 := Hrows.out.mod hm4 (fun b hb _ => HS0.out b hb)
          have hck := hr4.top.cellAt k (by omega)
          have hek : vs[k]? = some (vs.getD k undef) := by simp [List.getD, show k < vs.length by rw [hr4.len]; exact hkn]
          rw [hek] at hck
          obtain ⟨pk, ck, hvk⟩ := ownsRow_form (hr4.row k hkn)
          rw [hvk] at hck
          have hrk := Hrows.out.row k hkn
          rw [hvk] at hrk
          obtain ⟨hu1, hu2, hu3⟩ := usesL_mem g k
          have hul : (usesL (insG g) g.nodes.length 0 k).length ≤ 2000 := by have := usesL_len (insG g) g.nodes.length 0 k; omega
          have Hst3 := Lib.hid hst3
          have Hrk := Lib.hid hrk
          have Hu1 := Lib.hid hu1
          have Hu2 := Lib.hid hu2
          have Hu3 := Lib.hid hu3
          clear hst3 hrk hu1 hu2 hu3 hr4 hek hvk hown4' haw4 hm4 hHL4 hm34 hown4 hgrow4 hat4 hvo3
          have hk0 : (0 : Int) ≤ (k : Int) := by omega
          have hkn' : (k : Int) < (g.nodes.length : Int) := by omega
          generalize usesL (insG g) g.nodes.length 0 k = row at *
          go_wp2_with fail
          obtain ⟨wo, rfl⟩ : ∃ wo : World, wo = wr := ⟨_, rfl⟩
          go_loopw [61] (fun c wr => ∃ t : Nat, c = .int .i64 t ∧ t ≤ row.length ∧ L3 (w.heap.size + 1) (w.heap.size + 1) (w1.heap.size + 1) g.nodes.length (insN g) ws vh0 (.slice (some ⟨go, 0, none⟩) (out.length + 1) co) out k ((row.take t).map Int.toNat) wr) (fun c _ => row.length - (intOf c).toNat)
          case atStart => exact ⟨0, rfl, Nat.zero_le _, Hst3.out⟩
          case round =>
            obtain ⟨t, rfl, ht, vh5, xs5, lf5, nx5, hHL5, hK5, hown5, hm5, haw5⟩ := hrel
            clear Hst3
            by_cases htl : t < row.length
            · have hux := Hu1.out _ (List.getElem_mem htl)
              obtain ⟨u, hu⟩ : ∃ u : Nat, row[t] = (u : Int) := ⟨row[t].toNat, by omega⟩
              have hum := (Hu2.out u).1 (by rw [← hu]; exact List.getElem_mem htl)
              obtain ⟨hun, hku⟩ := hum
              have htold : u ∉ (row.take t).map Int.toNat := by
                rw [mem_toNat (fun x hx => Hu1.out x (List.mem_of_mem_take hx)), ← hu]
                intro hm
                obtain ⟨j, hj, hje⟩ := List.mem_take_iff_getElem.1 hm
                have := (List.getElem_inj (i := j) (j := t) Hu3.out).1 hje
                omega
              have htk : (row.take (t + 1)).map Int.toNat = (row.take t).map Int.toNat ++ [u] := by
                rw [List.take_succ_eq_append_getElem htl, List.map_append, hu]
                simp
              have hr5 := ownsRow_mod Hrk.out hm5 (fun b hb => HS0.out b (Hrk.out.lt b hb).1)
              obtain ⟨gk, ck', hvk5, _, _⟩ := hr5.form (by omega)
              simp only [Value.slice.injEq] at hvk5
              obtain ⟨rfl, _, rfl⟩ := hvk5
              have hct := hr5.cellAt t (by omega)
              have het : (iv row)[t]? = some (.int .i64 (u : Int)) := by simp [iv, htl, hu]
              rw [het] at hct
              have hcl := hHL5.left.cellAt u (by omega)
              have hlen5 : lf5.length = g.nodes.length := by rw [hK5.len, insN_len]
              have hel : (iv lf5)[u]? = some (.int .i64 (lf5.getD u 0)) := by simp [iv, List.getD, show u < lf5.length by omega]
              rw [hel] at hcl
              have hfl := hHL5.left.frozenAt u
              have hcount := hK5.count u (by rw [insN_len]; exact hun)
              have hrl := rest_le out ((insN g).getD u [])
              have hil : ((insN g).getD u []).length ≤ 1000 := by
                rw [insN_get, List.length_map, insG_get g u hun]
                have h1 := insL_len g.nodes.length g.nodes[u].ins g.nodes[u].ins.length
                rw [List.take_length] at h1
                have := Hok.out.ins _ (List.getElem_mem hun)
                omega
              have hlb : -1 ≤ lf5.getD u 0 ∧ lf5.getD u 0 ≤ 1000 := by
                rw [hcount]
                split <;> omega
              have htell := hK5.tell (u := u) (by rw [insN_len]; exact hun) hku htold
              have hHL6 := hHL5.store u (lf5.getD u 0 - 1)
              have hLws : w.heap.size + 1 < ws.heap.size := by omega
              have hm6 : Mod (S0 (w.heap.size + 1) (w1.heap.size + 1) vh0) ws (wr.setCell ⟨w.heap.size + 1, u, none⟩ (.int .i64 (lf5.getD u 0 - 1))) := hm5.trans (Mod.setCell _ _ _) (fun b _ e => .inl e)
              have hown6 := ownsRow_mod hown5 (Mod.setCell wr ⟨w.heap.size + 1, u, none⟩ (.int .i64 (lf5.getD u 0 - 1))) (fun b hb e => by
                have h1 := (hown5.lt b hb).1
                simp at e
                omega)
              have hxl5 : xs5.length ≤ 1000 := by
                have h1 := hHL5.perm.length_eq
                have h2 := nodup_length_le (m := List.range (insN g).length) hK5.nodup fun j hj => List.mem_range.2 (hK5.lt j hj)
                rw [List.length_range, insN_len, List.length_append] at h2
                simp [ci] at h1
                omega
              have Htell := Lib.hid htell
              have HHL6 := Lib.hid hHL6
              have Hm6 := Lib.hid hm6
              have Hown6 := Lib.hid hown6
              have Haw5 := Lib.hid haw5
              have Htk := Lib.hid htk
              have hu0 : (0 : Int) ≤ (u : Int) := by omega
              have hun' : (u : Int) < (g.nodes.length : Int) := by omega
              have hzs6 : ws.heap.size ≤ wr.heap.size := hm5.size
              clear htell hHL6 hm6 hown6 haw5 htk hK5 hHL5 hown5 hm5 htold hku hcount hrl hil hr5 het hel hlen5 hux hu
              generalize lf5.getD u 0 = q at *
              by_cases hq : q - 1 = 0
              · have hq1 : q = 1 := by omega
                subst hq1
                have ht2 := Htell.out.2 (by omega)
                have h6 := HHL6.out
                have m6 := Hm6.out
                have o6 := Hown6.out
                rw [show (1 : Int) - 1 = 0 from rfl] at h6 m6 o6 ht2
                have Ht2 := Lib.hid ht2
                have H6 := Lib.hid h6
                have M6 := Lib.hid m6
                have O6 := Lib.hid o6
                clear ht2 Htell hq h6 m6 o6 HHL6 Hm6 Hown6
                go_wp2_with fail
                refine (heap_push _ _ (w.heap.size + 1) vh5 xs5 u H6.out.pl (by omega) (by simp; omega)).mono ?_
                rintro e w7 hpost
                obtain ⟨rfl, vh7, xs7, hHL7, hmod7, hlies7⟩ := H6.out.push hpost
                have hown7 := ownsRow_mod O6.out hmod7 (fun b hb hs => by
                  have h1 := Haw5.out.out b hb
                  rcases hs with rfl | hs
                  · omega
                  · exact h1.2 hs)
                have hm7 : Mod (S0 (w.heap.size + 1) (w1.heap.size + 1) vh0) ws w7 := M6.out.trans hmod7 (fun b hb hs => by
                  rcases hs with rfl | hs
                  · exact .inr (.inl rfl)
                  · rcases Haw5.out.heap with h | ⟨gg, h, hge⟩
                    · exact .inr (.inr (h ▸ hs))
                    · rw [h] at hs
                      have := Option.some.inj hs
                      omega)
                have haw7 : Away ws (w.heap.size + 1) vh0 vh7 (.slice (some ⟨go, 0, none⟩) (out.length + 1) co) := by
                  rcases hlies7 with hl | ⟨gg, hl, hge⟩
                  · exact ⟨by rw [hl]; exact Haw5.out.heap, fun b hb => ⟨(Haw5.out.out b hb).1, by rw [hl]; exact (Haw5.out.out b hb).2⟩⟩
                  · refine ⟨.inr ⟨gg, hl, by simp at hge; omega⟩, fun b hb => ⟨(Haw5.out.out b hb).1, ?_⟩⟩
                    rw [hl]
                    intro e
                    have h1 := Option.some.inj e
                    have h2 := (O6.out.lt b hb).2
                    omega
                have hK7 := Ht2.out _ (List.Perm.refl (u :: nx5))
                have HK7 := Lib.hid hK7
                have HHL7 := Lib.hid hHL7
                have Hown7 := Lib.hid hown7
                have Hm7 := Lib.hid hm7
                have Haw7 := Lib.hid haw7
                clear hK7 hHL7 hown7 hm7 haw7 hmod7 hlies7 hpost Ht2
                go_wp2_with fail
                go_roundw
                case rel => exact ⟨t + 1, by go_num, by omega, vh7, xs7, _, _, HHL7.out, by rw [Htk.out]; exact HK7.out, Hown7.out, Hm7.out, Haw7.out⟩
                case measure => simp [intOf]; omega
              · have ht1 := Htell.out.1 hq
                have hq1 : ((q - 1) == 0) = false := beq_eq_false_iff_ne.2 (by omega)
                have Ht1 := Lib.hid ht1
                clear ht1 Htell hq
                go_wp2_with fail
                go_roundw
                case rel => exact ⟨t + 1, by go_num, by omega, vh5, xs5, _, nx5, HHL6.out, by rw [Htk.out]; exact Ht1.out, Hown6.out, Hm6.out, Haw5.out⟩
                case measure => simp [intOf]; omega
            · obtain rfl : t = row.length := by omega
              have hfin := hK5.finish (fun i hi => insN_nodup g i (by rwa [insN_len] at hi)) (fun i hi => by
                rw [insN_len] at hi
                rw [List.take_length, mem_toNat Hu1.out, Hu2.out]
                exact ⟨fun h => h.2, fun h => ⟨hi, h⟩⟩)
              have hl2 : L2 (w.heap.size + 1) (w.heap.size + 1) (w1.heap.size + 1) g.nodes.length (insN g) ws vh0 (.slice (some ⟨go, 0, none⟩) (out.length + 1) co) wr := ⟨out ++ [k], vh5, xs5, lf5, nx5, hHL5, hfin, hown5, hm5, haw5⟩
              have Hl2 := Lib.hid hl2
              clear hl2 hfin hHL5 hK5 hown5 hm5 haw5
              go_wp2_with fail
              go_roundw
              case rel => exact Hl2.out
              case measure => simp [lenV]; omega

end Go.Proofs.Ytfphlkoneocejaa
