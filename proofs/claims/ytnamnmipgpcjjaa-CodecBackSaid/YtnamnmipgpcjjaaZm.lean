/- Texts of the codec's proofs, laid together: GetD, BackA. -/
import Derived.Test.YtnamnmipgpcjjaaZl
import Derived.Great.BuildSlice
import Derived.Deep.RegionHeld
set_option linter.unusedSimpArgs false
set_option linter.unusedVariables false
set_option linter.unusedSectionVars false
set_option linter.constructorNameAsVariable false

/- Acts as bytes: many bytes are read. -/
namespace Go.Proofs.Ytnamnmipgpcjjaa
open Go.RowKit Go.Gou

set_option maxRecDepth 100000 in
set_option maxHeartbeats 2000000 in
theorem get_big (w : World) (vb : Value) (bs : List Nat) (h : BytesAt (fun _ => True) w vb bs) (hby : ∀ x ∈ bs, x < 256) (hl : bs.length ≤ 100000000) :
    Calls Try.prog 14 #[vb] w (GetP w bs) := by
  obtain ⟨iA, hiA, hz0, hz1, hz2⟩ := info_parts info_act
  have hz3 : (Value.agg (List.toArray (Value.int .i64 0 :: Value.int .i64 0 :: Value.int .i64 0 :: Value.int .i64 0 :: Value.int .i64 0 :: Value.int .i64 0 :: Value.int .i64 0 :: Value.int .i64 0 :: Value.int .i64 0 :: Value.bool false :: Value.int .i64 0 :: Value.int .i64 0 :: Value.int .i64 0 :: Value.int .i64 0 :: Value.int .i64 0 :: Value.int .i64 0 :: Value.int .i64 0 :: Value.int .i64 0 :: Value.int .i64 0 :: Value.int .i64 0 :: Value.int .i64 0 :: Value.int .u8 0 :: Value.int .u8 0 :: Value.int .u8 0 :: Value.int .u8 0 :: Value.int .i64 0 :: Value.int .i64 0 :: Value.int .i64 0 :: Value.slice none 0 0 :: Value.bool false :: Value.slice none 0 0 :: Value.int .i64 0 :: Value.bool false :: Value.slice none 0 0 :: Value.int .i64 0 :: Value.int .i64 0 :: Value.int .i64 0 :: Value.bool false :: Value.bool false :: Value.bool false :: Value.bool false :: Value.int .i64 0 :: []))).cells.size = 42 := by simp [Value.cells]
  have Hbytes := Lib.hid h
  have Hst : Hid (RdAt (w.alloc (.cells #[vb, .int .i64 0] 69)) w.heap.size vb bs 0) := Lib.hid (RdAt.make h hby (by unfold maxLen; omega))
  obtain ⟨pb, cb, rfl⟩ := h.len
  clear h hby
  go_enter Try.func14, Try.ntmps14
  go_wp2_with fail
  have HW : Hid (Gou.Mod (fun _ => False) w (w.alloc (.cells #[.slice pb bs.length cb, .int .i64 0] 69))) := Lib.hid (Gou.Mod.alloc _ _ _)
  have HS : Hid ((w.alloc (.cells #[.slice pb bs.length cb, .int .i64 0] 69)).heap.size = w.heap.size + 1) := Lib.hid (by simp)
  generalize hW0 : w.alloc (.cells #[.slice pb bs.length cb, .int .i64 0] 69) = W0 at *
  generalize hR : w.heap.size = R at *
  clear hW0
  go_loopw [6] (fun vs wr => ∃ (xs : List Ac) (q : Nat) (cs : List Value) (lo hi : Nat → Nat), GetIn W0 R (.slice pb bs.length cb) bs 41 xs q vs cs lo hi wr) (fun _ wr => match wr.cell? ⟨R, 1, none⟩ with | some v => bs.length - (intOf v).toNat | none => 0)
  case atStart => exact ⟨[], 0, [], _, _, Hst.out, Hst.out, Gou.Mod.refl _ _, rfl, World.ownsRow_nil _ _ _ _, ActsIn.nil _ _, by simp [Value.ownBlock], Nat.le_refl _⟩
  case round =>
    obtain ⟨xs, q, cs, lo, hi, hg⟩ := hrel
    have Hg := Lib.hid hg
    obtain ⟨p0, c0, rfl⟩ := ownsRow_form hg.own
    have hc1 := hg.rd.c1
    have hle := hg.rd.le
    by_cases hq : q < bs.length
    · have e1 : decide ((q : Int) < (bs.length : Int)) = true := by simp; omega
      clear hg
      go_wp2_with fail
      refine (one_any _ R _ bs q Hg.out.rd).mono ?_
      rintro e w1 ⟨hm1, h1⟩
      cases hn : actAt bs q with
      | none =>
        rw [hn] at h1
        obtain ⟨rfl, hr1⟩ := h1
        have hLs := hm1.size
        have hgm := Hg.out.mod.size
        have hr1a := hr1.alloc (.cells (List.toArray (Value.int .i64 0 :: Value.int .i64 0 :: Value.int .i64 0 :: Value.int .i64 0 :: Value.int .i64 0 :: Value.int .i64 0 :: Value.int .i64 0 :: Value.int .i64 0 :: Value.int .i64 0 :: Value.bool false :: Value.int .i64 0 :: Value.int .i64 0 :: Value.int .i64 0 :: Value.int .i64 0 :: Value.int .i64 0 :: Value.int .i64 0 :: Value.int .i64 0 :: Value.int .i64 0 :: Value.int .i64 0 :: Value.int .i64 0 :: Value.int .i64 0 :: Value.int .u8 0 :: Value.int .u8 0 :: Value.int .u8 0 :: Value.int .u8 0 :: Value.int .i64 0 :: Value.int .i64 0 :: Value.int .i64 0 :: Value.slice none 0 0 :: Value.bool false :: Value.slice none 0 0 :: Value.int .i64 0 :: Value.bool false :: Value.slice none 0 0 :: Value.int .i64 0 :: Value.int .i64 0 :: Value.int .i64 0 :: Value.bool false :: Value.bool false :: Value.bool false :: Value.bool false :: Value.int .i64 0 :: [])) 41)
        have hma : Gou.Mod (fun k => k = R) W0 (w1.alloc (.cells (List.toArray (Value.int .i64 0 :: Value.int .i64 0 :: Value.int .i64 0 :: Value.int .i64 0 :: Value.int .i64 0 :: Value.int .i64 0 :: Value.int .i64 0 :: Value.int .i64 0 :: Value.int .i64 0 :: Value.bool false :: Value.int .i64 0 :: Value.int .i64 0 :: Value.int .i64 0 :: Value.int .i64 0 :: Value.int .i64 0 :: Value.int .i64 0 :: Value.int .i64 0 :: Value.int .i64 0 :: Value.int .i64 0 :: Value.int .i64 0 :: Value.int .i64 0 :: Value.int .u8 0 :: Value.int .u8 0 :: Value.int .u8 0 :: Value.int .u8 0 :: Value.int .i64 0 :: Value.int .i64 0 :: Value.int .i64 0 :: Value.slice none 0 0 :: Value.bool false :: Value.slice none 0 0 :: Value.int .i64 0 :: Value.bool false :: Value.slice none 0 0 :: Value.int .i64 0 :: Value.int .i64 0 :: Value.int .i64 0 :: Value.bool false :: Value.bool false :: Value.bool false :: Value.bool false :: Value.int .i64 0 :: [])) 41)) := (Hg.out.mod.trans' hm1).trans' (Gou.Mod.alloc _ _ _)
        have hA : Blk (w1.alloc (.cells (List.toArray (Value.int .i64 0 :: Value.int .i64 0 :: Value.int .i64 0 :: Value.int .i64 0 :: Value.int .i64 0 :: Value.int .i64 0 :: Value.int .i64 0 :: Value.int .i64 0 :: Value.int .i64 0 :: Value.bool false :: Value.int .i64 0 :: Value.int .i64 0 :: Value.int .i64 0 :: Value.int .i64 0 :: Value.int .i64 0 :: Value.int .i64 0 :: Value.int .i64 0 :: Value.int .i64 0 :: Value.int .i64 0 :: Value.int .i64 0 :: Value.int .i64 0 :: Value.int .u8 0 :: Value.int .u8 0 :: Value.int .u8 0 :: Value.int .u8 0 :: Value.int .i64 0 :: Value.int .i64 0 :: Value.int .i64 0 :: Value.slice none 0 0 :: Value.bool false :: Value.slice none 0 0 :: Value.int .i64 0 :: Value.bool false :: Value.slice none 0 0 :: Value.int .i64 0 :: Value.int .i64 0 :: Value.int .i64 0 :: Value.bool false :: Value.bool false :: Value.bool false :: Value.bool false :: Value.int .i64 0 :: [])) 41)) w1.heap.size 41 (List.toArray (Value.int .i64 0 :: Value.int .i64 0 :: Value.int .i64 0 :: Value.int .i64 0 :: Value.int .i64 0 :: Value.int .i64 0 :: Value.int .i64 0 :: Value.int .i64 0 :: Value.int .i64 0 :: Value.bool false :: Value.int .i64 0 :: Value.int .i64 0 :: Value.int .i64 0 :: Value.int .i64 0 :: Value.int .i64 0 :: Value.int .i64 0 :: Value.int .i64 0 :: Value.int .i64 0 :: Value.int .i64 0 :: Value.int .i64 0 :: Value.int .i64 0 :: Value.int .u8 0 :: Value.int .u8 0 :: Value.int .u8 0 :: Value.int .u8 0 :: Value.int .i64 0 :: Value.int .i64 0 :: Value.int .i64 0 :: Value.slice none 0 0 :: Value.bool false :: Value.slice none 0 0 :: Value.int .i64 0 :: Value.bool false :: Value.slice none 0 0 :: Value.int .i64 0 :: Value.int .i64 0 :: Value.int .i64 0 :: Value.bool false :: Value.bool false :: Value.bool false :: Value.bool false :: Value.int .i64 0 :: [])) := heap_alloc_new w1 _
        have Ht := Lib.hid (hA.there 0 42 (by simp))
        have hr2 := Hg.out.old.owns hr1a hma w1.heap.size 0 (Value.int .i64 0 :: Value.int .i64 0 :: Value.int .i64 0 :: Value.int .i64 0 :: Value.int .i64 0 :: Value.int .i64 0 :: Value.int .i64 0 :: Value.int .i64 0 :: Value.int .i64 0 :: Value.bool false :: Value.int .i64 0 :: Value.int .i64 0 :: Value.int .i64 0 :: Value.int .i64 0 :: Value.int .i64 0 :: Value.int .i64 0 :: Value.int .i64 0 :: Value.int .i64 0 :: Value.int .i64 0 :: Value.int .i64 0 :: Value.int .i64 0 :: Value.int .u8 0 :: Value.int .u8 0 :: Value.int .u8 0 :: Value.int .u8 0 :: Value.int .i64 0 :: Value.int .i64 0 :: Value.int .i64 0 :: Value.slice none 0 0 :: Value.bool false :: Value.slice none 0 0 :: Value.int .i64 0 :: Value.bool false :: Value.slice none 0 0 :: Value.int .i64 0 :: Value.int .i64 0 :: Value.int .i64 0 :: Value.bool false :: Value.bool false :: Value.bool false :: Value.bool false :: Value.int .i64 0 :: []) (by omega)
        have c1 := hr2.1.c1
        have hmw : Gou.Mod (fun k => k = R ∨ wr.heap.size ≤ k) wr ((w1.alloc (.cells (List.toArray (Value.int .i64 0 :: Value.int .i64 0 :: Value.int .i64 0 :: Value.int .i64 0 :: Value.int .i64 0 :: Value.int .i64 0 :: Value.int .i64 0 :: Value.int .i64 0 :: Value.int .i64 0 :: Value.bool false :: Value.int .i64 0 :: Value.int .i64 0 :: Value.int .i64 0 :: Value.int .i64 0 :: Value.int .i64 0 :: Value.int .i64 0 :: Value.int .i64 0 :: Value.int .i64 0 :: Value.int .i64 0 :: Value.int .i64 0 :: Value.int .i64 0 :: Value.int .u8 0 :: Value.int .u8 0 :: Value.int .u8 0 :: Value.int .u8 0 :: Value.int .i64 0 :: Value.int .i64 0 :: Value.int .i64 0 :: Value.slice none 0 0 :: Value.bool false :: Value.slice none 0 0 :: Value.int .i64 0 :: Value.bool false :: Value.slice none 0 0 :: Value.int .i64 0 :: Value.int .i64 0 :: Value.int .i64 0 :: Value.bool false :: Value.bool false :: Value.bool false :: Value.bool false :: Value.int .i64 0 :: [])) 41)).setCells w1.heap.size 0 (Value.int .i64 0 :: Value.int .i64 0 :: Value.int .i64 0 :: Value.int .i64 0 :: Value.int .i64 0 :: Value.int .i64 0 :: Value.int .i64 0 :: Value.int .i64 0 :: Value.int .i64 0 :: Value.bool false :: Value.int .i64 0 :: Value.int .i64 0 :: Value.int .i64 0 :: Value.int .i64 0 :: Value.int .i64 0 :: Value.int .i64 0 :: Value.int .i64 0 :: Value.int .i64 0 :: Value.int .i64 0 :: Value.int .i64 0 :: Value.int .i64 0 :: Value.int .u8 0 :: Value.int .u8 0 :: Value.int .u8 0 :: Value.int .u8 0 :: Value.int .i64 0 :: Value.int .i64 0 :: Value.int .i64 0 :: Value.slice none 0 0 :: Value.bool false :: Value.slice none 0 0 :: Value.int .i64 0 :: Value.bool false :: Value.slice none 0 0 :: Value.int .i64 0 :: Value.int .i64 0 :: Value.int .i64 0 :: Value.bool false :: Value.bool false :: Value.bool false :: Value.bool false :: Value.int .i64 0 :: [])) :=
          ((hm1.imp fun _ _ h => .inl h).trans' (Gou.Mod.alloc _ _ _)).trans' ((Blk.setMod _ w1.heap.size 0 _).imp fun k _ h => .inr (by omega))
        have HE := Lib.hid (And.intro hr2.2 hmw)
        have Hn := Lib.hid hn
        have Hq := Lib.hid hq
        clear hr1a hma hA hr2 hmw hm1 hr1 hn hc1 hle hgm
        go_wp2_with (first | ((with_reducible refine wpList_store_mid ?g1_2 41 ?x1_2 ?y1_2 ?o1_2 w1.heap.size 0 ((List.toArray (Value.int .i64 0 :: Value.int .i64 0 :: Value.int .i64 0 :: Value.int .i64 0 :: Value.int .i64 0 :: Value.int .i64 0 :: Value.int .i64 0 :: Value.int .i64 0 :: Value.int .i64 0 :: Value.bool false :: Value.int .i64 0 :: Value.int .i64 0 :: Value.int .i64 0 :: Value.int .i64 0 :: Value.int .i64 0 :: Value.int .i64 0 :: Value.int .i64 0 :: Value.int .i64 0 :: Value.int .i64 0 :: Value.int .i64 0 :: Value.int .i64 0 :: Value.int .u8 0 :: Value.int .u8 0 :: Value.int .u8 0 :: Value.int .u8 0 :: Value.int .i64 0 :: Value.int .i64 0 :: Value.int .i64 0 :: Value.slice none 0 0 :: Value.bool false :: Value.slice none 0 0 :: Value.int .i64 0 :: Value.bool false :: Value.slice none 0 0 :: Value.int .i64 0 :: Value.int .i64 0 :: Value.int .i64 0 :: Value.bool false :: Value.bool false :: Value.bool false :: Value.bool false :: Value.int .i64 0 :: []))) ?h1_2 ?j1_2 ?t1_2 ?i1_2 ?s1_2 ?r1_2); (case g1_2 => exact rfl); (case o1_2 => exact rfl); (case h1_2 => exact rfl); (case j1_2 => exact rfl); (case t1_2 => exact Ht.out); (case i1_2 => exact size_act); (case s1_2 => exact actC_one Ac.zero none 0 0 none 0 0 none 0 0)) | fail)
        go_quiet (fail)
        go_wp2_with fail
        have hHE := HE.out
        refine bodyPost_ret (v := .tuple #[.slice p0 xs.length c0, .int .i64 q, .int .i64 2]) (by simp [results, Try.results14, go_sem]) rfl ?_
        refine ⟨xs, q, _, Hg.out.reads, Nat.le_of_lt Hq.out, fun _ => Hn.out, by rw [if_pos Hq.out], Hg.out.done (hHE.2.trans' (Gou.Mod.drewN _ _ _)) (by have := HS.out; omega), ?_⟩
        exact (HW.out.trans (hHE.1.trans' (Gou.Mod.drewN _ _ _)) fun k hk e => by omega)
      | some p =>
        obtain ⟨a, m⟩ := p
        rw [hn] at h1
        obtain ⟨_, rfl, ⟨vp, vf, vb2, rfl, hlr, hsoft⟩, hr1⟩ := h1
        obtain ⟨p1, n1, k1, p2, n2, k2, p3, n3, k3, rfl, rfl, rfl⟩ := hlr.forms
        have hLs := hm1.size
        have hgm := Hg.out.mod.size
        have hA : Blk (w1.alloc (.cells (List.toArray (Value.int .i64 0 :: Value.int .i64 0 :: Value.int .i64 0 :: Value.int .i64 0 :: Value.int .i64 0 :: Value.int .i64 0 :: Value.int .i64 0 :: Value.int .i64 0 :: Value.int .i64 0 :: Value.bool false :: Value.int .i64 0 :: Value.int .i64 0 :: Value.int .i64 0 :: Value.int .i64 0 :: Value.int .i64 0 :: Value.int .i64 0 :: Value.int .i64 0 :: Value.int .i64 0 :: Value.int .i64 0 :: Value.int .i64 0 :: Value.int .i64 0 :: Value.int .u8 0 :: Value.int .u8 0 :: Value.int .u8 0 :: Value.int .u8 0 :: Value.int .i64 0 :: Value.int .i64 0 :: Value.int .i64 0 :: Value.slice none 0 0 :: Value.bool false :: Value.slice none 0 0 :: Value.int .i64 0 :: Value.bool false :: Value.slice none 0 0 :: Value.int .i64 0 :: Value.int .i64 0 :: Value.int .i64 0 :: Value.bool false :: Value.bool false :: Value.bool false :: Value.bool false :: Value.int .i64 0 :: [])) 41)) w1.heap.size 41 (List.toArray (Value.int .i64 0 :: Value.int .i64 0 :: Value.int .i64 0 :: Value.int .i64 0 :: Value.int .i64 0 :: Value.int .i64 0 :: Value.int .i64 0 :: Value.int .i64 0 :: Value.int .i64 0 :: Value.bool false :: Value.int .i64 0 :: Value.int .i64 0 :: Value.int .i64 0 :: Value.int .i64 0 :: Value.int .i64 0 :: Value.int .i64 0 :: Value.int .i64 0 :: Value.int .i64 0 :: Value.int .i64 0 :: Value.int .i64 0 :: Value.int .i64 0 :: Value.int .u8 0 :: Value.int .u8 0 :: Value.int .u8 0 :: Value.int .u8 0 :: Value.int .i64 0 :: Value.int .i64 0 :: Value.int .i64 0 :: Value.slice none 0 0 :: Value.bool false :: Value.slice none 0 0 :: Value.int .i64 0 :: Value.bool false :: Value.slice none 0 0 :: Value.int .i64 0 :: Value.int .i64 0 :: Value.int .i64 0 :: Value.bool false :: Value.bool false :: Value.bool false :: Value.bool false :: Value.int .i64 0 :: [])) := heap_alloc_new w1 _
        have Ht := Lib.hid (hA.there 0 42 (by simp))
        have hB := hA.sets 0 (actC a (.slice p1 n1 k1) (.slice p2 n2 k2) (.slice p3 n3 k3)).toList
        rw [setMany_all _ _ (by simp [actC])] at hB
        have HB := Lib.hid hB
        have HsA : Hid (iA.size = (actC a (.slice p1 n1 k1) (.slice p2 n2 k2) (.slice p3 n3 k3)).size) := Lib.hid (by rw [hz1]; simp [actC])
        have HtA : Hid ((Value.agg (List.toArray (Value.int .i64 0 :: Value.int .i64 0 :: Value.int .i64 0 :: Value.int .i64 0 :: Value.int .i64 0 :: Value.int .i64 0 :: Value.int .i64 0 :: Value.int .i64 0 :: Value.int .i64 0 :: Value.bool false :: Value.int .i64 0 :: Value.int .i64 0 :: Value.int .i64 0 :: Value.int .i64 0 :: Value.int .i64 0 :: Value.int .i64 0 :: Value.int .i64 0 :: Value.int .i64 0 :: Value.int .i64 0 :: Value.int .i64 0 :: Value.int .i64 0 :: Value.int .u8 0 :: Value.int .u8 0 :: Value.int .u8 0 :: Value.int .u8 0 :: Value.int .i64 0 :: Value.int .i64 0 :: Value.int .i64 0 :: Value.slice none 0 0 :: Value.bool false :: Value.slice none 0 0 :: Value.int .i64 0 :: Value.bool false :: Value.slice none 0 0 :: Value.int .i64 0 :: Value.int .i64 0 :: Value.int .i64 0 :: Value.bool false :: Value.bool false :: Value.bool false :: Value.bool false :: Value.int .i64 0 :: []))).cells.size = (actC a (.slice p1 n1 k1) (.slice p2 n2 k2) (.slice p3 n3 k3)).size) := Lib.hid (by simp [actC, Value.cells])
        have HqA : Hid (0 < (actC a (.slice p1 n1 k1) (.slice p2 n2 k2) (.slice p3 n3 k3)).size) := Lib.hid (by simp [actC])
        have HfA : Hid ((actC a (.slice p1 n1 k1) (.slice p2 n2 k2) (.slice p3 n3 k3)).size ≤ 2 ^ 24) := Lib.hid (by simp [actC])
        have hW3 : (w1.alloc (.cells (List.toArray (Value.int .i64 0 :: Value.int .i64 0 :: Value.int .i64 0 :: Value.int .i64 0 :: Value.int .i64 0 :: Value.int .i64 0 :: Value.int .i64 0 :: Value.int .i64 0 :: Value.int .i64 0 :: Value.bool false :: Value.int .i64 0 :: Value.int .i64 0 :: Value.int .i64 0 :: Value.int .i64 0 :: Value.int .i64 0 :: Value.int .i64 0 :: Value.int .i64 0 :: Value.int .i64 0 :: Value.int .i64 0 :: Value.int .i64 0 :: Value.int .i64 0 :: Value.int .u8 0 :: Value.int .u8 0 :: Value.int .u8 0 :: Value.int .u8 0 :: Value.int .i64 0 :: Value.int .i64 0 :: Value.int .i64 0 :: Value.slice none 0 0 :: Value.bool false :: Value.slice none 0 0 :: Value.int .i64 0 :: Value.bool false :: Value.slice none 0 0 :: Value.int .i64 0 :: Value.int .i64 0 :: Value.int .i64 0 :: Value.bool false :: Value.bool false :: Value.bool false :: Value.bool false :: Value.int .i64 0 :: [])) 41)).heap.size = w1.heap.size + 1 := by simp
        have hW4 : ((w1.alloc (.cells (List.toArray (Value.int .i64 0 :: Value.int .i64 0 :: Value.int .i64 0 :: Value.int .i64 0 :: Value.int .i64 0 :: Value.int .i64 0 :: Value.int .i64 0 :: Value.int .i64 0 :: Value.int .i64 0 :: Value.bool false :: Value.int .i64 0 :: Value.int .i64 0 :: Value.int .i64 0 :: Value.int .i64 0 :: Value.int .i64 0 :: Value.int .i64 0 :: Value.int .i64 0 :: Value.int .i64 0 :: Value.int .i64 0 :: Value.int .i64 0 :: Value.int .i64 0 :: Value.int .u8 0 :: Value.int .u8 0 :: Value.int .u8 0 :: Value.int .u8 0 :: Value.int .i64 0 :: Value.int .i64 0 :: Value.int .i64 0 :: Value.slice none 0 0 :: Value.bool false :: Value.slice none 0 0 :: Value.int .i64 0 :: Value.bool false :: Value.slice none 0 0 :: Value.int .i64 0 :: Value.int .i64 0 :: Value.int .i64 0 :: Value.bool false :: Value.bool false :: Value.bool false :: Value.bool false :: Value.int .i64 0 :: [])) 41)).setCells w1.heap.size 0 (actC a (.slice p1 n1 k1) (.slice p2 n2 k2) (.slice p3 n3 k3)).toList).heap.size = w1.heap.size + 1 := by
          have := (Blk.setMod (w1.alloc (.cells (List.toArray (Value.int .i64 0 :: Value.int .i64 0 :: Value.int .i64 0 :: Value.int .i64 0 :: Value.int .i64 0 :: Value.int .i64 0 :: Value.int .i64 0 :: Value.int .i64 0 :: Value.int .i64 0 :: Value.bool false :: Value.int .i64 0 :: Value.int .i64 0 :: Value.int .i64 0 :: Value.int .i64 0 :: Value.int .i64 0 :: Value.int .i64 0 :: Value.int .i64 0 :: Value.int .i64 0 :: Value.int .i64 0 :: Value.int .i64 0 :: Value.int .i64 0 :: Value.int .u8 0 :: Value.int .u8 0 :: Value.int .u8 0 :: Value.int .u8 0 :: Value.int .i64 0 :: Value.int .i64 0 :: Value.int .i64 0 :: Value.slice none 0 0 :: Value.bool false :: Value.slice none 0 0 :: Value.int .i64 0 :: Value.bool false :: Value.slice none 0 0 :: Value.int .i64 0 :: Value.int .i64 0 :: Value.int .i64 0 :: Value.bool false :: Value.bool false :: Value.bool false :: Value.bool false :: Value.int .i64 0 :: [])) 41)) w1.heap.size 0 (actC a (.slice p1 n1 k1) (.slice p2 n2 k2) (.slice p3 n3 k3)).toList)
          rw [← hW3]
          exact size_setCells _ _ _ _
        have hM3 : Gou.Mod (fun k => w1.heap.size ≤ k) w1 (((w1.alloc (.cells (List.toArray (Value.int .i64 0 :: Value.int .i64 0 :: Value.int .i64 0 :: Value.int .i64 0 :: Value.int .i64 0 :: Value.int .i64 0 :: Value.int .i64 0 :: Value.int .i64 0 :: Value.int .i64 0 :: Value.bool false :: Value.int .i64 0 :: Value.int .i64 0 :: Value.int .i64 0 :: Value.int .i64 0 :: Value.int .i64 0 :: Value.int .i64 0 :: Value.int .i64 0 :: Value.int .i64 0 :: Value.int .i64 0 :: Value.int .i64 0 :: Value.int .i64 0 :: Value.int .u8 0 :: Value.int .u8 0 :: Value.int .u8 0 :: Value.int .u8 0 :: Value.int .i64 0 :: Value.int .i64 0 :: Value.int .i64 0 :: Value.slice none 0 0 :: Value.bool false :: Value.slice none 0 0 :: Value.int .i64 0 :: Value.bool false :: Value.slice none 0 0 :: Value.int .i64 0 :: Value.int .i64 0 :: Value.int .i64 0 :: Value.bool false :: Value.bool false :: Value.bool false :: Value.bool false :: Value.int .i64 0 :: [])) 41)).setCells w1.heap.size 0 (actC a (.slice p1 n1 k1) (.slice p2 n2 k2) (.slice p3 n3 k3)).toList).alloc (.cells (actC a (.slice p1 n1 k1) (.slice p2 n2 k2) (.slice p3 n3 k3)) 41)) :=
          ((Gou.Mod.alloc _ _ _).trans' ((Blk.setMod _ w1.heap.size 0 _).imp fun k _ h => by omega)).trans' (Gou.Mod.alloc _ _ _)
        have HM3 := Lib.hid hM3
        have Hnews : Hid (∀ j u, (actC a (.slice p1 n1 k1) (.slice p2 n2 k2) (.slice p3 n3 k3)).toList[j]? = some u → (((w1.alloc (.cells (List.toArray (Value.int .i64 0 :: Value.int .i64 0 :: Value.int .i64 0 :: Value.int .i64 0 :: Value.int .i64 0 :: Value.int .i64 0 :: Value.int .i64 0 :: Value.int .i64 0 :: Value.int .i64 0 :: Value.bool false :: Value.int .i64 0 :: Value.int .i64 0 :: Value.int .i64 0 :: Value.int .i64 0 :: Value.int .i64 0 :: Value.int .i64 0 :: Value.int .i64 0 :: Value.int .i64 0 :: Value.int .i64 0 :: Value.int .i64 0 :: Value.int .i64 0 :: Value.int .u8 0 :: Value.int .u8 0 :: Value.int .u8 0 :: Value.int .u8 0 :: Value.int .i64 0 :: Value.int .i64 0 :: Value.int .i64 0 :: Value.slice none 0 0 :: Value.bool false :: Value.slice none 0 0 :: Value.int .i64 0 :: Value.bool false :: Value.slice none 0 0 :: Value.int .i64 0 :: Value.int .i64 0 :: Value.int .i64 0 :: Value.bool false :: Value.bool false :: Value.bool false :: Value.bool false :: Value.int .i64 0 :: [])) 41)).setCells w1.heap.size 0 (actC a (.slice p1 n1 k1) (.slice p2 n2 k2) (.slice p3 n3 k3)).toList).alloc (.cells (actC a (.slice p1 n1 k1) (.slice p2 n2 k2) (.slice p3 n3 k3)) 41)).cell? ((⟨((w1.alloc (.cells (List.toArray (Value.int .i64 0 :: Value.int .i64 0 :: Value.int .i64 0 :: Value.int .i64 0 :: Value.int .i64 0 :: Value.int .i64 0 :: Value.int .i64 0 :: Value.int .i64 0 :: Value.int .i64 0 :: Value.bool false :: Value.int .i64 0 :: Value.int .i64 0 :: Value.int .i64 0 :: Value.int .i64 0 :: Value.int .i64 0 :: Value.int .i64 0 :: Value.int .i64 0 :: Value.int .i64 0 :: Value.int .i64 0 :: Value.int .i64 0 :: Value.int .i64 0 :: Value.int .u8 0 :: Value.int .u8 0 :: Value.int .u8 0 :: Value.int .u8 0 :: Value.int .i64 0 :: Value.int .i64 0 :: Value.int .i64 0 :: Value.slice none 0 0 :: Value.bool false :: Value.slice none 0 0 :: Value.int .i64 0 :: Value.bool false :: Value.slice none 0 0 :: Value.int .i64 0 :: Value.int .i64 0 :: Value.int .i64 0 :: Value.bool false :: Value.bool false :: Value.bool false :: Value.bool false :: Value.int .i64 0 :: [])) 41)).setCells w1.heap.size 0 (actC a (.slice p1 n1 k1) (.slice p2 n2 k2) (.slice p3 n3 k3)).toList).heap.size, 0, none⟩ : Addr).add j) = some u) := Lib.hid (news_at (heap_at rfl) rfl)
        have Hown : Hid ((((w1.alloc (.cells (List.toArray (Value.int .i64 0 :: Value.int .i64 0 :: Value.int .i64 0 :: Value.int .i64 0 :: Value.int .i64 0 :: Value.int .i64 0 :: Value.int .i64 0 :: Value.int .i64 0 :: Value.int .i64 0 :: Value.bool false :: Value.int .i64 0 :: Value.int .i64 0 :: Value.int .i64 0 :: Value.int .i64 0 :: Value.int .i64 0 :: Value.int .i64 0 :: Value.int .i64 0 :: Value.int .i64 0 :: Value.int .i64 0 :: Value.int .i64 0 :: Value.int .i64 0 :: Value.int .u8 0 :: Value.int .u8 0 :: Value.int .u8 0 :: Value.int .u8 0 :: Value.int .i64 0 :: Value.int .i64 0 :: Value.int .i64 0 :: Value.slice none 0 0 :: Value.bool false :: Value.slice none 0 0 :: Value.int .i64 0 :: Value.bool false :: Value.slice none 0 0 :: Value.int .i64 0 :: Value.int .i64 0 :: Value.int .i64 0 :: Value.bool false :: Value.bool false :: Value.bool false :: Value.bool false :: Value.int .i64 0 :: [])) 41)).setCells w1.heap.size 0 (actC a (.slice p1 n1 k1) (.slice p2 n2 k2) (.slice p3 n3 k3)).toList).alloc (.cells (actC a (.slice p1 n1 k1) (.slice p2 n2 k2) (.slice p3 n3 k3)) 41)).ownsRow W0.heap.size 41 42 (.slice p0 xs.length c0) xs.length cs) :=
          Lib.hid (ownsRow_mod (ownsRow_mod Hg.out.own hm1 fun k hk e => by have := Hg.out.own.lt k hk; have := Hg.out.old.lt; omega) hM3 fun k hk e => by have := Hg.out.own.lt k hk; omega)
        have Hone : Hid (∀ u ∈ (actC a (.slice p1 n1 k1) (.slice p2 n2 k2) (.slice p3 n3 k3)).toList, u.oneCell' = true) := Lib.hid (fun u hu => by
          have h1 := actC_one a p1 n1 k1 p2 n2 k2 p3 n3 k3
          rw [Array.all_eq_true_iff_forall_mem] at h1
          exact h1 u (by simpa using hu))
        have Hlen : Hid ((actC a (.slice p1 n1 k1) (.slice p2 n2 k2) (.slice p3 n3 k3)).toList.length = 1 * 42) := Lib.hid (by simp [actC])
        have Hxl : Hid (xs.length + 1 ≤ 100000000) := Lib.hid (by have := Hg.out.cnt; omega)
        have Hbase : Hid (W0.heap.size ≤ (((w1.alloc (.cells (List.toArray (Value.int .i64 0 :: Value.int .i64 0 :: Value.int .i64 0 :: Value.int .i64 0 :: Value.int .i64 0 :: Value.int .i64 0 :: Value.int .i64 0 :: Value.int .i64 0 :: Value.int .i64 0 :: Value.bool false :: Value.int .i64 0 :: Value.int .i64 0 :: Value.int .i64 0 :: Value.int .i64 0 :: Value.int .i64 0 :: Value.int .i64 0 :: Value.int .i64 0 :: Value.int .i64 0 :: Value.int .i64 0 :: Value.int .i64 0 :: Value.int .i64 0 :: Value.int .u8 0 :: Value.int .u8 0 :: Value.int .u8 0 :: Value.int .u8 0 :: Value.int .i64 0 :: Value.int .i64 0 :: Value.int .i64 0 :: Value.slice none 0 0 :: Value.bool false :: Value.slice none 0 0 :: Value.int .i64 0 :: Value.bool false :: Value.slice none 0 0 :: Value.int .i64 0 :: Value.int .i64 0 :: Value.int .i64 0 :: Value.bool false :: Value.bool false :: Value.bool false :: Value.bool false :: Value.int .i64 0 :: [])) 41)).setCells w1.heap.size 0 (actC a (.slice p1 n1 k1) (.slice p2 n2 k2) (.slice p3 n3 k3)).toList).alloc (.cells (actC a (.slice p1 n1 k1) (.slice p2 n2 k2) (.slice p3 n3 k3)) 41)).heap.size) := Lib.hid (by rw [World.size_alloc, hW4]; omega)
        have Hmeas : Hid (q < m ∧ m ≤ bs.length) := Lib.hid ⟨actAt_go hn, hr1.le⟩
        have Hn := Lib.hid hn
        have Hm1 := Lib.hid hm1
        have Hr1 := Lib.hid hr1
        have Hlr := Lib.hid hlr
        have Hsoft := Lib.hid hsoft
        have HW4 := Lib.hid hW4
        clear hB hA hW3 hW4 hM3 hn hm1 hr1 hlr hsoft hle hgm hLs
        go_wp2_with (first | ((with_reducible refine wpList_store_mid ?g1_3 41 ?x1_3 ?y1_3 ?o1_3 w1.heap.size 0 (actC a (.slice p1 n1 k1) (.slice p2 n2 k2) (.slice p3 n3 k3)) ?h1_3 ?j1_3 ?t1_3 ?i1_3 ?s1_3 ?r1_3); (case g1_3 => exact rfl); (case o1_3 => exact rfl); (case h1_3 => exact rfl); (case j1_3 => exact rfl); (case t1_3 => exact Ht.out); (case i1_3 => exact size_act); (case s1_3 => exact actC_one _ _ _ _ _ _ _ _ _ _)) | ((with_reducible refine wpList_load_row ?g1_1 41 ?x1_1 ?o1_1 w1.heap.size ?h1_1 ?t1_1 ?c1_1 ?f1_1 ?d1_1 ?b1_1 ?u1_1 ?s1_1 ?i1_1 ?r1_1); (case g1_1 => exact rfl); (case o1_1 => exact rfl); (case h1_1 => exact rfl); (case b1_1 => exact HB.out); (case u1_1 => exact Try.underlying41); (case s1_1 => exact rfl); (case i1_1 => exact size_act)) | ((with_reducible refine wpList_buildOne ?gB 51 41 ?pB ?oB (actC a (.slice p1 n1 k1) (.slice p2 n2 k2) (.slice p3 n3 k3)) ?xB iA (.agg (List.toArray (Value.int .i64 0 :: Value.int .i64 0 :: Value.int .i64 0 :: Value.int .i64 0 :: Value.int .i64 0 :: Value.int .i64 0 :: Value.int .i64 0 :: Value.int .i64 0 :: Value.int .i64 0 :: Value.bool false :: Value.int .i64 0 :: Value.int .i64 0 :: Value.int .i64 0 :: Value.int .i64 0 :: Value.int .i64 0 :: Value.int .i64 0 :: Value.int .i64 0 :: Value.int .i64 0 :: Value.int .i64 0 :: Value.int .i64 0 :: Value.int .i64 0 :: Value.int .u8 0 :: Value.int .u8 0 :: Value.int .u8 0 :: Value.int .u8 0 :: Value.int .i64 0 :: Value.int .i64 0 :: Value.int .i64 0 :: Value.slice none 0 0 :: Value.bool false :: Value.slice none 0 0 :: Value.int .i64 0 :: Value.bool false :: Value.slice none 0 0 :: Value.int .i64 0 :: Value.int .i64 0 :: Value.int .i64 0 :: Value.bool false :: Value.bool false :: Value.bool false :: Value.bool false :: Value.int .i64 0 :: []))) ?uB ?iB ?zB ?sB ?tB ?qB ?fB ?rB); (case gB => exact rfl); (case oB => exact rfl); (case xB => exact rfl); (case uB => exact Try.underlying51); (case iB => exact hiA); (case zB => exact hz0); (case sB => exact HsA.out); (case tB => exact HtA.out); (case qB => exact HqA.out); (case fB => exact HfA.out)) | (at_builtin; go_loud (refine wpList_append_lies _ rfl _ _ 51 rfl W0.heap.size 41 iA (.agg (List.toArray (Value.int .i64 0 :: Value.int .i64 0 :: Value.int .i64 0 :: Value.int .i64 0 :: Value.int .i64 0 :: Value.int .i64 0 :: Value.int .i64 0 :: Value.int .i64 0 :: Value.int .i64 0 :: Value.bool false :: Value.int .i64 0 :: Value.int .i64 0 :: Value.int .i64 0 :: Value.int .i64 0 :: Value.int .i64 0 :: Value.int .i64 0 :: Value.int .i64 0 :: Value.int .i64 0 :: Value.int .i64 0 :: Value.int .i64 0 :: Value.int .i64 0 :: Value.int .u8 0 :: Value.int .u8 0 :: Value.int .u8 0 :: Value.int .u8 0 :: Value.int .i64 0 :: Value.int .i64 0 :: Value.int .i64 0 :: Value.slice none 0 0 :: Value.bool false :: Value.slice none 0 0 :: Value.int .i64 0 :: Value.bool false :: Value.slice none 0 0 :: Value.int .i64 0 :: Value.int .i64 0 :: Value.int .i64 0 :: Value.bool false :: Value.bool false :: Value.bool false :: Value.bool false :: Value.int .i64 0 :: []))) 42 336 Try.underlying51 hiA hz0 hz1 hz2 hz3 (by omega) (.slice p0 xs.length c0) xs.length cs rfl Hown.out ⟨((w1.alloc (.cells (List.toArray (Value.int .i64 0 :: Value.int .i64 0 :: Value.int .i64 0 :: Value.int .i64 0 :: Value.int .i64 0 :: Value.int .i64 0 :: Value.int .i64 0 :: Value.int .i64 0 :: Value.int .i64 0 :: Value.bool false :: Value.int .i64 0 :: Value.int .i64 0 :: Value.int .i64 0 :: Value.int .i64 0 :: Value.int .i64 0 :: Value.int .i64 0 :: Value.int .i64 0 :: Value.int .i64 0 :: Value.int .i64 0 :: Value.int .i64 0 :: Value.int .i64 0 :: Value.int .u8 0 :: Value.int .u8 0 :: Value.int .u8 0 :: Value.int .u8 0 :: Value.int .i64 0 :: Value.int .i64 0 :: Value.int .i64 0 :: Value.slice none 0 0 :: Value.bool false :: Value.slice none 0 0 :: Value.int .i64 0 :: Value.bool false :: Value.slice none 0 0 :: Value.int .i64 0 :: Value.int .i64 0 :: Value.int .i64 0 :: Value.bool false :: Value.bool false :: Value.bool false :: Value.bool false :: Value.int .i64 0 :: [])) 41)).setCells w1.heap.size 0 (actC a (.slice p1 n1 k1) (.slice p2 n2 k2) (.slice p3 n3 k3)).toList).heap.size, 0, none⟩ 1 1 (actC a (.slice p1 n1 k1) (.slice p2 n2 k2) (.slice p3 n3 k3)).toList rfl Hlen.out Hnews.out Hone.out (by omega) (by have := Hxl.out; unfold maxLen; omega) (by have := Hxl.out; omega) Hbase.out _ rfl ?_)) | fail)
        intro gg cp w4 hown4 hgrow4 hat4 hlt4
        obtain ⟨lo', hi', hG⟩ := Hg.out.step Hm1.out Hn.out Hr1.out Hlr.out Hsoft.out HM3.out rfl hown4 hgrow4 (by rw [World.size_alloc]; exact hat4) Hmeas.out.1
        have HG := Lib.hid hG
        have hcm := hG.rd.c1
        have hm0 := Hmeas.out
        clear hown4 hgrow4 hat4 hlt4 hG
        go_wp2_with fail
        go_roundw
        case rel => exact ⟨_, _, _, _, _, HG.out⟩
        case measure =>
          rw [hcm, hc1]
          simp [intOf]
          omega
    · obtain rfl : q = bs.length := by omega
      have e1 : decide ((bs.length : Int) < (bs.length : Int)) = false := by simp
      clear hg hq hle
      go_wp2_with fail
      go_quiet (fail)
      go_wp2_with fail
      refine bodyPost_ret (v := .tuple #[.slice p0 xs.length c0, .int .i64 bs.length, .int .i64 0]) (by simp [results, Try.results14, go_sem]) rfl ?_
      refine ⟨xs, bs.length, _, Hg.out.reads, Nat.le_refl _, fun h => by omega, by rw [if_neg (by omega)], Hg.out.done (Gou.Mod.drewN _ _ _) (by have := HS.out; omega), ?_⟩
      exact (HW.out.trans (Hg.out.mod.trans' (Gou.Mod.drewN _ _ _)) fun k hk e => by omega)

end Go.Proofs.Ytnamnmipgpcjjaa

/- Acts as bytes: acts are put behind acts. -/
namespace Go.Gou
open Go.RowKit

/-- The bytes of acts, one behind the other. -/
def Written : List Ac → List Nat → Prop
  | [], bs => bs = []
  | a :: r, bs => ∃ es rest, putOf a = some es ∧ PxSmall a.op.look.content ∧ LookBorne a.op.look ∧ bs = es ++ rest ∧ Written r rest

theorem Written.snoc {xs : List Ac} {bs : List Nat} (h : Written xs bs) {a : Ac} {es : List Nat} (hp : putOf a = some es) (hs : PxSmall a.op.look.content) (hb : LookBorne a.op.look) : Written (xs ++ [a]) (bs ++ es) := by
  induction xs generalizing bs with
  | nil => obtain rfl : bs = [] := h; exact ⟨es, [], hp, hs, hb, by simp, rfl⟩
  | cons x r ih =>
    obtain ⟨e1, rest, h1, h2, h3, rfl, h4⟩ := h
    exact ⟨e1, rest ++ es, h1, h2, h3, by rw [List.append_assoc], ih h4⟩

theorem Written.small {xs : List Ac} {bs : List Nat} (h : Written xs bs) : ∀ b ∈ bs, b < 256 := by
  induction xs generalizing bs with
  | nil => obtain rfl : bs = [] := h; intro b hb; cases hb
  | cons x r ih =>
    obtain ⟨e1, rest, h1, h2, h3, rfl, h4⟩ := h
    obtain ⟨e2, he2, hp⟩ := Option.bind_eq_some_iff.1 (show (encAct x).bind _ = some e1 from h1)
    obtain ⟨_, _, hp⟩ := Option.bind_eq_some_iff.1 hp
    split at hp
    · simp only [Option.some.injEq] at hp
      subst hp
      intro b hb
      exact (List.mem_append.1 hb).elim ((encAct_fine he2 h2).2 b) (ih h4 b)
    · cases hp

theorem Written.borne {xs : List Ac} {bs : List Nat} (h : Written xs bs) : ∀ x ∈ xs, LookBorne x.op.look := by
  induction xs generalizing bs with
  | nil => intro b hb; cases hb
  | cons x r ih =>
    obtain ⟨e1, rest, h1, h2, h3, rfl, h4⟩ := h
    intro y hy
    rcases List.mem_cons.1 hy with rfl | hy
    · exact h3
    · exact ih h4 y hy

theorem Written.reads {xs : List Ac} {bs : List Nat} (h : Written xs bs) : ∀ pre : List Nat, (∀ b ∈ pre, b < 256) → Reads (pre ++ bs) xs pre.length (pre ++ bs).length := by
  induction xs generalizing bs with
  | nil => obtain rfl : bs = [] := h; intro pre _; show pre.length = (pre ++ []).length; simp
  | cons x r ih =>
    intro pre hpre
    have hsm := h.small
    obtain ⟨e1, rest, h1, h2, h3, rfl, h4⟩ := h
    have hb : ∀ b ∈ pre ++ (e1 ++ rest), b < 256 := fun b hb => (List.mem_append.1 hb).elim (hpre b) (hsm b)
    have := ih h4 (pre ++ e1) (fun b hb => (List.mem_append.1 hb).elim (hpre b) fun h => hsm b (List.mem_append_left _ h))
    rw [List.append_assoc, List.length_append] at this
    refine ⟨pre.length + e1.length, act_of_putOf hb h2 h1 ⟨rest, by rw [List.drop_left]⟩, this⟩

/-- Cells of acts, one behind the other, whose lists lie where G says. -/
structure WantIn (G : Nat → Prop) (w : World) (cs : List Value) (xs : List Ac) : Prop where
  len : cs.length = xs.length * 42
  at_ : ∀ i, (h : i < xs.length) → ∃ vp vf vb, (∀ j, j < 42 → cs[i * 42 + j]? = (actC xs[i] vp vf vb)[j]?) ∧ LookR G w xs[i].op.look vp vf vb

theorem WantIn.nil (G : Nat → Prop) (w : World) : WantIn G w [] [] := ⟨rfl, fun i h => by simp at h⟩
theorem WantIn.mod {G S : Nat → Prop} {w w' : World} {cs : List Value} {xs : List Ac} (h : WantIn G w cs xs) (hm : Mod S w w') (hS : ∀ k, k < w.heap.size → G k → ¬ S k) : WantIn G w' cs xs :=
  ⟨h.len, fun i hi => by
    obtain ⟨vp, vf, vb, h1, h2⟩ := h.at_ i hi
    exact ⟨vp, vf, vb, h1, h2.mod hm hS⟩⟩
theorem WantIn.snoc {G : Nat → Prop} {w : World} {cs : List Value} {xs : List Ac} (h : WantIn G w cs xs) {a : Ac} {vp vf vb : Value} (hl : LookR G w a.op.look vp vf vb) : WantIn G w (cs ++ (actC a vp vf vb).toList) (xs ++ [a]) := by
  have hc : (actC a vp vf vb).toList.length = 42 := by simp [actC]
  refine ⟨by rw [List.length_append, h.len, hc, List.length_append]; simp; omega, fun i hi => ?_⟩
  by_cases hin : i < xs.length
  · obtain ⟨up, uf, ub, h1, h2⟩ := h.at_ i hin
    rw [List.getElem_append_left hin]
    refine ⟨up, uf, ub, fun j hj => ?_, h2⟩
    rw [List.getElem?_append_left (by rw [h.len]; have : (i + 1) * 42 ≤ xs.length * 42 := Nat.mul_le_mul_right _ (by omega); omega)]
    exact h1 j hj
  · have hi' : i = xs.length := by simp at hi; omega
    subst hi'
    have hg : (xs ++ [a])[xs.length] = a := by simp
    rw [hg]
    refine ⟨vp, vf, vb, fun j hj => ?_, hl⟩
    rw [List.getElem?_append_right (by rw [h.len]; omega), h.len, Nat.add_sub_cancel_left, Array.getElem?_toList]

theorem WantIn.toR {G : Nat → Prop} {TA : TypeId} {base : Nat} {w : World} {v : Value} {cs : List Value} {xs : List Ac} (h : WantIn G w cs xs) (hown : w.ownsRow base TA 42 v xs.length cs) : ActsR w v xs := by
  have hlt := hown.lt
  obtain ⟨hl, ho⟩ := hown
  rcases ho with ⟨rfl, h0⟩ | ⟨g, cap, cur, rfl, hg, hh, hn, _, _, ht⟩
  · obtain rfl := List.length_eq_zero_iff.1 h0
    exact ⟨none, 0, rfl, Nat.le_refl _, .inl rfl⟩
  · refine ⟨_, cap, rfl, hn, .inr ⟨g, 0, rfl, (hlt g rfl).2, fun i hi' => ?_⟩⟩
    obtain ⟨vp, vf, vb, h1, h2⟩ := h.at_ i hi'
    refine ⟨vp, vf, vb, fun j u hu => ?_, h2.imp fun _ _ _ => trivial⟩
    have hj : j < 42 := by
      have := (Array.getElem?_eq_some_iff.1 hu).1
      simpa [actC] using this
    have hc := h1 j hj
    rw [hu] at hc
    rw [Nat.zero_add, cell_of_row w g _ cur _ (0, 0) hh, ← Array.getElem?_toList, ← hc, ← ht, List.getElem?_take, if_pos (by
      have : (i + 1) * 42 ≤ xs.length * 42 := Nat.mul_le_mul_right _ (by omega)
      omega)]

end Go.Gou
namespace Go.Proofs.Ytnamnmipgpcjjaa
open Go.RowKit Go.Gou

set_option linter.constructorNameAsVariable false
set_option maxRecDepth 100000

/-- '[]api.Act{a}'. -/
theorem wpList_build_act {ops : Array Oper} {rest : List Oper} {o : Oper} {a : Act} {w : World} {Q : Exit → Act → World → Prop} (hg : o.guard = none) (x : Operand) (ho : o.op = .buildSlice 51 1 #[(0, x)])
    (d : Ac) (p1 p2 p3 : Option Addr) (n1 n2 n3 k1 k2 k3 : Nat) (hx : a.eval x = .agg (actC d (.slice p1 n1 k1) (.slice p2 n2 k2) (.slice p3 n3 k3)))
    (h : wpList Try.prog ops Q rest (a.put o.dst (.slice (some ⟨w.heap.size, 0, none⟩) 1 1)) (w.alloc (.cells (actC d (.slice p1 n1 k1) (.slice p2 n2 k2) (.slice p3 n3 k3)) 41))) : wpList Try.prog ops Q (o :: rest) a w := by
  obtain ⟨iA, hiA, hz0, hz1, hz2⟩ := info_parts info_act
  exact wpList_buildOne hg 51 41 x ho _ hx iA _ Try.underlying51 hiA hz0 (by rw [hz1]; simp [actC]) (by simp [Value.cells, actC]) (by simp [actC]) (by simp [actC]) h

/-- 'append(acts, a)'. -/
theorem wpList_append_act {ops : Array Oper} {rest : List Oper} {o : Oper} {a : Act} {w : World} {Q : Exit → Act → World → Prop} (hg : o.guard = none) (s x : Operand) (ho : o.op = .call { callee := .builtin .append, args := #[s, x], argTypes := #[51, 51] })
    (base : Nat) (v : Value) (n : Nat) (cs : List Value) (B : Nat) (d : Ac) (p1 p2 p3 : Option Addr) (n1 n2 n3 k1 k2 k3 : Nat) (hs : a.eval s = v) (hx : a.eval x = .slice (some ⟨B, 0, none⟩) 1 1) (hown : w.ownsRow base 41 42 v n cs)
    (hB : w.heap[B]? = some (.cells (actC d (.slice p1 n1 k1) (.slice p2 n2 k2) (.slice p3 n3 k3)) 41 (0, 0))) (hn : n ≤ 100000000) (hbase : base ≤ w.heap.size)
    (h : ∀ g cap w', w'.ownsRow base 41 42 (.slice (some ⟨g, 0, none⟩) (n + 1) cap) (n + 1) (cs ++ (actC d (.slice p1 n1 k1) (.slice p2 n2 k2) (.slice p3 n3 k3)).toList) → Gou.Mod (fun k => v.ownBlock = some k) w w' → (v.ownBlock = some g ∨ w.heap.size ≤ g) → wpList Try.prog ops Q rest (a.put o.dst (.slice (some ⟨g, 0, none⟩) (n + 1) cap)) w') : wpList Try.prog ops Q (o :: rest) a w := by
  obtain ⟨iA, hiA, hz0, hz1, hz2⟩ := info_parts info_act
  refine wpList_append_lies w hg s x 51 ho base 41 iA _ 42 336 Try.underlying51 hiA hz0 hz1 hz2 (by simp [Value.cells]) (by omega) v n cs hs hown ⟨B, 0, none⟩ 1 1 (actC d (.slice p1 n1 k1) (.slice p2 n2 k2) (.slice p3 n3 k3)).toList hx (by simp [actC]) (news_at hB rfl) (fun u hu => by
    have h1 := actC_one d p1 n1 k1 p2 n2 k2 p3 n3 k3
    rw [Array.all_eq_true_iff_forall_mem] at h1
    exact h1 u (by simpa using hu)) (by omega) (by unfold maxLen; omega) (by omega) hbase _ rfl (fun g cap w' h1 h2 h3 h4 => h g cap w' h1 (Gou.Mod.of_grown h2) (h3.imp id fun e => by omega))

end Go.Proofs.Ytnamnmipgpcjjaa

