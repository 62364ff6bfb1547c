/- Texts of the scenes' proofs, laid together: SdP, SdQ, SdR, SdT. -/
import Derived.Test.YtpbmfalokongfaaZal
set_option linter.unusedSimpArgs false
set_option linter.unusedVariables false
set_option linter.unusedSectionVars false
set_option linter.constructorNameAsVariable false

/- Scenes: the code's find at a tree that is only read; Find. -/
namespace Go.Gou
open Go.RowKit
/-- A layer that lies at a place and reads so. -/
structure RdAt (w : World) (b o : Nat) (T : Ly) : Prop where
  lies : ∃ c, LyR (fun _ => True) w c T ∧ w.rangeAt b o c
  lt : b < w.heap.size
theorem RdAt.up {w w' : World} {b o : Nat} {T : Ly} (h : RdAt w b o T) (hm : Mod (fun _ => False) w w') : RdAt w' b o T := by
  obtain ⟨⟨c, h1, h2⟩, h3⟩ := h
  exact ⟨⟨c, h1.up hm, fun j v hv => (hm.cell (p := ⟨b, o + j, none⟩) h3 (fun h => h)).trans (h2 j v hv)⟩, Nat.lt_of_lt_of_le h3 hm.size⟩
theorem RdAt.kids {w : World} {b o : Nat} {T : Ly} (h : RdAt w b o T) : ∃ (p : Option Addr) (cap : Nat), w.cell? ⟨b, o + 30, none⟩ = some (.slice p T.kids.length cap) ∧ w.cell? ⟨b, o, none⟩ = some (.int .i64 T.id.1) ∧ w.cell? ⟨b, o + 1, none⟩ = some (.int .i64 T.id.2) ∧ T.kids.length ≤ cap ∧
    ∀ (i : Nat) (k : Ly), T.kids[i]? = some k → ∃ g off, p = some ⟨g, off, none⟩ ∧ RdAt w g (off + i * 31) k := by
  obtain ⟨⟨c, h1, h2⟩, h3⟩ := h
  obtain ⟨vp, vf, vb, vk, css, e, hl, hr, hn, hk⟩ := h1.form
  subst e
  obtain ⟨p, cap, rfl, hcap⟩ := RowG.form hr
  refine ⟨p, cap, h2 30 _ rfl, h2 0 _ rfl, h2 1 _ rfl, hcap, fun i k hi => ?_⟩
  have h31 := LyR.lens hn hk
  have hil := (List.getElem?_eq_some_iff.1 hi).1
  have hci : css[i]? = some css[i] := List.getElem?_eq_getElem (by omega)
  obtain ⟨g, off, e, hg, _, hc⟩ := RowG.kid hr h31 hn hci
  exact ⟨g, off, e, ⟨_, hk i _ k hci hi, fun r v hv => hc r v hv⟩, hg⟩
end Go.Gou
namespace Go.Proofs.Ytpbmfalokongfaa
open Go.RowKit Go.Gou
set_option maxRecDepth 100000

/-- What find answers at a tree that is only read. -/
def FindR (T : Ly) (x : Idt) (w : World) (d : Nat) (e : Ending) (w' : World) : Prop := Gou.Mod (fun _ => False) w w' ∧
  (T.pathOf x = none → e = .returned (.tuple #[.pointer none, .int .i64 0])) ∧
  (∀ π, T.pathOf x = some π → ∃ b' o' s, e = .returned (.tuple #[.pointer (some ⟨b', o', none⟩), .int .i64 ((d + π.length : Nat) : Int)]) ∧ RdAt w' b' o' s ∧ T.get? π = some s)

set_option maxHeartbeats 2000000 in
theorem findR_any (x : Idt) : ∀ (T : Ly) (w : World) (b o : Nat) (d : Nat), RdAt w b o T → TFit T → d + T.height ≤ 1000 →
    Calls Try.prog 21 #[.pointer (some ⟨b, o, none⟩), .agg #[.int .i64 x.1, .int .i64 x.2], .int .i64 d] w (FindR T x w d) := by
  intro T
  induction T using Ly.ind with
  | h i lk ks ih =>
    intro w b o d hT hft hd
    have hks : ks.length ≤ 1000000 := TFit.len hft
    have Hks := Lib.hid hks
    have Hfk : Hid (∀ k ∈ ks, TFit k) := Lib.hid (by cases hft; assumption)
    clear hft hks
    obtain ⟨p, cap, c30, c0, c1, hcap, hk⟩ := hT.kids
    simp only [Ly.id_mk, Ly.kids_mk] at c0 c1 c30 hk hcap
    have Hk := Lib.hid hk
    have HT := Lib.hid hT
    have Ih := Lib.hid ih
    clear hk hT ih
    go_enter Try.func21, Try.ntmps21
    go_wp2_with fail
    generalize hW : w.alloc (.cells #[.int .i64 x.1, .int .i64 x.2] 30) = w1
    have Hm : Hid (Gou.Mod (fun _ => False) w w1) := Lib.hid (hW ▸ Gou.Mod.alloc _ _ _)
    have HX : Hid (Blk w1 w.heap.size 30 #[.int .i64 x.1, .int .i64 x.2]) := Lib.hid (hW ▸ heap_alloc_new w _)
    have hlt := HT.out.lt
    have c30' := (Hm.out.cell (p := ⟨b, o + 30, none⟩) hlt (fun h => h)).trans c30
    have c0' := (Hm.out.cell (p := ⟨b, o, none⟩) hlt (fun h => h)).trans c0
    have c1' := (Hm.out.cell (p := ⟨b, o + 1, none⟩) hlt (fun h => h)).trans c1
    have x0 := HX.out.cell 0 rfl
    have x1 := HX.out.cell 1 rfl
    clear c0 c1 hW
    obtain ⟨N, hNN⟩ : ∃ N, N = w.heap.size := ⟨_, rfl⟩
    rw [← hNN] at HX x0 x1
    rw [← hNN]
    clear hNN
    have Hid0 := fun (w' : World) => id_op i x w'
    by_cases hx : i = x
    · have e1 : decide (i = x) = true := decide_eq_true hx
      rw [e1] at Hid0
      have Hx := Lib.hid hx
      clear hx e1
      go_quiet (fail)
      go_wp2_with fail
      refine bodyPost_ret (v := .tuple #[.pointer (some ⟨b, o, none⟩), .int .i64 ((d : Nat) : Int)]) (by simp [results, Try.results21, go_sem]) rfl ?_
      have Hmq := Hm.out.trans' (Gou.Mod.drewN (fun _ => False) w1 nq)
      refine ⟨Hmq, fun h => ?_, fun π h => ?_⟩
      · rw [Ly.pathOf, if_pos Hx.out] at h
        cases h
      · rw [Ly.pathOf, if_pos Hx.out] at h
        cases h
        exact ⟨b, o, _, rfl, HT.out.up Hmq, rfl⟩
    · have e1 : decide (i = x) = false := decide_eq_false hx
      rw [e1] at Hid0
      have Hx := Lib.hid hx
      clear hx e1
      go_quiet (fail)
      go_wp2_with fail
      have Hm2 := Lib.hid (Hm.out.trans' (Gou.Mod.drewN (fun _ => False) w1 nq))
      have hN := Lib.hid (HX.out.mod (Gou.Mod.drewN (fun _ => False) w1 nq) (fun h => h))
      clear HX Hm c30' c0' c1' x0 x1
      go_loopw [24] (fun v wr => ∃ j : Nat, v = .int .i64 j ∧ j ≤ ks.length ∧ (∀ a ∈ ks.take j, a.pathOf x = none) ∧ Gou.Mod (fun _ => False) w wr ∧ Blk wr N 30 #[.int .i64 x.1, .int .i64 x.2]) (fun v _ => ks.length - (intOf v).toNat)
      case atStart => exact ⟨0, rfl, by omega, by simp, Hm2.out, hN.out⟩
      case round =>
        obtain ⟨j, rfl, hj, hall, hm, hb⟩ := hrel
        have Hall := Lib.hid hall
        have Hm := Lib.hid hm
        have HB := Lib.hid hb
        clear hall hm hb Hm2 hN
        have hlt' := HT.out.lt
        by_cases hil : j < ks.length
        · have e1 : decide ((j : Int) < (ks.length : Int)) = true := decide_eq_true (by omega)
          obtain ⟨g, off, rfl, hT'⟩ := Hk.out j ks[j] (List.getElem?_eq_getElem hil)
          have HT' := Lib.hid (hT'.up Hm.out)
          have c30' := (Hm.out.cell (p := ⟨b, o + 30, none⟩) hlt' (fun h => h)).trans c30
          have x0 := HB.out.cell 0 rfl
          have x1 := HB.out.cell 1 rfl
          have hhk : Hid (d + 1 + (ks[j]).height ≤ 1000) := Lib.hid (by
            have := (Ly.heightL_le (n := 1000 - d)).1 (by rw [Ly.height] at hd; omega) ks[j] (List.getElem_mem hil)
            omega)
          clear hT'
          have Hkj : Hid (ks[j]? = some ks[j]) := Lib.hid (List.getElem?_eq_getElem hil)
          have Hstep : Hid (ks[j].pathOf x = none → ∀ a ∈ ks.take (j + 1), a.pathOf x = none) := Lib.hid (fun h a ha => by
            rw [List.take_succ_eq_append_getElem hil, List.mem_append, List.mem_singleton] at ha
            rcases ha with ha | rfl
            · exact Hall.out a ha
            · exact h)
          have Hik : Hid (∀ w', Gou.Mod (fun _ => False) wr w' → Calls Try.prog 21 #[.pointer (some ⟨g, off + j * 31, none⟩), .agg #[.int .i64 x.1, .int .i64 x.2], .int .i64 ((d : Int) + 1)] w' (FindR ks[j] x w' (d + 1))) :=
            Lib.hid (fun w' hw' => Ih.out ks[j] (List.getElem_mem hil) w' g (off + j * 31) (d + 1) (HT'.out.up hw') (Hfk.out _ (List.getElem_mem hil)) hhk.out)
          have hwd : IntKind.i64.wrap ((d : Int) + 1) = (d : Int) + 1 := by rw [IntKind.wrap_i64]; have := hhk.out; omega
          have Hjl := Lib.hid hil
          generalize ks[j] = k at *
          cases hp : k.pathOf x with
          | none =>
            have Hp := Lib.hid hp
            clear hp
            go_wp2_with fail
            go_region_held3 (fun w' => (Gou.Mod (fun _ => False) wr w' ∧ w'.cell? ⟨b, o + 30, none⟩ = some (.slice (some ⟨g, off, none⟩) ks.length cap) ∧ w'.cell? ⟨N, 0, none⟩ = some (.int .i64 x.1) ∧ w'.cell? ⟨N, 1, none⟩ = some (.int .i64 x.2)))
              (first | exact ⟨Gou.Mod.drew _ _, c30', x0, x1⟩ | (obtain ⟨g0, g1, g2, g3⟩ := ‹Gou.Mod (fun _ => False) wr _ ∧ _›; exact ⟨g0.trans' hm4.out, (hm4.out.cell (p := ⟨b, o + 30, none⟩) (World.block_lt_of_cell? _ _ g1) (fun h => h)).trans g1, (hm4.out.cell (p := ⟨N, 0, none⟩) (World.block_lt_of_cell? _ _ g2) (fun h => h)).trans g2, (hm4.out.cell (p := ⟨N, 1, none⟩) (World.block_lt_of_cell? _ _ g3) (fun h => h)).trans g3⟩))
              (first | (go_at_call 21; refine (Hik.out _ (by first | exact (‹Gou.Mod (fun _ => False) wr _ ∧ _›).1 | exact Gou.Mod.drew _ _)).mono ?_; rintro e w4 ⟨hm4', hn4, hs4⟩; obtain rfl := hn4 Hp.out; have hm4 := Lib.hid hm4'; clear hn4 hs4 hm4'))
            have Hm4 := Lib.hid (Hm.out.trans' (‹Gou.Mod (fun _ => False) wr w4 ∧ _›).1)
            have hB4 := Lib.hid (HB.out.mod (‹Gou.Mod (fun _ => False) wr w4 ∧ _›).1 (fun h => h))
            have hwj : wrap64 ((j : Int) + 1) = ((j + 1 : Nat) : Int) := by have := Hjl.out; have := Hks.out; unfold wrap64; omega
            go_wp2_with fail
            go_roundw
            case rel => exact ⟨j + 1, by rw [← hwj], by have := Hjl.out; omega, Hstep.out Hp.out, Hm4.out, hB4.out⟩
            case measure => rw [hwj]; have := Hjl.out; simp only [intOf]; omega
          | some ρ =>
            have Hp := Lib.hid hp
            clear hp
            go_wp2_with fail
            go_region_held3 (fun w' => (Gou.Mod (fun _ => False) wr w' ∧ w'.cell? ⟨b, o + 30, none⟩ = some (.slice (some ⟨g, off, none⟩) ks.length cap) ∧ w'.cell? ⟨N, 0, none⟩ = some (.int .i64 x.1) ∧ w'.cell? ⟨N, 1, none⟩ = some (.int .i64 x.2)))
              (first | exact ⟨Gou.Mod.drew _ _, c30', x0, x1⟩ | (obtain ⟨g0, g1, g2, g3⟩ := ‹Gou.Mod (fun _ => False) wr _ ∧ _›; exact ⟨g0.trans' hm4.out, (hm4.out.cell (p := ⟨b, o + 30, none⟩) (World.block_lt_of_cell? _ _ g1) (fun h => h)).trans g1, (hm4.out.cell (p := ⟨N, 0, none⟩) (World.block_lt_of_cell? _ _ g2) (fun h => h)).trans g2, (hm4.out.cell (p := ⟨N, 1, none⟩) (World.block_lt_of_cell? _ _ g3) (fun h => h)).trans g3⟩))
              (first | (go_at_call 21; refine (Hik.out _ (by first | exact (‹Gou.Mod (fun _ => False) wr _ ∧ _›).1 | exact Gou.Mod.drew _ _)).mono ?_; rintro e w4 ⟨hm4', hn4, hs4⟩; obtain ⟨b', o', s, rfl, hz4, hg4⟩ := hs4 ρ Hp.out; have Hz4 := Lib.hid (And.intro hz4 hg4); have hm4 := Lib.hid hm4'; clear hn4 hs4 hm4' hz4 hg4))
            have Hm4 := Lib.hid (Hm.out.trans' (‹Gou.Mod (fun _ => False) wr w4 ∧ _›).1)
            go_wp2_with fail
            refine bodyPost_ret (v := .tuple #[.pointer (some ⟨b', o', none⟩), .int .i64 ((d : Int) + 1 + (ρ.length : Nat))]) (by simp [results, Try.results21, go_sem]) rfl ?_
            have hpp : Ly.pathOf x (.mk i lk ks) = some (j :: ρ) := by
              rw [Ly.pathOf, if_neg Hx.out, Ly.pathL_at Hall.out Hkj.out Hp.out, Nat.zero_add]
            refine ⟨Hm4.out, fun h => ?_, fun π h => ?_⟩
            · rw [hpp] at h
              cases h
            · rw [hpp] at h
              cases h
              have e5 : (d : Int) + 1 + (ρ.length : Nat) = ((d + (j :: ρ).length : Nat) : Int) := by simp only [List.length_cons, Int.natCast_add, Int.natCast_one]; generalize (ρ.length : Int) = rr; generalize (d : Int) = dd; omega
              exact ⟨b', o', s, by rw [e5], Hz4.out.1, by rw [Ly.get?, Ly.kids_mk, Hkj.out]; exact Hz4.out.2⟩
        · have hil' : j = ks.length := by omega
          have e1 : decide ((j : Int) < (ks.length : Int)) = false := decide_eq_false (by omega)
          go_wp2_with fail
          refine bodyPost_ret (v := .tuple #[.pointer none, .int .i64 0]) (by simp [results, Try.results21, go_sem]) rfl ?_
          rw [hil', List.take_length] at Hall
          have hp : Ly.pathOf x (.mk i lk ks) = none := by
            rw [Ly.pathOf, if_neg Hx.out, Ly.pathL_none]
            exact Hall.out
          refine ⟨Hm.out, fun _ => rfl, fun π h => ?_⟩
          rw [hp] at h
          cases h

/-- What Find hands back. -/
def FindSP (w : World) (s : Sn) (x : Idt) (e : Ending) (w' : World) : Prop := ∃ y F vp vf vb vk, e = .returned (.tuple #[.agg (lyA y.id y.look vp vf vb vk), .bool (s.root.find x).isSome]) ∧ y = ((s.root.find x).map (·.1)).getD Ly.zero ∧ LyO 45 67 w.heap.size w' (lyA y.id y.look vp vf vb vk).toList y F ∧ Gou.Mod (fun _ => False) w w'
theorem LyO.zero_ (base : Nat) (w : World) : LyO 45 67 base w (lyA (0, 0) Lk.zero (.slice none 0 0) (.slice none 0 0) (.slice none 0 0) (.slice none 0 0)).toList Ly.zero [] :=
  LyO.mk (0, 0) Lk.zero [] _ _ _ _ [] [] ⟨PixR.nil _ _, NodesR.nil _ _, NodesR.nil _ _⟩ (World.ownsRow_nil _ _ _ _) rfl rfl (fun j c k f h => by simp at h) (by simp [Value.ownBlock])
theorem lyO_box {base : Nat} {w w' : World} {c : List Value} {T : Ly} {F : List Nat} (h : LyO 45 67 base w c T F) {k : Nat} (hk : k < base) (hm : Gou.Mod (fun x => x = k) w w') : LyO 45 67 base w' c T F :=
  h.mod hm (fun x hx e => by have := (h.rows x hx).1; omega) (fun x hx _ e => by omega)

set_option maxHeartbeats 8000000 in
theorem findS_any (w : World) (v : Value) (s : Sn) (x : Idt) (h : SnR (fun _ => True) w v s) (hf : SnFit s) (n : Nat) (hI : Inv n s) :
    Calls Try.prog 14 #[v, .agg #[Value.int .i64 x.1, Value.int .i64 x.2]] w (FindSP w s x) := by
  obtain ⟨vg, vl, vp, vf, vb, vk, rfl, har, hly⟩ := h
  obtain ⟨pg, cg, rfl⟩ := RowG.slice har.g
  obtain ⟨pl, cl, rfl⟩ := RowG.slice har.l
  have Har := Lib.hid har
  have Hly := Lib.hid hly
  have Hf := Lib.hid hf
  have HI := Lib.hid hI
  clear har hly hf hI
  obtain ⟨b0, b1, b2, bm⟩ := three_new w 47 30 45 (scA (.slice pg s.arena.gens.length cg) (.slice pl s.arena.live.length cl) s.root.id s.root.look vp vf vb vk) #[Value.int .i64 x.1, Value.int .i64 x.2] (lyA (0, 0) Lk.zero (.slice none 0 0) (.slice none 0 0) (.slice none 0 0) (.slice none 0 0))
  have HB := Lib.hid b0
  have HX := Lib.hid b1
  have HR := Lib.hid b2
  have HM := Lib.hid bm
  clear b0 b1 b2 bm
  go_enter Try.func14, Try.ntmps14
  go_upto_region 1 with fail
  show Code.wp _ _ _ _ (((w.alloc (.cells (scA (.slice pg s.arena.gens.length cg) (.slice pl s.arena.live.length cl) s.root.id s.root.look vp vf vb vk) 47)).alloc (.cells #[Value.int .i64 x.1, Value.int .i64 x.2] 30)).alloc (.cells (lyA (0, 0) Lk.zero (.slice none 0 0) (.slice none 0 0) (.slice none 0 0) (.slice none 0 0)) 45))
  generalize ((w.alloc (.cells (scA (.slice pg s.arena.gens.length cg) (.slice pl s.arena.live.length cl) s.root.id s.root.look vp vf vb vk) 47)).alloc (.cells #[Value.int .i64 x.1, Value.int .i64 x.2] 30)).alloc (.cells (lyA (0, 0) Lk.zero (.slice none 0 0) (.slice none 0 0) (.slice none 0 0) (.slice none 0 0)) 45) = W1 at *
  have x0 : W1.cell? ⟨w.heap.size + 1, 0, none⟩ = some (.int .i64 x.1) := HX.out.cell 0 rfl
  have x1 : W1.cell? ⟨w.heap.size + 1, 1, none⟩ = some (.int .i64 x.2) := HX.out.cell 1 rfl
  have HLr : Hid (W1.rangeAt w.heap.size 2 (lyA s.root.id s.root.look vp vf vb vk).toList) := Lib.hid (Blk.range (pre := [.slice pg s.arena.gens.length cg, .slice pl s.arena.live.length cl]) (post := []) HB.out (by rw [List.append_nil]; exact scA_list _ _ _ _ _ _ _ _) rfl)
  have Hrd : Hid (RdAt W1 w.heap.size 2 s.root) := Lib.hid ⟨⟨_, Hly.out.up HM.out, HLr.out⟩, Blk.lt HB.out⟩
  go_wp2_with fail
  refine (findR_any x s.root _ w.heap.size 2 0 Hrd.out Hf.out.root (by have := HI.out.deep; omega)).mono ?_
  rintro e w2 ⟨hm2, hno, hyes⟩
  have HM2 := Lib.hid (HM.out.trans' hm2)
  have HX2 := Lib.hid (HX.out.up hm2)
  have HB2 := Lib.hid (HB.out.up hm2)
  have HR2 := Lib.hid (HR.out.up hm2)
  clear x0 x1 HLr Hrd hm2
  cases hp : s.root.pathOf x with
  | none =>
    obtain rfl := hno hp
    have Hfn : Hid (s.root.find x = none) := Lib.hid (Ly.find_none.2 ((Ly.pathOf_none _).1 hp))
    clear hno hyes hp
    go_upto_region 3 with fail
    go_wp2_with (first | ((with_reducible show wpList _ _ _ (⟨_, Op.build _ _, _, _, _, _⟩ :: _) _ _); refine halt ?_) | fail)
    show wpList _ _ _ _ _ _
    refine wpList_val rfl (.agg (lyA (0, 0) Lk.zero (.slice none 0 0) (.slice none 0 0) (.slice none 0 0) (.slice none 0 0))) (by kernel_rfl) ?_
    simp only [Act.put, List.setIfInBounds_toArray, List.set_cons_zero, List.set_cons_succ]
    refine wpList_store_mid rfl 45 _ _ rfl (w.heap.size + 1 + 1) 0 (lyA (0, 0) Lk.zero (.slice none 0 0) (.slice none 0 0) (.slice none 0 0) (.slice none 0 0)) rfl rfl (HR2.out.there 0 31 (by simp [lyA])) size_layer (by simp [lyA, Value.oneCell']) ?_
    have HS := Lib.hid (Blk.setMod w2 (w.heap.size + 1 + 1) 0 (lyA (0, 0) Lk.zero (.slice none 0 0) (.slice none 0 0) (.slice none 0 0) (.slice none 0 0)).toList)
    have HR3 := Lib.hid (HR2.out.setAll (lyA (0, 0) Lk.zero (.slice none 0 0) (.slice none 0 0) (.slice none 0 0) (.slice none 0 0)) rfl)
    have HM3 := Lib.hid (HM2.out.trans HS.out (fun k hk e => by omega))
    generalize w2.setCells (w.heap.size + 1 + 1) 0 (lyA (0, 0) Lk.zero (.slice none 0 0) (.slice none 0 0) (.slice none 0 0) (.slice none 0 0)).toList = W3 at *
    go_wp2_with fail
    refine bodyPost_ret (results_ct rfl (ResAt.of rfl HR3.out Try.underlying45 rfl size_layer)) rfl ?_
    refine ⟨Ly.zero, [], .slice none 0 0, .slice none 0 0, .slice none 0 0, .slice none 0 0, by rw [Hfn.out]; rfl, by rw [Hfn.out]; rfl, LyO.zero_ _ _, HM3.out⟩
  | some π =>
    obtain ⟨b', o', y, rfl, hrd, hgt⟩ := hyes π hp
    have Hrd := Lib.hid hrd
    have Hfn : Hid (s.root.find x = some (y, π.length)) := Lib.hid (by rw [Ly.find_eq, hp, Option.bind_some, hgt]; rfl)
    have Hyf := Lib.hid (TFit.get Hf.out.root hgt)
    have Hhas : Hid (s.arena.has x = true) := Lib.hid ((HI.out.iff x).1 (Classical.byContradiction fun hx => by rw [(Ly.pathOf_none _).2 hx] at hp; cases hp))
    obtain ⟨dd, hdd⟩ : ∃ dd, dd = 0 + π.length := ⟨_, rfl⟩
    rw [← hdd]
    clear hno hyes hp hrd hgt hdd
    have c0 : w2.cell? ⟨w.heap.size, 0, none⟩ = some (.slice pg s.arena.gens.length cg) := HB2.out.cell 0 rfl
    have c1 : w2.cell? ⟨w.heap.size, 1, none⟩ = some (.slice pl s.arena.live.length cl) := HB2.out.cell 1 rfl
    have x0 : w2.cell? ⟨w.heap.size + 1, 0, none⟩ = some (.int .i64 x.1) := HX2.out.cell 0 rfl
    have x1 : w2.cell? ⟨w.heap.size + 1, 1, none⟩ = some (.int .i64 x.2) := HX2.out.cell 1 rfl
    go_wp2_with fail
    refine (has_any _ pg pl cg cl s.arena x ⟨RowG.mod Har.out.g HM2.out (fun _ _ _ h => h), RowG.mod Har.out.l HM2.out (fun _ _ _ h => h)⟩ HI.out.ok.len).mono ?_
    rintro e w3 ⟨rfl, hm3⟩
    rw [Hhas.out]
    have HM3 := Lib.hid (HM2.out.trans' hm3)
    have HR3 := Lib.hid (HR2.out.up hm3)
    obtain ⟨⟨c, hc1, hc2⟩, _⟩ := Hrd.out.up hm3
    obtain ⟨up, uf, ub, uk, css, e, hcl, hcr, hcn, hck⟩ := hc1.form
    subst e
    have Hc1 := Lib.hid hc1
    have Hc2 := Lib.hid hc2
    clear c0 c1 x0 x1 hm3 hc1 hc2 hcl hcr hcn hck
    go_upto_region 4 with fail
    go_wp2_with (first | ((with_reducible refine wpList_load_mid ?g1_1 45 ?x1_1 ?o1_1 (b') (o') ?h1_1 ((lyA y.id y.look up uf ub uk).toList) ?d1_1 ?c1_1 ?u1_1 ?e1_1 ?i1_1 ?r1_1); (case g1_1 => exact rfl); (case o1_1 => exact rfl); (case h1_1 => exact rfl); (case c1_1 => exact Hc2.out); (case u1_1 => exact Try.underlying45); (case e1_1 => exact rfl); (case i1_1 => exact size_layer)) | fail)
    refine (copied_any y _ up uf ub uk Hc1.out Hyf.out).mono ?_
    rintro e w4 ⟨vp4, vf4, vb4, vk4, F4, rfl, hl4, hm4⟩
    have HM4 := Lib.hid (HM3.out.trans' hm4)
    have HR4 := Lib.hid (HR3.out.up hm4)
    have Hl4 := Lib.hid hl4
    have HR3lt := Lib.hid (Blk.lt HR3.out)
    have Hz3 := Lib.hid HM3.out.size
    clear hl4 hm4
    go_wp2_with (first | ((with_reducible refine wpList_store_mid ?g1_2 45 ?x1_2 ?y1_2 ?o1_2 (w.heap.size + 1 + 1) (0) (lyA y.id y.look vp4 vf4 vb4 vk4) ?h1_2 ?j1_2 ?t1_2 ?i1_2 ?s1_2 ?r1_2); (case g1_2 => exact rfl); (case o1_2 => exact rfl); (case h1_2 => exact rfl); (case j1_2 => exact rfl); (case t1_2 => exact HR4.out.there 0 31 (by simp [lyA])); (case i1_2 => exact size_layer); (case s1_2 => exact all_one (LyO.one Hl4.out))) | fail)
    have HS := Lib.hid (Blk.setMod w4 (w.heap.size + 1 + 1) 0 (lyA y.id y.look vp4 vf4 vb4 vk4).toList)
    have HR5 := Lib.hid (HR4.out.setAll (lyA y.id y.look vp4 vf4 vb4 vk4) rfl)
    have HM5 := Lib.hid (HM4.out.trans HS.out (fun k hk e => by omega))
    have Hl5 := Lib.hid (lyO_box Hl4.out HR3lt.out HS.out)
    generalize w4.setCells (w.heap.size + 1 + 1) 0 (lyA y.id y.look vp4 vf4 vb4 vk4).toList = W5 at *
    refine bodyPost_ret (results_ct rfl (ResAt.of rfl HR5.out Try.underlying45 rfl size_layer)) rfl ?_
    refine ⟨y, F4, vp4, vf4, vb4, vk4, by rw [Hfn.out]; rfl, by rw [Hfn.out]; rfl, Hl5.out.low Hz3.out, HM5.out⟩
end Go.Proofs.Ytpbmfalokongfaa

/- Scenes: the law's waking. -/
namespace Go.Gou
open Go.RowKit
theorem two_set (w : World) (T U : TypeId) (A B a b : Array Value) (ha : A.size = a.size) (hb : B.size = b.size) :
    Blk ((((w.alloc (.cells A T)).alloc (.cells B U)).setCells w.heap.size 0 a.toList).setCells (w.heap.size + 1) 0 b.toList) w.heap.size T a ∧ Blk ((((w.alloc (.cells A T)).alloc (.cells B U)).setCells w.heap.size 0 a.toList).setCells (w.heap.size + 1) 0 b.toList) (w.heap.size + 1) U b ∧
    Mod (fun _ => False) w ((((w.alloc (.cells A T)).alloc (.cells B U)).setCells w.heap.size 0 a.toList).setCells (w.heap.size + 1) 0 b.toList) := by
  obtain ⟨b0, b1, bm⟩ := two_new w T U A B
  have m1 := Blk.setMod ((w.alloc (.cells A T)).alloc (.cells B U)) w.heap.size 0 a.toList
  have c0 := b0.setAll a (by simpa using ha)
  have c1 := b1.mod m1 (by omega)
  have m2 := Blk.setMod (((w.alloc (.cells A T)).alloc (.cells B U)).setCells w.heap.size 0 a.toList) (w.heap.size + 1) 0 b.toList
  exact ⟨c0.mod m2 (by omega), c1.setAll b (by simpa using hb), (bm.trans m1 (fun k hk e => by omega)).trans m2 (fun k hk e => by omega)⟩
/-- An operation of the tree. -/
def opZ (kind : Int) (i t : Idt) (n : Int) : Opr := ⟨kind, i, t, n, Lk.zero⟩
def awS1 : Sn := ⟨⟨[0, 0], [true, true]⟩, .mk (0, 0) Lk.plain [.mk (1, 0) Lk.plain []]⟩
def awS2 : Sn := ⟨⟨[0, 0, 0], [true, true, true]⟩, .mk (0, 0) Lk.plain [.mk (1, 0) Lk.plain [.mk (2, 0) Lk.plain []]]⟩
def awS4 : Sn := ⟨⟨[0, 1, 1], [true, false, false]⟩, .mk (0, 0) Lk.plain []⟩
theorem aw1 (check : Gr → Int) : doP check Sn.new (opZ 1 (0, 0) (0, 0) 0) = (awS1, (1, 0), 0) := by rfl
theorem aw2 (check : Gr → Int) : doP check awS1 (opZ 1 (0, 0) (1, 0) 0) = (awS2, (2, 0), 0) := by rfl
theorem aw3 (check : Gr → Int) : doP check awS2 (opZ 3 (1, 0) (2, 0) 0) = (awS2, (0, 0), 5) := by rfl
theorem aw4 (check : Gr → Int) : doP check awS2 (opZ 2 (1, 0) (0, 0) 0) = (awS4, (0, 0), 0) := by rfl
theorem awf2 : awS2.root.find (2, 0) = some (.mk (2, 0) Lk.plain [], 2) := by rfl
theorem awf4 : awS4.root.find (2, 0) = none := by rfl
theorem aw_inv (check : Gr → Int) : Inv 1 awS1 ∧ Inv 2 awS2 ∧ Inv 3 awS4 := by
  have h1 := Inv.do_ Inv.new check (opZ 1 (0, 0) (0, 0) 0)
  rw [aw1] at h1
  have h2 := Inv.do_ h1 check (opZ 1 (0, 0) (1, 0) 0)
  rw [aw2] at h2
  have h4 := Inv.do_ h2 check (opZ 2 (1, 0) (0, 0) 0)
  rw [aw4] at h4
  exact ⟨h1, h2, h4⟩
theorem lkFit_zero : LkFit Lk.zero := ⟨by simp [Lk.zero, Ct.zero], by simp [Lk.zero, Gr.zero], by simp [Lk.zero, Gr.zero]⟩
theorem lkFit_plain : LkFit Lk.plain := ⟨by simp [Lk.plain, Lk.zero, Ct.zero], by simp [Lk.plain, Lk.zero, Gr.zero], by simp [Lk.plain, Lk.zero, Gr.zero]⟩
theorem aw_fit : SnFit Sn.new ∧ SnFit awS1 ∧ SnFit awS2 ∧ SnFit awS4 := by
  have p := lkFit_plain
  have t0 : ∀ i, TFit (.mk i Lk.plain []) := fun i => .mk _ _ _ p (by simp) (by simp)
  have t1 : ∀ i j, TFit (.mk i Lk.plain [.mk j Lk.plain []]) := fun i j => .mk _ _ _ p (by simp) (by simp; exact t0 j)
  refine ⟨⟨t0 _, by simp [Sn.new, Ar.new], by simp [Sn.new, Ar.new]⟩, ⟨t1 _ _, by simp [awS1], by simp [awS1]⟩, ⟨.mk _ _ _ p (by simp) (by simp; exact t1 _ _), by simp [awS2], by simp [awS2]⟩, ⟨t0 _, by simp [awS4], by simp [awS4]⟩⟩
end Go.Gou
namespace Go.Proofs.Ytpbmfalokongfaa
open Go.RowKit Go.Gou
set_option maxRecDepth 100000
set_option linter.constructorNameAsVariable false
theorem grWf_zero : GrWf Gr.zero := ⟨by simp [Gr.zero], by simp [Gr.zero], by simp [Gr.zero], rfl, by simp [Gr.zero], by simp [Gr.zero], by simp [Gr.zero]⟩
theorem look_zero (G : Nat → Prop) (w : World) : LookR G w Lk.zero (.slice none 0 0) (.slice none 0 0) (.slice none 0 0) := ⟨PixR.nil _ _, NodesR.nil _ _, NodesR.nil _ _⟩
/-- A box of a scene, that reads so. -/
structure SnB (w : World) (b : Nat) (s : Sn) : Prop where
  box : ∃ vg vl vp vf vb vk F, Blk w b 47 (scA vg vl s.root.id s.root.look vp vf vb vk) ∧ ArL 0 w vg vl s.arena ∧ LyO 45 67 0 w (lyA s.root.id s.root.look vp vf vb vk).toList s.root F
theorem SnB.up {w w' : World} {b : Nat} {s : Sn} (h : SnB w b s) (hm : Gou.Mod (fun _ => False) w w') : SnB w' b s := by
  obtain ⟨vg, vl, vp, vf, vb, vk, F, h1, h2, h3⟩ := h
  exact ⟨vg, vl, vp, vf, vb, vk, F, h1.up hm, h2.up hm, h3.up hm⟩
theorem scO_one {vg vl : Value} {s : Sn} {vp vf vb vk : Value} {F : List Nat} {base : Nat} {w : World} (h2 : ArL base w vg vl s.arena) (h3 : LyO 45 67 base w (lyA s.root.id s.root.look vp vf vb vk).toList s.root F) : (scA vg vl s.root.id s.root.look vp vf vb vk).all (·.oneCell') = true := by
  obtain ⟨⟨_, _, rfl⟩, _, _, rfl⟩ := h2.forms
  exact scA_one rfl rfl (LyO.one h3)

theorem lawId_any (n : Int) (w : World) : Calls Try.prog 13 #[.int .i64 n] w fun e w' => e = .returned (.agg #[.int .i64 n, .int .i64 0]) ∧ Gou.Mod (fun _ => False) w w' := by
  have HR := Lib.hid (Blk.new w 30 #[Value.int .i64 0, Value.int .i64 0])
  have HM := Lib.hid (Gou.Mod.alloc0 w (.cells #[Value.int .i64 0, Value.int .i64 0] 30))
  go_enter Try.func13, Try.ntmps13
  go_upto_region 1 with fail
  generalize w.alloc (.cells #[Value.int .i64 0, Value.int .i64 0] 30) = W1 at *
  have r0 : W1.cell? ⟨w.heap.size, 0, none⟩ = some (.int .i64 0) := HR.out.cell 0 rfl
  have r1 : W1.cell? ⟨w.heap.size, 1, none⟩ = some (.int .i64 0) := HR.out.cell 1 rfl
  have s0 := HR.out.frozen 0
  have s1 := HR.out.frozen 1
  go_wp2_with fail
  have hR := (HR.out.set 0 (.int .i64 n)).set 1 (.int .i64 0)
  have hS := (Gou.Mod.set1 W1 w.heap.size 0 (.int .i64 n)).trans' (Gou.Mod.set1 _ w.heap.size 1 (.int .i64 0))
  refine bodyPost_ret (results_cell_row rfl _ _ (w.heap.size) 30 #[.int .i64 n, .int .i64 0] (0, 0) _ rfl hR Try.underlying30 rfl size_id) rfl ?_
  exact ⟨rfl, HM.out.trans hS (fun k hk e => by omega)⟩

theorem DoSP.at_ {w : World} {s : Sn} {op : Opr} {r : Sn × Idt × Int} (h : doP checkS s op = r) : DoSP w s op = fun e w' => ∃ v', e = .returned (.tuple #[v', .agg #[.int .i64 r.2.1.1, .int .i64 r.2.1.2], .int .i64 r.2.2]) ∧ SnO w.heap.size w' v' r.1 ∧ Gou.Mod (fun _ => False) w w' := by
  subst h
  rfl

set_option maxHeartbeats 16000000 in
theorem awake_any (w : World) : Calls Try.prog 4 #[] w fun e w' => e = .returned (.bool true) ∧ Gou.Mod (fun _ => False) w w' := by
  have Hfit := Lib.hid aw_fit
  have Hinv := Lib.hid (aw_inv checkS)
  have Hlz := Lib.hid lkFit_zero
  have Hgz := Lib.hid grWf_zero
  go_enter Try.func4, Try.ntmps4
  go_upto_region 1 with fail
  go_wp2_with fail
  refine (new_any _).mono ?_
  rintro e x1 ⟨v, rfl, hs, hm⟩
  have HS := Lib.hid hs
  have Hm1 := Lib.hid hm
  clear hs hm
  go_wp2_with (first | ((with_reducible show wpList _ _ _ (⟨_, Op.build _ _, _, _, _, _⟩ :: _) _ _); refine halt ?_) | fail)
  show wpList _ _ _ _ _ _
  refine wpList_val rfl (.agg (oprC (opZ 1 (0, 0) (0, 0) 0) (.slice none 0 0) (.slice none 0 0) (.slice none 0 0))) (by kernel_rfl) ?_
  simp only [Act.put, List.setIfInBounds_toArray, List.set_cons_zero, List.set_cons_succ]
  go_wp2_with fail
  refine (doS_any _ _ Sn.new (opZ 1 (0, 0) (0, 0) 0) _ _ _ ((HS.out).reads.imp (fun _ _ _ => trivial)) Hfit.out.1 (look_zero _ _) 0 Inv.new (by omega) Hlz.out Hgz.out Hgz.out).mono ?_
  rw [DoSP.at_ (aw1 checkS)]
  rintro e y1 ⟨v1, rfl, hs, hm⟩
  obtain ⟨vg, vl, vp, vf, vb, vk, F, rfl, ha, hl⟩ := hs
  have Hone := Lib.hid (scO_one ha hl)
  have Ha := Lib.hid ha
  have Hl := Lib.hid hl
  have Hm2 := Lib.hid (Hm1.out.trans' hm)
  clear ha hl hm HS
  go_upto_region 2 with (first | ((with_reducible refine wpList_store_mid ?g1_1 47 ?x1_1 ?y1_1 ?o1_1 (y1.heap.size) (0) (scA vg vl awS1.root.id awS1.root.look vp vf vb vk) ?h1_1 ?j1_1 ?t1_1 ?i1_1 ?s1_1 ?r1_1); (case g1_1 => exact rfl); (case o1_1 => exact rfl); (case h1_1 => exact rfl); (case j1_1 => exact rfl); (case t1_1 => exact (two_new y1 47 30 (scA (.slice none 0 0) (.slice none 0 0) (0, 0) Lk.zero (.slice none 0 0) (.slice none 0 0) (.slice none 0 0) (.slice none 0 0)) #[Value.int .i64 0, Value.int .i64 0]).1.there 0 33 (by simp [scA, lyA])); (case i1_1 => exact size_scene); (case s1_1 => exact Hone.out)) | ((with_reducible refine wpList_store_mid ?g1_2 30 ?x1_2 ?y1_2 ?o1_2 (y1.heap.size + 1) (0) (#[Value.int .i64 1, Value.int .i64 0]) ?h1_2 ?j1_2 ?t1_2 ?i1_2 ?s1_2 ?r1_2); (case g1_2 => exact rfl); (case o1_2 => exact rfl); (case h1_2 => exact rfl); (case j1_2 => exact rfl); (case t1_2 => exact ((two_new y1 47 30 (scA (.slice none 0 0) (.slice none 0 0) (0, 0) Lk.zero (.slice none 0 0) (.slice none 0 0) (.slice none 0 0) (.slice none 0 0)) #[Value.int .i64 0, Value.int .i64 0]).2.1.mod (Blk.setMod ((y1.alloc (.cells (scA (.slice none 0 0) (.slice none 0 0) (0, 0) Lk.zero (.slice none 0 0) (.slice none 0 0) (.slice none 0 0) (.slice none 0 0)) 47)).alloc (.cells #[Value.int .i64 0, Value.int .i64 0] 30)) y1.heap.size 0 (scA vg vl awS1.root.id awS1.root.look vp vf vb vk).toList) (by omega)).there 0 2 (by simp)); (case i1_2 => exact size_id); (case s1_2 => exact by simp [Value.oneCell'])) | fail)
  obtain ⟨hb1, hb2, hb3⟩ := two_set y1 47 30 (scA (.slice none 0 0) (.slice none 0 0) (0, 0) Lk.zero (.slice none 0 0) (.slice none 0 0) (.slice none 0 0) (.slice none 0 0)) #[Value.int .i64 0, Value.int .i64 0] (scA vg vl awS1.root.id awS1.root.look vp vf vb vk) #[Value.int .i64 1, Value.int .i64 0] (by simp [scA]) (by simp)
  have hsx := SnO.up (⟨_, _, _, _, _, _, F, rfl, Ha.out, Hl.out⟩ : SnO _ y1 (.agg (scA vg vl awS1.root.id awS1.root.look vp vf vb vk)) awS1) hb3
  obtain ⟨vg', vl', vp', vf', vb', vk', F', e, ha, hl⟩ := hsx.low (Nat.zero_le _)
  cases Value.agg.inj e
  have HS1 : Hid (SnB _ y1.heap.size awS1) := Lib.hid ⟨_, _, _, _, _, _, F', hb1, ha, hl⟩
  have HI1 := Lib.hid hb2
  have HMs := Lib.hid (Hm2.out.trans' hb3)
  show Code.wp _ _ _ _ ((((y1.alloc (.cells (scA (.slice none 0 0) (.slice none 0 0) (0, 0) Lk.zero (.slice none 0 0) (.slice none 0 0) (.slice none 0 0) (.slice none 0 0)) 47)).alloc (.cells #[Value.int .i64 0, Value.int .i64 0] 30)).setCells y1.heap.size 0 (scA vg vl awS1.root.id awS1.root.look vp vf vb vk).toList).setCells (y1.heap.size + 1) 0 (#[Value.int .i64 1, Value.int .i64 0] : Array Value).toList)
  have HM := Lib.hid HMs.out
  clear Hone Ha Hl Hm2 HMs hb1 hb2 hb3 hsx e ha hl Hm1
  generalize (((y1.alloc (.cells (scA (.slice none 0 0) (.slice none 0 0) (0, 0) Lk.zero (.slice none 0 0) (.slice none 0 0) (.slice none 0 0) (.slice none 0 0)) 47)).alloc (.cells #[Value.int .i64 0, Value.int .i64 0] 30)).setCells y1.heap.size 0 (scA vg vl awS1.root.id awS1.root.look vp vf vb vk).toList).setCells (y1.heap.size + 1) 0 (#[Value.int .i64 1, Value.int .i64 0] : Array Value).toList = W1 at *
  generalize y1.heap.size + 1 = I1 at *
  generalize y1.heap.size = B1 at *
  obtain ⟨svg, svl, svp, svf, svb, svk, SF, sb1, sb2, sb3⟩ := HS1.out.box
  have Hrg := Lib.hid (sb1.whole)
  have HS : Hid (SnR (fun _ => True) W1 (.agg (scA svg svl awS1.root.id awS1.root.look svp svf svb svk)) awS1) := Lib.hid ⟨_, _, _, _, _, _, rfl, ⟨RowG.own_of sb2.g (fun _ _ _ => trivial), RowG.own_of sb2.l (fun _ _ _ => trivial)⟩, sb3.reads.imp (fun _ _ _ => trivial)⟩
  clear sb1 sb2 sb3
  have i1_0 : W1.cell? ⟨I1, 0, none⟩ = some (.int .i64 1) := HI1.out.cell 0 rfl
  have i1_1 : W1.cell? ⟨I1, 1, none⟩ = some (.int .i64 0) := HI1.out.cell 1 rfl
  go_wp2_with (first | ((with_reducible refine wpList_load_mid ?g1_3 47 ?x1_3 ?o1_3 (B1) (0) ?h1_3 ((scA svg svl awS1.root.id awS1.root.look svp svf svb svk).toList) ?d1_3 ?c1_3 ?u1_3 ?e1_3 ?i1_3 ?r1_3); (case g1_3 => exact rfl); (case o1_3 => exact rfl); (case h1_3 => exact rfl); (case c1_3 => exact Hrg.out); (case u1_3 => exact Try.underlying47); (case e1_3 => exact rfl); (case i1_3 => exact size_scene)) | ((with_reducible show wpList _ _ _ (⟨_, Op.build _ _, _, _, _, _⟩ :: _) _ _); refine halt ?_) | fail)
  show wpList _ _ _ _ _ _
  refine wpList_val rfl (.agg (oprC (opZ 1 (0, 0) (1, 0) 0) (.slice none 0 0) (.slice none 0 0) (.slice none 0 0))) (by kernel_rfl) ?_
  simp only [Act.put, List.setIfInBounds_toArray, List.set_cons_zero, List.set_cons_succ]
  go_wp2_with fail
  refine (doS_any _ _ awS1 (opZ 1 (0, 0) (1, 0) 0) _ _ _ HS.out Hfit.out.2.1 (look_zero _ _) 1 Hinv.out.1 (by omega) Hlz.out Hgz.out Hgz.out).mono ?_
  rw [DoSP.at_ (aw2 checkS)]
  rintro e y2 ⟨v2, rfl, hs, hm⟩
  obtain ⟨vg, vl, vp, vf, vb, vk, F, rfl, ha, hl⟩ := hs
  have Hone := Lib.hid (scO_one ha hl)
  have Ha := Lib.hid ha
  have Hl := Lib.hid hl
  have Hm2 := Lib.hid hm
  clear ha hl hm HS
  go_upto_region 3 with (first | ((with_reducible refine wpList_store_mid ?g1_4 47 ?x1_4 ?y1_4 ?o1_4 (y2.heap.size) (0) (scA vg vl awS2.root.id awS2.root.look vp vf vb vk) ?h1_4 ?j1_4 ?t1_4 ?i1_4 ?s1_4 ?r1_4); (case g1_4 => exact rfl); (case o1_4 => exact rfl); (case h1_4 => exact rfl); (case j1_4 => exact rfl); (case t1_4 => exact (two_new y2 47 30 (scA (.slice none 0 0) (.slice none 0 0) (0, 0) Lk.zero (.slice none 0 0) (.slice none 0 0) (.slice none 0 0) (.slice none 0 0)) #[Value.int .i64 0, Value.int .i64 0]).1.there 0 33 (by simp [scA, lyA])); (case i1_4 => exact size_scene); (case s1_4 => exact Hone.out)) | ((with_reducible refine wpList_store_mid ?g1_5 30 ?x1_5 ?y1_5 ?o1_5 (y2.heap.size + 1) (0) (#[Value.int .i64 2, Value.int .i64 0]) ?h1_5 ?j1_5 ?t1_5 ?i1_5 ?s1_5 ?r1_5); (case g1_5 => exact rfl); (case o1_5 => exact rfl); (case h1_5 => exact rfl); (case j1_5 => exact rfl); (case t1_5 => exact ((two_new y2 47 30 (scA (.slice none 0 0) (.slice none 0 0) (0, 0) Lk.zero (.slice none 0 0) (.slice none 0 0) (.slice none 0 0) (.slice none 0 0)) #[Value.int .i64 0, Value.int .i64 0]).2.1.mod (Blk.setMod ((y2.alloc (.cells (scA (.slice none 0 0) (.slice none 0 0) (0, 0) Lk.zero (.slice none 0 0) (.slice none 0 0) (.slice none 0 0) (.slice none 0 0)) 47)).alloc (.cells #[Value.int .i64 0, Value.int .i64 0] 30)) y2.heap.size 0 (scA vg vl awS2.root.id awS2.root.look vp vf vb vk).toList) (by omega)).there 0 2 (by simp)); (case i1_5 => exact size_id); (case s1_5 => exact by simp [Value.oneCell'])) | fail)
  obtain ⟨hb1, hb2, hb3⟩ := two_set y2 47 30 (scA (.slice none 0 0) (.slice none 0 0) (0, 0) Lk.zero (.slice none 0 0) (.slice none 0 0) (.slice none 0 0) (.slice none 0 0)) #[Value.int .i64 0, Value.int .i64 0] (scA vg vl awS2.root.id awS2.root.look vp vf vb vk) #[Value.int .i64 2, Value.int .i64 0] (by simp [scA]) (by simp)
  have hsx := SnO.up (⟨_, _, _, _, _, _, F, rfl, Ha.out, Hl.out⟩ : SnO _ y2 (.agg (scA vg vl awS2.root.id awS2.root.look vp vf vb vk)) awS2) hb3
  obtain ⟨vg', vl', vp', vf', vb', vk', F', e, ha, hl⟩ := hsx.low (Nat.zero_le _)
  cases Value.agg.inj e
  have HS2 : Hid (SnB _ y2.heap.size awS2) := Lib.hid ⟨_, _, _, _, _, _, F', hb1, ha, hl⟩
  have HI2 := Lib.hid hb2
  have HMs := Lib.hid (Hm2.out.trans' hb3)
  show Code.wp _ _ _ _ ((((y2.alloc (.cells (scA (.slice none 0 0) (.slice none 0 0) (0, 0) Lk.zero (.slice none 0 0) (.slice none 0 0) (.slice none 0 0) (.slice none 0 0)) 47)).alloc (.cells #[Value.int .i64 0, Value.int .i64 0] 30)).setCells y2.heap.size 0 (scA vg vl awS2.root.id awS2.root.look vp vf vb vk).toList).setCells (y2.heap.size + 1) 0 (#[Value.int .i64 2, Value.int .i64 0] : Array Value).toList)
  replace HS1 := Lib.hid (HS1.out.up HMs.out)
  replace HI1 := Lib.hid (HI1.out.up HMs.out)
  replace HM := Lib.hid (HM.out.trans' HMs.out)
  clear Hone Ha Hl Hm2 HMs hb1 hb2 hb3 hsx e ha hl Hrg
  generalize (((y2.alloc (.cells (scA (.slice none 0 0) (.slice none 0 0) (0, 0) Lk.zero (.slice none 0 0) (.slice none 0 0) (.slice none 0 0) (.slice none 0 0)) 47)).alloc (.cells #[Value.int .i64 0, Value.int .i64 0] 30)).setCells y2.heap.size 0 (scA vg vl awS2.root.id awS2.root.look vp vf vb vk).toList).setCells (y2.heap.size + 1) 0 (#[Value.int .i64 2, Value.int .i64 0] : Array Value).toList = W2 at *
  generalize y2.heap.size + 1 = I2 at *
  generalize y2.heap.size = B2 at *
  clear i1_0 i1_1
  have i1_0 : W2.cell? ⟨I1, 0, none⟩ = some (.int .i64 1) := HI1.out.cell 0 rfl
  have i1_1 : W2.cell? ⟨I1, 1, none⟩ = some (.int .i64 0) := HI1.out.cell 1 rfl
  have i2_0 : W2.cell? ⟨I2, 0, none⟩ = some (.int .i64 2) := HI2.out.cell 0 rfl
  have i2_1 : W2.cell? ⟨I2, 1, none⟩ = some (.int .i64 0) := HI2.out.cell 1 rfl
  obtain ⟨svg, svl, svp, svf, svb, svk, SF, sb1, sb2, sb3⟩ := HS2.out.box
  have Hrg := Lib.hid (sb1.whole)
  have HS : Hid (SnR (fun _ => True) W2 (.agg (scA svg svl awS2.root.id awS2.root.look svp svf svb svk)) awS2) := Lib.hid ⟨_, _, _, _, _, _, rfl, ⟨RowG.own_of sb2.g (fun _ _ _ => trivial), RowG.own_of sb2.l (fun _ _ _ => trivial)⟩, sb3.reads.imp (fun _ _ _ => trivial)⟩
  clear sb1 sb2 sb3
  go_wp2_with (first | ((with_reducible refine wpList_load_mid ?g1_6 47 ?x1_6 ?o1_6 (B2) (0) ?h1_6 ((scA svg svl awS2.root.id awS2.root.look svp svf svb svk).toList) ?d1_6 ?c1_6 ?u1_6 ?e1_6 ?i1_6 ?r1_6); (case g1_6 => exact rfl); (case o1_6 => exact rfl); (case h1_6 => exact rfl); (case c1_6 => exact Hrg.out); (case u1_6 => exact Try.underlying47); (case e1_6 => exact rfl); (case i1_6 => exact size_scene)) | ((with_reducible show wpList _ _ _ (⟨_, Op.build _ _, _, _, _, _⟩ :: _) _ _); refine halt ?_) | fail)
  show wpList _ _ _ _ _ _
  refine wpList_val rfl (.agg (oprC (opZ 3 (1, 0) (2, 0) 0) (.slice none 0 0) (.slice none 0 0) (.slice none 0 0))) (by kernel_rfl) ?_
  simp only [Act.put, List.setIfInBounds_toArray, List.set_cons_zero, List.set_cons_succ]
  go_wp2_with fail
  refine (doS_any _ _ awS2 (opZ 3 (1, 0) (2, 0) 0) _ _ _ HS.out Hfit.out.2.2.1 (look_zero _ _) 2 Hinv.out.2.1 (by omega) Hlz.out Hgz.out Hgz.out).mono ?_
  rw [DoSP.at_ (aw3 checkS)]
  rintro e y3 ⟨v3, rfl, hs, hm⟩
  obtain ⟨vg, vl, vp, vf, vb, vk, F, rfl, ha, hl⟩ := hs
  have Hone := Lib.hid (scO_one ha hl)
  have Ha := Lib.hid ha
  have Hl := Lib.hid hl
  have Hm2 := Lib.hid hm
  clear ha hl hm HS
  go_upto_region 4 with (first | ((with_reducible refine wpList_store_mid ?g1_7 47 ?x1_7 ?y1_7 ?o1_7 (y3.heap.size) (0) (scA vg vl awS2.root.id awS2.root.look vp vf vb vk) ?h1_7 ?j1_7 ?t1_7 ?i1_7 ?s1_7 ?r1_7); (case g1_7 => exact rfl); (case o1_7 => exact rfl); (case h1_7 => exact rfl); (case j1_7 => exact rfl); (case t1_7 => exact (two_new y3 47 30 (scA (.slice none 0 0) (.slice none 0 0) (0, 0) Lk.zero (.slice none 0 0) (.slice none 0 0) (.slice none 0 0) (.slice none 0 0)) #[Value.int .i64 0, Value.int .i64 0]).1.there 0 33 (by simp [scA, lyA])); (case i1_7 => exact size_scene); (case s1_7 => exact Hone.out)) | ((with_reducible refine wpList_store_mid ?g1_8 30 ?x1_8 ?y1_8 ?o1_8 (y3.heap.size + 1) (0) (#[Value.int .i64 0, Value.int .i64 0]) ?h1_8 ?j1_8 ?t1_8 ?i1_8 ?s1_8 ?r1_8); (case g1_8 => exact rfl); (case o1_8 => exact rfl); (case h1_8 => exact rfl); (case j1_8 => exact rfl); (case t1_8 => exact ((two_new y3 47 30 (scA (.slice none 0 0) (.slice none 0 0) (0, 0) Lk.zero (.slice none 0 0) (.slice none 0 0) (.slice none 0 0) (.slice none 0 0)) #[Value.int .i64 0, Value.int .i64 0]).2.1.mod (Blk.setMod ((y3.alloc (.cells (scA (.slice none 0 0) (.slice none 0 0) (0, 0) Lk.zero (.slice none 0 0) (.slice none 0 0) (.slice none 0 0) (.slice none 0 0)) 47)).alloc (.cells #[Value.int .i64 0, Value.int .i64 0] 30)) y3.heap.size 0 (scA vg vl awS2.root.id awS2.root.look vp vf vb vk).toList) (by omega)).there 0 2 (by simp)); (case i1_8 => exact size_id); (case s1_8 => exact by simp [Value.oneCell'])) | fail)
  obtain ⟨hb1, hb2, hb3⟩ := two_set y3 47 30 (scA (.slice none 0 0) (.slice none 0 0) (0, 0) Lk.zero (.slice none 0 0) (.slice none 0 0) (.slice none 0 0) (.slice none 0 0)) #[Value.int .i64 0, Value.int .i64 0] (scA vg vl awS2.root.id awS2.root.look vp vf vb vk) #[Value.int .i64 0, Value.int .i64 0] (by simp [scA]) (by simp)
  have hsx := SnO.up (⟨_, _, _, _, _, _, F, rfl, Ha.out, Hl.out⟩ : SnO _ y3 (.agg (scA vg vl awS2.root.id awS2.root.look vp vf vb vk)) awS2) hb3
  obtain ⟨vg', vl', vp', vf', vb', vk', F', e, ha, hl⟩ := hsx.low (Nat.zero_le _)
  cases Value.agg.inj e
  have HS3 : Hid (SnB _ y3.heap.size awS2) := Lib.hid ⟨_, _, _, _, _, _, F', hb1, ha, hl⟩
  have HI3 := Lib.hid hb2
  have HMs := Lib.hid (Hm2.out.trans' hb3)
  show Code.wp _ _ _ _ ((((y3.alloc (.cells (scA (.slice none 0 0) (.slice none 0 0) (0, 0) Lk.zero (.slice none 0 0) (.slice none 0 0) (.slice none 0 0) (.slice none 0 0)) 47)).alloc (.cells #[Value.int .i64 0, Value.int .i64 0] 30)).setCells y3.heap.size 0 (scA vg vl awS2.root.id awS2.root.look vp vf vb vk).toList).setCells (y3.heap.size + 1) 0 (#[Value.int .i64 0, Value.int .i64 0] : Array Value).toList)
  replace HS1 := Lib.hid (HS1.out.up HMs.out)
  replace HS2 := Lib.hid (HS2.out.up HMs.out)
  replace HI1 := Lib.hid (HI1.out.up HMs.out)
  replace HI2 := Lib.hid (HI2.out.up HMs.out)
  replace HM := Lib.hid (HM.out.trans' HMs.out)
  clear Hone Ha Hl Hm2 HMs hb1 hb2 hb3 hsx e ha hl Hrg
  generalize (((y3.alloc (.cells (scA (.slice none 0 0) (.slice none 0 0) (0, 0) Lk.zero (.slice none 0 0) (.slice none 0 0) (.slice none 0 0) (.slice none 0 0)) 47)).alloc (.cells #[Value.int .i64 0, Value.int .i64 0] 30)).setCells y3.heap.size 0 (scA vg vl awS2.root.id awS2.root.look vp vf vb vk).toList).setCells (y3.heap.size + 1) 0 (#[Value.int .i64 0, Value.int .i64 0] : Array Value).toList = W3 at *
  generalize y3.heap.size + 1 = I3 at *
  generalize y3.heap.size = B3 at *
  clear i1_0 i1_1 i2_0 i2_1
  have i1_0 : W3.cell? ⟨I1, 0, none⟩ = some (.int .i64 1) := HI1.out.cell 0 rfl
  have i1_1 : W3.cell? ⟨I1, 1, none⟩ = some (.int .i64 0) := HI1.out.cell 1 rfl
  obtain ⟨svg, svl, svp, svf, svb, svk, SF, sb1, sb2, sb3⟩ := HS2.out.box
  have Hrg := Lib.hid (sb1.whole)
  have HS : Hid (SnR (fun _ => True) W3 (.agg (scA svg svl awS2.root.id awS2.root.look svp svf svb svk)) awS2) := Lib.hid ⟨_, _, _, _, _, _, rfl, ⟨RowG.own_of sb2.g (fun _ _ _ => trivial), RowG.own_of sb2.l (fun _ _ _ => trivial)⟩, sb3.reads.imp (fun _ _ _ => trivial)⟩
  clear sb1 sb2 sb3
  go_wp2_with (first | ((with_reducible refine wpList_load_mid ?g1_9 47 ?x1_9 ?o1_9 (B2) (0) ?h1_9 ((scA svg svl awS2.root.id awS2.root.look svp svf svb svk).toList) ?d1_9 ?c1_9 ?u1_9 ?e1_9 ?i1_9 ?r1_9); (case g1_9 => exact rfl); (case o1_9 => exact rfl); (case h1_9 => exact rfl); (case c1_9 => exact Hrg.out); (case u1_9 => exact Try.underlying47); (case e1_9 => exact rfl); (case i1_9 => exact size_scene)) | ((with_reducible show wpList _ _ _ (⟨_, Op.build _ _, _, _, _, _⟩ :: _) _ _); refine halt ?_) | fail)
  show wpList _ _ _ _ _ _
  refine wpList_val rfl (.agg (oprC (opZ 2 (1, 0) (0, 0) 0) (.slice none 0 0) (.slice none 0 0) (.slice none 0 0))) (by kernel_rfl) ?_
  simp only [Act.put, List.setIfInBounds_toArray, List.set_cons_zero, List.set_cons_succ]
  go_wp2_with fail
  refine (doS_any _ _ awS2 (opZ 2 (1, 0) (0, 0) 0) _ _ _ HS.out Hfit.out.2.2.1 (look_zero _ _) 2 Hinv.out.2.1 (by omega) Hlz.out Hgz.out Hgz.out).mono ?_
  rw [DoSP.at_ (aw4 checkS)]
  rintro e y4 ⟨v4, rfl, hs, hm⟩
  obtain ⟨vg, vl, vp, vf, vb, vk, F, rfl, ha, hl⟩ := hs
  have Hone := Lib.hid (scO_one ha hl)
  have Ha := Lib.hid ha
  have Hl := Lib.hid hl
  have Hm2 := Lib.hid hm
  clear ha hl hm HS
  go_upto_region 5 with (first | ((with_reducible refine wpList_store_mid ?g1_10 47 ?x1_10 ?y1_10 ?o1_10 (y4.heap.size) (0) (scA vg vl awS4.root.id awS4.root.look vp vf vb vk) ?h1_10 ?j1_10 ?t1_10 ?i1_10 ?s1_10 ?r1_10); (case g1_10 => exact rfl); (case o1_10 => exact rfl); (case h1_10 => exact rfl); (case j1_10 => exact rfl); (case t1_10 => exact (two_new y4 47 30 (scA (.slice none 0 0) (.slice none 0 0) (0, 0) Lk.zero (.slice none 0 0) (.slice none 0 0) (.slice none 0 0) (.slice none 0 0)) #[Value.int .i64 0, Value.int .i64 0]).1.there 0 33 (by simp [scA, lyA])); (case i1_10 => exact size_scene); (case s1_10 => exact Hone.out)) | ((with_reducible refine wpList_store_mid ?g1_11 30 ?x1_11 ?y1_11 ?o1_11 (y4.heap.size + 1) (0) (#[Value.int .i64 0, Value.int .i64 0]) ?h1_11 ?j1_11 ?t1_11 ?i1_11 ?s1_11 ?r1_11); (case g1_11 => exact rfl); (case o1_11 => exact rfl); (case h1_11 => exact rfl); (case j1_11 => exact rfl); (case t1_11 => exact ((two_new y4 47 30 (scA (.slice none 0 0) (.slice none 0 0) (0, 0) Lk.zero (.slice none 0 0) (.slice none 0 0) (.slice none 0 0) (.slice none 0 0)) #[Value.int .i64 0, Value.int .i64 0]).2.1.mod (Blk.setMod ((y4.alloc (.cells (scA (.slice none 0 0) (.slice none 0 0) (0, 0) Lk.zero (.slice none 0 0) (.slice none 0 0) (.slice none 0 0) (.slice none 0 0)) 47)).alloc (.cells #[Value.int .i64 0, Value.int .i64 0] 30)) y4.heap.size 0 (scA vg vl awS4.root.id awS4.root.look vp vf vb vk).toList) (by omega)).there 0 2 (by simp)); (case i1_11 => exact size_id); (case s1_11 => exact by simp [Value.oneCell'])) | fail)
  obtain ⟨hb1, hb2, hb3⟩ := two_set y4 47 30 (scA (.slice none 0 0) (.slice none 0 0) (0, 0) Lk.zero (.slice none 0 0) (.slice none 0 0) (.slice none 0 0) (.slice none 0 0)) #[Value.int .i64 0, Value.int .i64 0] (scA vg vl awS4.root.id awS4.root.look vp vf vb vk) #[Value.int .i64 0, Value.int .i64 0] (by simp [scA]) (by simp)
  have hsx := SnO.up (⟨_, _, _, _, _, _, F, rfl, Ha.out, Hl.out⟩ : SnO _ y4 (.agg (scA vg vl awS4.root.id awS4.root.look vp vf vb vk)) awS4) hb3
  obtain ⟨vg', vl', vp', vf', vb', vk', F', e, ha, hl⟩ := hsx.low (Nat.zero_le _)
  cases Value.agg.inj e
  have HS4 : Hid (SnB _ y4.heap.size awS4) := Lib.hid ⟨_, _, _, _, _, _, F', hb1, ha, hl⟩
  have HI4 := Lib.hid hb2
  have HMs := Lib.hid (Hm2.out.trans' hb3)
  show Code.wp _ _ _ _ ((((y4.alloc (.cells (scA (.slice none 0 0) (.slice none 0 0) (0, 0) Lk.zero (.slice none 0 0) (.slice none 0 0) (.slice none 0 0) (.slice none 0 0)) 47)).alloc (.cells #[Value.int .i64 0, Value.int .i64 0] 30)).setCells y4.heap.size 0 (scA vg vl awS4.root.id awS4.root.look vp vf vb vk).toList).setCells (y4.heap.size + 1) 0 (#[Value.int .i64 0, Value.int .i64 0] : Array Value).toList)
  replace HS1 := Lib.hid (HS1.out.up HMs.out)
  replace HS2 := Lib.hid (HS2.out.up HMs.out)
  replace HS3 := Lib.hid (HS3.out.up HMs.out)
  replace HI1 := Lib.hid (HI1.out.up HMs.out)
  replace HI2 := Lib.hid (HI2.out.up HMs.out)
  replace HI3 := Lib.hid (HI3.out.up HMs.out)
  replace HM := Lib.hid (HM.out.trans' HMs.out)
  clear Hone Ha Hl Hm2 HMs hb1 hb2 hb3 hsx e ha hl Hrg
  generalize (((y4.alloc (.cells (scA (.slice none 0 0) (.slice none 0 0) (0, 0) Lk.zero (.slice none 0 0) (.slice none 0 0) (.slice none 0 0) (.slice none 0 0)) 47)).alloc (.cells #[Value.int .i64 0, Value.int .i64 0] 30)).setCells y4.heap.size 0 (scA vg vl awS4.root.id awS4.root.look vp vf vb vk).toList).setCells (y4.heap.size + 1) 0 (#[Value.int .i64 0, Value.int .i64 0] : Array Value).toList = W4 at *
  generalize y4.heap.size + 1 = I4 at *
  generalize y4.heap.size = B4 at *
  clear i1_0 i1_1
  obtain ⟨svg, svl, svp, svf, svb, svk, SF, sb1, sb2, sb3⟩ := HS2.out.box
  have Hrg := Lib.hid (sb1.whole)
  have HS : Hid (SnR (fun _ => True) W4 (.agg (scA svg svl awS2.root.id awS2.root.look svp svf svb svk)) awS2) := Lib.hid ⟨_, _, _, _, _, _, rfl, ⟨RowG.own_of sb2.g (fun _ _ _ => trivial), RowG.own_of sb2.l (fun _ _ _ => trivial)⟩, sb3.reads.imp (fun _ _ _ => trivial)⟩
  clear sb1 sb2 sb3
  have i2_0 : W4.cell? ⟨I2, 0, none⟩ = some (.int .i64 2) := HI2.out.cell 0 rfl
  have i2_1 : W4.cell? ⟨I2, 1, none⟩ = some (.int .i64 0) := HI2.out.cell 1 rfl
  go_wp2_with (first | ((with_reducible refine wpList_load_mid ?g1_12 47 ?x1_12 ?o1_12 (B2) (0) ?h1_12 ((scA svg svl awS2.root.id awS2.root.look svp svf svb svk).toList) ?d1_12 ?c1_12 ?u1_12 ?e1_12 ?i1_12 ?r1_12); (case g1_12 => exact rfl); (case o1_12 => exact rfl); (case h1_12 => exact rfl); (case c1_12 => exact Hrg.out); (case u1_12 => exact Try.underlying47); (case e1_12 => exact rfl); (case i1_12 => exact size_scene)) | fail)
  refine (findS_any _ _ awS2 (2, 0) HS.out Hfit.out.2.2.1 2 Hinv.out.2.1).mono ?_
  rintro e y5 ⟨ly, F, vp, vf, vb, vk, rfl, hly, hl, hm⟩
  rw [awf2]
  have Hone := Lib.hid (all_one (LyO.one hl))
  have Hm2 := Lib.hid hm
  clear hly hl hm HS
  go_upto_region 6 with (first | ((with_reducible refine wpList_store_mid ?g1_13 45 ?x1_13 ?y1_13 ?o1_13 (y5.heap.size) (0) (lyA ly.id ly.look vp vf vb vk) ?h1_13 ?j1_13 ?t1_13 ?i1_13 ?s1_13 ?r1_13); (case g1_13 => exact rfl); (case o1_13 => exact rfl); (case h1_13 => exact rfl); (case j1_13 => exact rfl); (case t1_13 => exact (Blk.new y5 45 (lyA (0, 0) Lk.zero (.slice none 0 0) (.slice none 0 0) (.slice none 0 0) (.slice none 0 0))).there 0 31 (by simp [lyA])); (case i1_13 => exact size_layer); (case s1_13 => exact Hone.out)) | fail)
  have hb3 : Gou.Mod (fun _ => False) y5 ((y5.alloc (.cells (lyA (0, 0) Lk.zero (.slice none 0 0) (.slice none 0 0) (.slice none 0 0) (.slice none 0 0)) 45)).setCells y5.heap.size 0 (lyA ly.id ly.look vp vf vb vk).toList) := Gou.Mod.allocSet _ _ _
  have HMs := Lib.hid (Hm2.out.trans' hb3)
  show Code.wp _ _ _ _ ((y5.alloc (.cells (lyA (0, 0) Lk.zero (.slice none 0 0) (.slice none 0 0) (.slice none 0 0) (.slice none 0 0)) 45)).setCells y5.heap.size 0 (lyA ly.id ly.look vp vf vb vk).toList)
  replace HS2 := Lib.hid (HS2.out.up HMs.out)
  replace HS4 := Lib.hid (HS4.out.up HMs.out)
  replace HI1 := Lib.hid (HI1.out.up HMs.out)
  replace HI2 := Lib.hid (HI2.out.up HMs.out)
  replace HM := Lib.hid (HM.out.trans' HMs.out)
  clear Hone Hm2 HMs hb3 Hrg
  generalize (y5.alloc (.cells (lyA (0, 0) Lk.zero (.slice none 0 0) (.slice none 0 0) (.slice none 0 0) (.slice none 0 0)) 45)).setCells y5.heap.size 0 (lyA ly.id ly.look vp vf vb vk).toList = W5 at *
  clear i2_0 i2_1
  obtain ⟨svg, svl, svp, svf, svb, svk, SF, sb1, sb2, sb3⟩ := HS4.out.box
  have Hrg := Lib.hid (sb1.whole)
  have HS : Hid (SnR (fun _ => True) W5 (.agg (scA svg svl awS4.root.id awS4.root.look svp svf svb svk)) awS4) := Lib.hid ⟨_, _, _, _, _, _, rfl, ⟨RowG.own_of sb2.g (fun _ _ _ => trivial), RowG.own_of sb2.l (fun _ _ _ => trivial)⟩, sb3.reads.imp (fun _ _ _ => trivial)⟩
  clear sb1 sb2 sb3
  have i2_0 : W5.cell? ⟨I2, 0, none⟩ = some (.int .i64 2) := HI2.out.cell 0 rfl
  have i2_1 : W5.cell? ⟨I2, 1, none⟩ = some (.int .i64 0) := HI2.out.cell 1 rfl
  go_wp2_with (first | ((with_reducible refine wpList_load_mid ?g1_14 47 ?x1_14 ?o1_14 (B4) (0) ?h1_14 ((scA svg svl awS4.root.id awS4.root.look svp svf svb svk).toList) ?d1_14 ?c1_14 ?u1_14 ?e1_14 ?i1_14 ?r1_14); (case g1_14 => exact rfl); (case o1_14 => exact rfl); (case h1_14 => exact rfl); (case c1_14 => exact Hrg.out); (case u1_14 => exact Try.underlying47); (case e1_14 => exact rfl); (case i1_14 => exact size_scene)) | fail)
  refine (findS_any _ _ awS4 (2, 0) HS.out Hfit.out.2.2.2 3 Hinv.out.2.2).mono ?_
  rintro e y6 ⟨ly, F, vp, vf, vb, vk, rfl, hly, hl, hm⟩
  rw [awf4]
  have Hone := Lib.hid (all_one (LyO.one hl))
  have Hm2 := Lib.hid hm
  clear hly hl hm HS
  go_upto_region 7 with (first | ((with_reducible refine wpList_store_mid ?g1_15 45 ?x1_15 ?y1_15 ?o1_15 (y6.heap.size) (0) (lyA ly.id ly.look vp vf vb vk) ?h1_15 ?j1_15 ?t1_15 ?i1_15 ?s1_15 ?r1_15); (case g1_15 => exact rfl); (case o1_15 => exact rfl); (case h1_15 => exact rfl); (case j1_15 => exact rfl); (case t1_15 => exact (Blk.new y6 45 (lyA (0, 0) Lk.zero (.slice none 0 0) (.slice none 0 0) (.slice none 0 0) (.slice none 0 0))).there 0 31 (by simp [lyA])); (case i1_15 => exact size_layer); (case s1_15 => exact Hone.out)) | fail)
  have hb3 : Gou.Mod (fun _ => False) y6 ((y6.alloc (.cells (lyA (0, 0) Lk.zero (.slice none 0 0) (.slice none 0 0) (.slice none 0 0) (.slice none 0 0)) 45)).setCells y6.heap.size 0 (lyA ly.id ly.look vp vf vb vk).toList) := Gou.Mod.allocSet _ _ _
  have HMs := Lib.hid (Hm2.out.trans' hb3)
  show Code.wp _ _ _ _ ((y6.alloc (.cells (lyA (0, 0) Lk.zero (.slice none 0 0) (.slice none 0 0) (.slice none 0 0) (.slice none 0 0)) 45)).setCells y6.heap.size 0 (lyA ly.id ly.look vp vf vb vk).toList)
  replace HS2 := Lib.hid (HS2.out.up HMs.out)
  replace HS4 := Lib.hid (HS4.out.up HMs.out)
  replace HI1 := Lib.hid (HI1.out.up HMs.out)
  replace HI2 := Lib.hid (HI2.out.up HMs.out)
  replace HM := Lib.hid (HM.out.trans' HMs.out)
  clear Hone Hm2 HMs hb3 Hrg
  generalize (y6.alloc (.cells (lyA (0, 0) Lk.zero (.slice none 0 0) (.slice none 0 0) (.slice none 0 0) (.slice none 0 0)) 45)).setCells y6.heap.size 0 (lyA ly.id ly.look vp vf vb vk).toList = W6 at *
  clear i2_0 i2_1
  have i1_0 : W6.cell? ⟨I1, 0, none⟩ = some (.int .i64 1) := HI1.out.cell 0 rfl
  have i1_1 : W6.cell? ⟨I1, 1, none⟩ = some (.int .i64 0) := HI1.out.cell 1 rfl
  have i2_0 : W6.cell? ⟨I2, 0, none⟩ = some (.int .i64 2) := HI2.out.cell 0 rfl
  have i2_1 : W6.cell? ⟨I2, 1, none⟩ = some (.int .i64 0) := HI2.out.cell 1 rfl
  have HJ1 : Hid (W6.rangeAt I1 0 [.int .i64 1, .int .i64 0]) := Lib.hid (Blk.range (pre := []) (post := []) HI1.out (by simp) rfl)
  have HJ2 : Hid (W6.rangeAt I2 0 [.int .i64 2, .int .i64 0]) := Lib.hid (Blk.range (pre := []) (post := []) HI2.out (by simp) rfl)
  have e9 := fun (w' : World) => id_op (1, 0) (1, 0) w'
  have e14 := fun (w' : World) => id_op (2, 0) (2, 0) w'
  simp only [decide_true] at e9 e14
  clear i1_0 i1_1 i2_0 i2_1
  refine wp_region_held_drew (S := fun w' => Gou.Mod (fun _ => False) W6 w') (by kernel_rfl) (Gou.Mod.drew _ _) (fun hHeld => ?_)
  refine wpAnyH_take (i := 0) (oi := ({ dst := some 61, op := Op.move (Operand.tmp 3), type := 49, pos := "law.go:22", after := #[], guard := none } : Oper)) (v := .int .i64 0) rfl (by kernel_rfl) (by kernel_rfl) (by kernel_rfl) (fun _ _ _ h => h) (Or.inl ⟨by rfl, ?_⟩) hHeld ?_
  · (intro w' hSw; (try dsimp only at hSw); clear hSw hHeld; go_simp; (try with_reducible rfl))
  try simp only [Act.put, List.setIfInBounds_toArray, List.set_cons_zero, List.set_cons_succ]
  refine wpAnyH_take (i := 1) (oi := ({ dst := some 62, op := Op.binOp BinOp.eql 49 (Operand.tmp 61) (Operand.const (Value.int IntKind.i64 0)) 49, type := 4, pos := "law.go:22", after := #[{ on := 0, ground := Ground.data }], guard := none } : Oper)) (v := .bool true) rfl (by kernel_rfl) (by kernel_rfl) (by kernel_rfl) (fun _ _ _ h => h) (Or.inl ⟨by rfl, ?_⟩) hHeld ?_
  · (intro w' hSw; (try dsimp only at hSw); clear hSw hHeld; go_simp; (try with_reducible rfl))
  try simp only [Act.put, List.setIfInBounds_toArray, List.set_cons_zero, List.set_cons_succ]
  refine wpAnyH_take (i := 2) (oi := ({ dst := some 63, op := Op.move (Operand.tmp 62), type := 4, pos := "law.go:22", after := #[{ on := 1, ground := Ground.data }], guard := none } : Oper)) (v := .bool true) rfl (by kernel_rfl) (by kernel_rfl) (by kernel_rfl) (fun _ _ _ h => h) (Or.inl ⟨by rfl, ?_⟩) hHeld ?_
  · (intro w' hSw; (try dsimp only at hSw); clear hSw hHeld; go_simp; (try with_reducible rfl))
  try simp only [Act.put, List.setIfInBounds_toArray, List.set_cons_zero, List.set_cons_succ]
  refine wpAnyH_take (i := 3) (oi := ({ dst := some 64, op := Op.move (Operand.tmp 6), type := 49, pos := "law.go:22", after := #[{ on := 2, ground := Ground.guard }], guard := some (2, true) } : Oper)) (v := .int .i64 0) rfl (by kernel_rfl) (by kernel_rfl) (by kernel_rfl) (fun _ _ _ h => h) (Or.inl ⟨by rfl, ?_⟩) hHeld ?_
  · (intro w' hSw; (try dsimp only at hSw); clear hSw hHeld; go_simp; (try with_reducible rfl))
  try simp only [Act.put, List.setIfInBounds_toArray, List.set_cons_zero, List.set_cons_succ]
  refine wpAnyH_take (i := 4) (oi := ({ dst := some 65, op := Op.binOp BinOp.eql 49 (Operand.tmp 64) (Operand.const (Value.int IntKind.i64 0)) 49, type := 4, pos := "law.go:22", after := #[{ on := 3, ground := Ground.data }, { on := 2, ground := Ground.guard }], guard := some (2, true) } : Oper)) (v := .bool true) rfl (by kernel_rfl) (by kernel_rfl) (by kernel_rfl) (fun _ _ _ h => h) (Or.inl ⟨by rfl, ?_⟩) hHeld ?_
  · (intro w' hSw; (try dsimp only at hSw); clear hSw hHeld; go_simp; (try with_reducible rfl))
  try simp only [Act.put, List.setIfInBounds_toArray, List.set_cons_zero, List.set_cons_succ]
  refine wpAnyH_take (i := 5) (oi := ({ dst := some 66, op := Op.pick (Operand.tmp 63) (Operand.tmp 65) (Operand.const (Value.bool false)), type := 4, pos := "law.go:22", after := #[{ on := 2, ground := Ground.data }, { on := 4, ground := Ground.data }], guard := none } : Oper)) (v := .bool true) rfl (by kernel_rfl) (by kernel_rfl) (by kernel_rfl) (fun _ _ _ h => h) (Or.inl ⟨by rfl, ?_⟩) hHeld ?_
  · (intro w' hSw; (try dsimp only at hSw); clear hSw hHeld; go_simp; (try with_reducible rfl))
  try simp only [Act.put, List.setIfInBounds_toArray, List.set_cons_zero, List.set_cons_succ]
  refine wpAnyH_take (i := 6) (oi := ({ dst := some 67, op := Op.move (Operand.tmp 66), type := 4, pos := "law.go:22", after := #[{ on := 5, ground := Ground.data }, { on := 2, ground := Ground.chain }], guard := none } : Oper)) (v := .bool true) rfl (by kernel_rfl) (by kernel_rfl) (by kernel_rfl) (fun _ _ _ h => h) (Or.inl ⟨by rfl, ?_⟩) hHeld ?_
  · (intro w' hSw; (try dsimp only at hSw); clear hSw hHeld; go_simp; (try with_reducible rfl))
  try simp only [Act.put, List.setIfInBounds_toArray, List.set_cons_zero, List.set_cons_succ]
  refine wpAnyH_take (i := 7) (oi := ({ dst := some 68, op := Op.load 30 (Operand.tmp 2), type := 30, pos := "law.go:22", after := #[{ on := 6, ground := Ground.guard }], guard := some (6, true) } : Oper)) (v := .agg #[.int .i64 1, .int .i64 0]) rfl (by kernel_rfl) (by kernel_rfl) (by kernel_rfl) (fun _ _ _ h => h) (yieldsIf_load_mid (by rfl) 30 _ rfl I1 (0) rfl ([.int .i64 1, .int .i64 0]) _ (fun w' hSw => range_up HJ1.out hSw (fun h => h)) Try.underlying30 rfl size_id) hHeld ?_
  try simp only [Act.put, List.setIfInBounds_toArray, List.set_cons_zero, List.set_cons_succ]
  refine wpAnyH_ready (rs := [8]) (by kernel_rfl) (by simp) (AllReadyH.cons (o := ({ dst := some 69, op := Op.call { callee := Callee.value (Operand.func 13), args := #[Operand.const (Value.int IntKind.i64 1)], argTypes := #[3] }, type := 30, pos := "law.go:22", after := #[{ on := 6, ground := Ground.chain }, { on := 6, ground := Ground.guard }], guard := some (6, true) } : Oper)) rfl (fun K hK => ?_) AllReadyH.nil)
  go_simp
  refine (lawId_any 1 _).mono ?_
  rintro e w8 ⟨rfl, hm8⟩
  have M := Lib.hid (hHeld.trans' hm8)
  clear hHeld
  refine hK _ _ M.out (fun hHeld => ?_)
  clear hK K M
  try simp only [Act.put, List.setIfInBounds_toArray, List.set_cons_zero, List.set_cons_succ]
  refine wpAnyH_take (i := 9) (oi := ({ dst := some 70, op := Op.binOp BinOp.eql 30 (Operand.tmp 68) (Operand.tmp 69) 30, type := 4, pos := "law.go:22", after := #[{ on := 7, ground := Ground.data }, { on := 8, ground := Ground.data }, { on := 6, ground := Ground.guard }], guard := some (6, true) } : Oper)) (v := .bool true) rfl (by kernel_rfl) (by kernel_rfl) (by kernel_rfl) (fun _ _ _ h => h) (Or.inl ⟨by rfl, ?_⟩) hHeld ?_
  · (intro w' hSw; (try dsimp only at hSw); clear hSw hHeld; go_simp; (try with_reducible rfl))
  try simp only [Act.put, List.setIfInBounds_toArray, List.set_cons_zero, List.set_cons_succ]
  refine wpAnyH_take (i := 10) (oi := ({ dst := some 71, op := Op.pick (Operand.tmp 67) (Operand.tmp 70) (Operand.const (Value.bool false)), type := 4, pos := "law.go:22", after := #[{ on := 6, ground := Ground.data }, { on := 9, ground := Ground.data }], guard := none } : Oper)) (v := .bool true) rfl (by kernel_rfl) (by kernel_rfl) (by kernel_rfl) (fun _ _ _ h => h) (Or.inl ⟨by rfl, ?_⟩) hHeld ?_
  · (intro w' hSw; (try dsimp only at hSw); clear hSw hHeld; go_simp; (try with_reducible rfl))
  try simp only [Act.put, List.setIfInBounds_toArray, List.set_cons_zero, List.set_cons_succ]
  refine wpAnyH_take (i := 11) (oi := ({ dst := some 72, op := Op.move (Operand.tmp 71), type := 4, pos := "law.go:22", after := #[{ on := 10, ground := Ground.data }, { on := 8, ground := Ground.chain }], guard := none } : Oper)) (v := .bool true) rfl (by kernel_rfl) (by kernel_rfl) (by kernel_rfl) (fun _ _ _ h => h) (Or.inl ⟨by rfl, ?_⟩) hHeld ?_
  · (intro w' hSw; (try dsimp only at hSw); clear hSw hHeld; go_simp; (try with_reducible rfl))
  try simp only [Act.put, List.setIfInBounds_toArray, List.set_cons_zero, List.set_cons_succ]
  refine wpAnyH_take (i := 12) (oi := ({ dst := some 73, op := Op.load 30 (Operand.tmp 5), type := 30, pos := "law.go:22", after := #[{ on := 11, ground := Ground.guard }], guard := some (11, true) } : Oper)) (v := .agg #[.int .i64 2, .int .i64 0]) rfl (by kernel_rfl) (by kernel_rfl) (by kernel_rfl) (fun _ _ _ h => h) (yieldsIf_load_mid (by rfl) 30 _ rfl I2 (0) rfl ([.int .i64 2, .int .i64 0]) _ (fun w' hSw => range_up HJ2.out hSw (fun h => h)) Try.underlying30 rfl size_id) hHeld ?_
  try simp only [Act.put, List.setIfInBounds_toArray, List.set_cons_zero, List.set_cons_succ]
  refine wpAnyH_ready (rs := [13]) (by kernel_rfl) (by simp) (AllReadyH.cons (o := ({ dst := some 74, op := Op.call { callee := Callee.value (Operand.func 13), args := #[Operand.const (Value.int IntKind.i64 2)], argTypes := #[3] }, type := 30, pos := "law.go:22", after := #[{ on := 11, ground := Ground.chain }, { on := 11, ground := Ground.guard }], guard := some (11, true) } : Oper)) rfl (fun K hK => ?_) AllReadyH.nil)
  go_simp
  refine (lawId_any 2 _).mono ?_
  rintro e w9 ⟨rfl, hm9⟩
  have M := Lib.hid (hHeld.trans' hm9)
  clear hHeld
  refine hK _ _ M.out (fun hHeld => ?_)
  clear hK K M
  try simp only [Act.put, List.setIfInBounds_toArray, List.set_cons_zero, List.set_cons_succ]
  refine wpAnyH_take (i := 14) (oi := ({ dst := some 75, op := Op.binOp BinOp.eql 30 (Operand.tmp 73) (Operand.tmp 74) 30, type := 4, pos := "law.go:22", after := #[{ on := 12, ground := Ground.data }, { on := 13, ground := Ground.data }, { on := 11, ground := Ground.guard }], guard := some (11, true) } : Oper)) (v := .bool true) rfl (by kernel_rfl) (by kernel_rfl) (by kernel_rfl) (fun _ _ _ h => h) (Or.inl ⟨by rfl, ?_⟩) hHeld ?_
  · (intro w' hSw; (try dsimp only at hSw); clear hSw hHeld; go_simp; (try with_reducible rfl))
  try simp only [Act.put, List.setIfInBounds_toArray, List.set_cons_zero, List.set_cons_succ]
  refine wpAnyH_take (i := 15) (oi := ({ dst := some 76, op := Op.pick (Operand.tmp 72) (Operand.tmp 75) (Operand.const (Value.bool false)), type := 4, pos := "law.go:22", after := #[{ on := 11, ground := Ground.data }, { on := 14, ground := Ground.data }], guard := none } : Oper)) (v := .bool true) rfl (by kernel_rfl) (by kernel_rfl) (by kernel_rfl) (fun _ _ _ h => h) (Or.inl ⟨by rfl, ?_⟩) hHeld ?_
  · (intro w' hSw; (try dsimp only at hSw); clear hSw hHeld; go_simp; (try with_reducible rfl))
  try simp only [Act.put, List.setIfInBounds_toArray, List.set_cons_zero, List.set_cons_succ]
  refine wpAnyH_take (i := 16) (oi := ({ dst := some 77, op := Op.move (Operand.tmp 76), type := 4, pos := "law.go:22", after := #[{ on := 15, ground := Ground.data }, { on := 13, ground := Ground.chain }], guard := none } : Oper)) (v := .bool true) rfl (by kernel_rfl) (by kernel_rfl) (by kernel_rfl) (fun _ _ _ h => h) (Or.inl ⟨by rfl, ?_⟩) hHeld ?_
  · (intro w' hSw; (try dsimp only at hSw); clear hSw hHeld; go_simp; (try with_reducible rfl))
  try simp only [Act.put, List.setIfInBounds_toArray, List.set_cons_zero, List.set_cons_succ]
  refine wpAnyH_take (i := 17) (oi := ({ dst := some 78, op := Op.move (Operand.tmp 9), type := 49, pos := "law.go:22", after := #[{ on := 16, ground := Ground.guard }], guard := some (16, true) } : Oper)) (v := .int .i64 5) rfl (by kernel_rfl) (by kernel_rfl) (by kernel_rfl) (fun _ _ _ h => h) (Or.inl ⟨by rfl, ?_⟩) hHeld ?_
  · (intro w' hSw; (try dsimp only at hSw); clear hSw hHeld; go_simp; (try with_reducible rfl))
  try simp only [Act.put, List.setIfInBounds_toArray, List.set_cons_zero, List.set_cons_succ]
  refine wpAnyH_take (i := 18) (oi := ({ dst := some 79, op := Op.binOp BinOp.eql 49 (Operand.tmp 78) (Operand.const (Value.int IntKind.i64 5)) 49, type := 4, pos := "law.go:22", after := #[{ on := 17, ground := Ground.data }, { on := 16, ground := Ground.guard }], guard := some (16, true) } : Oper)) (v := .bool true) rfl (by kernel_rfl) (by kernel_rfl) (by kernel_rfl) (fun _ _ _ h => h) (Or.inl ⟨by rfl, ?_⟩) hHeld ?_
  · (intro w' hSw; (try dsimp only at hSw); clear hSw hHeld; go_simp; (try with_reducible rfl))
  try simp only [Act.put, List.setIfInBounds_toArray, List.set_cons_zero, List.set_cons_succ]
  refine wpAnyH_take (i := 19) (oi := ({ dst := some 80, op := Op.pick (Operand.tmp 77) (Operand.tmp 79) (Operand.const (Value.bool false)), type := 4, pos := "law.go:22", after := #[{ on := 16, ground := Ground.data }, { on := 18, ground := Ground.data }], guard := none } : Oper)) (v := .bool true) rfl (by kernel_rfl) (by kernel_rfl) (by kernel_rfl) (fun _ _ _ h => h) (Or.inl ⟨by rfl, ?_⟩) hHeld ?_
  · (intro w' hSw; (try dsimp only at hSw); clear hSw hHeld; go_simp; (try with_reducible rfl))
  try simp only [Act.put, List.setIfInBounds_toArray, List.set_cons_zero, List.set_cons_succ]
  refine wpAnyH_take (i := 20) (oi := ({ dst := some 81, op := Op.move (Operand.tmp 80), type := 4, pos := "law.go:22", after := #[{ on := 19, ground := Ground.data }, { on := 16, ground := Ground.chain }], guard := none } : Oper)) (v := .bool true) rfl (by kernel_rfl) (by kernel_rfl) (by kernel_rfl) (fun _ _ _ h => h) (Or.inl ⟨by rfl, ?_⟩) hHeld ?_
  · (intro w' hSw; (try dsimp only at hSw); clear hSw hHeld; go_simp; (try with_reducible rfl))
  try simp only [Act.put, List.setIfInBounds_toArray, List.set_cons_zero, List.set_cons_succ]
  refine wpAnyH_take (i := 21) (oi := ({ dst := some 82, op := Op.move (Operand.tmp 12), type := 49, pos := "law.go:22", after := #[{ on := 20, ground := Ground.guard }], guard := some (20, true) } : Oper)) (v := .int .i64 0) rfl (by kernel_rfl) (by kernel_rfl) (by kernel_rfl) (fun _ _ _ h => h) (Or.inl ⟨by rfl, ?_⟩) hHeld ?_
  · (intro w' hSw; (try dsimp only at hSw); clear hSw hHeld; go_simp; (try with_reducible rfl))
  try simp only [Act.put, List.setIfInBounds_toArray, List.set_cons_zero, List.set_cons_succ]
  refine wpAnyH_take (i := 22) (oi := ({ dst := some 83, op := Op.binOp BinOp.eql 49 (Operand.tmp 82) (Operand.const (Value.int IntKind.i64 0)) 49, type := 4, pos := "law.go:22", after := #[{ on := 21, ground := Ground.data }, { on := 20, ground := Ground.guard }], guard := some (20, true) } : Oper)) (v := .bool true) rfl (by kernel_rfl) (by kernel_rfl) (by kernel_rfl) (fun _ _ _ h => h) (Or.inl ⟨by rfl, ?_⟩) hHeld ?_
  · (intro w' hSw; (try dsimp only at hSw); clear hSw hHeld; go_simp; (try with_reducible rfl))
  try simp only [Act.put, List.setIfInBounds_toArray, List.set_cons_zero, List.set_cons_succ]
  refine wpAnyH_take (i := 23) (oi := ({ dst := some 84, op := Op.pick (Operand.tmp 81) (Operand.tmp 83) (Operand.const (Value.bool false)), type := 4, pos := "law.go:22", after := #[{ on := 20, ground := Ground.data }, { on := 22, ground := Ground.data }], guard := none } : Oper)) (v := .bool true) rfl (by kernel_rfl) (by kernel_rfl) (by kernel_rfl) (fun _ _ _ h => h) (Or.inl ⟨by rfl, ?_⟩) hHeld ?_
  · (intro w' hSw; (try dsimp only at hSw); clear hSw hHeld; go_simp; (try with_reducible rfl))
  try simp only [Act.put, List.setIfInBounds_toArray, List.set_cons_zero, List.set_cons_succ]
  refine wpAnyH_take (i := 24) (oi := ({ dst := some 85, op := Op.move (Operand.tmp 84), type := 4, pos := "law.go:22", after := #[{ on := 23, ground := Ground.data }, { on := 20, ground := Ground.chain }], guard := none } : Oper)) (v := .bool true) rfl (by kernel_rfl) (by kernel_rfl) (by kernel_rfl) (fun _ _ _ h => h) (Or.inl ⟨by rfl, ?_⟩) hHeld ?_
  · (intro w' hSw; (try dsimp only at hSw); clear hSw hHeld; go_simp; (try with_reducible rfl))
  try simp only [Act.put, List.setIfInBounds_toArray, List.set_cons_zero, List.set_cons_succ]
  refine wpAnyH_take (i := 25) (oi := ({ dst := some 86, op := Op.move (Operand.tmp 14), type := 4, pos := "law.go:22", after := #[{ on := 24, ground := Ground.guard }], guard := some (24, true) } : Oper)) (v := .bool true) rfl (by kernel_rfl) (by kernel_rfl) (by kernel_rfl) (fun _ _ _ h => h) (Or.inl ⟨by rfl, ?_⟩) hHeld ?_
  · (intro w' hSw; (try dsimp only at hSw); clear hSw hHeld; go_simp; (try with_reducible rfl))
  try simp only [Act.put, List.setIfInBounds_toArray, List.set_cons_zero, List.set_cons_succ]
  refine wpAnyH_take (i := 26) (oi := ({ dst := some 87, op := Op.pick (Operand.tmp 85) (Operand.tmp 86) (Operand.const (Value.bool false)), type := 4, pos := "law.go:22", after := #[{ on := 24, ground := Ground.data }, { on := 25, ground := Ground.data }], guard := none } : Oper)) (v := .bool true) rfl (by kernel_rfl) (by kernel_rfl) (by kernel_rfl) (fun _ _ _ h => h) (Or.inl ⟨by rfl, ?_⟩) hHeld ?_
  · (intro w' hSw; (try dsimp only at hSw); clear hSw hHeld; go_simp; (try with_reducible rfl))
  try simp only [Act.put, List.setIfInBounds_toArray, List.set_cons_zero, List.set_cons_succ]
  refine wpAnyH_take (i := 27) (oi := ({ dst := some 88, op := Op.move (Operand.tmp 87), type := 4, pos := "law.go:22", after := #[{ on := 26, ground := Ground.data }, { on := 24, ground := Ground.chain }], guard := none } : Oper)) (v := .bool true) rfl (by kernel_rfl) (by kernel_rfl) (by kernel_rfl) (fun _ _ _ h => h) (Or.inl ⟨by rfl, ?_⟩) hHeld ?_
  · (intro w' hSw; (try dsimp only at hSw); clear hSw hHeld; go_simp; (try with_reducible rfl))
  try simp only [Act.put, List.setIfInBounds_toArray, List.set_cons_zero, List.set_cons_succ]
  refine wpAnyH_take (i := 28) (oi := ({ dst := some 89, op := Op.move (Operand.tmp 16), type := 4, pos := "law.go:22", after := #[{ on := 27, ground := Ground.guard }], guard := some (27, true) } : Oper)) (v := .bool false) rfl (by kernel_rfl) (by kernel_rfl) (by kernel_rfl) (fun _ _ _ h => h) (Or.inl ⟨by rfl, ?_⟩) hHeld ?_
  · (intro w' hSw; (try dsimp only at hSw); clear hSw hHeld; go_simp; (try with_reducible rfl))
  try simp only [Act.put, List.setIfInBounds_toArray, List.set_cons_zero, List.set_cons_succ]
  refine wpAnyH_take (i := 29) (oi := ({ dst := some 90, op := Op.unOp UnOp.not 4 (Operand.tmp 89), type := 4, pos := "law.go:22", after := #[{ on := 28, ground := Ground.data }, { on := 27, ground := Ground.guard }], guard := some (27, true) } : Oper)) (v := .bool true) rfl (by kernel_rfl) (by kernel_rfl) (by kernel_rfl) (fun _ _ _ h => h) (Or.inl ⟨by rfl, ?_⟩) hHeld ?_
  · (intro w' hSw; (try dsimp only at hSw); clear hSw hHeld; go_simp; (try with_reducible rfl))
  try simp only [Act.put, List.setIfInBounds_toArray, List.set_cons_zero, List.set_cons_succ]
  refine wpAnyH_take (i := 30) (oi := ({ dst := some 91, op := Op.pick (Operand.tmp 88) (Operand.tmp 90) (Operand.const (Value.bool false)), type := 4, pos := "law.go:22", after := #[{ on := 27, ground := Ground.data }, { on := 29, ground := Ground.data }], guard := none } : Oper)) (v := .bool true) rfl (by kernel_rfl) (by kernel_rfl) (by kernel_rfl) (fun _ _ _ h => h) (Or.inl ⟨by rfl, ?_⟩) hHeld ?_
  · (intro w' hSw; (try dsimp only at hSw); clear hSw hHeld; go_simp; (try with_reducible rfl))
  try simp only [Act.put, List.setIfInBounds_toArray, List.set_cons_zero, List.set_cons_succ]
  refine wpAnyH_take (i := 31) (oi := ({ dst := some 0, op := Op.assign (Operand.tmp 91), type := 4, pos := "law.go:22", after := #[{ on := 30, ground := Ground.data }, { on := 27, ground := Ground.chain }, { on := 0, ground := Ground.phase }, { on := 1, ground := Ground.phase }, { on := 2, ground := Ground.phase }, { on := 3, ground := Ground.phase }, { on := 4, ground := Ground.phase }, { on := 5, ground := Ground.phase }, { on := 6, ground := Ground.phase }, { on := 7, ground := Ground.phase }, { on := 8, ground := Ground.phase }, { on := 9, ground := Ground.phase }, { on := 10, ground := Ground.phase }, { on := 11, ground := Ground.phase }, { on := 12, ground := Ground.phase }, { on := 13, ground := Ground.phase }, { on := 14, ground := Ground.phase }, { on := 15, ground := Ground.phase }, { on := 16, ground := Ground.phase }, { on := 17, ground := Ground.phase }, { on := 18, ground := Ground.phase }, { on := 19, ground := Ground.phase }, { on := 20, ground := Ground.phase }, { on := 21, ground := Ground.phase }, { on := 22, ground := Ground.phase }, { on := 23, ground := Ground.phase }, { on := 24, ground := Ground.phase }, { on := 25, ground := Ground.phase }, { on := 26, ground := Ground.phase }, { on := 27, ground := Ground.phase }, { on := 28, ground := Ground.phase }, { on := 29, ground := Ground.phase }, { on := 30, ground := Ground.phase }], guard := none } : Oper)) (v := .bool true) rfl (by kernel_rfl) (by kernel_rfl) (by kernel_rfl) (fun _ _ _ h => h) (Or.inl ⟨by rfl, ?_⟩) hHeld ?_
  · (intro w' hSw; (try dsimp only at hSw); clear hSw hHeld; go_simp; (try with_reducible rfl))
  try simp only [Act.put, List.setIfInBounds_toArray, List.set_cons_zero, List.set_cons_succ]
  have MS := Lib.hid hHeld
  refine wpAnyH_done (by kernel_rfl) ?_ _
  clear hHeld
  try simp only [Act.put]
  go_wp2_with fail
  go_ret
  exact ⟨rfl, HM.out.trans' MS.out⟩
end Go.Proofs.Ytpbmfalokongfaa

/- Scenes: how many layers there are, how deep. -/
namespace Go.Gou
theorem Ly.idsL_take_len {ks : List Ly} {j : Nat} (h : j < ks.length) : (Ly.idsL (ks.take (j + 1))).length = (Ly.idsL (ks.take j)).length + ks[j].ids.length := by
  rw [List.take_succ_eq_append_getElem h, Ly.idsL_eq, Ly.idsL_eq, List.flatMap_append, List.length_append]
  simp
theorem Ly.idsL_take_le {ks : List Ly} (j : Nat) : (Ly.idsL (ks.take j)).length ≤ (Ly.idsL ks).length := by
  have h : Ly.idsL ks = Ly.idsL (ks.take j) ++ Ly.idsL (ks.drop j) := by
    rw [Ly.idsL_eq, Ly.idsL_eq, Ly.idsL_eq, ← List.flatMap_append, List.take_append_drop]
  rw [h, List.length_append]
  omega
end Go.Gou
namespace Go.Proofs.Ytpbmfalokongfaa
open Go.RowKit Go.Gou
set_option maxRecDepth 100000
set_option linter.constructorNameAsVariable false

set_option maxHeartbeats 8000000 in
theorem refAll_any : ∀ (T : Ly) (w : World) (vp vf vb vk : Value), LyR (fun _ => True) w (lyA T.id T.look vp vf vb vk).toList T → T.ids.length ≤ 1000000 → TFit T →
    Calls Try.prog 9 #[.agg (lyA T.id T.look vp vf vb vk)] w fun e w' => e = .returned (.int .i64 (T.ids.length : Nat)) ∧ Gou.Mod (fun _ => False) w w' := by
  intro T
  induction T using Ly.ind with
  | h i lk ks ih =>
    intro w vp vf vb vk hr hh hft
    obtain ⟨hl, css, hrow, hcl, hk⟩ := hr.parts
    simp only [Ly.id_mk, Ly.look_mk, Ly.kids_mk] at hl hrow hcl hk ⊢
    obtain ⟨pk, ck, rfl⟩ := RowG.slice hrow
    have Hrow := Lib.hid hrow
    have Hcl := Lib.hid hcl
    have Hk := Lib.hid hk
    have Hft := Lib.hid hft
    have Hh := Lib.hid hh
    have Ih := Lib.hid ih
    have hlen := hft.len
    rw [Ly.kids_mk] at hlen
    have Hlen := Lib.hid hlen
    clear hl hrow hcl hk hr hft ih hlen hh
    have HB := Lib.hid (Blk.new w 45 (lyA i lk vp vf vb (.slice pk ks.length ck)))
    have HMa := Lib.hid (Gou.Mod.alloc0 w (.cells (lyA i lk vp vf vb (.slice pk ks.length ck)) 45))
    go_enter Try.func9, Try.ntmps9
    go_upto_region 1 with fail
    show Code.wp _ _ _ _ (w.alloc (.cells (lyA i lk vp vf vb (.slice pk ks.length ck)) 45))
    generalize w.alloc (.cells (lyA i lk vp vf vb (.slice pk ks.length ck)) 45) = W1 at *
    go_wp2_with fail
    go_loopw [3, 4] (fun v3 vi wr => ∃ j : Nat, vi = .int .i64 j ∧ j ≤ ks.length ∧ v3 = .int .i64 (1 + (Ly.idsL (ks.take j)).length : Nat) ∧ Gou.Mod (fun _ => False) W1 wr) (fun _ vi _ => ks.length - (intOf vi).toNat)
    case atStart => exact ⟨0, rfl, Nat.zero_le _, by simp [Ly.heightL, Ly.idsL], Gou.Mod.refl _ _⟩
    case round =>
      obtain ⟨j, rfl, hj, rfl, hm⟩ := hrel
      have Hm := Lib.hid hm
      have c30 : wr.cell? ⟨w.heap.size, 30, none⟩ = some (.slice pk ks.length ck) := (HB.out.up hm).cell 30 rfl
      clear hm
      by_cases hil : j < ks.length
      · have e0 : decide ((j : Int) < (ks.length : Int)) = true := decide_eq_true (by omega)
        obtain ⟨b, o, kp, kf, kb, kk, rfl, hbl, _, hrg, hkr⟩ := LyR.kidR Hrow.out Hcl.out rfl Hk.out hil
        have Hrg := Lib.hid (range_up hrg (HMa.out.trans' Hm.out) (fun h => h))
        have Hst : Hid ((Ly.idsL (ks.take (j + 1))).length = (Ly.idsL (ks.take j)).length + ks[j].ids.length) := Lib.hid (Ly.idsL_take_len hil)
        have hT : 1 + (Ly.idsL ks).length ≤ 1000000 := by have := Hh.out; rw [Ly.ids_mk, List.length_cons] at this; omega
        have Hb : Hid ((Ly.idsL (ks.take j)).length + ks[j].ids.length ≤ 1000000) := Lib.hid (by rw [← Hst.out]; have := Ly.idsL_take_le (ks := ks) (j + 1); omega)
        clear hT
        have Hik : Hid (∀ w', Gou.Mod (fun _ => False) wr w' → Calls Try.prog 9 #[.agg (lyA ks[j].id ks[j].look kp kf kb kk)] w' fun e w'' => e = .returned (.int .i64 (ks[j].ids.length : Nat)) ∧ Gou.Mod (fun _ => False) w' w'') := Lib.hid (fun w' hw' => Ih.out ks[j] (List.getElem_mem hil) w' kp kf kb kk (hkr.up ((HMa.out.trans' Hm.out).trans' hw')) (by have := Hb.out; omega) (Hft.out.kids ks[j] (by rw [Ly.kids_mk]; exact List.getElem_mem hil)))
        have Hil := Lib.hid hil
        clear hrg hkr hbl
        generalize ks[j] = kd at *
        generalize (Ly.idsL (ks.take j)).length = h0 at *
        have E9 : Hid (wrap64 ((1 : Int) + (h0 : Int) + ((kd.ids.length : Nat) : Int)) = ((1 + (h0 + kd.ids.length) : Nat) : Int)) := Lib.hid (by unfold wrap64; have := Hb.out; omega)
        go_wp2_with (first | ((with_reducible refine wpList_load_mid ?g1_1 45 ?x1_1 ?o1_1 (b) (o + j * 31) ?h1_1 ((lyA kd.id kd.look kp kf kb kk).toList) ?d1_1 ?c1_1 ?u1_1 ?e1_1 ?i1_1 ?r1_1); (case g1_1 => exact rfl); (case o1_1 => exact rfl); (case h1_1 => exact rfl); (case c1_1 => exact Hrg.out); (case u1_1 => exact Try.underlying45); (case e1_1 => exact rfl); (case i1_1 => exact size_layer)) | fail)
        refine (Hik.out _ (Gou.Mod.refl _ _)).mono ?_
        rintro e w4 ⟨rfl, hm4⟩
        have HM4 := Lib.hid (Hm.out.trans' hm4)
        clear hm4
        have hwi : wrap64 ((j : Int) + 1) = ((j + 1 : Nat) : Int) := by have := Hil.out; have := Hlen.out; unfold wrap64; omega
        go_wp2_with fail
        go_roundw
        case rel => exact ⟨j + 1, by rw [← hwi], by have := Hil.out; omega, by rw [Hst.out]; exact congrArg (Value.int .i64) E9.out, HM4.out⟩
        case measure => rw [hwi]; have := Hil.out; simp only [intOf]; omega
      · have e0 : decide ((j : Int) < (ks.length : Int)) = false := decide_eq_false (by omega)
        have hil' : j = ks.length := by omega
        subst hil'
        rw [List.take_length] at *
        go_wp2_with fail
        go_ret
        exact ⟨by rw [Ly.ids_mk, List.length_cons, Nat.add_comm]; rfl, HMa.out.trans' Hm.out⟩

set_option maxHeartbeats 8000000 in
theorem refHeight_any : ∀ (T : Ly) (w : World) (vp vf vb vk : Value), LyR (fun _ => True) w (lyA T.id T.look vp vf vb vk).toList T → T.height ≤ 1000 → TFit T →
    Calls Try.prog 11 #[.agg (lyA T.id T.look vp vf vb vk)] w fun e w' => e = .returned (.int .i64 (T.height : Nat)) ∧ Gou.Mod (fun _ => False) w w' := by
  intro T
  induction T using Ly.ind with
  | h i lk ks ih =>
    intro w vp vf vb vk hr hh hft
    obtain ⟨hl, css, hrow, hcl, hk⟩ := hr.parts
    simp only [Ly.id_mk, Ly.look_mk, Ly.kids_mk] at hl hrow hcl hk ⊢
    obtain ⟨pk, ck, rfl⟩ := RowG.slice hrow
    have Hrow := Lib.hid hrow
    have Hcl := Lib.hid hcl
    have Hk := Lib.hid hk
    have Hft := Lib.hid hft
    have Hh := Lib.hid hh
    have Ih := Lib.hid ih
    have hlen := hft.len
    rw [Ly.kids_mk] at hlen
    have Hlen := Lib.hid hlen
    clear hl hrow hcl hk hr hft ih hlen hh
    have HB := Lib.hid (Blk.new w 45 (lyA i lk vp vf vb (.slice pk ks.length ck)))
    have HMa := Lib.hid (Gou.Mod.alloc0 w (.cells (lyA i lk vp vf vb (.slice pk ks.length ck)) 45))
    go_enter Try.func11, Try.ntmps11
    go_upto_region 1 with fail
    show Code.wp _ _ _ _ (w.alloc (.cells (lyA i lk vp vf vb (.slice pk ks.length ck)) 45))
    generalize w.alloc (.cells (lyA i lk vp vf vb (.slice pk ks.length ck)) 45) = W1 at *
    go_wp2_with fail
    go_loopw [3, 4] (fun v3 vi wr => ∃ j : Nat, vi = .int .i64 j ∧ j ≤ ks.length ∧ v3 = .int .i64 (Ly.heightL (ks.take j) : Nat) ∧ Gou.Mod (fun _ => False) W1 wr) (fun _ vi _ => ks.length - (intOf vi).toNat)
    case atStart => exact ⟨0, rfl, Nat.zero_le _, by simp [Ly.heightL, Ly.idsL], Gou.Mod.refl _ _⟩
    case round =>
      obtain ⟨j, rfl, hj, rfl, hm⟩ := hrel
      have Hm := Lib.hid hm
      have c30 : wr.cell? ⟨w.heap.size, 30, none⟩ = some (.slice pk ks.length ck) := (HB.out.up hm).cell 30 rfl
      clear hm
      by_cases hil : j < ks.length
      · have e0 : decide ((j : Int) < (ks.length : Int)) = true := decide_eq_true (by omega)
        obtain ⟨b, o, kp, kf, kb, kk, rfl, hbl, _, hrg, hkr⟩ := LyR.kidR Hrow.out Hcl.out rfl Hk.out hil
        have Hrg := Lib.hid (range_up hrg (HMa.out.trans' Hm.out) (fun h => h))
        have Hst : Hid (Ly.heightL (ks.take (j + 1)) = max (Ly.heightL (ks.take j)) (1 + ks[j].height)) := Lib.hid (Ly.heightL_take hil)
        have hkh : 1 + ks[j].height ≤ 1000 := by have := Hh.out; rw [Ly.height] at this; exact (Ly.heightL_le.1 this) _ (List.getElem_mem hil)
        have Hkh := Lib.hid hkh
        have Hik : Hid (∀ w', Gou.Mod (fun _ => False) wr w' → Calls Try.prog 11 #[.agg (lyA ks[j].id ks[j].look kp kf kb kk)] w' fun e w'' => e = .returned (.int .i64 (ks[j].height : Nat)) ∧ Gou.Mod (fun _ => False) w' w'') := Lib.hid (fun w' hw' => Ih.out ks[j] (List.getElem_mem hil) w' kp kf kb kk (hkr.up ((HMa.out.trans' Hm.out).trans' hw')) (by omega) (Hft.out.kids ks[j] (by rw [Ly.kids_mk]; exact List.getElem_mem hil)))
        have Hil := Lib.hid hil
        clear hrg hkr hbl
        generalize ks[j] = kd at *
        clear hkh
        generalize Ly.heightL (ks.take j) = h0 at *
        have e9 : IntKind.i64.wrap (1 + ((kd.height : Nat) : Int)) = ((1 + kd.height : Nat) : Int) := by rw [IntKind.wrap_i64]; have := Hkh.out; omega
        go_wp2_with (first | ((with_reducible refine wpList_load_mid ?g1_1 45 ?x1_1 ?o1_1 (b) (o + j * 31) ?h1_1 ((lyA kd.id kd.look kp kf kb kk).toList) ?d1_1 ?c1_1 ?u1_1 ?e1_1 ?i1_1 ?r1_1); (case g1_1 => exact rfl); (case o1_1 => exact rfl); (case h1_1 => exact rfl); (case c1_1 => exact Hrg.out); (case u1_1 => exact Try.underlying45); (case e1_1 => exact rfl); (case i1_1 => exact size_layer)) | fail)
        refine (Hik.out _ (Gou.Mod.refl _ _)).mono ?_
        rintro e w4 ⟨rfl, hm4⟩
        have HM4 := Lib.hid (Hm.out.trans' hm4)
        clear hm4
        have hwi : wrap64 ((j : Int) + 1) = ((j + 1 : Nat) : Int) := by have := Hil.out; have := Hlen.out; unfold wrap64; omega
        obtain ⟨h1, hh1⟩ : ∃ h1, h1 = 1 + kd.height := ⟨_, rfl⟩
        rw [← hh1] at e9
        have Hh1 := Lib.hid hh1
        clear hh1
        by_cases hgt : h0 < h1
        · have e8 : decide ((h0 : Int) < (h1 : Int)) = true := decide_eq_true (by omega)
          have Hg := Lib.hid hgt
          clear hgt
          go_wp2_with fail
          go_roundw
          case rel => exact ⟨j + 1, by rw [← hwi], by have := Hil.out; omega, by rw [Hst.out, ← Hh1.out, Nat.max_eq_right (Nat.le_of_lt Hg.out)], HM4.out⟩
          case measure => rw [hwi]; have := Hil.out; simp only [intOf]; omega
        · have e8 : decide ((h0 : Int) < (h1 : Int)) = false := decide_eq_false (by omega)
          have Hg := Lib.hid hgt
          clear hgt
          go_wp2_with fail
          go_roundw
          case rel => exact ⟨j + 1, by rw [← hwi], by have := Hil.out; omega, by rw [Hst.out, ← Hh1.out, Nat.max_eq_left (Nat.le_of_not_lt Hg.out)], HM4.out⟩
          case measure => rw [hwi]; have := Hil.out; simp only [intOf]; omega
      · have e0 : decide ((j : Int) < (ks.length : Int)) = false := decide_eq_false (by omega)
        have hil' : j = ks.length := by omega
        subst hil'
        rw [List.take_length] at *
        go_wp2_with fail
        go_ret
        exact ⟨by rw [Ly.height]; rfl, HMa.out.trans' Hm.out⟩

theorem bvs_get {l : List Bool} {j : Nat} {b : Bool} (h : l[j]? = some b) : (bvs l)[j]? = some (.bool b) := by simp [bvs, h]
theorem count_take {l : List Bool} {j : Nat} {b : Bool} (h : l[j]? = some b) : (l.take (j + 1)).count true = (l.take j).count true + (if b = true then 1 else 0) := by
  obtain ⟨hl, rfl⟩ := List.getElem?_eq_some_iff.1 h
  rw [List.take_succ_eq_append_getElem hl, List.count_append, List.count_singleton]
  simp
set_option maxHeartbeats 4000000 in
theorem arCount_any (w : World) (vg vl : Value) (a : Ar) (h : ArR w vg vl a) (hn : a.live.length ≤ 1000000) :
    Calls Try.prog 10 #[.agg #[vg, vl]] w fun e w' => e = .returned (.int .i64 (a.count : Nat)) ∧ Gou.Mod (fun _ => False) w w' := by
  obtain ⟨⟨pg, cg, rfl⟩, ⟨pl, cl, rfl⟩⟩ := h.forms
  have Hh := Lib.hid h
  have Hn := Lib.hid hn
  clear h hn
  have HB := Lib.hid (Blk.new w 28 #[.slice pg a.gens.length cg, .slice pl a.live.length cl])
  have HMa := Lib.hid (Gou.Mod.alloc0 w (.cells #[.slice pg a.gens.length cg, .slice pl a.live.length cl] 28))
  go_enter Try.func10, Try.ntmps10
  go_upto_region 1 with fail
  generalize w.alloc (.cells #[.slice pg a.gens.length cg, .slice pl a.live.length cl] 28) = W1 at *
  have c1 : W1.cell? ⟨w.heap.size, 1, none⟩ = some (.slice pl a.live.length cl) := HB.out.cell 1 rfl
  go_wp2_with fail
  go_loopw [3, 9] (fun v3 vi wr => ∃ j : Nat, vi = .int .i64 j ∧ j ≤ a.live.length ∧ v3 = .int .i64 ((a.live.take j).count true : Nat) ∧ Gou.Mod (fun _ => False) w wr) (fun _ vi _ => a.live.length - (intOf vi).toNat)
  case atStart => exact ⟨0, rfl, Nat.zero_le _, by simp, HMa.out⟩
  case round =>
    obtain ⟨j, rfl, hj, rfl, hm⟩ := hrel
    have Hm := Lib.hid hm
    clear hm c1
    by_cases hil : j < a.live.length
    · have e0 : decide ((j : Int) < (a.live.length : Int)) = true := decide_eq_true (by omega)
      obtain ⟨bj, hbj⟩ : ∃ bj, a.live[j]? = some bj := ⟨_, List.getElem?_eq_getElem hil⟩
      have hc : ∃ b o, pl = some ⟨b, o, none⟩ ∧ wr.cell? ⟨b, o + j, none⟩ = some (.bool bj) := by
        obtain ⟨_, p, cap, e, _, h⟩ := RowG.mod Hh.out.l Hm.out (fun _ _ _ h => h)
        simp only [Value.slice.injEq] at e
        obtain ⟨rfl, -, -⟩ := e
        rcases h with h | ⟨b, o, rfl, _, _, hcc⟩
        · omega
        · exact ⟨b, o, rfl, hcc j _ (bvs_get hbj)⟩
      obtain ⟨b, o, rfl, hcl⟩ := hc
      have Hst := Lib.hid (count_take hbj)
      have hcb : (a.live.take j).count true ≤ a.live.length := Nat.le_trans List.count_le_length (by rw [List.length_take]; omega)
      have hwi : wrap64 ((j : Int) + 1) = ((j + 1 : Nat) : Int) := by have := Hn.out; unfold wrap64; omega
      have hwc : wrap64 (((a.live.take j).count true : Nat) + 1 : Int) = (((a.live.take j).count true + 1 : Nat) : Int) := by have := Hn.out; unfold wrap64; omega
      have Hil := Lib.hid hil
      clear hcb
      generalize (a.live.take j).count true = n0 at *
      clear hbj
      cases bj
      · go_wp2_with fail
        go_roundw
        case rel => exact ⟨j + 1, by rw [← hwi], by have := Hil.out; omega, by rw [Hst.out]; rfl, Hm.out⟩
        case measure => rw [hwi]; have := Hil.out; simp only [intOf]; omega
      · go_wp2_with fail
        go_roundw
        case rel => exact ⟨j + 1, by rw [← hwi], by have := Hil.out; omega, by rw [Hst.out]; exact congrArg (Value.int .i64) hwc, Hm.out⟩
        case measure => rw [hwi]; have := Hil.out; simp only [intOf]; omega
    · have e0 : decide ((j : Int) < (a.live.length : Int)) = false := decide_eq_false (by omega)
      have hil' : j = a.live.length := by omega
      subst hil'
      rw [List.take_length] at *
      go_wp2_with fail
      go_ret
      exact ⟨rfl, Hm.out⟩
end Go.Proofs.Ytpbmfalokongfaa

/- Scenes: how many layers have an Id. -/
namespace Go.Gou
theorem Ly.count_take {ks : List Ly} {j : Nat} (x : Idt) (h : j < ks.length) : (Ly.idsL (ks.take (j + 1))).count x = (Ly.idsL (ks.take j)).count x + ks[j].ids.count x := by
  rw [List.take_succ_eq_append_getElem h, Ly.idsL_eq, Ly.idsL_eq, List.flatMap_append, List.count_append]
  simp
end Go.Gou
namespace Go.Proofs.Ytpbmfalokongfaa
open Go.RowKit Go.Gou
set_option maxRecDepth 100000
set_option linter.constructorNameAsVariable false

set_option maxHeartbeats 8000000 in
theorem refCount_any (x : Idt) : ∀ (T : Ly) (w : World) (vp vf vb vk : Value), LyR (fun _ => True) w (lyA T.id T.look vp vf vb vk).toList T → T.ids.length ≤ 1000000 → TFit T →
    Calls Try.prog 12 #[.agg (lyA T.id T.look vp vf vb vk), .agg #[Value.int .i64 x.1, Value.int .i64 x.2]] w fun e w' => e = .returned (.int .i64 (T.ids.count x : Nat)) ∧ Gou.Mod (fun _ => False) w w' := by
  intro T
  induction T using Ly.ind with
  | h i lk ks ih =>
    intro w vp vf vb vk hr hh hft
    obtain ⟨hl, css, hrow, hcl, hk⟩ := hr.parts
    simp only [Ly.id_mk, Ly.look_mk, Ly.kids_mk] at hl hrow hcl hk ⊢
    obtain ⟨pk, ck, rfl⟩ := RowG.slice hrow
    have Hrow := Lib.hid hrow
    have Hcl := Lib.hid hcl
    have Hk := Lib.hid hk
    have Hft := Lib.hid hft
    have Hh := Lib.hid hh
    have Ih := Lib.hid ih
    have hlen := hft.len
    rw [Ly.kids_mk] at hlen
    have Hlen := Lib.hid hlen
    clear hl hrow hcl hk hr hft ih hlen hh
    obtain ⟨b0, b1, bm⟩ := two_new w 45 30 (lyA i lk vp vf vb (.slice pk ks.length ck)) #[Value.int .i64 x.1, Value.int .i64 x.2]
    have HB := Lib.hid b0
    have HX := Lib.hid b1
    have HMa := Lib.hid bm
    clear b0 b1 bm
    go_enter Try.func12, Try.ntmps12
    go_upto_region 2 with fail
    show Code.wp _ _ _ _ ((w.alloc (.cells (lyA i lk vp vf vb (.slice pk ks.length ck)) 45)).alloc (.cells #[Value.int .i64 x.1, Value.int .i64 x.2] 30))
    generalize (w.alloc (.cells (lyA i lk vp vf vb (.slice pk ks.length ck)) 45)).alloc (.cells #[Value.int .i64 x.1, Value.int .i64 x.2] 30) = W1 at *
    have c0 : W1.cell? ⟨w.heap.size, 0, none⟩ = some (.int .i64 i.1) := HB.out.cell 0 rfl
    have c1 : W1.cell? ⟨w.heap.size, 1, none⟩ = some (.int .i64 i.2) := HB.out.cell 1 rfl
    have x0 : W1.cell? ⟨w.heap.size + 1, 0, none⟩ = some (.int .i64 x.1) := HX.out.cell 0 rfl
    have x1 : W1.cell? ⟨w.heap.size + 1, 1, none⟩ = some (.int .i64 x.2) := HX.out.cell 1 rfl
    have hid := fun (w' : World) => id_op i x w'
    obtain ⟨n0, hn0⟩ : ∃ n0 : Nat, n0 = if i = x then 1 else 0 := ⟨_, rfl⟩
    have Hn0 := Lib.hid hn0
    by_cases hix : i = x
    · have e1 : decide (i = x) = true := decide_eq_true hix
      rw [e1] at hid
      have hn1 : n0 = 1 := by rw [hn0, if_pos hix]
      clear hix e1
      go_wp2_with fail
      have Hn1 := Lib.hid hn1
      clear hn1
      clear c0 c1 x0 x1 hid hn0
      go_loopw [5, 6] (fun v3 vi wr => ∃ j : Nat, vi = .int .i64 j ∧ j ≤ ks.length ∧ v3 = .int .i64 (n0 + (Ly.idsL (ks.take j)).count x : Nat) ∧ Gou.Mod (fun _ => False) W1 wr) (fun _ vi _ => ks.length - (intOf vi).toNat)
      case atStart => exact ⟨0, rfl, Nat.zero_le _, by rw [Hn1.out]; simp [Ly.idsL], Gou.Mod.refl _ _⟩
      case round =>
        obtain ⟨j, rfl, hj, rfl, hm⟩ := hrel
        have Hm := Lib.hid hm
        have c30 : wr.cell? ⟨w.heap.size, 30, none⟩ = some (.slice pk ks.length ck) := (HB.out.up hm).cell 30 rfl
        clear hm
        have Hb1 : Hid (n0 ≤ 1) := Lib.hid (by rw [Hn0.out]; split <;> omega)
        by_cases hil : j < ks.length
        · have e0 : decide ((j : Int) < (ks.length : Int)) = true := decide_eq_true (by omega)
          obtain ⟨b, o, kp, kf, kb, kk, rfl, hbl, _, hrg, hkr⟩ := LyR.kidR Hrow.out Hcl.out rfl Hk.out hil
          have Hrg := Lib.hid (range_up hrg (HMa.out.trans' Hm.out) (fun h => h))
          have hT : 1 + (Ly.idsL ks).length ≤ 1000000 := by have := Hh.out; rw [Ly.ids_mk, List.length_cons] at this; omega
          have hst2 := Ly.idsL_take_len hil
          have hle := Ly.idsL_take_le (ks := ks) (j + 1)
          have Hst : Hid ((Ly.idsL (ks.take (j + 1))).count x = (Ly.idsL (ks.take j)).count x + ks[j].ids.count x) := Lib.hid (Ly.count_take x hil)
          have Hcb : Hid ((Ly.idsL (ks.take j)).count x + ks[j].ids.count x ≤ 1000000) := Lib.hid (by have h1 : (Ly.idsL (ks.take j)).count x ≤ _ := List.count_le_length; have h2 : ks[j].ids.count x ≤ _ := List.count_le_length; omega)
          have Hik : Hid (∀ w', Gou.Mod (fun _ => False) wr w' → Calls Try.prog 12 #[.agg (lyA ks[j].id ks[j].look kp kf kb kk), .agg #[Value.int .i64 x.1, Value.int .i64 x.2]] w' fun e w'' => e = .returned (.int .i64 (ks[j].ids.count x : Nat)) ∧ Gou.Mod (fun _ => False) w' w'') := Lib.hid (fun w' hw' => Ih.out ks[j] (List.getElem_mem hil) w' kp kf kb kk (hkr.up ((HMa.out.trans' Hm.out).trans' hw')) (by omega) (Hft.out.kids ks[j] (by rw [Ly.kids_mk]; exact List.getElem_mem hil)))
          have Hil := Lib.hid hil
          clear hrg hkr hbl hT hst2 hle
          generalize ks[j] = kd at *
          generalize (Ly.idsL (ks.take j)).count x = h0 at *
          generalize kd.ids.count x = h1 at *
          have E9 : Hid (wrap64 ((n0 : Int) + (h0 : Int) + (h1 : Int)) = ((n0 + (h0 + h1) : Nat) : Int)) := Lib.hid (by unfold wrap64; have := Hcb.out; have := Hb1.out; omega)
          have e9 : IntKind.i64.wrap (((n0 + h0 : Nat) : Int) + (h1 : Int)) = ((n0 + (h0 + h1) : Nat) : Int) := by rw [IntKind.wrap_i64]; have := Hcb.out; have := Hb1.out; omega
          have e9b : IntKind.i64.wrap ((n0 : Int) + (h0 : Int) + (h1 : Int)) = ((n0 + (h0 + h1) : Nat) : Int) := by rw [IntKind.wrap_i64]; have := Hcb.out; have := Hb1.out; omega
          have hwi : wrap64 ((j : Int) + 1) = ((j + 1 : Nat) : Int) := by have := Hil.out; have := Hlen.out; unfold wrap64; omega
          have HXr : Hid (wr.rangeAt (w.heap.size + 1) 0 [.int .i64 x.1, .int .i64 x.2]) := Lib.hid (Blk.range (pre := []) (post := []) (HX.out.up Hm.out) (by simp) rfl)
          go_upto_region 7 with fail
          refine wp_region_held_drew (S := fun w' => Gou.Mod (fun _ => False) wr w') (by kernel_rfl) (Gou.Mod.drew _ _) (fun hHeld => ?_)
          refine wpAnyH_take (i := 0) (oi := ({ dst := some 18, op := Op.move (Operand.tmp 5), type := 3, pos := "ref.go:305", after := #[], guard := none } : Oper)) (v := .int .i64 ((n0 + h0 : Nat) : Int)) rfl (by kernel_rfl) (by kernel_rfl) (by kernel_rfl) (fun _ _ _ h => h) (Or.inl ⟨by rfl, ?_⟩) hHeld ?_
          · (intro w' hSw; (try dsimp only at hSw); clear hSw hHeld; go_simp; (try with_reducible rfl))
          try simp only [Act.put, List.setIfInBounds_toArray, List.set_cons_zero, List.set_cons_succ]
          refine wpAnyH_take (i := 1) (oi := ({ dst := some 19, op := Op.fieldAddr 45 (Operand.tmp 2) 2, type := 0, pos := "ref.go:305", after := #[], guard := none } : Oper)) (v := .pointer (some ⟨w.heap.size, 30, none⟩)) rfl (by kernel_rfl) (by kernel_rfl) (by kernel_rfl) (fun _ _ _ h => h) (Or.inl ⟨by rfl, ?_⟩) hHeld ?_
          · (intro w' hSw; (try dsimp only at hSw); clear hSw hHeld; go_simp; (try with_reducible rfl))
          try simp only [Act.put, List.setIfInBounds_toArray, List.set_cons_zero, List.set_cons_succ]
          refine wpAnyH_take (i := 2) (oi := ({ dst := some 20, op := Op.load 43 (Operand.tmp 19), type := 43, pos := "ref.go:305", after := #[{ on := 1, ground := Ground.data }], guard := none } : Oper)) (v := .slice (some ⟨b, o, none⟩) ks.length ck) rfl (by kernel_rfl) (by kernel_rfl) (by kernel_rfl) (fun _ _ _ h => h) (Or.inl ⟨by rfl, ?_⟩) hHeld ?_
          · (intro w' hSw; (try dsimp only at hSw); have g := (hSw.cell (p := ⟨w.heap.size, 30, none⟩) (World.block_lt_of_cell? _ _ c30) (fun h => h)).trans c30; clear hSw hHeld; go_simp; (try with_reducible rfl))
          try simp only [Act.put, List.setIfInBounds_toArray, List.set_cons_zero, List.set_cons_succ]
          refine wpAnyH_take (i := 3) (oi := ({ dst := some 21, op := Op.move (Operand.tmp 6), type := 3, pos := "ref.go:305", after := #[], guard := none } : Oper)) (v := .int .i64 (j : Int)) rfl (by kernel_rfl) (by kernel_rfl) (by kernel_rfl) (fun _ _ _ h => h) (Or.inl ⟨by rfl, ?_⟩) hHeld ?_
          · (intro w' hSw; (try dsimp only at hSw); clear hSw hHeld; go_simp; (try with_reducible rfl))
          try simp only [Act.put, List.setIfInBounds_toArray, List.set_cons_zero, List.set_cons_succ]
          refine wpAnyH_take (i := 4) (oi := ({ dst := some 22, op := Op.indexAddr 43 (Operand.tmp 20) (Operand.tmp 21), type := 0, pos := "ref.go:305", after := #[{ on := 2, ground := Ground.data }, { on := 3, ground := Ground.data }], guard := none } : Oper)) (v := .pointer (some ⟨b, o + j * 31, none⟩)) rfl (by kernel_rfl) (by kernel_rfl) (by kernel_rfl) (fun _ _ _ h => h) (Or.inl ⟨by rfl, ?_⟩) hHeld ?_
          · (intro w' hSw; (try dsimp only at hSw); clear hSw hHeld; go_simp; (try with_reducible rfl))
          try simp only [Act.put, List.setIfInBounds_toArray, List.set_cons_zero, List.set_cons_succ]
          refine wpAnyH_take (i := 5) (oi := ({ dst := some 23, op := Op.load 45 (Operand.tmp 22), type := 45, pos := "ref.go:305", after := #[{ on := 4, ground := Ground.data }], guard := none } : Oper)) (v := .agg (lyA kd.id kd.look kp kf kb kk)) rfl (by kernel_rfl) (by kernel_rfl) (by kernel_rfl) (fun _ _ _ h => h) (yieldsIf_load_mid (by rfl) 45 _ rfl b (o + j * 31) rfl ((lyA kd.id kd.look kp kf kb kk).toList) _ (fun w' hSw => range_up Hrg.out hSw (fun h => h)) Try.underlying45 rfl size_layer) hHeld ?_
          try simp only [Act.put, List.setIfInBounds_toArray, List.set_cons_zero, List.set_cons_succ]
          refine wpAnyH_take (i := 6) (oi := ({ dst := some 24, op := Op.load 30 (Operand.tmp 3), type := 30, pos := "ref.go:305", after := #[], guard := none } : Oper)) (v := .agg #[Value.int .i64 x.1, Value.int .i64 x.2]) rfl (by kernel_rfl) (by kernel_rfl) (by kernel_rfl) (fun _ _ _ h => h) (yieldsIf_load_mid (by rfl) 30 _ rfl (w.heap.size + 1) (0) rfl ([.int .i64 x.1, .int .i64 x.2]) _ (fun w' hSw => range_up HXr.out hSw (fun h => h)) Try.underlying30 rfl size_id) hHeld ?_
          try simp only [Act.put, List.setIfInBounds_toArray, List.set_cons_zero, List.set_cons_succ]
          refine wpAnyH_ready (rs := [7]) (by kernel_rfl) (by simp) (AllReadyH.cons (o := ({ dst := some 25, op := Op.call { callee := Callee.value (Operand.func 12), args := #[Operand.tmp 23, Operand.tmp 24], argTypes := #[45, 30] }, type := 3, pos := "ref.go:305", after := #[{ on := 5, ground := Ground.data }, { on := 6, ground := Ground.data }], guard := none } : Oper)) rfl (fun K hK => ?_) AllReadyH.nil)
          go_simp
          refine (Hik.out _ hHeld).mono ?_
          rintro e w4 ⟨rfl, hm4⟩
          have M := Lib.hid (hHeld.trans' hm4)
          clear hHeld
          refine hK _ _ M.out (fun hHeld => ?_)
          clear hK K M
          try simp only [Act.put, List.setIfInBounds_toArray, List.set_cons_zero, List.set_cons_succ]
          refine wpAnyH_take (i := 8) (oi := ({ dst := some 26, op := Op.binOp BinOp.add 3 (Operand.tmp 18) (Operand.tmp 25) 3, type := 3, pos := "ref.go:305", after := #[{ on := 0, ground := Ground.data }, { on := 7, ground := Ground.data }], guard := none } : Oper)) (v := .int .i64 ((n0 + (h0 + h1) : Nat) : Int)) rfl (by kernel_rfl) (by kernel_rfl) (by kernel_rfl) (fun _ _ _ h => h) (Or.inl ⟨by rfl, ?_⟩) hHeld ?_
          · (intro w' hSw; (try dsimp only at hSw); clear hSw hHeld; go_simp; (try with_reducible rfl))
          try simp only [Act.put, List.setIfInBounds_toArray, List.set_cons_zero, List.set_cons_succ]
          refine wpAnyH_take (i := 9) (oi := ({ dst := some 5, op := Op.assign (Operand.tmp 26), type := 3, pos := "ref.go:305", after := #[{ on := 8, ground := Ground.data }, { on := 7, ground := Ground.chain }, { on := 0, ground := Ground.phase }, { on := 1, ground := Ground.phase }, { on := 2, ground := Ground.phase }, { on := 3, ground := Ground.phase }, { on := 4, ground := Ground.phase }, { on := 5, ground := Ground.phase }, { on := 6, ground := Ground.phase }, { on := 7, ground := Ground.phase }, { on := 8, ground := Ground.phase }], guard := none } : Oper)) (v := .int .i64 ((n0 + (h0 + h1) : Nat) : Int)) rfl (by kernel_rfl) (by kernel_rfl) (by kernel_rfl) (fun _ _ _ h => h) (Or.inl ⟨by rfl, ?_⟩) hHeld ?_
          · (intro w' hSw; (try dsimp only at hSw); clear hSw hHeld; go_simp; (try with_reducible rfl))
          try simp only [Act.put, List.setIfInBounds_toArray, List.set_cons_zero, List.set_cons_succ]
          have MS := Lib.hid hHeld
          refine wpAnyH_done (by kernel_rfl) ?_ _
          clear hHeld
          try simp only [Act.put]
          have HM4 := Lib.hid (Hm.out.trans' MS.out)
          clear MS c30 HXr
          go_wp2_with fail
          go_roundw
          case rel => exact ⟨j + 1, by rw [← hwi], by have := Hil.out; omega, by rw [Hst.out], HM4.out⟩
          case measure => rw [hwi]; have := Hil.out; simp only [intOf]; omega
        · have e0 : decide ((j : Int) < (ks.length : Int)) = false := decide_eq_false (by omega)
          have hil' : j = ks.length := by omega
          subst hil'
          rw [List.take_length] at *
          go_wp2_with fail
          go_ret
          refine ⟨congrArg (fun z : Nat => Ending.returned (.int .i64 (z : Int))) (?_ : n0 + (Ly.idsL ks).count x = _), HMa.out.trans' Hm.out⟩
          rw [Ly.ids_mk, List.count_cons, Nat.add_comm, Hn0.out]
          simp only [beq_iff_eq]
    · have e1 : decide (i = x) = false := decide_eq_false hix
      rw [e1] at hid
      have hn1 : n0 = 0 := by rw [hn0, if_neg hix]
      clear hix e1
      go_wp2_with fail
      have Hn1 := Lib.hid hn1
      clear hn1
      clear c0 c1 x0 x1 hid hn0
      go_loopw [5, 6] (fun v3 vi wr => ∃ j : Nat, vi = .int .i64 j ∧ j ≤ ks.length ∧ v3 = .int .i64 (n0 + (Ly.idsL (ks.take j)).count x : Nat) ∧ Gou.Mod (fun _ => False) W1 wr) (fun _ vi _ => ks.length - (intOf vi).toNat)
      case atStart => exact ⟨0, rfl, Nat.zero_le _, by rw [Hn1.out]; simp [Ly.idsL], Gou.Mod.refl _ _⟩
      case round =>
        obtain ⟨j, rfl, hj, rfl, hm⟩ := hrel
        have Hm := Lib.hid hm
        have c30 : wr.cell? ⟨w.heap.size, 30, none⟩ = some (.slice pk ks.length ck) := (HB.out.up hm).cell 30 rfl
        clear hm
        have Hb1 : Hid (n0 ≤ 1) := Lib.hid (by rw [Hn0.out]; split <;> omega)
        by_cases hil : j < ks.length
        · have e0 : decide ((j : Int) < (ks.length : Int)) = true := decide_eq_true (by omega)
          obtain ⟨b, o, kp, kf, kb, kk, rfl, hbl, _, hrg, hkr⟩ := LyR.kidR Hrow.out Hcl.out rfl Hk.out hil
          have Hrg := Lib.hid (range_up hrg (HMa.out.trans' Hm.out) (fun h => h))
          have hT : 1 + (Ly.idsL ks).length ≤ 1000000 := by have := Hh.out; rw [Ly.ids_mk, List.length_cons] at this; omega
          have hst2 := Ly.idsL_take_len hil
          have hle := Ly.idsL_take_le (ks := ks) (j + 1)
          have Hst : Hid ((Ly.idsL (ks.take (j + 1))).count x = (Ly.idsL (ks.take j)).count x + ks[j].ids.count x) := Lib.hid (Ly.count_take x hil)
          have Hcb : Hid ((Ly.idsL (ks.take j)).count x + ks[j].ids.count x ≤ 1000000) := Lib.hid (by have h1 : (Ly.idsL (ks.take j)).count x ≤ _ := List.count_le_length; have h2 : ks[j].ids.count x ≤ _ := List.count_le_length; omega)
          have Hik : Hid (∀ w', Gou.Mod (fun _ => False) wr w' → Calls Try.prog 12 #[.agg (lyA ks[j].id ks[j].look kp kf kb kk), .agg #[Value.int .i64 x.1, Value.int .i64 x.2]] w' fun e w'' => e = .returned (.int .i64 (ks[j].ids.count x : Nat)) ∧ Gou.Mod (fun _ => False) w' w'') := Lib.hid (fun w' hw' => Ih.out ks[j] (List.getElem_mem hil) w' kp kf kb kk (hkr.up ((HMa.out.trans' Hm.out).trans' hw')) (by omega) (Hft.out.kids ks[j] (by rw [Ly.kids_mk]; exact List.getElem_mem hil)))
          have Hil := Lib.hid hil
          clear hrg hkr hbl hT hst2 hle
          generalize ks[j] = kd at *
          generalize (Ly.idsL (ks.take j)).count x = h0 at *
          generalize kd.ids.count x = h1 at *
          have E9 : Hid (wrap64 ((n0 : Int) + (h0 : Int) + (h1 : Int)) = ((n0 + (h0 + h1) : Nat) : Int)) := Lib.hid (by unfold wrap64; have := Hcb.out; have := Hb1.out; omega)
          have e9 : IntKind.i64.wrap (((n0 + h0 : Nat) : Int) + (h1 : Int)) = ((n0 + (h0 + h1) : Nat) : Int) := by rw [IntKind.wrap_i64]; have := Hcb.out; have := Hb1.out; omega
          have e9b : IntKind.i64.wrap ((n0 : Int) + (h0 : Int) + (h1 : Int)) = ((n0 + (h0 + h1) : Nat) : Int) := by rw [IntKind.wrap_i64]; have := Hcb.out; have := Hb1.out; omega
          have hwi : wrap64 ((j : Int) + 1) = ((j + 1 : Nat) : Int) := by have := Hil.out; have := Hlen.out; unfold wrap64; omega
          have HXr : Hid (wr.rangeAt (w.heap.size + 1) 0 [.int .i64 x.1, .int .i64 x.2]) := Lib.hid (Blk.range (pre := []) (post := []) (HX.out.up Hm.out) (by simp) rfl)
          go_upto_region 7 with fail
          refine wp_region_held_drew (S := fun w' => Gou.Mod (fun _ => False) wr w') (by kernel_rfl) (Gou.Mod.drew _ _) (fun hHeld => ?_)
          refine wpAnyH_take (i := 0) (oi := ({ dst := some 18, op := Op.move (Operand.tmp 5), type := 3, pos := "ref.go:305", after := #[], guard := none } : Oper)) (v := .int .i64 ((n0 + h0 : Nat) : Int)) rfl (by kernel_rfl) (by kernel_rfl) (by kernel_rfl) (fun _ _ _ h => h) (Or.inl ⟨by rfl, ?_⟩) hHeld ?_
          · (intro w' hSw; (try dsimp only at hSw); clear hSw hHeld; go_simp; (try with_reducible rfl))
          try simp only [Act.put, List.setIfInBounds_toArray, List.set_cons_zero, List.set_cons_succ]
          refine wpAnyH_take (i := 1) (oi := ({ dst := some 19, op := Op.fieldAddr 45 (Operand.tmp 2) 2, type := 0, pos := "ref.go:305", after := #[], guard := none } : Oper)) (v := .pointer (some ⟨w.heap.size, 30, none⟩)) rfl (by kernel_rfl) (by kernel_rfl) (by kernel_rfl) (fun _ _ _ h => h) (Or.inl ⟨by rfl, ?_⟩) hHeld ?_
          · (intro w' hSw; (try dsimp only at hSw); clear hSw hHeld; go_simp; (try with_reducible rfl))
          try simp only [Act.put, List.setIfInBounds_toArray, List.set_cons_zero, List.set_cons_succ]
          refine wpAnyH_take (i := 2) (oi := ({ dst := some 20, op := Op.load 43 (Operand.tmp 19), type := 43, pos := "ref.go:305", after := #[{ on := 1, ground := Ground.data }], guard := none } : Oper)) (v := .slice (some ⟨b, o, none⟩) ks.length ck) rfl (by kernel_rfl) (by kernel_rfl) (by kernel_rfl) (fun _ _ _ h => h) (Or.inl ⟨by rfl, ?_⟩) hHeld ?_
          · (intro w' hSw; (try dsimp only at hSw); have g := (hSw.cell (p := ⟨w.heap.size, 30, none⟩) (World.block_lt_of_cell? _ _ c30) (fun h => h)).trans c30; clear hSw hHeld; go_simp; (try with_reducible rfl))
          try simp only [Act.put, List.setIfInBounds_toArray, List.set_cons_zero, List.set_cons_succ]
          refine wpAnyH_take (i := 3) (oi := ({ dst := some 21, op := Op.move (Operand.tmp 6), type := 3, pos := "ref.go:305", after := #[], guard := none } : Oper)) (v := .int .i64 (j : Int)) rfl (by kernel_rfl) (by kernel_rfl) (by kernel_rfl) (fun _ _ _ h => h) (Or.inl ⟨by rfl, ?_⟩) hHeld ?_
          · (intro w' hSw; (try dsimp only at hSw); clear hSw hHeld; go_simp; (try with_reducible rfl))
          try simp only [Act.put, List.setIfInBounds_toArray, List.set_cons_zero, List.set_cons_succ]
          refine wpAnyH_take (i := 4) (oi := ({ dst := some 22, op := Op.indexAddr 43 (Operand.tmp 20) (Operand.tmp 21), type := 0, pos := "ref.go:305", after := #[{ on := 2, ground := Ground.data }, { on := 3, ground := Ground.data }], guard := none } : Oper)) (v := .pointer (some ⟨b, o + j * 31, none⟩)) rfl (by kernel_rfl) (by kernel_rfl) (by kernel_rfl) (fun _ _ _ h => h) (Or.inl ⟨by rfl, ?_⟩) hHeld ?_
          · (intro w' hSw; (try dsimp only at hSw); clear hSw hHeld; go_simp; (try with_reducible rfl))
          try simp only [Act.put, List.setIfInBounds_toArray, List.set_cons_zero, List.set_cons_succ]
          refine wpAnyH_take (i := 5) (oi := ({ dst := some 23, op := Op.load 45 (Operand.tmp 22), type := 45, pos := "ref.go:305", after := #[{ on := 4, ground := Ground.data }], guard := none } : Oper)) (v := .agg (lyA kd.id kd.look kp kf kb kk)) rfl (by kernel_rfl) (by kernel_rfl) (by kernel_rfl) (fun _ _ _ h => h) (yieldsIf_load_mid (by rfl) 45 _ rfl b (o + j * 31) rfl ((lyA kd.id kd.look kp kf kb kk).toList) _ (fun w' hSw => range_up Hrg.out hSw (fun h => h)) Try.underlying45 rfl size_layer) hHeld ?_
          try simp only [Act.put, List.setIfInBounds_toArray, List.set_cons_zero, List.set_cons_succ]
          refine wpAnyH_take (i := 6) (oi := ({ dst := some 24, op := Op.load 30 (Operand.tmp 3), type := 30, pos := "ref.go:305", after := #[], guard := none } : Oper)) (v := .agg #[Value.int .i64 x.1, Value.int .i64 x.2]) rfl (by kernel_rfl) (by kernel_rfl) (by kernel_rfl) (fun _ _ _ h => h) (yieldsIf_load_mid (by rfl) 30 _ rfl (w.heap.size + 1) (0) rfl ([.int .i64 x.1, .int .i64 x.2]) _ (fun w' hSw => range_up HXr.out hSw (fun h => h)) Try.underlying30 rfl size_id) hHeld ?_
          try simp only [Act.put, List.setIfInBounds_toArray, List.set_cons_zero, List.set_cons_succ]
          refine wpAnyH_ready (rs := [7]) (by kernel_rfl) (by simp) (AllReadyH.cons (o := ({ dst := some 25, op := Op.call { callee := Callee.value (Operand.func 12), args := #[Operand.tmp 23, Operand.tmp 24], argTypes := #[45, 30] }, type := 3, pos := "ref.go:305", after := #[{ on := 5, ground := Ground.data }, { on := 6, ground := Ground.data }], guard := none } : Oper)) rfl (fun K hK => ?_) AllReadyH.nil)
          go_simp
          refine (Hik.out _ hHeld).mono ?_
          rintro e w4 ⟨rfl, hm4⟩
          have M := Lib.hid (hHeld.trans' hm4)
          clear hHeld
          refine hK _ _ M.out (fun hHeld => ?_)
          clear hK K M
          try simp only [Act.put, List.setIfInBounds_toArray, List.set_cons_zero, List.set_cons_succ]
          refine wpAnyH_take (i := 8) (oi := ({ dst := some 26, op := Op.binOp BinOp.add 3 (Operand.tmp 18) (Operand.tmp 25) 3, type := 3, pos := "ref.go:305", after := #[{ on := 0, ground := Ground.data }, { on := 7, ground := Ground.data }], guard := none } : Oper)) (v := .int .i64 ((n0 + (h0 + h1) : Nat) : Int)) rfl (by kernel_rfl) (by kernel_rfl) (by kernel_rfl) (fun _ _ _ h => h) (Or.inl ⟨by rfl, ?_⟩) hHeld ?_
          · (intro w' hSw; (try dsimp only at hSw); clear hSw hHeld; go_simp; (try with_reducible rfl))
          try simp only [Act.put, List.setIfInBounds_toArray, List.set_cons_zero, List.set_cons_succ]
          refine wpAnyH_take (i := 9) (oi := ({ dst := some 5, op := Op.assign (Operand.tmp 26), type := 3, pos := "ref.go:305", after := #[{ on := 8, ground := Ground.data }, { on := 7, ground := Ground.chain }, { on := 0, ground := Ground.phase }, { on := 1, ground := Ground.phase }, { on := 2, ground := Ground.phase }, { on := 3, ground := Ground.phase }, { on := 4, ground := Ground.phase }, { on := 5, ground := Ground.phase }, { on := 6, ground := Ground.phase }, { on := 7, ground := Ground.phase }, { on := 8, ground := Ground.phase }], guard := none } : Oper)) (v := .int .i64 ((n0 + (h0 + h1) : Nat) : Int)) rfl (by kernel_rfl) (by kernel_rfl) (by kernel_rfl) (fun _ _ _ h => h) (Or.inl ⟨by rfl, ?_⟩) hHeld ?_
          · (intro w' hSw; (try dsimp only at hSw); clear hSw hHeld; go_simp; (try with_reducible rfl))
          try simp only [Act.put, List.setIfInBounds_toArray, List.set_cons_zero, List.set_cons_succ]
          have MS := Lib.hid hHeld
          refine wpAnyH_done (by kernel_rfl) ?_ _
          clear hHeld
          try simp only [Act.put]
          have HM4 := Lib.hid (Hm.out.trans' MS.out)
          clear MS c30 HXr
          go_wp2_with fail
          go_roundw
          case rel => exact ⟨j + 1, by rw [← hwi], by have := Hil.out; omega, by rw [Hst.out], HM4.out⟩
          case measure => rw [hwi]; have := Hil.out; simp only [intOf]; omega
        · have e0 : decide ((j : Int) < (ks.length : Int)) = false := decide_eq_false (by omega)
          have hil' : j = ks.length := by omega
          subst hil'
          rw [List.take_length] at *
          go_wp2_with fail
          go_ret
          refine ⟨congrArg (fun z : Nat => Ending.returned (.int .i64 (z : Int))) (?_ : n0 + (Ly.idsL ks).count x = _), HMa.out.trans' Hm.out⟩
          rw [Ly.ids_mk, List.count_cons, Nat.add_comm, Hn0.out]
          simp only [beq_iff_eq]
end Go.Proofs.Ytpbmfalokongfaa

