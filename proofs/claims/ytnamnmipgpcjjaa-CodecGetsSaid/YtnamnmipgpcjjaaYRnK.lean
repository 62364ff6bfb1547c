/- Texts of the codec's proofs, laid together: RnK. -/
import Derived.Test.YtnamnmipgpcjjaaYRnH
import Derived.Test.YtnamnmipgpcjjaaZm
set_option linter.unusedSimpArgs false
set_option linter.unusedVariables false
set_option linter.unusedSectionVars false
set_option linter.constructorNameAsVariable false

/- Acts as bytes: the document's acts, one behind the other. -/
namespace Go.Proofs.Ytnamnmipgpcjjaa
open Go.RowKit Go.Gou

/-- What the document's reading of acts comes to. -/
def GetRP (w : World) (bs : List Nat) (e : Ending) (w' : World) : Prop :=
  ∃ xs m v, Reads bs xs 0 m ∧ m ≤ bs.length ∧ (m < bs.length → actAt bs m = none) ∧ e = .returned (.tuple #[v, .int .i64 m, .int .i64 (if m < bs.length then 2 else 0)]) ∧ ActsR w' v xs ∧ Gou.Mod (fun _ => False) w w'

/-- On the way through acts. -/
structure GetRIn (w : World) (bs : List Nat) (vo : Value) (xs : List Ac) (q : Nat) (cs : List Value) (wr : World) : Prop where
  le : q ≤ bs.length
  reads : Reads bs xs 0 q
  few : xs.length ≤ q
  own : wr.ownsRow w.heap.size 41 42 vo xs.length cs
  acts : WantIn (fun b => vo.ownBlock ≠ some b) wr cs xs
  mod : Gou.Mod (fun _ => False) w wr

theorem GetRIn.step {w wr w3 w5 : World} {bs : List Nat} {p : Option Addr} {c : Nat} {xs : List Ac} {q q2 : Nat} {cs : List Value} (h : GetRIn w bs (.slice p xs.length c) xs q cs wr) {a : Ac} {vp vf vb : Value} (ha : actAt bs q = some (a, q2)) (hq : q < q2) (hle : q2 ≤ bs.length) (hr : LookR (fun b => wr.heap.size ≤ b) w3 a.op.look vp vf vb) (m3 : Gou.Mod (fun _ => False) wr w3) {g cap n : Nat} (hn : n = xs.length + 1)
    (hown : w5.ownsRow w.heap.size 41 42 (.slice (some ⟨g, 0, none⟩) n cap) n (cs ++ (actC a vp vf vb).toList)) (m5 : Gou.Mod (fun k => (Value.slice p xs.length c).ownBlock = some k) w3 w5) (hg : (Value.slice p xs.length c).ownBlock = some g ∨ w3.heap.size ≤ g) :
    GetRIn w bs (.slice (some ⟨g, 0, none⟩) n cap) (xs ++ [a]) q2 (cs ++ (actC a vp vf vb).toList) w5 := by
  subst hn
  have s3 := m3.size
  have h1 : WantIn (fun b => (Value.slice p xs.length c).ownBlock ≠ some b ∧ b < wr.heap.size) wr cs xs := ⟨h.acts.len, fun i hi => by
    obtain ⟨vp, vf, vb, e1, e2⟩ := h.acts.at_ i hi
    exact ⟨vp, vf, vb, e1, e2.imp fun b hb hG => ⟨hG, hb⟩⟩⟩
  have h2 := (h1.mod m3 (fun _ _ _ h => h)).mod m5 (fun k _ hG e => hG.1 e)
  have hlt : ∀ b, (Value.slice p xs.length c).ownBlock = some b → b < wr.heap.size := fun b hb => (h.own.lt b hb).2
  have hr2 : LookR (fun b => wr.heap.size ≤ b ∧ b < w3.heap.size) w5 a.op.look vp vf vb := (hr.imp fun b hb hG => ⟨hG, hb⟩).mod m5 (fun k _ hG e => by have := hlt k e; omega)
  refine ⟨hle, h.reads.snoc ha, by have := h.few; rw [List.length_append]; simp; omega, by rw [List.length_append]; exact hown, ?_, (h.mod.trans' m3).trans m5 (fun k hk e => by have := (h.own.lt k e).1; omega)⟩
  have hne : ∀ b, ((Value.slice p xs.length c).ownBlock ≠ some b ∧ b < w3.heap.size) → (Value.slice (some ⟨g, 0, none⟩) (xs.length + 1) cap).ownBlock ≠ some b := fun b hb e => by
    have : g = b := by simpa [Value.ownBlock] using e
    subst this
    rcases hg with hg | hg
    · exact hb.1 hg
    · omega
  have h3 : WantIn (fun b => (Value.slice (some ⟨g, 0, none⟩) (xs.length + 1) cap).ownBlock ≠ some b) w5 cs xs := ⟨h2.len, fun i hi => by
    obtain ⟨vp, vf, vb, e1, e2⟩ := h2.at_ i hi
    exact ⟨vp, vf, vb, e1, e2.imp fun b _ hG => hne b ⟨hG.1, by omega⟩⟩⟩
  exact h3.snoc (hr2.imp fun b _ hG => hne b ⟨fun e => by have := hlt b e; omega, hG.2⟩)

set_option linter.constructorNameAsVariable false
set_option maxRecDepth 100000

set_option maxHeartbeats 4000000 in
theorem getR_any (w : World) (pb : Option Addr) (cb : Nat) (bs : List Nat) (h : BytesAt (fun _ => True) w (.slice pb bs.length cb) bs) (hby : ∀ x ∈ bs, x < 256) (hl : bs.length ≤ 10000000) :
    Calls Try.prog 15 #[.slice pb bs.length cb] w (GetRP w bs) := by
  have H := Lib.hid h
  have Hby := Lib.hid hby
  clear h hby
  go_enter Try.func15, Try.ntmps15
  go_wp2_with fail
  go_loopw [5, 6] (fun vo va wr => ∃ (q : Nat) (xs : List Ac) (cs : List Value), va = .int .i64 q ∧ GetRIn w bs vo xs q cs wr) (fun _ va _ => bs.length - (intOf va).toNat)
  case atStart => exact ⟨0, [], [], rfl, ⟨by omega, rfl, Nat.le_refl _, World.ownsRow_nil _ _ _ _, WantIn.nil _ _, Gou.Mod.refl _ _⟩⟩
  case round =>
    obtain ⟨q, xs, cs, rfl, hg⟩ := hrel
    obtain ⟨po, co, rfl⟩ := Gou.ownsRow_form hg.own
    have hq := hg.le
    have Hg := Lib.hid hg
    clear hg
    by_cases hql : q < bs.length
    case neg =>
      have e1 : decide ((q : Int) < (bs.length : Int)) = false := decide_eq_false (by omega)
      have e1' : decide (q < bs.length) = false := decide_eq_false (by omega)
      have Hq : Hid (¬ q < bs.length) := Lib.hid hql
      clear hql
      go_wp2_with fail
      refine bodyPost_ret (v := .tuple #[.slice po xs.length co, .int .i64 q, .int .i64 0]) (by simp [results, Try.results15, go_sem]) rfl ?_
      exact ⟨xs, q, _, Hg.out.reads, Hg.out.le, fun h => absurd h Hq.out, by rw [if_neg Hq.out], Hg.out.acts.toR Hg.out.own, Hg.out.mod⟩
    have e1 : decide ((q : Int) < (bs.length : Int)) = true := decide_eq_true (by omega)
    have e1' : decide (q < bs.length) = true := decide_eq_true (by omega)
    go_wp2_with fail
    refine (oneR_any wr pb cb bs (H.out.mod Hg.out.mod (fun _ _ _ h => h)) Hby.out hl q hq).mono ?_
    rintro e w1 ⟨hm1, hp⟩
    have Hm1 := Lib.hid hm1
    clear hm1
    rcases ha : actAt bs q with _ | ⟨a, q2⟩
    · rw [ha] at hp
      obtain ⟨a, p1, n1, k1, p2, n2, k2, p3, n3, k3, rfl⟩ := hp
      have Ha := Lib.hid ha
      have Hql := Lib.hid hql
      have Hbx := Lib.hid (box_put w1 41 AcZ (actC a (.slice p1 n1 k1) (.slice p2 n2 k2) (.slice p3 n3 k3)) rfl)
      have HM : Hid (Gou.Mod (fun _ => False) wr ((w1.alloc (.cells AcZ 41)).setCells w1.heap.size 0 (actC a (.slice p1 n1 k1) (.slice p2 n2 k2) (.slice p3 n3 k3)).toList)) := Lib.hid (Hm1.out.trans' Hbx.out.1)
      clear ha hql
      go_wp2_with (first | ((with_reducible refine wpList_store_mid ?g1 41 ?x1 ?y1 ?o1 w1.heap.size 0 (actC a (.slice p1 n1 k1) (.slice p2 n2 k2) (.slice p3 n3 k3)) ?h1 ?j1 ?t1 ?i1 ?s1 ?r1); (case g1 => exact rfl); (case o1 => exact rfl); (case h1 => exact rfl); (case j1 => exact rfl); (case t1 => exact Hbx.out.2.2); (case i1 => exact size_act); (case s1 => exact actC_one _ _ _ _ _ _ _ _ _ _); (generalize ((w1.alloc (.cells AcZ 41)).setCells w1.heap.size 0 (actC a (.slice p1 n1 k1) (.slice p2 n2 k2) (.slice p3 n3 k3)).toList) = w3 at *)) | fail)
      refine bodyPost_ret (v := .tuple #[.slice po xs.length co, .int .i64 q, .int .i64 2]) (by simp [results, Try.results15, go_sem]) rfl ?_
      exact ⟨xs, q, _, Hg.out.reads, Hg.out.le, fun _ => Ha.out, by rw [if_pos Hql.out], (Hg.out.acts.toR Hg.out.own).mod HM.out (fun _ _ h => h), Hg.out.mod.trans' HM.out⟩
    rw [ha] at hp
    obtain ⟨p1, n1, k1, p2, n2, k2, p3, n3, k3, rfl, hr⟩ := hp
    have Ha := Lib.hid ha
    have Hbx := Lib.hid (box_put w1 41 AcZ (actC a (.slice p1 n1 k1) (.slice p2 n2 k2) (.slice p3 n3 k3)) rfl)
    have HM : Hid (Gou.Mod (fun _ => False) wr ((w1.alloc (.cells AcZ 41)).setCells w1.heap.size 0 (actC a (.slice p1 n1 k1) (.slice p2 n2 k2) (.slice p3 n3 k3)).toList)) := Lib.hid (Hm1.out.trans' Hbx.out.1)
    have Hr : Hid (LookR (fun b => wr.heap.size ≤ b) ((w1.alloc (.cells AcZ 41)).setCells w1.heap.size 0 (actC a (.slice p1 n1 k1) (.slice p2 n2 k2) (.slice p3 n3 k3)).toList) a.op.look (.slice p1 n1 k1) (.slice p2 n2 k2) (.slice p3 n3 k3)) := Lib.hid (hr.mod Hbx.out.1 (fun _ _ _ h => h))
    have HB : Hid (Blk ((w1.alloc (.cells AcZ 41)).setCells w1.heap.size 0 (actC a (.slice p1 n1 k1) (.slice p2 n2 k2) (.slice p3 n3 k3)).toList) w1.heap.size 41 (actC a (.slice p1 n1 k1) (.slice p2 n2 k2) (.slice p3 n3 k3))) := Lib.hid Hbx.out.2.1
    have Hown : Hid (World.ownsRow ((w1.alloc (.cells AcZ 41)).setCells w1.heap.size 0 (actC a (.slice p1 n1 k1) (.slice p2 n2 k2) (.slice p3 n3 k3)).toList) w.heap.size 41 42 (.slice po xs.length co) xs.length cs) := Lib.hid (ownsRow_mod Hg.out.own HM.out (fun _ _ h => h))
    have Hth := Lib.hid Hbx.out.2.2
    have Hq2 : Hid (q < q2 ∧ q2 ≤ bs.length) := Lib.hid ⟨actAt_go ha, (act_spec Hby.out).end_le ha hq⟩
    have Hxl : Hid (xs.length ≤ 100000000) := Lib.hid (by have := Hg.out.few; omega)
    clear ha hr
    clear Hbx
    go_wp2_with (first | ((with_reducible refine wpList_store_mid ?g2 41 ?x2 ?y2 ?o2 w1.heap.size 0 (actC a (.slice p1 n1 k1) (.slice p2 n2 k2) (.slice p3 n3 k3)) ?h2 ?j2 ?t2 ?i2 ?s2 ?r2); (case g2 => exact rfl); (case o2 => exact rfl); (case h2 => exact rfl); (case j2 => exact rfl); (case t2 => exact Hth.out); (case i2 => exact size_act); (case s2 => exact actC_one _ _ _ _ _ _ _ _ _ _); (generalize ((w1.alloc (.cells AcZ 41)).setCells w1.heap.size 0 (actC a (.slice p1 n1 k1) (.slice p2 n2 k2) (.slice p3 n3 k3)).toList) = w3 at *)) | ((with_reducible refine wpList_load_row ?g3 41 ?x3 ?o3 w1.heap.size ?h3 ?t3 ?c3 ?f3 ?d3 ?b3 ?u3 ?s3 ?i3 ?r3); (case g3 => exact rfl); (case o3 => exact rfl); (case h3 => exact rfl); (case b3 => exact HB.out); (case u3 => exact Try.underlying41); (case s3 => exact rfl); (case i3 => exact size_act)) | ((with_reducible refine wpList_build_act ?g4 ?x4 ?o4 a p1 p2 p3 n1 n2 n3 k1 k2 k3 ?h4 ?r4); (case g4 => exact rfl); (case o4 => exact rfl); (case h4 => exact rfl)) | ((with_reducible refine wpList_append_act ?g5 ?s5 ?x5 ?o5 w.heap.size (.slice po xs.length co) xs.length cs w3.heap.size a p1 p2 p3 n1 n2 n3 k1 k2 k3 ?a5 ?b5 ?c5 ?d5 ?e5 ?f5 ?r5); (case g5 => exact rfl); (case o5 => exact rfl); (case a5 => exact rfl); (case b5 => exact rfl); (case c5 => exact Hown.out.alloc _); (case d5 => exact heap_alloc_new w3 _); (case e5 => exact Hxl.out); (case f5 => (rw [World.size_alloc]; have := Hg.out.mod.size; have := HM.out.size; omega)); (intro gg cap w5 hown5 m5 f5)) | fail)
    have Hnext := Lib.hid (Hg.out.step Ha.out Hq2.out.1 Hq2.out.2 (Hr.out.mod (Gou.Mod.alloc (fun _ => False) _ _) (fun _ _ _ h => h)) (HM.out.trans' (Gou.Mod.alloc _ _ _)) rfl hown5 m5 f5)
    have Hle := Lib.hid hql
    clear hown5 m5 f5 hql
    go_wp2_with fail
    go_roundw
    case rel => exact ⟨q2, xs ++ [a], _, rfl, by first | exact Hnext.out | (rw [List.length_append]; exact Hnext.out) | simpa using Hnext.out⟩
    case measure => have := Hq2.out; have := Hle.out; simp [intOf]; omega

end Go.Proofs.Ytnamnmipgpcjjaa

